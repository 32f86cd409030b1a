/-
  Contracts of the functions that the statement reaches, and the logic in which they are proved (no condition): parts Core14, Core15, Core16, Core17, Core18, Core19, Core20.
-/
import Derived.Test.YtapflgppmigcdaaGreatDoorA03
import Derived.Laws.StructEq
import Derived.Laws.Runes
import Derived.Below
set_option linter.all false
namespace Go.T
open Go
variable [Noise]
theorem blk_set {c : List Value} {off len p : Nat} {us : List Value} (h : p + us.length ≤ len) (h2 : off + len ≤ c.length) :
  ((c.take (off + p) ++ us ++ c.drop (off + p + us.length)).drop off).take len = ((c.drop off).take len).take p ++ us ++ ((c.drop off).take len).drop (p + us.length) := by
 apply List.ext_getElem?
 intro i
 simp only [List.getElem?_take, List.getElem?_drop, List.getElem?_append, List.length_append, List.length_take, List.length_drop]
 grind
theorem flat_len {sz : Nat} : ∀ (rows : List (List D)), (∀ r ∈ rows, r.length = sz) → rows.flatten.length = rows.length * sz
 | [], _ => by simp
 | r :: rows, h => by
  have := flat_len rows (fun r hr => h r (List.mem_cons_of_mem _ hr))
  simp only [List.flatten_cons, List.length_append, this, h r List.mem_cons_self, List.length_cons, Nat.add_mul, Nat.one_mul]; omega
theorem flat_set {sz k m : Nat} {ds : List D} : ∀ (rows : List (List D)) (j : Nat) (r r' : List D), (∀ r ∈ rows, r.length = sz) → rows[j]? = some r → r' = r.take k ++ ds ++ r.drop (k + m) → k + m ≤ sz →
  (rows.set j r').flatten = rows.flatten.take (j * sz + k) ++ ds ++ rows.flatten.drop (j * sz + k + m)
 | [], j, r, r', _, h, _, _ => by simp at h
 | q :: rows, 0, r, r', hl, h, e, hk => by
  simp only [List.getElem?_cons_zero, Option.some.injEq] at h
  subst h
  have hq := hl q List.mem_cons_self
  simp only [List.set_cons_zero, List.flatten_cons, Nat.zero_mul, Nat.zero_add]
  rw [List.take_append_of_le_length (by omega), List.drop_append_of_le_length (by omega), e]
  simp
 | q :: rows, j + 1, r, r', hl, h, e, hk => by
  have hq := hl q List.mem_cons_self
  have ih := flat_set rows j r r' (fun r hr => hl r (List.mem_cons_of_mem _ hr)) (by simpa using h) e hk
  simp only [List.set_cons_succ, List.flatten_cons, ih]
  have e1 : (j + 1) * sz + k = q.length + (j * sz + k) := by rw [hq, Nat.add_mul]; omega
  have e2 : (j + 1) * sz + k + m = q.length + (j * sz + k + m) := by rw [hq, Nat.add_mul]; omega
  rw [e2, e1, List.drop_length_add_append, List.take_length_add_append]
  simp
theorem Vr.lens {w : World} {O : Nat → Prop} {b sz : Nat} : ∀ (rs : List (List D)) (off : Nat), Vr w O b off sz rs → ∀ r ∈ rs, r.length = sz
 | [], _, _ => by simp
 | r :: rs, off, h => by
  simp only [Vr] at h
  intro r' hr
  rcases List.mem_cons.1 hr with rfl | hr
  ·exact h.1.1
  ·exact Vr.lens rs _ h.2 r' hr
theorem Vr.set {w w' : World} {O O' : Nat → Prop} {b sz off k : Nat} {c : Array Value} {T : TypeId} {rows : List (List D)} {us : List Value} {cs : List D} (hb : w.heap[b]? = some (.cells c T (0, 0))) (hv : Vr w O b off sz rows) (hk : Kept w O w' O')
  (hsz : off + rows.length * sz ≤ c.size) (j : Nat) (r r' : List D) (hj : rows[j]? = some r) (hr' : r' = r.take k ++ cs ++ r.drop (k + cs.length)) (hkl : k + cs.length ≤ sz) (hus : Vs w O rho0 cs us) (h1 : ∀ u ∈ us, u.oneCell' = true)
  (hb' : w'.heap[b]? = some (.cells (setMany c (off + (j * sz + k)) us) T (0, 0))) : Vr w' O' b off sz (rows.set j r') := by
 have hl := hv.lens
 have hfl := flat_len rows hl
 obtain ⟨h2, h3⟩ := hv.flat
 obtain ⟨h4, h5, _⟩ := Vc.to_Vs hb _ _ h2
 have hul := hus.length
 have hjl : j < rows.length := (List.getElem?_eq_some_iff.1 hj).1
 have hjs : j * sz + sz ≤ rows.length * sz := by
  have := Nat.mul_le_mul_right sz (show j + 1 ≤ rows.length by omega)
  rw [Nat.add_mul] at this; omega
 have hfs := flat_set (ds := cs) rows j r r' hl hj hr' hkl
 have hlen' : (rows.set j r').flatten.length = rows.flatten.length := by
  rw [hfs]; simp only [List.length_append, List.length_take, List.length_drop]; omega
 have hcl : c.toList.length = c.size := by simp
 have hblk := blk_set (c := c.toList) (off := off) (len := rows.flatten.length) (p := j * sz + k) (us := us) (by omega) (by omega)
 have hsm := setMany_toList us c (off + (j * sz + k)) (by omega)
 refine Vr.of_blk hb' _ _ ?_ ?_ ?_
 ·intro q hq
  rcases List.mem_or_eq_of_mem_set hq with hq | rfl
  ·exact hl q hq
  ·have := hl r (List.mem_of_getElem? hj)
   rw [hr']; simp only [List.length_append, List.length_take, List.length_drop]; omega
 ·rw [hlen', hsm, ← Nat.add_assoc, Nat.add_assoc off, hblk, hfs, hul]
  exact Vs.mono hk (RhoLe.refl _) _ _ (((h4.take _).append hus).append (h4.drop _))
 ·rw [hlen', hsm, ← Nat.add_assoc, Nat.add_assoc off, hblk]
  intro v hv
  simp only [List.mem_append] at hv
  rcases hv with (hv | hv) | hv
  ·exact h5 v (List.mem_of_mem_take hv)
  ·exact h1 v hv
  ·exact h5 v (List.mem_of_mem_drop hv)
section
variable {P : Program} {env : Env} {dst : Option Tmp} {ty : TypeId} {pos : String} {aft : Array Edge} {g : Option (Nat × Bool)}
theorem qIx {t e : TypeId} {x y : Operand} {id n sz off : Nat} {k : IntKind} {i : Int} (hu : P.underlying t = some (.slice e)) (hs : ∀ w, (sizeOf e).run P w = .ok sz w) (hx : env.op x = some (.gs id n)) (hy : env.op y = some (.raw (.int k i))) (h0 : 0 ≤ i) (hi : i.toNat < n) (ho : i.toNat * sz = off) (obs : Obs) :
  QStep P ⟨dst, .indexAddr t x y, ty, pos, aft, g⟩ env obs (.eptr id off) obs :=
 .val fun _ _ a w _ hv => by
  have h1 := hv x (by simp [Op.operands]) _ hx
  have h2 := hv y (by simp [Op.operands]) _ hy
  simp only [V] at h1 h2
  rcases h1 with ⟨h1, _⟩ | ⟨_, l, h3, h4⟩
  ·omega
  ·refine ⟨.pointer (some ⟨l.b, l.off + off, none⟩), ?_, ?_⟩
   ·have h8 : i < (n : Int) := by omega
    simp [execOp, Instr.indexAt, h4, h2, asIntOf, run_und hu, h0, h8, hs, addr_add, ho]
   ·simp only [V]; exact ⟨l, h3, rfl⟩
theorem qG1 {t : TypeId} {x : Operand} {id off sz : Nat} {rows : List (List D)} {r : List D} {d : D} {obs : Obs} (j k : Nat) (ht : ∀ w, (isAgg t).run P w = .ok false w) (hx : env.op x = some (.eptr id off)) (ho : obs.get id = some (.arr sz rows)) (hoff : off = j * sz + k) (hr : rows[j]? = some r) (hd : r[k]? = some d) :
  QStep P ⟨dst, .load t x, ty, pos, aft, g⟩ env obs d obs :=
 .val fun O ρ a w hok hv => by
  have h1 := hv x (by simp [Op.operands]) _ hx
  simp only [V] at h1
  obtain ⟨l, h2, e⟩ := h1
  have hlive : (Ob.arr sz rows).live = true := by
   cases rows with
   | nil => simp at hr
   | cons => rfl
  obtain ⟨l', h3, _, c, T, h4, _, _, h5⟩ := hok.own id _ ho hlive
  rw [h2] at h3; cases h3
  obtain ⟨h6, h7⟩ := h5.get _ _ j r hr
  obtain ⟨v, h8, h9⟩ := h7.get _ _ k d hd
  subst hoff
  rw [Nat.add_assoc] at h8
  exact ⟨v, by simp [execOp, Instr.loadAt, e, Instr.sureAddr, loadVar, ht, h8], h9.rho⟩
theorem qS1 {t : TypeId} {x y : Operand} {id off sz : Nat} {rows : List (List D)} {r : List D} {d : D} {obs : Obs} (j k : Nat) (hs : ∀ w, (sizeOf t).run P w = .ok 1 w) (hx : env.op x = some (.eptr id off)) (hy : env.op y = some d) (h1 : d.one = true) (hp : d.pureB = true) (ho : obs.get id = some (.arr sz rows)) (hoff : off = j * sz + k) (hr : rows[j]? = some r) (hk : k < r.length) :
  QStep P ⟨dst, .store t x y, ty, pos, aft, g⟩ env obs (.raw undef) (obs.set id (.arr sz (rows.set j (r.set k d)))) :=
 .step fun O ρ a w hok hv => by
  have hv1 := hv x (by simp [Op.operands]) _ hx
  have hv2 := hv y (by simp [Op.operands]) _ hy
  simp only [V] at hv1
  obtain ⟨l, h2, e⟩ := hv1
  have hj : j < rows.length := (List.getElem?_eq_some_iff.1 hr).1
  have hlive : (Ob.arr sz rows).live = true := by
   cases rows with
   | nil => simp at hj
   | cons => rfl
  obtain ⟨l', h3, _, c, T, h4, hc, hrl, h5⟩ := hok.own id _ ho hlive
  rw [h2] at h3; cases h3
  subst hoff
  have hrs := (h5.get _ _ j r hr).1
  have hjs : j * sz + sz ≤ rows.length * sz := by
   have := Nat.mul_le_mul_right sz (show j + 1 ≤ rows.length by omega)
   rw [Nat.add_mul] at this; omega
  have hrc : rows.length * sz ≤ l.cap * sz := Nat.mul_le_mul_right sz hrl.1
  have h6 := run_storeCells (P := P) [a.eval y] w c (l.off + (j * sz + k)) 0 h4 (by simp; omega) (by simpa using hv2.one h1)
  refine ⟨undef, _, ρ, .inr ⟨?_, rfl⟩, Tr.upd (o' := .arr sz (rows.set j (r.set k d))) hok ho hlive h2 (.cells (setMany c (l.off + (j * sz + k) + 0) [a.eval y]) T (0, 0)) ?_, by simp [V]⟩
  ·simp [execOp, Instr.storeAt, e, Instr.sureAddr, storeVar, cells_one (hv2.one h1), hs, h6]
  ·intro hk'
   refine ⟨setMany c (l.off + (j * sz + k)) [a.eval y], T, by simp [(Array.getElem?_eq_some_iff.1 h4).1], by rw [setMany_size]; exact hc, by simpa using hrl, ?_⟩
   exact Vr.set (k := k) (cs := [d]) h4 h5 hk' (by omega) j r _ hr (by simp [List.set_eq_take_append_cons_drop, hk]) (by simp; omega) (by simp only [Vs]; exact ⟨_, _, rfl, V.pure _ _ hp hv2, rfl⟩) (by simpa using hv2.one h1) (by simp [(Array.getElem?_eq_some_iff.1 h4).1])
inductive StrF (P : Program) : List Field → Nat → Prop
 | nil (k : Nat) : StrF P [] k
 | cons {f : Field} {fs : List Field} {k : Nat} (hn : (f.name == "_") = false) (hu : P.underlying f.type = some .string) (ha : ∀ w, (isAgg f.type).run P w = .ok false w) (ho : f.offset = k) (r : StrF P fs (k + 1)) : StrF P (f :: fs) k
theorem eqFields_str {P : Program} {d : Nat} {xs ys : List Str} {fs : List Field} {k : Nat} (h : StrF P fs k) (hx : k + fs.length = xs.length) (hy : k + fs.length = ys.length) (w : World) :
  (Op.eqFields (d + 1) (xs.map fun s => Value.string ⟨s.toArray⟩).toArray (ys.map fun s => Value.string ⟨s.toArray⟩).toArray fs).run P w = .ok (decide (xs.drop k = ys.drop k)) w := by
 induction h with
 | nil k =>
  simp only [List.length_nil, Nat.add_zero] at hx hy
  rw [List.drop_of_length_le (by omega), List.drop_of_length_le (by omega)]
  simp [Op.eqFields]
 | @cons f fs k hn hu ha ho r ih =>
  simp only [List.length_cons] at hx hy
  have ih := ih (by omega) (by omega)
  have h1 : k < xs.length := by omega
  have h2 : k < ys.length := by omega
  have hdec : decide (xs.drop k = ys.drop k) = (decide (xs[k] = ys[k]) && decide (xs.drop (k + 1) = ys.drop (k + 1))) := by
   rw [List.drop_eq_getElem_cons h1, List.drop_eq_getElem_cons h2]; simp only [List.cons.injEq, Bool.decide_and]
  rw [hdec]
  have hn' : f.name ≠ "_" := by simpa using hn
  simp only [Op.eqFields, hn', ne_eq, not_false_eq_true, if_true, Sem.run_bind, part, ha, Result.andThen_ok, Bool.false_eq_true, if_false, ho]
  simp only [List.getElem?_toArray, List.getElem?_map, List.getElem?_eq_getElem h1, List.getElem?_eq_getElem h2, Option.map_some, Sem.run_pure, Result.andThen_ok, run_equalIn_string _ _ _ _ _ hu, toList_str]
  by_cases e : xs[k] = ys[k]
  ·simp only [e, BEq.rfl, Bool.not_true, Bool.false_eq_true, if_false, decide_true, Bool.true_and]; exact ih
  ·have : (xs[k] == ys[k]) = false := by simpa using e
   simp only [this, Bool.not_false, if_true, Sem.run_pure, e, decide_false, Bool.false_and]
theorem Vs_strs {w : World} {O : Nat → Prop} {ρ : Rho} : ∀ {ss : List Str} {vs : List Value}, Vs w O ρ (ss.map D.str) vs → vs = ss.map fun s => Value.string ⟨s.toArray⟩
 | [], vs, h => by simpa [Vs] using h
 | s :: ss, vs, h => by
  simp only [List.map_cons, Vs, V] at h
  obtain ⟨u, us, rfl, h1, h2⟩ := h
  rw [h1.1, Vs_strs h2]; rfl
theorem q_cmpA {op : BinOp} {t t' : TypeId} {x y : Operand} {xs ys : List Str} {fs : List Field} (hop : op = .eql ∨ op = .neq) (hu : P.underlying t = some (.struct fs.toArray)) (hp : P.stoodInHeld t = false) (hg : P.eqGuardType P.depth t = false) (hf : StrF P fs 0) (hlx : xs.length = fs.length) (hly : ys.length = fs.length)
  (hx : env.op x = some (.agg (xs.map D.str))) (hy : env.op y = some (.agg (ys.map D.str))) (obs : Obs) : QStep P ⟨dst, .binOp op t x y t', ty, pos, aft, g⟩ env obs (.raw (.bool (if op = .eql then decide (xs = ys) else !decide (xs = ys)))) obs :=
 .val fun _ _ a w _ hv => by
  have h1 := hv x (by simp [Op.operands]) _ hx
  have h2 := hv y (by simp [Op.operands]) _ hy
  simp only [V] at h1 h2
  obtain ⟨us, e1, h1⟩ := h1
  obtain ⟨vs, e2, h2⟩ := h2
  have h1 := Vs_strs h1
  have h2 := Vs_strs h2
  have hfo : P.fieldsOf t = fs.toArray := by simp [Program.fieldsOf, hu]
  have h3 := run_equalIn_struct (P := P) w 9999 t us vs (by rw [hfo]; exact hu) hp
  have h4 : us = (xs.map fun s => Value.string ⟨s.toArray⟩).toArray := by rw [← h1]
  have h5 : vs = (ys.map fun s => Value.string ⟨s.toArray⟩).toArray := by rw [← h2]
  have h6 := eqFields_str (d := 9998) hf (xs := xs) (ys := ys) (by omega) (by omega) w
  rw [hfo] at h3
  simp only [h4, h5] at h3 e1 e2
  simp only [List.drop_zero] at h6
  refine ⟨.bool (if op = .eql then decide (xs = ys) else !decide (xs = ys)), ?_, by simp only [V]⟩
  rcases hop with rfl | rfl
  ·simp [execOp, e1, e2, run_eqGuard_agg _ _ _ _ _ _ _ hg, run_eql_struct, h3, h6]
  ·simp [execOp, e1, e2, run_eqGuard_agg _ _ _ _ _ _ _ hg, run_neq_struct, h3, h6]
theorem q_eqlA {t t' : TypeId} {x y : Operand} {xs ys : List Str} {fs : List Field} {ds es : List D} (hu : P.underlying t = some (.struct fs.toArray)) (hp : P.stoodInHeld t = false) (hg : P.eqGuardType P.depth t = false) (hf : StrF P fs 0) (hlx : xs.length = fs.length) (hly : ys.length = fs.length)
  (hx : env.op x = some (.agg ds)) (hy : env.op y = some (.agg es)) (hd : ds = xs.map D.str) (he : es = ys.map D.str) (obs : Obs) : QStep P ⟨dst, .binOp .eql t x y t', ty, pos, aft, g⟩ env obs (.raw (.bool (decide (xs = ys)))) obs := by
 subst hd; subst he
 exact q_cmpA (.inl rfl) hu hp hg hf hlx hly hx hy obs
theorem q_neqA {t t' : TypeId} {x y : Operand} {xs ys : List Str} {fs : List Field} {ds es : List D} (hu : P.underlying t = some (.struct fs.toArray)) (hp : P.stoodInHeld t = false) (hg : P.eqGuardType P.depth t = false) (hf : StrF P fs 0) (hlx : xs.length = fs.length) (hly : ys.length = fs.length)
  (hx : env.op x = some (.agg ds)) (hy : env.op y = some (.agg es)) (hd : ds = xs.map D.str) (he : es = ys.map D.str) (obs : Obs) : QStep P ⟨dst, .binOp .neq t x y t', ty, pos, aft, g⟩ env obs (.raw (.bool (!decide (xs = ys)))) obs := by
 subst hd; subst he
 exact q_cmpA (.inr rfl) hu hp hg hf hlx hly hx hy obs
end
end Go.T
namespace Go.T
open Go
variable [Noise]
theorem Vs.set_same {w : World} {O : Nat → Prop} {ρ : Rho} {ds : List D} {vs : List Value} {i : Nat} {d d' : D} (h : Vs w O ρ ds vs) (hi : ds[i]? = some d) (hd : ∀ v, V w O ρ d v → V w O ρ d' v) : Vs w O ρ (ds.set i d') vs := by
 obtain ⟨v, h3, h4⟩ := h.get i _ hi
 have h5 := Vs.set i h (hd v h4)
 have h6 : vs.set i v = vs := by
  obtain ⟨hl, he⟩ := List.getElem?_eq_some_iff.1 h3
  rw [← he]; exact List.set_getElem_self hl
 rwa [h6] at h5
theorem redescTr {O : Nat → Prop} {w : World} {ρ : Rho} {obs : Obs} {k i : Nat} {ds : List D} {d d' : D} (hok : ObsOK w O ρ obs) (hk : obs.get k = some (.cells ds)) (hi : ds[i]? = some d)
  (hd : ∀ v, V w (Ot O ρ obs) ρ d v → V w (Ot O ρ obs) ρ d' v) : Tr O w ρ obs w ρ (obs.set k (.cells (ds.set i d'))) := by
 have hO1 : ∀ b, Owned ρ (obs.set k (.cells (ds.set i d'))) b → Owned ρ obs b := by
  rintro b ⟨j, x, l, h1, h2, h3⟩
  rw [Obs.get_set] at h1
  by_cases e : k = j
  ·subst e; exact ⟨k, _, l, hk, rfl, h3⟩
  ·rw [if_neg e] at h1; exact ⟨j, x, l, h1, h2, h3⟩
 have hkp : Kept w (Ot O ρ obs) w (Ot O ρ (obs.set k (.cells (ds.set i d')))) := Kept.subO fun b => Or.imp _root_.id (hO1 b)
 refine ⟨RhoLe.refl _, Nat.le_refl _, fun _ _ _ => rfl, fun b hb => .inl (hO1 b hb), ⟨hok.lt, ?_, ?_, ?_⟩, rfl, rfl, Clk.eq rfl rfl⟩
 ·intro j hj
  rw [Obs.get_set] at hj
  by_cases e : k = j
  ·simp [e] at hj
  ·rw [if_neg e] at hj; exact hok.fresh j hj
 ·intro j x h1 h2
  rw [Obs.get_set] at h1
  by_cases e : k = j
  ·subst e
   simp only [if_true, Option.some.injEq] at h1
   subst h1
   obtain ⟨l, h3, h4, vs, T, h5, h6⟩ := hok.own k _ hk rfl
   exact ⟨l, h3, h4, vs, T, h5, Vs.mono hkp (RhoLe.refl _) _ _ (h6.set_same hi hd)⟩
  ·rw [if_neg e] at h1
   obtain ⟨l, h3, h4, h5⟩ := hok.own j x h1 h2
   exact ⟨l, h3, h4, h5.mono hkp (RhoLe.refl _) rfl⟩
 ·intro a b x x' l1 l2 h1 h2 h3 h4 h5 h6 h7
  have look : ∀ j y, (obs.set k (.cells (ds.set i d'))).get j = some y → y.live = true → ∃ y', obs.get j = some y' ∧ y'.live = true := by
   intro j y hy hl
   rw [Obs.get_set] at hy
   by_cases e : k = j
   ·subst e; exact ⟨_, hk, rfl⟩
   ·rw [if_neg e] at hy; exact ⟨y, hy, hl⟩
  obtain ⟨y, hy1, hy2⟩ := look a x h1 h3
  obtain ⟨z, hz1, hz2⟩ := look b x' h2 h4
  exact hok.inj a b y z l1 l2 hy1 hz1 hy2 hz2 h5 h6 h7
theorem Le.freezeO {F : Fr} {env : Env} {obs : Obs} {sz n : Nat} {rows : List (List D)} {ds : List D} (k i id : Nat) (hk : obs.get k = some (.cells ds)) (hi : ds[i]? = some (.gs id n)) (ho : obs.get id = some (.arr sz rows)) (hn : rows.length = n) :
  Le F env obs env ((obs.set id .dead).set k (.cells (ds.set i (.snap sz false rows)))) := .step fun O ρ w f hok hv => by
 have h1 := Tr.die id hok
 have hne : id ≠ k := by rintro rfl; rw [hk] at ho; cases ho
 have h2 := redescTr (d' := .snap sz false rows) h1.ok (k := k) (ds := ds) (by rw [Obs.get_set, if_neg hne]; exact hk) hi (fun v h => gs_snap hok ho hn (by simpa only [V] using h))
 have h3 := h1.trans h2
 exact ⟨ρ, h3, fun t d h => h3.V (hv t d h)⟩
theorem Le.renO {F : Fr} {env : Env} {obs : Obs} {sz n : Nat} {rows : List (List D)} {ds : List D} (k i id id' : Nat) (hk : obs.get k = some (.cells ds)) (hi : ds[i]? = some (.gs id n)) (ho : obs.get id = some (.arr sz rows)) (hn : rows.length = n) (hid : obs.get id' = none) :
  Le F env obs env (Obs.set ((id', .arr sz rows) :: obs.set id .dead) k (.cells (ds.set i (.gs id' n)))) := .step fun O ρ w f hok hv => by
 have hne : id ≠ k := by rintro rfl; rw [hk] at ho; cases ho
 have hne' : id' ≠ k := by rintro rfl; rw [hk] at hid; cases hid
 have hget : Obs.get ((id', .arr sz rows) :: obs.set id .dead) k = some (.cells ds) := by
  rw [Obs.get_cons, if_neg hne', Obs.get_set, if_neg hne]; exact hk
 cases rows with
 | nil =>
  subst hn
  have h1 := Tr.rename0 (id := id) (id' := id') (sz := sz) hok
  have h2 := redescTr (d' := .gs id' 0) h1.ok hget hi (fun v h => by simpa [V] using h)
  have h3 := h1.trans h2
  exact ⟨ρ, h3, fun t d h => h3.V (hv t d h)⟩
 | cons r rs =>
  obtain ⟨l, h4, _⟩ := hok.own id _ ho rfl
  have h1 := Tr.rename (id := id) (id' := id') hok ho rfl hid h4
  have h2 := redescTr (d' := .gs id' n) h1.ok hget hi (fun v h => by
   simp only [V] at h ⊢
   rcases h with h | ⟨h, l', h5, h6⟩
   ·exact .inl h
   ·have := h1.le id l h4
    rw [this] at h5; cases h5
    exact .inr ⟨h, l, upd_same .., h6⟩)
  have h3 := h1.trans h2
  exact ⟨_, h3, fun t d h => h3.V (hv t d h)⟩
theorem Le.subO {F : Fr} {env : Env} {obs : Obs} {ds : List D} {d d' : D} (k i : Nat) (hk : obs.get k = some (.cells ds)) (hi : ds[i]? = some d) (s : Sub d d') : Le F env obs env (obs.set k (.cells (ds.set i d'))) := .step fun O ρ w f hok hv => by
 have h3 := redescTr hok hk hi (fun v h => s.out _ _ _ _ h)
 exact ⟨ρ, h3, fun t d h => h3.V (hv t d h)⟩
def Rd (P : Program) (fn : Func) (env : Env) (obs : Obs) (r : D) : Prop :=
 ∀ (O : Nat → Prop) (ρ : Rho) (tmps : Array Value) (w : World), ObsOK w O ρ obs → (∀ t d, env.get t = some d → V w (Ot O ρ obs) ρ d (tmps.getD t undef)) → ∃ v, (results fn tmps).run P w = .ok v w ∧ V w (Ot O ρ obs) ρ r v
def rdQ (P : Program) (fn : Func) (r : D) : Exit → Env → Obs → Prop
 | .ret, env, obs | .normal, env, obs => Rd P fn env obs r
 | _, _, _ => False
theorem Fc.mkR {P : Program} {f : FuncId} {fn : Func} {c : Code} {args : List D} {r : D} (hf : P.funcs[f]? = some fn) (hb : fn.body = some c) {N : Nat} (hN : fn.ntmps = N) (hn' : Nat.ble args.length N = true) (hp : D.pureB.pureL args = true) (hr : r.pureB = true)
  (h' : Run P ⟨N, [], false, none⟩ [c] (rdQ P fn r) (args0 args 0) []) : Fc P f args r := ⟨fun w O ρ vals hO hgl hv0 => by
 have hno : ∀ b, ¬ Owned rho0 [] b := fun b ⟨i, o, l, h1, _⟩ => by simp [Obs.get] at h1
 have hok : ObsOK w O rho0 [] := ⟨hO, fun _ _ => rfl, fun i o h1 => by simp [Obs.get] at h1, fun i j o o' l l' h1 => by simp [Obs.get] at h1⟩
 have hv : Vs w (Ot O rho0 []) rho0 args vals := Vs.mono (Kept.subO fun b hb => hb.elim _root_.id (fun g => (hno b g).elim)) (RhoLe.refl _) _ _ (Vs.pure args vals hp hv0)
 refine calls_of_WP hf hb h'.start (St.begin fn.ntmps hN (Nat.le_of_ble_eq_true hn') hok (hgl.mono (Kept.subO fun b hb => hb.elim _root_.id (fun g => (hno b g).elim))) hv [] none (fun _ _ e => by cases e)) ?_ ?_
 ·intro e env' obs' hq
  cases e <;> first | exact .inl rfl | exact .inr rfl | exact hq.elim
 ·intro e env' obs' tmps w' ρ' hq _ htr henv
  have : Rd P fn env' obs' r := by cases e <;> first | exact hq | exact hq.elim
  obtain ⟨v, h1, h2⟩ := this _ _ _ _ htr.ok henv
  refine ⟨v, h1, v, rfl, ?_, htr.size, fun b hb => htr.same b hb (hno b), htr.os⟩
  exact V.pure r _ hr (V.mono (O' := O) (Kept.subO fun b hb => Or.inl hb) (RhoLe.refl _) _ _ h2)⟩
section
variable {P : Program} {fn : Func} {env : Env} {obs : Obs}
theorem loadA_ok {O : Nat → Prop} {ρ : Rho} {w : World} {ty : TypeId} {id n : Nat} {ds : List D} {u : Value} (hok : ObsOK w O ρ obs) (ha : ∀ w, (isAgg ty).run P w = .ok true w) (hs : ∀ w, (sizeOf ty).run P w = .ok n w) (hn : ds.length = n) (ho : obs.get id = some (.cells ds)) (hu : V w (Ot O ρ obs) ρ (.box id 0) u) :
  ∃ a v, u = .pointer (some a) ∧ (loadVar ty a).run P w = .ok v w ∧ V w (Ot O ρ obs) ρ (.agg ds) v := by
 simp only [V] at hu
 obtain ⟨l, h2, e⟩ := hu
 obtain ⟨l', h3, _, vs, T, h4, h5⟩ := hok.own id _ ho rfl
 rw [h2] at h3; cases h3
 have hl := h5.length
 have h6 := run_loadBlk (P := P) h4 n 0 0 #[] (by simp at hl; omega)
 refine ⟨_, .agg ((vs.toList.drop 0).take n).toArray, e, ?_, ?_⟩
 ·simp [loadVar, ha, hs, loadCells, h6]
 ·simp only [V]
  refine ⟨_, rfl, ?_⟩
  have : vs.toList.take n = vs.toList := List.take_of_length_le (by omega)
  simpa [this] using h5
theorem Rd.cA {p : Tmp} {ty : TypeId} {id n : Nat} {ds : List D} {r : D} (h : fn.results = #[.cell p ty]) (ha : ∀ w, (isAgg ty).run P w = .ok true w) (hs : ∀ w, (sizeOf ty).run P w = .ok n w) (hn : ds.length = n) (ht : env.get p = some (.box id 0)) (ho : obs.get id = some (.cells ds)) (s : Sub (.agg ds) r) : Rd P fn env obs r := by
 intro O ρ tmps w hok hv
 obtain ⟨a, v, e, h1, h2⟩ := loadA_ok (P := P) hok ha hs hn ho (hv p _ ht)
 have e' : tmps[p]?.getD undef = .pointer (some a) := by simpa using e
 exact ⟨v, by simp [results, h, e', asAddr, h1], s.out _ _ _ _ h2⟩
theorem Rd.cAt {p q : Tmp} {ty : TypeId} {id n : Nat} {ds : List D} {d r r' : D} (h : fn.results = #[.cell p ty, .tmp q]) (ha : ∀ w, (isAgg ty).run P w = .ok true w) (hs : ∀ w, (sizeOf ty).run P w = .ok n w) (hn : ds.length = n) (ht : env.get p = some (.box id 0)) (ho : obs.get id = some (.cells ds)) (hq : env.get q = some d) (s : Sub (.agg ds) r) (s' : Sub d r') : Rd P fn env obs (.tup [r, r']) := by
 intro O ρ tmps w hok hv
 obtain ⟨a, v, e, h1, h2⟩ := loadA_ok (P := P) hok ha hs hn ho (hv p _ ht)
 have e' : tmps[p]?.getD undef = .pointer (some a) := by simpa using e
 refine ⟨.tuple #[v, tmps.getD q undef], by simp [results, h, e', asAddr, h1], ?_⟩
 simp only [V]
 exact ⟨_, rfl, by simp only [Vs]; exact ⟨_, _, rfl, s.out _ _ _ _ h2, _, _, rfl, s'.out _ _ _ _ (hv q _ hq), rfl⟩⟩
end
end Go.T
namespace Go.T
open Go
variable [Noise]
theorem Obs.get_append : ∀ (a b : Obs) (i : Nat), Obs.get (a ++ b) i = match a.get i with | some x => some x | none => b.get i
 | [], b, i => by simp [Obs.get]
 | (t, d) :: r, b, i => by
  rw [List.cons_append, Obs.get_cons, Obs.get_cons]
  by_cases h : t = i
  ·simp [h]
  ·rw [if_neg h, if_neg h]; exact Obs.get_append r b i
def Obs.rest : Obs → Obs → Obs
 | [], _ => []
 | (t, d) :: r, pre => bif pre.has t then Obs.rest r pre else (t, d) :: Obs.rest r pre
theorem Obs.get_rest (pre : Obs) (i : Nat) : ∀ obs : Obs, (obs.rest pre).get i = if pre.has i then none else obs.get i
 | [] => by simp [Obs.rest, Obs.get]
 | (t, d) :: r => by
  simp only [Obs.rest]
  cases h : pre.has t with
  | true =>
   rw [cond_true, Obs.get_rest pre i r, Obs.get_cons]
   by_cases e : t = i
   ·subst e; simp [h]
   ·rw [if_neg e]
  | false =>
   rw [cond_false, Obs.get_cons, Obs.get_rest pre i r, Obs.get_cons]
   by_cases e : t = i
   ·subst e; simp [h]
   ·rw [if_neg e, if_neg e]
theorem Obs.has_iff {obs : Obs} {i : Nat} : obs.has i = true ↔ ∃ o, obs.get i = some o := by
 unfold Obs.has
 cases obs.get i <;> simp
mutual
theorem D.okB_all : ∀ (d : D) {f g : Nat → Bool}, (∀ i, f i = true → g i = true) → d.okB f = true → d.okB g = true
 | .any, _, _, _, _ | .raw _, _, _, _, _ | .str _, _, _, _, _ | .snap _ _ _, _, _, _, _ | .iptr _, _, _, _, _ | .imap _ _, _, _, _, _ => rfl
 | .agg ds, f, g, h, hd => by simp only [D.okB] at hd ⊢; exact D.okL_all ds h hd
 | .tup ds, f, g, h, hd => by simp only [D.okB] at hd ⊢; exact D.okL_all ds h hd
 | .fn _ ax bs, f, g, h, hd => by
  simp only [D.okB, Bool.and_eq_true] at hd ⊢
  exact ⟨D.okL_all ax h hd.1, D.okL_all bs h hd.2⟩
 | .box i _, f, g, h, hd | .gs i _, f, g, h, hd | .eptr i _, f, g, h, hd | .mapr i, f, g, h, hd | .bsl i _ _, f, g, h, hd | .osl i _ _, f, g, h, hd | .gr i _, f, g, h, hd => by simp only [D.okB] at hd ⊢; exact h i hd
theorem D.okL_all : ∀ (ds : List D) {f g : Nat → Bool}, (∀ i, f i = true → g i = true) → D.okB.okL f ds = true → D.okB.okL g ds = true
 | [], _, _, _, _ => rfl
 | d :: ds, f, g, h, hd => by
  simp only [D.okB.okL, Bool.and_eq_true] at hd ⊢
  exact ⟨D.okB_all d h hd.1, D.okL_all ds h hd.2⟩
end
mutual
theorem D.okB_true : ∀ (d : D), d.okB (fun _ => true) = true
 | .any | .raw _ | .str _ | .snap _ _ _ | .iptr _ | .box _ _ | .gs _ _ | .eptr _ _ | .mapr _ | .bsl _ _ _ | .osl _ _ _ | .gr _ _ | .imap _ _ => rfl
 | .agg ds => by simp only [D.okB]; exact D.okL_true ds
 | .tup ds => by simp only [D.okB]; exact D.okL_true ds
 | .fn _ ax bs => by simp only [D.okB, Bool.and_eq_true]; exact ⟨D.okL_true ax, D.okL_true bs⟩
theorem D.okL_true : ∀ (ds : List D), D.okB.okL (fun _ => true) ds = true
 | [] => rfl
 | d :: ds => by simp only [D.okB.okL, Bool.and_eq_true]; exact ⟨D.okB_true d, D.okL_true ds⟩
end
theorem Ob.okB_true (o : Ob) : o.okB (fun _ => true) = true := by
 cases o <;> simp [Ob.okB, D.okL_true]
def Obs.okB (f : Nat → Bool) : Obs → Bool
 | [] => true
 | (_, o) :: r => o.okB f && Obs.okB f r
theorem Obs.okB_get {f : Nat → Bool} : ∀ {obs : Obs}, obs.okB f = true → ∀ i o, obs.get i = some o → o.okB f = true
 | [], _, i, o, h => by simp [Obs.get] at h
 | (t, d) :: r, h, i, o, hg => by
  simp only [Obs.okB, Bool.and_eq_true] at h
  rw [Obs.get_cons] at hg
  by_cases e : t = i
  ·rw [if_pos e] at hg; cases hg; exact h.1
  ·rw [if_neg e] at hg; exact Obs.okB_get h.2 i o hg
section
variable {w w' : World} {O : Nat → Prop} {ρ ρ' : Rho} {obs pre post : Obs}
theorem owned_split (hsub : ∀ i o, pre.get i = some o → obs.get i = some o) (b : Nat) : Owned ρ obs b ↔ Owned (cutRho pre.has ρ) pre b ∨ Owned ρ (obs.rest pre) b := by
 constructor
 ·rintro ⟨i, o, l, h1, h2, h3, h4⟩
  cases hp : pre.has i with
  | true =>
   obtain ⟨o', ho'⟩ := Obs.has_iff.1 hp
   have := hsub i o' ho'
   rw [h1] at this; cases this
   exact .inl ⟨i, o, l, ho', h2, by simp [cutRho, hp, h3], h4⟩
  | false => exact .inr ⟨i, o, l, by rw [Obs.get_rest, hp]; exact h1, h2, h3, h4⟩
 ·rintro (⟨i, o, l, h1, h2, h3, h4⟩ | ⟨i, o, l, h1, h2, h3, h4⟩)
  ·exact ⟨i, o, l, hsub i o h1, h2, cutRho_le h3, h4⟩
  ·rw [Obs.get_rest] at h1
   split at h1
   ·cases h1
   ·exact ⟨i, o, l, h1, h2, h3, h4⟩
theorem rest_get {i : Nat} {o : Ob} (h : (obs.rest pre).get i = some o) : obs.get i = some o ∧ pre.has i = false := by
 rw [Obs.get_rest] at h
 split at h
 ·cases h
 ·rename_i hp; exact ⟨h, by simpa using hp⟩
theorem rest_apart (hsub : ∀ i o, pre.get i = some o → obs.get i = some o) (hok : ObsOK w O ρ obs) {b : Nat} (h1 : Owned (cutRho pre.has ρ) pre b) (h2 : Owned ρ (obs.rest pre) b) : False := by
 obtain ⟨i, o, l, a1, a2, a3, a4⟩ := h1
 obtain ⟨j, o', l', b1, b2, b3, b4⟩ := h2
 have := hok.inj i j o o' l l' (hsub i o a1) (rest_get b1).1 a2 b2 (cutRho_le a3) b3 (a4.trans b4.symm)
 subst this
 have := (rest_get b1).2
 rw [Obs.has_iff.2 ⟨o, a1⟩] at this; cases this
def joinRho (rest : Obs) (ρ ρ' : Rho) : Rho := fun i => if rest.has i then ρ i else ρ' i
theorem owned_join {rest : Obs} (hdis : ∀ i, post.has i = true → rest.has i = false) (b : Nat) : Owned (joinRho rest ρ ρ') (post ++ rest) b ↔ Owned ρ' post b ∨ Owned ρ rest b := by
 constructor
 ·rintro ⟨i, o, l, h1, h2, h3, h4⟩
  rw [Obs.get_append] at h1
  cases hp : post.get i with
  | some x =>
   simp only [hp, Option.some.injEq] at h1
   subst h1
   have := hdis i (Obs.has_iff.2 ⟨_, hp⟩)
   simp only [joinRho, this] at h3
   exact .inl ⟨i, x, l, hp, h2, h3, h4⟩
  | none =>
   simp only [hp] at h1
   simp only [joinRho, Obs.has_iff.2 ⟨_, h1⟩, if_true] at h3
   exact .inr ⟨i, o, l, h1, h2, h3, h4⟩
 ·rintro (⟨i, o, l, h1, h2, h3, h4⟩ | ⟨i, o, l, h1, h2, h3, h4⟩)
  ·have := hdis i (Obs.has_iff.2 ⟨_, h1⟩)
   exact ⟨i, o, l, by rw [Obs.get_append, h1], h2, by simp [joinRho, this, h3], h4⟩
  ·have hn : post.get i = none := by
    cases hp : post.get i with
    | none => rfl
    | some x =>
     have := hdis i (Obs.has_iff.2 ⟨_, hp⟩)
     rw [Obs.has_iff.2 ⟨_, h1⟩] at this; cases this
   exact ⟨i, o, l, by rw [Obs.get_append, hn]; exact h1, h2, by simp [joinRho, Obs.has_iff.2 ⟨_, h1⟩, h3], h4⟩
theorem frame_join (stab : Nat → Bool) (hsub : ∀ i o, pre.get i = some o → obs.get i = some o) (hok : ObsOK w O ρ obs) (h : Tr0 (Ot O ρ (obs.rest pre)) w (cutRho pre.has ρ) pre w' ρ' post)
  (hdis : ∀ i, post.has i = true → (obs.rest pre).has i = false) (hle : ∀ i l, stab i = true → cutRho pre.has ρ i = some l → ρ' i = some l) (hrs : ∀ i o, (obs.rest pre).get i = some o → o.okB stab = true) :
  Tr0 O w ρ obs w' (joinRho (obs.rest pre) ρ ρ') (post ++ obs.rest pre) ∧ (∀ i l, stab i = true → ρ i = some l → joinRho (obs.rest pre) ρ ρ' i = some l) ∧
  ∀ r v, V w' (Ot (Ot O ρ (obs.rest pre)) ρ' post) ρ' r v → V w' (Ot O (joinRho (obs.rest pre) ρ ρ') (post ++ obs.rest pre)) (joinRho (obs.rest pre) ρ ρ') r v := by
 have hj := owned_join (ρ := ρ) (ρ' := ρ') hdis
 have hkeep : ∀ i l, stab i = true → ρ i = some l → joinRho (obs.rest pre) ρ ρ' i = some l := by
  intro i l hs hl
  unfold joinRho
  split
  ·exact hl
  ·rename_i hr
   refine hle i l hs ?_
   have : pre.has i = true := by
    cases hp : pre.has i with
    | true => rfl
    | false =>
     have hg : (obs.rest pre).get i = obs.get i := by rw [Obs.get_rest, hp]; rfl
     cases ho : obs.get i with
     | none => rw [hok.fresh i ho] at hl; cases hl
     | some o => exact absurd (Obs.has_iff.2 ⟨o, hg.trans ho⟩) hr
   simp [cutRho, this, hl]
 have hle2 : RhoLe ρ' (joinRho (obs.rest pre) ρ ρ') := by
  intro i l hl
  unfold joinRho
  split
  ·rename_i hr
   have : post.get i = none := by
    cases hp : post.get i with
    | none => rfl
    | some x => have := hdis i (Obs.has_iff.2 ⟨_, hp⟩); rw [hr] at this; cases this
   rw [h.ok.fresh i this] at hl; cases hl
  ·exact hl
 have hset : ∀ b, Ot (Ot O ρ (obs.rest pre)) ρ' post b ↔ Ot O (joinRho (obs.rest pre) ρ ρ') (post ++ obs.rest pre) b := by
  intro b
  unfold Ot
  rw [hj b]
  constructor
  ·rintro ((g | g) | g)
   ·exact .inl g
   ·exact .inr (.inr g)
   ·exact .inr (.inl g)
  ·rintro (g | g | g)
   ·exact .inl (.inl g)
   ·exact .inr g
   ·exact .inl (.inr g)
 have hnew : ∀ b, Owned (joinRho (obs.rest pre) ρ ρ') (post ++ obs.rest pre) b → Owned ρ obs b ∨ w.heap.size ≤ b := by
  intro b hb
  rcases (hj b).1 hb with g | g
  ·rcases h.new b g with g | g
   ·exact .inl ((owned_split hsub b).2 (.inl g))
   ·exact .inr g
  ·exact .inl ((owned_split hsub b).2 (.inr g))
 have hsame : ∀ b, b < w.heap.size → ¬ Owned ρ obs b → w'.heap[b]? = w.heap[b]? := fun b hb ho => h.same b hb fun g => ho ((owned_split hsub b).2 (.inl g))
 have hkept : Kept w (Ot O ρ obs) w' (Ot O (joinRho (obs.rest pre) ρ ρ') (post ++ obs.rest pre)) := by
  refine ⟨h.size, fun b hb ho => ⟨fun _ _ _ => hsame b hb fun g => ho (.inr g), fun g => ?_⟩⟩
  rcases g with g | g
  ·exact ho (.inl g)
  ·rcases hnew b g with g | g
   ·exact ho (.inr g)
   ·omega
 refine ⟨⟨h.size, hsame, hnew, ⟨fun b hb => h.ok.lt b (.inl hb), ?_, ?_, ?_⟩, h.os⟩, hkeep, fun r v hv => V.mono (Kept.subO fun b hb => (hset b).2 hb) hle2 r v hv⟩
 ·intro i hi
  rw [Obs.get_append] at hi
  cases hp : post.get i with
  | some x => simp [hp] at hi
  | none =>
   simp only [hp] at hi
   simp only [joinRho, Obs.has, hi, Option.isSome_none]
   exact h.ok.fresh i hp
 ·intro i o h1 h2
  rw [Obs.get_append] at h1
  cases hp : post.get i with
  | some x =>
   simp only [hp, Option.some.injEq] at h1
   subst h1
   obtain ⟨l, h3, h4, h5⟩ := h.ok.own i x hp h2
   exact ⟨l, hle2 i l h3, fun hb => h4 (.inl hb), h5.mono (Kept.subO fun b hb => (hset b).2 hb) hle2 rfl⟩
  | none =>
   simp only [hp] at h1
   obtain ⟨l, h3, h4, h5⟩ := hok.own i o (rest_get h1).1 h2
   have hr : (obs.rest pre).has i = true := Obs.has_iff.2 ⟨_, h1⟩
   have hblk : w'.heap[l.b]? = w.heap[l.b]? := h.same l.b (h5.lt h2) fun g => rest_apart hsub hok g ⟨i, o, l, h1, h2, h3, rfl⟩
   refine ⟨l, by simp [joinRho, hr, h3], h4, (h5.cut (hrs i o h1)).mono hkept ?_ hblk⟩
   intro j lj hlj
   unfold cutRho at hlj
   split at hlj
   ·rename_i hs; exact hkeep j lj hs hlj
   ·cases hlj
 ·intro i j o o' l l' a1 a2 a3 a4 a5 a6 a7
  have key : ∀ i o l, Obs.get (post ++ obs.rest pre) i = some o → joinRho (obs.rest pre) ρ ρ' i = some l → (post.get i = some o ∧ ρ' i = some l) ∨ ((obs.rest pre).get i = some o ∧ ρ i = some l) := by
   intro i o l h1 h3
   rw [Obs.get_append] at h1
   cases hp : post.get i with
   | some x =>
    simp only [hp, Option.some.injEq] at h1
    subst h1
    have := hdis i (Obs.has_iff.2 ⟨_, hp⟩)
    simp only [joinRho, this] at h3
    exact .inl ⟨rfl, h3⟩
   | none =>
    simp only [hp] at h1
    simp only [joinRho, Obs.has_iff.2 ⟨_, h1⟩, if_true] at h3
    exact .inr ⟨h1, h3⟩
  have cross : ∀ i j o o' l l', post.get i = some o → o.live = true → ρ' i = some l → (obs.rest pre).get j = some o' → o'.live = true → ρ j = some l' → l.b = l'.b → False := by
   intro i j o o' l l' b1 b2 b3 b4 b5 b6 b7
   obtain ⟨l2, c1, c2, _⟩ := h.ok.own i o b1 b2
   rw [b3] at c1; cases c1
   exact c2 (.inr ⟨j, o', l', b4, b5, b6, b7.symm⟩)
  rcases key i o l a1 a5 with ⟨b1, b2⟩ | ⟨b1, b2⟩ <;> rcases key j o' l' a2 a6 with ⟨c1, c2⟩ | ⟨c1, c2⟩
  ·exact h.ok.inj i j o o' l l' b1 c1 a3 a4 b2 c2 a7
  ·exact (cross i j o o' l l' b1 a3 b2 c1 a4 c2 a7).elim
  ·exact (cross j i o' o l' l c1 a4 c2 b1 a3 b2 a7.symm).elim
  ·exact hok.inj i j o o' l l' (rest_get b1).1 (rest_get c1).1 a3 a4 b2 c2 a7
end
end Go.T
namespace Go.T
open Go
variable [Noise]
structure FcO (P : Program) (f : FuncId) (args : List D) (pre : Obs) (r : D) (post : Obs) : Prop where
 out : ∀ w O ρ vals, ObsOK w O ρ pre → Gl w (Ot O ρ pre) → Vs w (Ot O ρ pre) ρ args vals → Calls P f vals.toArray w (fun e w' => ∃ v ρ', e = .returned v ∧ Tr O w ρ pre w' ρ' post ∧ V w' (Ot O ρ' post) ρ' r v)
def disjB (a b : Obs) : Bool := a.all fun p => !b.has p.1
theorem disjB_has {a b : Obs} (h : disjB a b = true) : ∀ i, a.has i = true → b.has i = false := by
 intro i hi
 obtain ⟨o, ho⟩ := Obs.has_iff.1 hi
 have key : ∀ a : Obs, disjB a b = true → a.get i = some o → b.has i = false := by
  intro a
  induction a with
  | nil => intro _ h; simp [Obs.get] at h
  | cons p r ih =>
   obtain ⟨t, d⟩ := p
   intro hd hg
   simp only [disjB, List.all_cons, Bool.and_eq_true, Bool.not_eq_true'] at hd
   rw [Obs.get_cons] at hg
   by_cases e : t = i
   ·subst e; exact hd.1
   ·rw [if_neg e] at hg; exact ih hd.2 hg
 exact key a h ho
theorem ObsLe.okB {pre obs : Obs} (h : ObsLe pre obs pre) : ∀ i o, pre.get i = some o → o.okB pre.has = true := fun i o ho => (h.sound i o ho).2
theorem Vs.cutL {w : World} {O : Nat → Prop} {ρ : Rho} {f : Nat → Bool} {ds : List D} {vs : List Value} (hp : D.okB.okL f ds = true) (h : Vs w O ρ ds vs) : Vs w O (cutRho f ρ) ds vs := Vs.cut ds vs hp h
theorem frame_split' {w : World} {O : Nat → Prop} {ρ : Rho} {obs pre : Obs} (hsub : ∀ i o, pre.get i = some o → obs.get i = some o) (hp : ∀ i o, pre.get i = some o → o.okB pre.has = true) (hok : ObsOK w O ρ obs) : ObsOK w (Ot O ρ (obs.rest pre)) (cutRho pre.has ρ) pre := by
 refine ⟨?_, fun i hi => by simp [cutRho, Obs.has, hi], fun i o h1 h2 => ?_, fun i j o o' l l' a b c d e e' => hok.inj i j o o' l l' (hsub _ _ a) (hsub _ _ b) c d (cutRho_le e) (cutRho_le e')⟩
 ·rintro b (hb | hb)
  ·exact hok.lt b hb
  ·exact (hok.block ((owned_split hsub b).2 (.inr hb))).1
 ·obtain ⟨l, h3, h4, h5⟩ := hok.own i o (hsub i o h1) h2
  have hl : cutRho pre.has ρ i = some l := by simp [cutRho, Obs.has, h1, h3]
  refine ⟨l, hl, ?_, (h5.subO (Kept.subO ?_)).cut (hp i o h1)⟩
  ·rintro (hb | hb)
   ·exact h4 hb
   ·exact rest_apart hsub hok ⟨i, o, l, h1, h2, hl, rfl⟩ hb
  ·rintro b ((hb | hb) | hb)
   ·exact .inl hb
   ·exact .inr ((owned_split hsub b).2 (.inr hb))
   ·exact .inr ((owned_split hsub b).2 (.inl hb))
theorem ot_split {w : World} {O : Nat → Prop} {ρ : Rho} {obs pre : Obs} (hsub : ∀ i o, pre.get i = some o → obs.get i = some o) (b : Nat) : Ot (Ot O ρ (obs.rest pre)) (cutRho pre.has ρ) pre b → Ot O ρ obs b := by
 rintro ((hb | hb) | hb)
 ·exact .inl hb
 ·exact .inr ((owned_split hsub b).2 (.inr hb))
 ·exact .inr ((owned_split hsub b).2 (.inl hb))
section
variable {P : Program} {env : Env} {dst : Option Tmp} {ty : TypeId} {pos : String} {aft : Array Edge} {g : Option (Nat × Bool)}
theorem QStep.enterO {o : Oper} {f : FuncId} {ds : List D} {r : D} {pre post obs : Obs} (hf : FcO P f ds pre r post) (hle : ObsLe pre obs pre) (hds : D.okB.okL pre.has ds = true) (hdis : disjB post (obs.rest pre) = true)
  (h : ∀ (O : Nat → Prop) (ρ : Rho) (a : Act) (w : World), ObsOK w O ρ obs → (∀ x ∈ o.op.operands.toList, ∀ d', env.op x = some d' → V w (Ot O ρ obs) ρ d' (a.eval x)) → ∃ vals : List Value, (execOp a.eval o).run P w = .ok (.enter f vals.toArray) w ∧ Vs w (Ot O ρ obs) ρ ds vals) :
  QStep P o env obs r (post ++ obs.rest pre) := by
 intro O ρ a w hok hgl hv
 obtain ⟨vals, hrun, hvs⟩ := h O ρ a w hok hv
 have hsub : ∀ i o, pre.get i = some o → obs.get i = some o := fun i o ho => (hle.sound i o ho).1
 unfold Oper.wp
 rw [hrun]
 simp only [Oper.upon]
 have hvs' : Vs w (Ot (Ot O ρ (obs.rest pre)) (cutRho pre.has ρ) pre) (cutRho pre.has ρ) ds vals :=
  Vs.cutL hds (Vs.mono (Kept.subO fun b hb => ot_split (w := w) hsub b hb) (RhoLe.refl _) _ _ hvs)
 refine Calls.mono (hf.out w _ _ vals (frame_split' hsub hle.okB hok) (hgl.mono (Kept.subO fun b hb => ot_split (w := w) hsub b hb)) hvs') ?_
 rintro e w' ⟨v, ρ', rfl, htr, hr⟩
 obtain ⟨h1, h2, h3⟩ := frame_join (fun _ => true) hsub hok htr.to0 (disjB_has hdis) (fun i l _ hl => htr.le i l hl) (fun i o _ => Ob.okB_true o)
 exact ⟨_, v, rfl, ⟨fun i l hl => h2 i l rfl hl, h1.size, h1.same, h1.new, h1.ok, h1.os⟩, h3 r v hr⟩
theorem q_callO {f : FuncId} {xs : List Operand} {tys : Array TypeId} {ds : List D} {r : D} {pre post obs : Obs}
  (hcall : ∀ (args : Array Value) (w : World), (callFunc f args).run P w = .ok (.enter f args) w) (hx : env.opsD xs = some ds) (hf : FcO P f ds pre r post) (hle : ObsLe pre obs pre) (hds : D.okB.okL pre.has ds = true) (hdis : disjB post (obs.rest pre) = true) :
  QStep P ⟨dst, .call ⟨.value (.func f), xs.toArray, tys⟩, ty, pos, aft, g⟩ env obs r (post ++ obs.rest pre) := by
 refine QStep.enterO hf hle hds hdis fun O ρ a w hok hv => ?_
 refine ⟨xs.map a.eval, ?_, opsD_V xs ds hx (fun x hx d' h => hv x (by simp [Op.operands, Call.operands, hx]) d' h)⟩
 have h1 : execOp a.eval ⟨dst, .call ⟨.value (.func f), xs.toArray, tys⟩, ty, pos, aft, g⟩ = callFunc f (xs.map a.eval).toArray := by
  simp [execOp, resolve, Deferred.ofValue, Act.eval, invoke, Bind.bind, Sem.bind, Pure.pure]
 rw [h1, hcall]
theorem fn_V {w : World} {O : Nat → Prop} {ρ : Rho} {f : FuncId} {fs caps : List D} {v : Value} (h : V w O ρ (.fn (.func f) fs caps) v) : ∃ us vs, v = .func (.func f) us vs ∧ Vs w O ρ fs us.toList ∧ Vs w O ρ caps vs.toList := by simpa only [V] using h
theorem exec_callV (a : Act) {y : Operand} {f : FuncId} {us vs : Array Value} {xs : List Operand} {tys : Array TypeId} (h : a.eval y = .func (.func f) us vs) :
  execOp a.eval ⟨dst, .call ⟨.value y, xs.toArray, tys⟩, ty, pos, aft, g⟩ = callFunc f (us.toList ++ xs.map a.eval ++ vs.toList).toArray := by
 have : us ++ (xs.map a.eval).toArray ++ vs = (us.toList ++ xs.map a.eval ++ vs.toList).toArray := by simp
 simp [execOp, resolve, Deferred.ofValue, h, invoke, Bind.bind, Sem.bind, Pure.pure, this]
theorem qCf {f : FuncId} {y : Operand} {xs : List Operand} {tys : Array TypeId} {ds fs caps : List D} {r : D}
  (hcall : ∀ (args : Array Value) (w : World), (callFunc f args).run P w = .ok (.enter f args) w) (hy : env.op y = some (.fn (.func f) fs caps)) (hx : env.opsD xs = some ds) (hf : Fc P f (fs ++ ds ++ caps) r) (obs : Obs) :
  QStep P ⟨dst, .call ⟨.value y, xs.toArray, tys⟩, ty, pos, aft, g⟩ env obs r obs := by
 intro O ρ a w hok hgl hv
 obtain ⟨us, vs, e1, e2, e3⟩ := fn_V (hv y (by simp [Op.operands, Call.operands]) _ hy)
 have hvs := opsD_V xs ds hx (fun x hx d' h => hv x (by simp [Op.operands, Call.operands, hx]) d' h)
 unfold Oper.wp
 rw [exec_callV a e1, hcall]
 simp only [Oper.upon]
 refine Calls.mono (hf.out w (Ot O ρ obs) ρ _ ?_ hgl ((e2.append hvs).append e3)) ?_
 ·rintro b (hb | hb)
  ·exact hok.lt b hb
  ·exact (hok.block hb).1
 ·rintro e w' ⟨v, rfl, h1, h2⟩
  exact ⟨ρ, v, rfl, Tr.of_keep h2 hok, h1⟩
end
theorem box_iptr {O : Nat → Prop} {w : World} {ρ : Rho} {obs : Obs} {id : Nat} {ds : List D} {v : Value} (hok : ObsOK w O ρ obs) (ho : obs.get id = some (.cells ds)) (hp : D.pureB.pureL ds = true) (h1 : oneL ds = true) (hv : V w (Ot O ρ obs) ρ (.box id 0) v) :
  V w (Ot O ρ (obs.set id .dead)) ρ (.iptr ds) v := by
 simp only [V] at hv ⊢
 obtain ⟨l, e1, e⟩ := hv
 obtain ⟨l', h3, h4, vs, T, h5, h6⟩ := hok.own id _ ho rfl
 rw [e1] at h3; cases h3
 have hk := (Tr.die id hok).kept
 refine ⟨l.b, 0, e, ⟨(Array.getElem?_eq_some_iff.1 h5).1, ?_⟩, ?_⟩
 ·rintro (hb | ⟨i, x, l', g1, g2, g3, g4⟩)
  ·exact h4 hb
  ·have hx := dead_sub i x g1 g2
   have := hok.inj i id x _ l' l hx ho g2 rfl g3 e1 g4
   subst this
   rw [Obs.get_set] at g1
   simp only [if_true, Option.some.injEq] at g1
   subst g1; simp [Ob.live] at g2
 ·refine Vc.of_blk h5 ds 0 ?_ ?_
  ·have hl := h6.length
   rw [List.drop_zero, List.take_of_length_le (by omega)]
   exact Vs.mono hk (RhoLe.refl _) _ _ (Vs.pure ds _ hp h6)
  ·have hl := h6.length
   rw [List.drop_zero, List.take_of_length_le (by omega)]
   exact Vs.one h1 h6
theorem Le.freezeB {F : Fr} {env : Env} {obs : Obs} {ds : List D} (t id : Nat) (ht : env.get t = some (.box id 0)) (ho : obs.get id = some (.cells ds)) (hp : D.pureB.pureL ds = true) (h1 : oneL ds = true) :
  Le F env obs ((t, .iptr ds) :: env) (obs.set id .dead) := .step fun O ρ w f hok hv => by
 have htr := Tr.die id hok
 refine ⟨ρ, htr, fun s d h => ?_⟩
 rw [Env.get_cons] at h
 by_cases e : t = s
 ·rw [if_pos e] at h
  cases h
  subst e
  exact box_iptr hok ho hp h1 (hv t _ ht)
 ·rw [if_neg e] at h
  exact htr.V (hv s d h)
def retO (ts : List Nat) (r : D) (post : Obs) : Exit → Env → Obs → Prop
 | .ret, env, obs | .normal, env, obs => (∃ ds, getAll env ts = some ds ∧ Sub (mkRes ds) r) ∧ ObsLe post obs post
 | _, _, _ => False
theorem FcO.mk' {P : Program} {f : FuncId} {fn : Func} {c : Code} {args : List D} {r : D} {pre post : Obs} (ts : List Nat) (hf : P.funcs[f]? = some fn) (hb : fn.body = some c) {N : Nat} (hN : fn.ntmps = N) (hn : Nat.ble args.length N = true) (hps : (pre.map (·.1)).all post.has = true) (hr : r.okB post.has = true)
  (hres : ∀ tmps w, (results fn tmps).run P w = .ok (resV ts tmps) w) (h : Run P ⟨N, pre.map (·.1), false, none⟩ [c] (retO ts r post) (args0 args 0) pre) : FcO P f args pre r post := ⟨fun w O ρ vals hok hgl hv => by
 refine calls_of_WP hf hb h.start (St.begin fn.ntmps hN (Nat.le_of_ble_eq_true hn) hok hgl hv _ none (fun _ _ e => by cases e)) ?_ ?_
 ·intro e env' obs' hq
  cases e <;> first | exact .inl rfl | exact .inr rfl | exact hq.elim
 ·intro e env' obs' tmps w' ρ' hq hkeep htr henv
  have : (∃ ds, getAll env' ts = some ds ∧ Sub (mkRes ds) r) ∧ ObsLe post obs' post := by cases e <;> first | exact hq | exact hq.elim
  obtain ⟨⟨ds, h1, h2⟩, h3⟩ := this
  have hO : ∀ b, Owned (cutRho post.has ρ') post b → Owned ρ' obs' b := by
   rintro b ⟨i, o, l, g1, g2, g3, g4⟩
   exact ⟨i, o, l, (h3.sound i o g1).1, g2, cutRho_le g3, g4⟩
  refine ⟨_, hres _ _, _, cutRho post.has ρ', rfl, ⟨?_, htr.size, htr.same, fun b hb => htr.new b (hO b hb), htr.ok.sub h3.sound, htr.os⟩, ?_⟩
  ·intro i l hl
   have hi : pre.has i = true := by
    cases hp : pre.get i with
    | none => rw [hok.fresh i hp] at hl; cases hl
    | some o => exact Obs.has_iff.2 ⟨o, hp⟩
   have hm : i ∈ pre.map (·.1) := by
    obtain ⟨o, ho⟩ := Obs.has_iff.1 hi
    have key : ∀ p : Obs, p.get i = some o → i ∈ p.map (·.1) := by
     intro p
     induction p with
     | nil => intro h; simp [Obs.get] at h
     | cons q r ih =>
      obtain ⟨t, d⟩ := q
      intro h
      rw [Obs.get_cons] at h
      by_cases e : t = i
      ·subst e; simp
      ·rw [if_neg e] at h; exact List.mem_cons_of_mem _ (ih h)
    exact key pre ho
   have := List.all_eq_true.1 hps i hm
   simp [cutRho, this, hkeep i hm l hl]
  ·have h4 := h2.out _ _ _ _ (Vs.res (getAll_V henv ts ds h1))
   exact V.cut r _ hr (V.mono (Kept.subO fun b hb => hb.imp _root_.id (hO b)) (RhoLe.refl _) _ _ h4)⟩
theorem retO1 {env : Env} {obs post : Obs} {t : Nat} {d r : D} (h : env.get t = some d) (s : Sub d r) (hp : ObsLe post obs post) : retO [t] r post .ret env obs := ⟨⟨[d], by simp [getAll, h], s⟩, hp⟩
theorem retO2 {env : Env} {obs post : Obs} {t u : Nat} {d e d' e' : D} (h : env.get t = some d) (h' : env.get u = some e) (s : Sub d d') (s' : Sub e e') (hp : ObsLe post obs post) : retO [t, u] (.tup [d', e']) post .ret env obs := ⟨⟨[d, e], by simp [getAll, h, h'], .tup2 s s'⟩, hp⟩
theorem retO0n {env : Env} {obs post : Obs} {r : D} (s : Sub (.tup []) r) (hp : ObsLe post obs post) : retO [] r post .normal env obs := ⟨⟨[], rfl, s⟩, hp⟩
structure Tx (P : Program) (F : Fr) (ops : Array Oper) (K : Env → Obs → Prop) (l : List Oper) (env : Env) (obs : Obs) : Prop where
 out : ∀ (C : Ctx) (Q : Exit → Act → World → Prop), (∀ a w env' obs', K env' obs' → St F C env' obs' a w → Q .normal a w) → ∀ (i : Nat) a w, ops.toList.drop i = l → St F C env obs a w → wpOpsIn (fz C.ro) 0 P ops Q (List.range' i l.length) a w
section
variable {P : Program} {F : Fr} {ops : Array Oper} {K : Env → Obs → Prop} {l : List Oper} {env : Env} {obs : Obs} {o : Oper}
theorem Tx.nil (h : K env obs) : Tx P F ops K [] env obs := ⟨fun C Q hQ i a w _ hs => by
 simp only [List.length_nil, List.range', wpOpsIn]
 exact hQ a w env obs h hs⟩
theorem drop_head {ops : Array Oper} {i : Nat} {o : Oper} {l : List Oper} (h : ops.toList.drop i = o :: l) : ops[i]? = some o ∧ ops.toList.drop (i + 1) = l := by
 constructor
 ·have := congrArg List.head? h
  simpa [List.head?_drop] using this
 ·rw [← List.drop_drop, h]; rfl
theorem Tx.many (hg : On ops env o) (h : ∀ (C : Ctx) (Q : Exit → Act → World → Prop) (k : Act → World → Prop) (a : Act) (w : World) (ρ : Rho), StR F C env obs a w ρ → (∀ a' w' env' obs', Tx P F ops K l env' obs' → St F C env' obs' a' w' → k a' w') → o.wpIn (fz C.ro) 0 P a w k Q) : Tx P F ops K (o :: l) env obs := ⟨fun C Q hQ i a w hd hs => by
 obtain ⟨ho, hd'⟩ := drop_head hd
 obtain ⟨ρ, hst⟩ := hs
 simp only [List.length_cons, List.range', wpOpsIn, ho]
 rw [if_pos (wanted_on hg (fun _ _ t _ _ d h => hst.env t d h))]
 exact h C Q _ a w ρ hst (fun a' w' env' obs' hk hs' => hk.out C Q hQ (i + 1) a' w' hd' hs')⟩
theorem Tx.q {d : D} {obs' : Obs} (hd : dstB F.N o.dst = true) (hg : On ops env o) (h : QStep P o env obs d obs') (k : Tx P F ops K l (env.put o.dst d) obs') : Tx P F ops K (o :: l) env obs :=
 .many hg fun C Q kk a w ρ hst hk => by
  have := h C.O ρ a w hst.tr.ok hst.glob (fun x _ d' h => op_of_env hst.env x d' h)
  refine Oper.wpIn_mono ?_ (wp_toIn C.ro this (by rintro a' w' ⟨ρ', v, rfl, _⟩; exact Act.put_def ..))
  rintro a' w' ⟨ρ', v, rfl, htr', hv⟩
  exact hk _ _ _ _ k ⟨ρ', hst.step htr' (env_put hst.size hd (fun t d h => htr'.V (hst.env t d h)) hv) (Act.size_put _ _ _) (Act.put_def ..)⟩
def QStepN (P : Program) (o : Oper) (env : Env) (obs : Obs) {ι : Type} (A : ι → Prop) (d : ι → D) (obs' : ι → Obs) : Prop :=
 ∀ (O : Nat → Prop) (ρ : Rho) (a : Act) (w : World), ObsOK w O ρ obs → Gl w (Ot O ρ obs) →
  (∀ x ∈ o.op.operands.toList, ∀ d', env.op x = some d' → V w (Ot O ρ obs) ρ d' (a.eval x)) →
  o.wp P a w (fun a' w' => ∃ i ρ' v, A i ∧ a' = a.put o.dst v ∧ Tr O w ρ obs w' ρ' (obs' i) ∧ V w' (Ot O ρ' (obs' i)) ρ' (d i) v) (fun _ _ _ => False)
theorem Tx.n {ι : Type} {A : ι → Prop} {d : ι → D} {obs' : ι → Obs} (hd : dstB F.N o.dst = true) (hg : On ops env o) (h : QStepN P o env obs A d obs') (k : ∀ i, A i → Tx P F ops K l (env.put o.dst (d i)) (obs' i)) : Tx P F ops K (o :: l) env obs :=
 .many hg fun C Q kk a w ρ hst hk => by
  have := h C.O ρ a w hst.tr.ok hst.glob (fun x _ d' h => op_of_env hst.env x d' h)
  refine Oper.wpIn_mono ?_ (wp_toIn C.ro this (by rintro a' w' ⟨i, ρ', v, _, rfl, _⟩; exact Act.put_def ..))
  rintro a' w' ⟨i, ρ', v, hA, rfl, htr', hv⟩
  exact hk _ _ _ _ (k i hA) ⟨ρ', hst.step htr' (env_put hst.size hd (fun t d h => htr'.V (hst.env t d h)) hv) (Act.size_put _ _ _) (Act.put_def ..)⟩
theorem Tx.off (hd : dstB F.N o.dst = true) (hg : Off ops env o) (k : Tx P F ops K l (env.put o.dst (.raw undef)) obs) : Tx P F ops K (o :: l) env obs := ⟨fun C Q hQ i a w hdr hs => by
 obtain ⟨ho, hd'⟩ := drop_head hdr
 obtain ⟨ρ, hst⟩ := hs
 simp only [List.length_cons, List.range', wpOpsIn, ho]
 rw [if_neg (by simp [wanted_off hg (fun _ _ t _ _ d h => hst.env t d h)])]
 exact ⟨fun _ _ => trivial, k.out C Q hQ (i + 1) _ _ hd' ⟨ρ, hst.step (Tr.refl hst.tr.ok) (env_put hst.size hd hst.env (by simp [V])) (Act.size_put _ _ _) (Act.put_def ..)⟩⟩⟩
theorem Tx.weak {env' : Env} {obs' : Obs} (h : Le F env obs env' obs') (k : Tx P F ops K l env' obs') : Tx P F ops K l env obs := ⟨fun C Q hQ i a w hd hs => k.out C Q hQ i a w hd (h.out C a w hs)⟩
theorem Run.regT {Q : Exit → Env → Obs → Prop} {cs : List Code} {id : Nat} {l : List Oper} (h : Tx P F l.toArray (Run P F cs Q) l env obs) : Run P F (.region id l.toArray false :: cs) Q env obs := ⟨⟨fun C a w hs => by
 refine wpIn_region ?_
 rw [List.range_eq_range']
 have := h.out C (fun e a' w' => ∃ env' obs', thenQ (WPd P F cs Q) Q e env' obs' ∧ St F C env' obs' a' w') (fun a w env' obs' hk hs => ⟨env', obs', hk.out, hs⟩) 0 a w (by simp) hs
 simpa using this⟩⟩
end
end Go.T
namespace Go.T
open Go
variable [Noise]
theorem Ob.okB_all {o : Ob} {f g : Nat → Bool} (h : ∀ i, f i = true → g i = true) (ho : o.okB f = true) : o.okB g = true := by
 cases o with
 | dead => rfl
 | cells ds => exact D.okL_all ds h ho
 | arr sz rows => rfl
 | lp st pend s env => exact D.okL_all _ h ho
 | mp kvs =>
  simp only [Ob.okB, Bool.and_eq_true] at ho ⊢
  exact ⟨D.okL_all _ h ho.1, D.okL_all _ h ho.2⟩
 | mi m since seen => exact h m ho
 | bld j n => exact h j ho
 | ba s => rfl
 | res sz => rfl
 | mj ks vs seen => rfl
 | mn => rfl
theorem Owned.congr {ρ : Rho} {obs obs' : Obs} (h : ∀ i, obs.get i = obs'.get i) (b : Nat) : Owned ρ obs b ↔ Owned ρ obs' b := by
 unfold Owned; simp only [h]
theorem Ot.congr {O : Nat → Prop} {ρ : Rho} {obs obs' : Obs} (h : ∀ i, obs.get i = obs'.get i) (b : Nat) : Ot O ρ obs b ↔ Ot O ρ obs' b := by
 unfold Ot; rw [Owned.congr h b]
theorem ObsOK.congr {w : World} {O : Nat → Prop} {ρ : Rho} {obs obs' : Obs} (h : ∀ i, obs.get i = obs'.get i) (hok : ObsOK w O ρ obs) : ObsOK w O ρ obs' := by
 refine ⟨hok.lt, fun i hi => hok.fresh i (by rw [h]; exact hi), fun i o h1 h2 => ?_, fun i j o o' l l' a b => hok.inj i j o o' l l' (by rw [h]; exact a) (by rw [h]; exact b)⟩
 obtain ⟨l, h3, h4, h5⟩ := hok.own i o (by rw [h]; exact h1) h2
 exact ⟨l, h3, h4, h5.subO (Kept.subO fun b hb => (Ot.congr h b).2 hb)⟩
theorem Tr0.congr {O : Nat → Prop} {w w' : World} {ρ ρ' : Rho} {obs obs1 obs2 : Obs} (h : ∀ i, obs1.get i = obs2.get i) (ht : Tr0 O w ρ obs w' ρ' obs1) : Tr0 O w ρ obs w' ρ' obs2 :=
 ⟨ht.size, ht.same, fun b hb => ht.new b ((Owned.congr h b).2 hb), ht.ok.congr h, ht.os⟩
theorem Tr0.congrL {O : Nat → Prop} {w w' : World} {ρ ρ' : Rho} {obs obs' obs1 : Obs} (h : ∀ i, obs.get i = obs'.get i) (ht : Tr0 O w ρ obs w' ρ' obs1) : Tr0 O w ρ obs' w' ρ' obs1 :=
 ⟨ht.size, fun b hb ho => ht.same b hb fun g => ho ((Owned.congr h b).1 g), fun b hb => (ht.new b hb).imp (Owned.congr h b).1 _root_.id, ht.ok, ht.os⟩
structure YieldStep (P : Program) (idL lb : Nat) (ids : List Nat) (x : List D) (B B' : Obs) (X : Obs → Prop) : Prop where
 out : ∀ (O : Nat → Prop) (ρ : Rho) (w : World) (vals : List Value) (l : Loc), ρ idL = some l → l.b = lb → ObsOK w O ρ B → Gl w (Ot O ρ B) → Vs w (Ot O ρ B) ρ x vals →
  ∃ fn tmps assign body, (Instr.yield lb vals.toArray).run P w = .ok (.round lb fn tmps assign body) w ∧
   RoundIn Fence.wide 0 P lb fn tmps assign body w (fun e w' => ∃ b ρ' o, e = .returned (.bool b) ∧ ((b = true ∧ o = B') ∨ (b = false ∧ X o)) ∧ Tr0 O w ρ B w' ρ' o ∧ ∀ i ∈ ids, ∀ l, ρ i = some l → ρ' i = some l)
structure YEnv {α : Type} (P : Program) (lo idL lb : Nat) (ids : List Nat) (B : List α → Obs) (X : Obs → Prop) (enc : α → List D) (ok : List α → Prop) : Prop where
 mem : idL ∈ ids
 has : ∀ pre, ids.all (B pre).has = true
 hasX : ∀ o, X o → ids.all o.has = true
 okb : ∀ pre i o, (B pre).get i = some o → o.okB (B pre).has = true
 okX : ∀ o, X o → ∀ i x, o.get i = some x → x.okB o.has = true
 free : ∀ pre i, lo ≤ i → i < lo + 100 → (B pre).get i = none
 freeX : ∀ o, X o → ∀ i, lo ≤ i → i < lo + 100 → o.get i = none
 step : ∀ pre x, ok (pre ++ [x]) → YieldStep P idL lb ids (enc x) (B pre) (B (pre ++ [x])) X
@[reducible] def yv (lb : Nat) : D := .raw (.func (.yield lb) #[] #[])
structure FcY {α : Type} (P : Program) (f : FuncId) (lo : Nat) (caps : List D) (own : Obs) (enc : α → List D) (ok fin : List α → Prop) : Prop where
 out : ∀ (idL lb : Nat) (ids : List Nat) (B : List α → Obs) (X : Obs → Prop), YEnv P lo idL lb ids B X enc ok → ∀ w O ρ vals l, ρ idL = some l → l.b = lb → ObsOK w O ρ (own ++ B []) → Gl w (Ot O ρ (own ++ B [])) → Vs w (Ot O ρ (own ++ B [])) ρ caps vals →
  Calls P f (.func (.yield lb) #[] #[] :: vals).toArray w (fun e w' => ∃ v ρ' o, e = .returned v ∧ ((∃ xs, fin xs ∧ o = B xs) ∨ X o) ∧ Tr0 O w ρ (own ++ B []) w' ρ' o ∧ ∀ i ∈ ids, ∀ l, ρ i = some l → ρ' i = some l)
def inLo (lo : Nat) (own : Obs) : Bool := own.all fun p => Nat.ble lo p.1 && Nat.blt p.1 (lo + 100)
theorem inLo_has {lo : Nat} {own : Obs} (h : inLo lo own = true) : ∀ i, own.has i = true → lo ≤ i ∧ i < lo + 100 := by
 intro i hi
 obtain ⟨o, ho⟩ := Obs.has_iff.1 hi
 induction own with
 | nil => simp [Obs.get] at ho
 | cons p r ih =>
  obtain ⟨t, d⟩ := p
  simp only [inLo, List.all_cons, Bool.and_eq_true] at h
  rw [Obs.get_cons] at ho
  by_cases e : t = i
  ·subst e
   exact ⟨Nat.le_of_ble_eq_true h.1.1, by simpa [Nat.blt_eq] using h.1.2⟩
  ·rw [if_neg e] at ho
   exact ih h.2 (Obs.has_iff.2 ⟨o, ho⟩) ho
theorem has_mem {i : Nat} : ∀ {own : Obs}, i ∈ own.map (·.1) → own.has i = true
 | [], hi => by simp at hi
 | (t, d) :: r, hi => by
  simp only [Obs.has, Obs.get_cons]
  by_cases e : t = i
  ·simp [e]
  ·rw [if_neg e]
   simp only [List.map_cons, List.mem_cons] at hi
   exact has_mem (own := r) (hi.resolve_left (fun e' => e e'.symm))
inductive EnvF (f : Nat → Bool) (env : Env) : Env → Prop
 | nil : EnvF f env []
 | cons {t : Nat} {d : D} {e : Env} (h : env.get t = some d) (hp : d.okB f = true) (r : EnvF f env e) : EnvF f env ((t, d) :: e)
theorem EnvF.sound {f : Nat → Bool} {env env' : Env} (h : EnvF f env env') : ∀ t d, env'.get t = some d → env.get t = some d ∧ d.okB f = true := by
 induction h with
 | nil => intro t d h; simp [Env.get] at h
 | @cons t0 d0 e h hp _ ih =>
  intro t d hd
  rw [Env.get_cons] at hd
  by_cases e : t0 = t
  ·rw [if_pos e] at hd; cases hd; exact ⟨e ▸ h, hp⟩
  ·rw [if_neg e] at hd; exact ih t d hd
section
variable {P : Program} {F : Fr} {ops : Array Oper} {K : Env → Obs → Prop} {ol : List Oper} {env : Env}
theorem exec_yield (a : Act) {y : Operand} {lb : Nat} {xs : List Operand} {tys : Array TypeId} {dst : Option Tmp} {ty : TypeId} {pos : String} {aft : Array Edge} {g : Option (Nat × Bool)} (h : a.eval y = .func (.yield lb) #[] #[]) :
  execOp a.eval ⟨dst, .call ⟨.value y, xs.toArray, tys⟩, ty, pos, aft, g⟩ = Instr.yield lb (xs.map a.eval).toArray := by
 simp [execOp, resolve, Deferred.ofValue, h, invoke, Bind.bind, Sem.bind, Pure.pure]
theorem Tx.y2 {α : Type} {lo idL lb : Nat} {ids : List Nat} {B : List α → Obs} {X : Obs → Prop} {enc : α → List D} {ok : List α → Prop} (Y : YEnv P lo idL lb ids B X enc ok) {own : Obs} {pre : List α} {env' : Env} {y : Operand} {xs : List Operand} {tys : Array TypeId} {dst : Option Tmp} {ty : TypeId} {pos : String} {aft : Array Edge} {g : Option (Nat × Bool)}
  {p0 : List Nat} (x : α) (hFy : F.yl = some (idL, lb)) (hps : F.ps = ids ++ p0) (hp0 : p0.all own.has = true) (hd : dstB F.N dst = true) (hg : On ops env ⟨dst, .call ⟨.value y, xs.toArray, tys⟩, ty, pos, aft, g⟩) (hy : env.op y = some (yv lb)) (hx : env.opsD xs = some (enc x)) (hpu : D.pureB.pureL (enc x) = true) (hok : ok (pre ++ [x]))
  (hin : inLo lo own = true) (hoo : own.okB own.has = true) (he : EnvF own.has env env')
  (kT : Tx P F ops K ol (env'.put dst (.raw (.bool true))) (own ++ B (pre ++ [x]))) (kF : ∀ o, X o → Tx P F ops K ol (env'.put dst (.raw (.bool false))) (own ++ o)) :
  Tx P F ops K (⟨dst, .call ⟨.value y, xs.toArray, tys⟩, ty, pos, aft, g⟩ :: ol) env (own ++ B pre) :=
 .many hg fun C Q kk a w ρ hst hk => by
  have hev := op_of_env hst.env y _ hy
  simp only [V] at hev
  obtain ⟨_, l0, hl0, hlb⟩ := hst.yl idL lb hFy
  have hmem : idL ∈ F.ps := by rw [hps]; exact List.mem_append_left _ Y.mem
  have hρ := hst.keep idL hmem l0 hl0
  have hvs := opsD_V xs _ hx (fun x _ d' h => op_of_env hst.env x d' h)
  have hBn : ∀ i, own.has i = true → (B pre).get i = none := fun i hi => Y.free pre i (inLo_has hin i hi).1 (inLo_has hin i hi).2
  have hown_of : ∀ (o : Obs), (∀ i, own.has i = true → o.get i = none) → ∀ i x, o.get i = some x → Obs.get (own ++ o) i = some x := by
   intro o ho i x hi
   rw [Obs.get_append]
   cases hp : own.get i with
   | none => exact hi
   | some z => rw [ho i (Obs.has_iff.2 ⟨z, hp⟩)] at hi; cases hi
  have hsub := hown_of (B pre) hBn
  have hrest : ∀ i, (Obs.rest (own ++ B pre) (B pre)).get i = own.get i := by
   intro i
   rw [Obs.get_rest, Obs.get_append]
   cases hp : own.get i with
   | some z => simp [Obs.has, hBn i (Obs.has_iff.2 ⟨z, hp⟩)]
   | none =>
    cases hb : (B pre).get i with
    | none => simp [Obs.has, hb]
    | some z => simp [Obs.has, hb]
  have hrhas : ∀ i, (Obs.rest (own ++ B pre) (B pre)).has i = own.has i := fun i => by simp [Obs.has, hrest]
  have hidL : (B pre).has idL = true := List.all_eq_true.1 (Y.has pre) idL Y.mem
  have hok1 := frame_split' (obs := own ++ B pre) (pre := B pre) hsub (Y.okb pre) hst.tr.ok
  have hvs1 : Vs w (Ot (Ot C.O ρ (Obs.rest (own ++ B pre) (B pre))) (cutRho (B pre).has ρ) (B pre)) (cutRho (B pre).has ρ) (enc x) (xs.map a.eval) :=
   Vs.pure _ _ hpu (Vs.mono (Kept.subO fun b hb => ot_split (w := w) hsub b hb) (RhoLe.refl _) _ _ hvs)
  obtain ⟨fn, tmps, assign, body, hrun, hround⟩ := (Y.step pre x hok).out _ _ w (xs.map a.eval) l0 (by simp [cutRho, hidL, hρ]) hlb hok1 (hst.glob.mono (Kept.subO fun b hb => ot_split (w := w) hsub b hb)) hvs1
  refine ⟨fun _ _ => trivial, ?_⟩
  rw [Oper.semAt_eq _ _ _ (fun c hc => by cases hc), exec_yield a hev, hrun]
  simp only [Oper.uponIn]
  refine ⟨fun e => by simp [fz, Fence.wide] at e, ?_⟩
  have hround' : RoundIn (fz C.ro) 0 P lb fn tmps assign body w _ := hround
  refine hround'.mono ?_
  rintro e w' ⟨b, ρ', o, rfl, ho, htr, hkeep⟩
  have hfree : ∀ i, own.has i = true → o.get i = none := by
   rcases ho with ⟨_, rfl⟩ | ⟨_, ho⟩
   ·exact fun i hi => Y.free _ i (inLo_has hin i hi).1 (inLo_has hin i hi).2
   ·exact fun i hi => Y.freeX o ho i (inLo_has hin i hi).1 (inLo_has hin i hi).2
  obtain ⟨h1, h2, _⟩ := frame_join (fun i => ids.contains i || own.has i) hsub hst.tr.ok htr
   (fun i hi => by
    rw [hrhas]
    cases hp : own.has i with
    | false => rfl
    | true => rw [Obs.has, hfree i hp] at hi; cases hi)
   (fun i l hs hl => by
    simp only [Bool.or_eq_true, List.contains_iff_mem] at hs
    rcases hs with hs | hs
    ·exact hkeep i hs l hl
    ·simp [cutRho, Obs.has, hBn i hs] at hl)
   (fun i x hx => by
    rw [hrest] at hx
    exact Ob.okB_all (fun j hj => by simp [hj]) (Obs.okB_get hoo i x hx))
  have hcg : ∀ i, Obs.get (o ++ Obs.rest (own ++ B pre) (B pre)) i = Obs.get (own ++ o) i := by
   intro i
   rw [Obs.get_append, Obs.get_append, hrest]
   cases hp : own.get i with
   | none => cases o.get i <;> rfl
   | some z => rw [hfree i (Obs.has_iff.2 ⟨z, hp⟩)]
  have h1' := h1.congr hcg
  have hst' : ∀ v : Bool, St F C (env'.put dst (.raw (.bool v))) (own ++ o) (a.put dst (.bool v)) w' := fun v => by
   refine ⟨_, fun i hi l hl => h2 i l ?_ (hst.keep i hi l hl), hst.tr.trans h1', ?_, (Act.size_put _ _ _).trans hst.size, ?_, hst.rd, hst.yl, hst.gl⟩
   ·rw [hps] at hi
    simp only [Bool.or_eq_true, List.contains_iff_mem]
    rcases List.mem_append.1 hi with hi | hi
    ·exact .inl hi
    ·refine .inr ?_
     exact List.all_eq_true.1 hp0 _ hi
   ·refine env_put hst.size hd (fun t d hd' => ?_) (by simp [V])
    obtain ⟨g1, g2⟩ := he.sound t d hd'
    refine V.mono h1'.kept ?_ _ _ (V.cut d _ g2 (hst.env t d g1))
    intro j lj hlj
    unfold cutRho at hlj
    split at hlj
    ·rename_i hs; exact h2 j lj (by simp [hs]) hlj
    ·cases hlj
   ·rw [Act.put_def]; exact h1'.marks hst.marks
  rcases ho with ⟨rfl, rfl⟩ | ⟨rfl, ho⟩
  ·exact hk _ _ _ _ kT (hst' true)
  ·exact hk _ _ _ _ (kF o ho) (hst' false)
theorem Tx.y {α : Type} {lo idL lb : Nat} {ids : List Nat} {B : List α → Obs} {X : Obs → Prop} {enc : α → List D} {ok : List α → Prop} (Y : YEnv P lo idL lb ids B X enc ok) {own : Obs} {pre : List α} {env' : Env} {y : Operand} {xs : List Operand} {tys : Array TypeId} {dst : Option Tmp} {ty : TypeId} {pos : String} {aft : Array Edge} {g : Option (Nat × Bool)}
  (x : α) (hFy : F.yl = some (idL, lb)) (hps : F.ps = ids ++ own.map (·.1)) (hd : dstB F.N dst = true) (hg : On ops env ⟨dst, .call ⟨.value y, xs.toArray, tys⟩, ty, pos, aft, g⟩) (hy : env.op y = some (yv lb)) (hx : env.opsD xs = some (enc x)) (hpu : D.pureB.pureL (enc x) = true) (hok : ok (pre ++ [x]))
  (hin : inLo lo own = true) (hoo : own.okB own.has = true) (he : EnvF own.has env env')
  (kT : Tx P F ops K ol (env'.put dst (.raw (.bool true))) (own ++ B (pre ++ [x]))) (kF : ∀ o, X o → Tx P F ops K ol (env'.put dst (.raw (.bool false))) (own ++ o)) :
  Tx P F ops K (⟨dst, .call ⟨.value y, xs.toArray, tys⟩, ty, pos, aft, g⟩ :: ol) env (own ++ B pre) :=
 Tx.y2 Y x hFy hps (List.all_eq_true.2 fun i hi => has_mem hi) hd hg hy hx hpu hok hin hoo he kT kF
end
def retY {α : Type} (B : List α → Obs) (X : Obs → Prop) (fin : List α → Prop) : Exit → Env → Obs → Prop
 | .ret, _, obs | .normal, _, obs => ∃ o, ((∃ xs, fin xs ∧ o = B xs) ∨ X o) ∧ ∀ i x, o.get i = some x → obs.get i = some x
 | _, _, _ => False
theorem retY_fin {α : Type} {B : List α → Obs} {X : Obs → Prop} {fin : List α → Prop} {env : Env} {obs : Obs} {e : Exit} (he : e = .ret ∨ e = .normal) (xs : List α) (hf : fin xs) (h : ∀ i x, (B xs).get i = some x → obs.get i = some x) : retY B X fin e env obs := by
 rcases he with rfl | rfl <;> exact ⟨_, .inl ⟨xs, hf, rfl⟩, h⟩
theorem retY_x {α : Type} {B : List α → Obs} {X : Obs → Prop} {fin : List α → Prop} {env : Env} {obs : Obs} {e : Exit} (he : e = .ret ∨ e = .normal) (o : Obs) (hx : X o) (h : ∀ i x, o.get i = some x → obs.get i = some x) : retY B X fin e env obs := by
 rcases he with rfl | rfl <;> exact ⟨_, .inr hx, h⟩
theorem own_get {own o : Obs} {lo : Nat} (hin : inLo lo own = true) (hf : ∀ i, lo ≤ i → i < lo + 100 → o.get i = none) : ∀ i x, o.get i = some x → Obs.get (own ++ o) i = some x := by
 intro i x hi
 rw [Obs.get_append]
 cases hp : own.get i with
 | none => exact hi
 | some z =>
  have := inLo_has hin i (Obs.has_iff.2 ⟨z, hp⟩)
  rw [hf i this.1 this.2] at hi; cases hi
theorem ps_ok {ids own : List Nat} {L o : Obs} (h : ids.all o.has = true) (h2 : own.all (Obs.has L) = true) : (ids ++ own).all (Obs.has (L ++ o)) = true := by
 rw [List.all_append, Bool.and_eq_true]
 constructor
 ·rw [List.all_eq_true] at h ⊢
  intro i hi
  obtain ⟨x, hx⟩ := Obs.has_iff.1 (h i hi)
  simp only [Obs.has, Obs.get_append]
  cases L.get i <;> simp [hx]
 ·rw [List.all_eq_true] at h2 ⊢
  intro i hi
  obtain ⟨x, hx⟩ := Obs.has_iff.1 (h2 i hi)
  simp [Obs.has, Obs.get_append, hx]
theorem tail_ok {own own' o : Obs} {lo : Nat} (hin : inLo lo own = true) (hf : ∀ i, lo ≤ i → i < lo + 100 → o.get i = none) (hok : ∀ i x, o.get i = some x → x.okB o.has = true) : ∀ i x, o.get i = some x → Obs.get (own ++ o) i = some x ∧ x.okB (Obs.has (own' ++ o)) = true := by
 intro i x hi
 refine ⟨own_get hin hf i x hi, Ob.okB_all (fun j hj => ?_) (hok i x hi)⟩
 obtain ⟨y, hy⟩ := Obs.has_iff.1 hj
 simp only [Obs.has, Obs.get_append]
 cases own'.get j <;> simp [hy]
theorem FcY.mk' {α : Type} {P : Program} {f : FuncId} {fn : Func} {c : Code} {lo : Nat} {caps : List D} {own : Obs} {enc : α → List D} {ok fin : List α → Prop} (hf : P.funcs[f]? = some fn) (hb : fn.body = some c) {N : Nat} (hN : fn.ntmps = N) (hn : Nat.ble (caps.length + 1) N = true)
  (hres : ∀ tmps w, (results fn tmps).run P w = .ok (resV [] tmps) w)
  (h : ∀ (idL lb : Nat) (ids : List Nat) (B : List α → Obs) (X : Obs → Prop), YEnv P lo idL lb ids B X enc ok → Run P ⟨N, ids ++ own.map (·.1), false, some (idL, lb)⟩ [c] (retY B X fin) (args0 (yv lb :: caps) 0) (own ++ B [])) : FcY P f lo caps own enc ok fin := ⟨fun idL lb ids B X Y w O ρ vals l hl hlb hok hgl hv => by
 have hv' : Vs w (Ot O ρ (own ++ B [])) ρ (yv lb :: caps) (.func (.yield lb) #[] #[] :: vals) := by
  simp only [Vs]; exact ⟨_, _, rfl, by simp [V], hv⟩
 refine calls_of_WP hf hb (h idL lb ids B X Y).start (St.begin fn.ntmps hN (by have := Nat.le_of_ble_eq_true hn; simpa using this) hok hgl hv' _ _ (fun i b e => ?_)) ?_ ?_
 ·cases e; exact ⟨List.mem_append_left _ Y.mem, l, hl, hlb⟩
 ·intro e env' obs' hq
  cases e <;> first | exact .inl rfl | exact .inr rfl | exact hq.elim
 ·intro e env' obs' tmps w' ρ' hq hkeep htr henv
  have : ∃ o, ((∃ xs, fin xs ∧ o = B xs) ∨ X o) ∧ ∀ i x, o.get i = some x → obs'.get i = some x := by cases e <;> first | exact hq | exact hq.elim
  obtain ⟨o, ho, hsub⟩ := this
  have hokb : ∀ i x, o.get i = some x → x.okB o.has = true := by
   rcases ho with ⟨xs, _, rfl⟩ | ho
   ·exact Y.okb xs
   ·exact Y.okX o ho
  have hhas : ids.all o.has = true := by
   rcases ho with ⟨xs, _, rfl⟩ | ho
   ·exact Y.has xs
   ·exact Y.hasX o ho
  have hO : ∀ b, Owned (cutRho o.has ρ') o b → Owned ρ' obs' b := by
   rintro b ⟨i, x, l, g1, g2, g3, g4⟩
   exact ⟨i, x, l, hsub i x g1, g2, cutRho_le g3, g4⟩
  refine ⟨_, hres _ _, _, cutRho o.has ρ', o, rfl, ho, ⟨htr.size, htr.same, fun b hb => htr.new b (hO b hb), htr.ok.sub (fun i x hx => ⟨hsub i x hx, hokb i x hx⟩), htr.os⟩, fun i hi l hl => ?_⟩
  have := List.all_eq_true.1 hhas i hi
  simp [cutRho, this, hkeep i (List.mem_append_left _ hi) l hl]⟩
end Go.T
namespace Go.T
open Go
variable [Noise]
def putP : Env → List Tmp → List D → Env
 | e, p :: ps, d :: ds => putP ((p, d) :: e) ps ds
 | e, _, _ => e
theorem putP_V {w : World} {O : Nat → Prop} {ρ : Rho} {N : Nat} : ∀ (ps : List Tmp) (ds : List D) (vs : List Value) (env : Env) (tmps : Array Value), tmps.size = N → ps.all (fun p => Nat.blt p N) = true → Vs w O ρ ds vs → (∀ t d, env.get t = some d → V w O ρ d (tmps.getD t undef)) →
  ((ps.zip vs).foldl (fun (t : Array Value) (x : Tmp × Value) => t.setIfInBounds x.1 x.2) tmps).size = N ∧ ∀ t d, (putP env ps ds).get t = some d → V w O ρ d (((ps.zip vs).foldl (fun (t : Array Value) (x : Tmp × Value) => t.setIfInBounds x.1 x.2) tmps).getD t undef)
 | [], ds, vs, env, tmps, hN, _, hv, he => by
  simp only [List.zip_nil_left, List.foldl_nil]
  refine ⟨hN, ?_⟩
  cases ds <;> exact he
 | p :: ps, [], vs, env, tmps, hN, _, hv, he => by
  simp only [Vs] at hv; subst hv
  simp only [List.zip_nil_right, List.foldl_nil]
  exact ⟨hN, he⟩
 | p :: ps, d :: ds, vs, env, tmps, hN, hp, hv, he => by
  simp only [Vs] at hv
  obtain ⟨u, us, rfl, h1, h2⟩ := hv
  simp only [List.all_cons, Bool.and_eq_true] at hp
  have hlt : p < tmps.size := by rw [hN]; simpa [Nat.blt_eq] using hp.1
  simp only [List.zip_cons_cons, List.foldl_cons, putP]
  refine putP_V ps ds us _ _ (by simpa using hN) hp.2 h2 ?_
  intro t d' hd
  rw [Env.get_cons] at hd
  rw [getD_set _ _ _ _ hlt]
  by_cases e : p = t
  ·rw [if_pos e] at hd ⊢; cases hd; exact h1
  ·rw [if_neg e] at hd ⊢; exact he t d' hd
theorem EnvF.okL {f : Nat → Bool} {env env' : Env} (h : EnvF f env env') : D.okB.okL f (env'.map (·.2)) = true := by
 induction h with
 | nil => rfl
 | cons h hp _ ih => simp only [List.map_cons, D.okB.okL, hp, ih, Bool.and_self]
def endQ (F' : Fr) (idL : Nat) (s : LpS) (env0 : Env) (B' : Obs) (Xs : Code → Obs → Prop) : Exit → Env → Obs → Prop
 | .normal, env, obs => obs.get idL = some (.lp .busy none s env0) ∧ Le F' env (obs.set idL (.lp .ready none s env0)) [] B'
 | .ret, env, obs => obs.get idL = some (.lp .busy none s env0) ∧ ∃ Rx, Xs .ret Rx ∧ Le F' env (obs.set idL (.lp .done (some .ret) s env0)) [] ((idL, .lp .done (some .ret) s env0) :: Rx)
 | .exit id, env, obs => obs.get idL = some (.lp .busy none s env0) ∧ ∃ Rx, Xs (.exit id) Rx ∧ Le F' env (obs.set idL (.lp .done (some (.exit id)) s env0)) [] ((idL, .lp .done (some (.exit id)) s env0) :: Rx)
 | _, _, _ => False
def asgQ (P : Program) (F' : Fr) (idL : Nat) (s : LpS) (env0 : Env) (B' : Obs) (Xs : Code → Obs → Prop) : Exit → Env → Obs → Prop
 | .normal, env, obs => obs.get idL = some (.lp .ready none s env0) ∧ Run P F' [s.body] (endQ F' idL s env0 B' Xs) env (obs.set idL (.lp .busy none s env0))
 | _, _, _ => False
def stopX (idL : Nat) (s : LpS) (env0 : Env) (Xs : Code → Obs → Prop) (o : Obs) : Prop := ∃ j Rx, Xs j Rx ∧ o = (idL, .lp .done (some j) s env0) :: Rx
theorem St.record {F' : Fr} {C : Ctx} {env : Env} {obs : Obs} {a : Act} {w : World} {idL : Nat} {l : Loc} {st : LoopState} {pe : Option Code} {s : LpS} {env0 : Env} (hmem : idL ∈ F'.ps) (hl : C.ρ0 idL = some l) (hget : obs.get idL = some (.lp st pe s env0)) (hs : St F' C env obs a w) :
  ∃ fn tmps df, w.heap[l.b]? = some (.loop ⟨st, pe, fn, tmps, s.ps, s.assign, s.body, df⟩) ∧ ∀ st' pe', St F' C env (obs.set idL (.lp st' pe' s env0)) a (w.putObj l.b (.loop ⟨st', pe', fn, tmps, s.ps, s.assign, s.body, df⟩)) := by
 obtain ⟨ρ, hs⟩ := hs
 have hρ := hs.keep idL hmem l hl
 obtain ⟨l', h1, h2, fn, tmps, df, h3, h4, h5⟩ := hs.tr.ok.own idL _ hget rfl
 rw [hρ] at h1; cases h1
 refine ⟨fn, tmps, df, h3, fun st' pe' => ⟨ρ, ?_⟩⟩
 have htr := Tr.upd (o' := .lp st' pe' s env0) hs.tr.ok hget rfl hρ (.loop ⟨st', pe', fn, tmps, s.ps, s.assign, s.body, df⟩) (fun hk => ⟨fn, tmps, df, by
  have := (Array.getElem?_eq_some_iff.1 h3).1
  simp [this], h4, fun t d hd => V.mono hk (RhoLe.refl _) d _ (h5 t d hd)⟩)
 exact hs.step htr (fun t d hd => htr.V (hs.env t d hd)) rfl rfl
theorem round_yield {P : Program} {N idL lb : Nat} {ids : List Nat} {pl : List Tmp} {s : LpS} {env0 : Env} {x : List D} {R : Obs} {B' : Obs} {Xs : Code → Obs → Prop} (hs : s.ps = pl.toArray) (hN : s.N = N) (hpl : pl.all (fun p => Nat.blt p N) = true) (hlen : x.length = pl.length) (hmem : idL ∈ ids)
  (h : Run P ⟨N, ids, true, none⟩ [s.assign] (asgQ P ⟨N, ids, true, none⟩ idL s env0 B' Xs) (putP env0 pl x) ((idL, .lp .ready none s env0) :: R)) :
  YieldStep P idL lb ids x ((idL, .lp .ready none s env0) :: R) B' (stopX idL s env0 Xs) := ⟨fun O ρ w vals l hl hlb hok hgl hv => by
 subst hlb
 have hget : Obs.get ((idL, Ob.lp .ready none s env0) :: R) idL = some (.lp .ready none s env0) := by simp [Obs.get]
 obtain ⟨l', h1, h2, fn, tmps, df, h3, h4, h5⟩ := hok.own idL _ hget rfl
 rw [hl] at h1; cases h1
 have hvl := hv.length
 refine ⟨fn, _, s.assign, s.body, run_yield h3 (by rw [hs]; simp [hvl, hlen]), ?_⟩
 refine roundIn_of_wpIn trivial ?_
 have htm : ((s.ps.zip vals.toArray).foldl (fun tmps (x : Tmp × Value) => tmps.setIfInBounds x.1 x.2) tmps) = ((pl.zip vals).foldl (fun (t : Array Value) (x : Tmp × Value) => t.setIfInBounds x.1 x.2) tmps) := by
  rw [hs]; simp
 obtain ⟨hsz, hpe⟩ := putP_V (w := w) pl x vals env0 tmps (h4.trans hN) hpl hv h5
 let C : Ctx := ⟨O, w, ρ, (idL, .lp .ready none s env0) :: R, some l.b⟩
 have hst : St ⟨N, ids, true, none⟩ C (putP env0 pl x) ((idL, .lp .ready none s env0) :: R) { tmps := (s.ps.zip vals.toArray).foldl (fun tmps (x : Tmp × Value) => tmps.setIfInBounds x.1 x.2) tmps, defers := [] } w :=
  ⟨ρ, fun _ _ _ h => h, Tr0.refl hok, by rw [htm]; exact hpe, by rw [htm]; exact hsz, Marks.nil .., (fun e => by cases e), (fun _ _ e => by cases e), hgl⟩
 have hrun := h.start.out C _ w hst
 refine wpIn_mono hrun ?_
 rintro e a1 w1 ⟨env1, obs1, hq, hs1⟩
 cases e with
 | normal =>
  obtain ⟨hg1, hbody⟩ := hq
  obtain ⟨fn1, tmps1, df1, hh1, hset1⟩ := hs1.record (C := C) (l := l) hmem hl hg1
  refine ⟨_, run_beginRound hh1 rfl, ?_⟩
  refine wpIn_mono (hbody.start.out C a1 _ (hset1 .busy none)) ?_
  have fin : ∀ (jump : Option Code) (st : LoopState) (env2 : Env) (obs2 : Obs) (a2 : Act) (w2 : World) (o : Obs), (st = if jump.isNone then .ready else .done) → obs2.get idL = some (.lp .busy none s env0) → St ⟨N, ids, true, none⟩ C env2 obs2 a2 w2 → Le ⟨N, ids, true, none⟩ env2 (obs2.set idL (.lp st jump s env0)) [] o → ((jump.isNone = true ∧ o = B') ∨ (jump.isNone = false ∧ stopX idL s env0 Xs o)) →
    ∃ v w', (Instr.endRound l.b jump).run P w2 = .ok v w' ∧ ∃ b ρ' o, Ending.returned v = .returned (.bool b) ∧ ((b = true ∧ o = B') ∨ (b = false ∧ stopX idL s env0 Xs o)) ∧ Tr0 O w ρ ((idL, .lp .ready none s env0) :: R) w' ρ' o ∧ ∀ i ∈ ids, ∀ l, ρ i = some l → ρ' i = some l := by
   intro jump st env2 obs2 a2 w2 o hst2 hg2 hs2 hle ho
   obtain ⟨fn2, tmps2, df2, hh2, hset2⟩ := hs2.record (C := C) (l := l) hmem hl hg2
   obtain ⟨ρ', hs3⟩ := hle.out C a2 _ (hset2 st jump)
   refine ⟨_, _, run_endRound jump hh2, jump.isNone, ρ', o, rfl, ho, ?_, hs3.keep⟩
   have := hs3.tr
   rw [hst2] at this
   exact this
  rintro e a2 w2 ⟨env2, obs2, hq2, hs2⟩
  cases e with
  | normal => exact fin none .ready env2 obs2 a2 w2 B' rfl hq2.1 hs2 hq2.2 (.inl ⟨rfl, rfl⟩)
  | ret =>
   obtain ⟨hg2, Rx, hx, hle⟩ := hq2
   exact fin (some .ret) .done env2 obs2 a2 w2 _ rfl hg2 hs2 hle (.inr ⟨rfl, .ret, Rx, hx, rfl⟩)
  | exit id =>
   obtain ⟨hg2, Rx, hx, hle⟩ := hq2
   exact fin (some (.exit id)) .done env2 obs2 a2 w2 _ rfl hg2 hs2 hle (.inr ⟨rfl, .exit id, Rx, hx, rfl⟩)
  | goto l => exact hq2.elim
  | panic ch => exact hq2.elim
  | outgrown => exact hq2.elim
 | exit id => exact hq.elim
 | goto l => exact hq.elim
 | ret => exact hq.elim
 | panic ch => exact hq.elim
 | outgrown => exact hq.elim⟩
def stopQ (Q : Exit → Env → Obs → Prop) (env0 : Env) (j : Code) (Rx : Obs) : Prop :=
 match j with
 | .ret => Q .ret env0 Rx
 | .exit id => Q (.exit id) env0 Rx
 | _ => False
theorem Run.rangeF {α : Type} {P : Program} {F : Fr} {Q : Exit → Env → Obs → Prop} {cs : List Code} {env : Env} {obs : Obs} {g : Operand} {pl : List Tmp} {assign body : Code} {f : FuncId} {lo : Nat} {caps : List D} {own : Obs} {enc : α → List D} {ok fin : List α → Prop}
  (idL : Nat) (S : List Nat) (env0 : Env) (R : List α → Obs) (Xs : Code → Obs → Prop)
  (hrd : F.rd = false) (hcall : ∀ (args : Array Value) (w : World), (callFunc f args).run P w = .ok (.enter f args) w) (hF : FcY P f lo caps own enc ok fin)
  {env1 : Env} (hle : Le F env obs env1 (own ++ R [])) (hg : env1.op g = some (.fn (.func f) [] caps)) (hpl : pl.all (fun p => Nat.blt p F.N) = true) (hlen : ∀ x, (enc x).length = pl.length)
  (he : EnvF (fun i => S.contains i) env1 env0) (hps : F.ps.all (fun i => S.contains i) = true)
  (hS : ∀ pre, S.all (R pre).has = true) (hSX : ∀ j o, Xs j o → S.all o.has = true)
  (hok : ∀ pre i o, (R pre).get i = some o → o.okB (R pre).has = true) (hokX : ∀ j o, Xs j o → ∀ i x, o.get i = some x → x.okB o.has = true)
  (hfr : ∀ pre i, (lo ≤ i ∧ i < lo + 100) ∨ i = idL → (R pre).get i = none) (hfrX : ∀ j o, Xs j o → ∀ i, (lo ≤ i ∧ i < lo + 100) ∨ i = idL → o.get i = none)
  (hidL : ¬ (lo ≤ idL ∧ idL < lo + 100)) (hown : own.get idL = none)
  (round : ∀ pre x, ok (pre ++ [x]) → Run P ⟨F.N, idL :: S, true, none⟩ [assign] (asgQ P ⟨F.N, idL :: S, true, none⟩ idL ⟨pl.toArray, assign, body, F.N⟩ env0 ((idL, .lp .ready none ⟨pl.toArray, assign, body, F.N⟩ env0) :: R (pre ++ [x])) Xs) (putP env0 pl (enc x)) ((idL, .lp .ready none ⟨pl.toArray, assign, body, F.N⟩ env0) :: R pre))
  (done : ∀ xs, fin xs → Run P F cs Q env0 (R xs)) (stop : ∀ j o, Xs j o → stopQ Q env0 j o) :
  Run P F (.rangeFunc g pl.toArray assign body :: cs) Q env obs := by
 have core : ∀ C a w, St F C env obs a w → Code.wpIn (fz C.ro) 0 P (.rangeFunc g pl.toArray assign body) (fun e a' w' => ∃ env' obs', thenQ (WPd P F cs Q) Q e env' obs' ∧ St F C env' obs' a' w') a w := by
  intro C a w hs0
  obtain ⟨ρ, hs⟩ := hle.out C a w hs0
  have hro : C.ro = none := hs.rd hrd
  have hev := op_of_env hs.env g _ hg
  obtain ⟨us, vs, e1, e2, e3⟩ := fn_V hev
  have hus : us = #[] := by simp only [Vs] at e2; exact Array.toList_eq_nil_iff.1 e2
  subst hus
  let s : LpS := ⟨pl.toArray, assign, body, F.N⟩
  let B : List α → Obs := fun pre => (idL, .lp .ready none s env0) :: R pre
  have hgB : ∀ (o : Ob) (r : Obs) i, Obs.get ((idL, o) :: r) i = if idL = i then some o else r.get i := fun o r i => Obs.get_cons ..
  rw [hro]
  refine wpIn_rangeFunc fun fn _ => ?_
  let w1 := w.alloc (.deferred (some []))
  let w2 := w1.alloc (.loop { state := .ready, pending := none, fn, tmps := a.tmps, params := pl.toArray, assign, body, defers := w.heap.size })
  have hw1 : w1.heap.size = w.heap.size + 1 := by simp [w1]
  have hw2 : w.heap.size < w2.heap.size := by
   have : w2.heap.size = w1.heap.size + 1 := by simp [w2]
   omega
  -- the world with the block for deferred calls, then with the record
  have htr1 : Tr C.O w ρ (own ++ R []) w1 ρ (own ++ R []) := by
   refine Tr.of_keep ⟨by omega, fun b hb => ?_, rfl, rfl, Clk.eq rfl rfl⟩ hs.tr.ok
   show (w.heap.push _)[b]? = _
   rw [Array.getElem?_push, if_neg (by omega)]
  let l : Loc := ⟨w1.heap.size, 0, 0⟩
  have hno : Obs.get (own ++ R []) idL = none := by
   rw [Obs.get_append, hown]; exact hfr [] idL (.inr rfl)
  have htr2 : Tr C.O w1 ρ (own ++ R []) w2 (upd ρ idL l) ((idL, .lp .ready none s env0) :: (own ++ R [])) := by
   refine Tr.born htr1.ok hno _ rfl (fun i x h _ => h) (fun i h => h) (fun hk => ⟨fn, a.tmps, w.heap.size, ?_, hs.size, fun t d hd => ?_⟩)
   ·exact World.alloc_heap_new w1 _
   ·exact V.mono hk (upd_le l (htr1.ok.fresh idL hno)) d _ (htr1.V (hs.env t d (he.sound t d hd).1))
  have htr12 := htr1.trans htr2
  have hcg : ∀ i, Obs.get ((idL, .lp .ready none s env0) :: (own ++ R [])) i = Obs.get (own ++ B []) i := by
   intro i
   rw [Obs.get_cons, Obs.get_append, Obs.get_append]
   by_cases e : idL = i
   ·subst e; simp [hown, B, Obs.get_cons]
   ·rw [if_neg e]
    cases own.get i with
    | some z => rfl
    | none => simp [B, Obs.get_cons, e]
  have hok2 : ObsOK w2 C.O (upd ρ idL l) (own ++ B []) := htr12.ok.congr hcg
  have hkO : ∀ b, Ot C.O (upd ρ idL l) (own ++ B []) b → Ot C.O (upd ρ idL l) ((idL, .lp .ready none s env0) :: (own ++ R [])) b := fun b hb => (Ot.congr hcg b).2 hb
  have hcaps : Vs w2 (Ot C.O (upd ρ idL l) (own ++ B [])) (upd ρ idL l) caps vs.toList :=
   Vs.mono (Kept.subO hkO) (RhoLe.refl _) _ _ (Vs.mono htr12.kept htr12.le _ _ e3)
  have hmemS : ∀ i, i ∈ S → i ≠ idL := by
   intro i hi e
   have h1 := List.all_eq_true.1 (hS []) i hi
   rw [e, Obs.has, hfr [] idL (.inr rfl)] at h1; cases h1
  have Y : YEnv P lo idL l.b (idL :: S) B (stopX idL s env0 Xs) enc ok := by
   have hasB : ∀ (o : Ob) (r : Obs), S.all r.has = true → (idL :: S).all (Obs.has ((idL, o) :: r)) = true := by
    intro o r hr
    rw [List.all_eq_true] at hr ⊢
    intro i hi
    rcases List.mem_cons.1 hi with rfl | hi
    ·simp [Obs.has, Obs.get_cons]
    ·have := hr i hi
     simp only [Obs.has, Obs.get_cons] at this ⊢
     split
     ·rfl
     ·exact this
   have okE : ∀ (o : Obs), S.all o.has = true → ∀ st pe, (Ob.lp st pe s env0).okB o.has = true := by
    intro o ho st pe
    show D.okB.okL o.has (env0.map (·.2)) = true
    have := he.okL
    exact D.okL_all _ (fun i hi => List.all_eq_true.1 ho i (by simpa using hi)) this
   have mono1 : ∀ (o : Ob) (r : Obs) i, r.has i = true → Obs.has ((idL, o) :: r) i = true := by
    intro o r i hi
    simp only [Obs.has, Obs.get_cons] at hi ⊢
    split
    ·rfl
    ·exact hi
   have okB1 : ∀ st pe (r : Obs), S.all r.has = true → (∀ i x, r.get i = some x → x.okB r.has = true) → ∀ i x, Obs.get ((idL, .lp st pe s env0) :: r) i = some x → x.okB (Obs.has ((idL, .lp st pe s env0) :: r)) = true := by
    intro st pe r hr ho i x hx
    rw [Obs.get_cons] at hx
    by_cases e : idL = i
    ·rw [if_pos e] at hx; cases hx
     exact Ob.okB_all (mono1 _ r) (okE r hr st pe)
    ·rw [if_neg e] at hx
     exact Ob.okB_all (mono1 _ r) (ho i x hx)
   have free1 : ∀ (o : Ob) (r : Obs), (∀ i, (lo ≤ i ∧ i < lo + 100) ∨ i = idL → r.get i = none) → ∀ i, lo ≤ i → i < lo + 100 → Obs.get ((idL, o) :: r) i = none := by
    intro o r hr i h1 h2
    rw [Obs.get_cons, if_neg (fun e : idL = i => hidL (by omega))]
    exact hr i (.inl ⟨h1, h2⟩)
   refine ⟨List.mem_cons_self, fun pre => hasB _ _ (hS pre), ?_, fun pre => okB1 _ _ _ (hS pre) (hok pre), ?_, fun pre => free1 _ _ (hfr pre), ?_, fun pre x hx => ?_⟩
   ·rintro o ⟨j, Rx, hx, rfl⟩; exact hasB _ _ (hSX j Rx hx)
   ·rintro o ⟨j, Rx, hx, rfl⟩; exact okB1 _ _ _ (hSX j Rx hx) (hokX j Rx hx)
   ·rintro o ⟨j, Rx, hx, rfl⟩; exact free1 _ _ (hfrX j Rx hx)
   ·exact round_yield rfl rfl hpl (hlen x) List.mem_cons_self (round pre x hx)
  refine ⟨w.heap.size + 1, [⟨.collected w.heap.size, #[]⟩], w2, ⟨.fn (.func f) vs, #[] ++ #[.func (.yield (w.heap.size + 1)) #[] #[]]⟩, w2, f, (Value.func (.yield l.b) #[] #[] :: vs.toList).toArray, w2, run_enterLoop_outer fn a.tmps pl.toArray assign body, ?_, fun _ _ => trivial, ?_, fun e => by simp [fz, Fence.wide] at e, ?_⟩
  ·have hm : Array.map a.eval #[Operand.const (Value.func (Fn.yield (w.heap.size + 1)) #[] #[])] = #[Value.func (.yield (w.heap.size + 1)) #[] #[]] := by simp [Act.eval]
   rw [resolve]; simp only [rangeCall, e1, Deferred.ofValue, hm, Sem.run_pure]
  ·have : (#[] ++ #[Value.func (.yield (w.heap.size + 1)) #[] #[]] ++ vs : Array Value) = (Value.func (.yield l.b) #[] #[] :: vs.toList).toArray := by
    apply Array.ext'
    simp [l, hw1]
   show (callFunc f (#[] ++ #[Value.func (.yield (w.heap.size + 1)) #[] #[]] ++ vs)).run P w2 = _
   rw [this, hcall]
  ·refine callsIn_wide.2 (Calls.mono (hF.out idL l.b (idL :: S) B _ Y w2 C.O (upd ρ idL l) vs.toList l (upd_same ..) rfl hok2 (hs.glob.mono (htr12.kept.trans (Kept.subO hkO))) hcaps) ?_)
   rintro e w3 ⟨v, ρ', o, rfl, ho, htr3, hkeep⟩
   have hρ' : ρ' idL = some l := hkeep idL List.mem_cons_self l (upd_same ..)
   -- the whole way from w to w3
   have hall : Tr0 C.O w ρ (own ++ R []) w3 ρ' o := htr12.to0.trans (htr3.congrL fun i => (hcg i).symm)
   have hmk : Marks C.w0.heap.size w3 (Ot C.O ρ' o) (⟨.collected w.heap.size, #[]⟩ :: a.defers) := by
    have hmk2 : Marks C.w0.heap.size w2 (Ot C.O (upd ρ idL l) (own ++ B [])) (⟨.collected w.heap.size, #[]⟩ :: a.defers) := by
     have hold := htr12.to0.marks hs.marks
     refine ⟨fun d hd => ?_, List.pairwise_cons.2 ⟨fun d hd r hr e => ?_, hold.apart⟩⟩
     ·rcases List.mem_cons.1 hd with rfl | hd
      ·refine ⟨w.heap.size, rfl, hs.tr.size, hw2, ?_, ?_⟩
       ·intro hb
        rcases hkO _ hb with hb | hb
        ·have := hs.tr.ok.lt _ hb; omega
        ·rcases htr2.new _ hb with hb | hb
         ·have := (hs.tr.ok.block hb).1; omega
         ·omega
       ·show ((w.heap.push _).push _)[w.heap.size]? = _
        simp [Array.getElem?_push]
      ·obtain ⟨r, g1, g2, g3, g4, g5⟩ := hold.at_ d hd
       exact ⟨r, g1, g2, g3, fun hb => g4 (hkO _ hb), g5⟩
     ·obtain ⟨r', g1, _, g3, _⟩ := hs.marks.at_ d hd
      subst e
      cases hr
      simp only [Deferred.mk.injEq, Target.collected.injEq, and_true] at g1
      omega
    exact htr3.marks hmk2
   -- what every end has in common
   have fin1 : ∀ (st : LoopState) (pe : Option Code) (Ro : Obs), o = (idL, .lp st pe s env0) :: Ro → st ≠ .busy → S.all Ro.has = true → (∀ i x, Ro.get i = some x → x.okB Ro.has = true) → (∀ i, (lo ≤ i ∧ i < lo + 100) ∨ i = idL → Ro.get i = none) →
     ∃ w4, (Instr.endLoop l.b).run P w3 = .ok pe w4 ∧ St F C env0 Ro { a with defers := ⟨.collected w.heap.size, #[]⟩ :: a.defers } w4 := by
    intro st pe Ro hoe hst hSo hoko hfro
    subst hoe
    have hget : Obs.get ((idL, Ob.lp st pe s env0) :: Ro) idL = some (.lp st pe s env0) := by simp [Obs.get]
    obtain ⟨l', g1, g2, fn', tmps', df', g3, g4, g5⟩ := htr3.ok.own idL _ hget rfl
    rw [hρ'] at g1; cases g1
    refine ⟨_, run_endLoop g3 hst, ?_⟩
    have hsubR : ∀ i x, Ro.get i = some x → Obs.get ((idL, .lp st pe s env0) :: Ro) i = some x ∧ x.okB Ro.has = true := by
     intro i x hx
     refine ⟨?_, hoko i x hx⟩
     rw [Obs.get_cons, if_neg (fun e => by rw [← e, hfro idL (.inr rfl)] at hx; cases hx)]
     exact hx
    have hOw : ∀ b, Owned (cutRho Ro.has ρ') Ro b → Owned ρ' ((idL, .lp st pe s env0) :: Ro) b := by
     rintro b ⟨i, x, l', k1, k2, k3, k4⟩
     exact ⟨i, x, l', (hsubR i x k1).1, k2, cutRho_le k3, k4⟩
    have hnl : ∀ b, Owned (cutRho Ro.has ρ') Ro b → b ≠ l.b := by
     rintro b ⟨i, x, l', k1, k2, k3, k4⟩ e
     have := htr3.ok.inj i idL x _ l' l (hsubR i x k1).1 hget k2 rfl (cutRho_le k3) hρ' (k4.trans e)
     rw [this, hfro idL (.inr rfl)] at k1; cases k1
    have hok4 := htr3.ok.sub hsubR
    have hk4 : Kept w3 (Ot C.O (cutRho Ro.has ρ') Ro) (w3.putObj l.b (.loop ⟨.exhausted, pe, fn', tmps', s.ps, s.assign, s.body, df'⟩)) (Ot C.O (cutRho Ro.has ρ') Ro) := by
     refine ⟨by simp, fun b hb hob => ⟨fun o e hs => World.putObj_heap_other (fun e' => ?_), hob⟩⟩
     rw [e', g3] at e; cases e; cases hs
    have htr4 : Tr0 C.O w ρ (own ++ R []) (w3.putObj l.b (.loop ⟨.exhausted, pe, fn', tmps', s.ps, s.assign, s.body, df'⟩)) (cutRho Ro.has ρ') Ro := by
     refine ⟨by simpa using hall.size, fun b hb hob => ?_, fun b hb => hall.new b (hOw b hb), ⟨fun b hb => by simpa using htr3.ok.lt b hb, hok4.fresh, fun i x k1 k2 => ?_, hok4.inj⟩, hall.os⟩
     ·rw [World.putObj_heap_other (fun e => by have : l.b = w.heap.size + 1 := hw1; omega)]
      exact hall.same b hb hob
     ·obtain ⟨l', k3, k4, k5⟩ := hok4.own i x k1 k2
      exact ⟨l', k3, k4, k5.mono hk4 (RhoLe.refl _) (World.putObj_heap_other (hnl _ ⟨i, x, l', k1, k2, k3, rfl⟩))⟩
    refine ⟨cutRho Ro.has ρ', fun i hi l' hl' => ?_, hs.tr.trans htr4, fun t d hd => ?_, hs.size, ?_, hs.rd, hs.yl, hs.gl⟩
    ·have hiS : i ∈ S := by simpa using List.all_eq_true.1 hps i hi
     have hr : upd ρ idL l i = some l' := by rw [upd_other (hmemS i hiS)]; exact hs.keep i hi l' hl'
     have := List.all_eq_true.1 hSo i hiS
     simp [cutRho, this, hkeep i (List.mem_cons_of_mem _ hiS) l' hr]
    ·obtain ⟨k1, k2⟩ := he.sound t d hd
     refine V.mono htr4.kept ?_ _ _ (V.cut d _ k2 (hs.env t d k1))
     intro j lj hlj
     unfold cutRho at hlj
     split at hlj
     ·rename_i hj
      have hjS : j ∈ S := by simpa using hj
      have hr : upd ρ idL l j = some lj := by rw [upd_other (hmemS j hjS)]; exact hlj
      have := List.all_eq_true.1 hSo j hjS
      simp [cutRho, this, hkeep j (List.mem_cons_of_mem _ hjS) lj hr]
     ·cases hlj
    ·have hm3 : Marks C.w0.heap.size w3 (Ot C.O (cutRho Ro.has ρ') Ro) (⟨.collected w.heap.size, #[]⟩ :: a.defers) := hmk.mono (Nat.le_refl _) (fun b _ hob => ⟨rfl, fun g => hob (g.imp _root_.id (hOw b))⟩)
     refine ⟨fun d hd => ?_, hm3.apart⟩
     obtain ⟨r, k1, k2, k3, k4, k5⟩ := hm3.at_ d hd
     refine ⟨r, k1, k2, by simpa using k3, k4, ?_⟩
     rw [World.putObj_heap_other (fun e => by rw [e, g3] at k5; cases k5)]
     exact k5
   have hpost : rangePost Fence.wide 0 P l.b (fun e a' w' => ∃ env' obs', thenQ (WPd P F cs Q) Q e env' obs' ∧ St F C env' obs' a' w') { a with defers := ⟨.collected w.heap.size, #[]⟩ :: a.defers } (.returned v) w3 := by
    rcases ho with ⟨xs, hfx, rfl⟩ | ⟨j, Rx, hx, rfl⟩
    ·obtain ⟨w4, k1, k2⟩ := fin1 .ready none (R xs) rfl (by simp) (hS xs) (hok xs) (hfr xs)
     exact ⟨none, w4, k1, env0, R xs, (done xs hfx).out, k2⟩
    ·obtain ⟨w4, k1, k2⟩ := fin1 .done (some j) Rx rfl (by simp) (hSX j Rx hx) (hokX j Rx hx) (hfrX j Rx hx)
     refine ⟨some j, w4, k1, ?_⟩
     have hst := stop j Rx hx
     cases j with
     | ret => exact wpIn_ret ⟨env0, Rx, hst, k2⟩
     | exit id => exact wpIn_exit ⟨env0, Rx, hst, k2⟩
     | _ => exact hst.elim
   have hlb : l.b = w.heap.size + 1 := hw1
   rw [hlb] at hpost
   exact hpost
 exact ⟨⟨core⟩⟩
end Go.T
namespace Go.T
open Go
variable [Noise]
section
variable {P : Program} {env : Env} {dst : Option Tmp} {ty : TypeId} {pos : String} {aft : Array Edge} {g : Option (Nat × Bool)}
theorem addr_add' (b o n : Nat) : (Addr.mk b o none).add n = ⟨b, o + n, none⟩ := by
 unfold Addr.add; split
 ·rename_i h; subst h; rfl
 ·rfl
theorem q_indexBA {t e : TypeId} {x y : Operand} {id off n sz o2 : Nat} {k : IntKind} {i : Int} (hu : P.underlying t = some (.array n e)) (hs : ∀ w, (sizeOf e).run P w = .ok sz w) (hx : env.op x = some (.box id off)) (hy : env.op y = some (.raw (.int k i))) (h0 : 0 ≤ i) (hi : i.toNat < n) (ho : off + i.toNat * sz = o2) (obs : Obs) :
  QStep P ⟨dst, .indexAddr t x y, ty, pos, aft, g⟩ env obs (.box id o2) obs :=
 .val fun O ρ a w _ hv => by
  have h1 := hv x (by simp [Op.operands]) _ hx
  have h2 := hv y (by simp [Op.operands]) _ hy
  simp only [V] at h1 h2
  obtain ⟨l, hl, e1⟩ := h1
  have hlt : i < (n : Int) := by omega
  refine ⟨.pointer (some ⟨l.b, o2, none⟩), ?_, by simp only [V]; exact ⟨l, hl, rfl⟩⟩
  simp [execOp, Instr.indexAt, Instr.sureAddr, asIntOf, h2, e1, run_und hu, hs, h0, hlt, addr_add', ho]
end
theorem Fc.of_calls {P : Program} {f : FuncId} {args : List D} {r : D} (h : ∀ w O ρ vals, Gl w O → Vs w O ρ args vals → Calls P f vals.toArray w (fun e w' => ∃ v, e = .returned v ∧ V w' O ρ r v ∧ Keep w w')) : Fc P f args r := ⟨fun w O ρ vals _ hg hv => h w O ρ vals hg hv⟩
theorem Vs.str2 {w : World} {O : Nat → Prop} {ρ : Rho} {s t : Str} {vals : List Value} (h : Vs w O ρ [.str s, .str t] vals) : vals = [.string ⟨s.toArray⟩, .string ⟨t.toArray⟩] ∧ s.length ≤ big ∧ t.length ≤ big := by
 simp only [Vs, V] at h
 obtain ⟨u, us, rfl, ⟨rfl, hb⟩, u', us', rfl, ⟨rfl, hb'⟩, rfl⟩ := h
 exact ⟨rfl, hb, hb'⟩
end Go.T
