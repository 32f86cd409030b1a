/-
  Contracts of the functions that the statement reaches, and the logic in which they are proved (no condition): parts Core14, Core15, Spec1, Spec2, Spec3, Spec4, Spec5, Spec6, Spec7.
-/
import Derived.Test.YtlhemheagekhaaaGreatDoorA03
import Derived.Laws.StructEq
import Derived.Laws.Runes
set_option linter.all false
namespace Go.T
open Go
variable [Noise]
theorem blk_set {c : List Value} {off len p : Nat} {us : List Value} (h : p + us.length ≤ len) (h2 : off + len ≤ c.length) :
  ((c.take (off + p) ++ us ++ c.drop (off + p + us.length)).drop off).take len = ((c.drop off).take len).take p ++ us ++ ((c.drop off).take len).drop (p + us.length) := by
 apply List.ext_getElem?
 intro i
 simp only [List.getElem?_take, List.getElem?_drop, List.getElem?_append, List.length_append, List.length_take, List.length_drop]
 grind
theorem flat_len {sz : Nat} : ∀ (rows : List (List D)), (∀ r ∈ rows, r.length = sz) → rows.flatten.length = rows.length * sz
 | [], _ => by simp
 | r :: rows, h => by
  have := flat_len rows (fun r hr => h r (List.mem_cons_of_mem _ hr))
  simp only [List.flatten_cons, List.length_append, this, h r List.mem_cons_self, List.length_cons, Nat.add_mul, Nat.one_mul]; omega
theorem flat_set {sz k m : Nat} {ds : List D} : ∀ (rows : List (List D)) (j : Nat) (r r' : List D), (∀ r ∈ rows, r.length = sz) → rows[j]? = some r → r' = r.take k ++ ds ++ r.drop (k + m) → k + m ≤ sz →
  (rows.set j r').flatten = rows.flatten.take (j * sz + k) ++ ds ++ rows.flatten.drop (j * sz + k + m)
 | [], j, r, r', _, h, _, _ => by simp at h
 | q :: rows, 0, r, r', hl, h, e, hk => by
  simp only [List.getElem?_cons_zero, Option.some.injEq] at h
  subst h
  have hq := hl q List.mem_cons_self
  simp only [List.set_cons_zero, List.flatten_cons, Nat.zero_mul, Nat.zero_add]
  rw [List.take_append_of_le_length (by omega), List.drop_append_of_le_length (by omega), e]
  simp
 | q :: rows, j + 1, r, r', hl, h, e, hk => by
  have hq := hl q List.mem_cons_self
  have ih := flat_set rows j r r' (fun r hr => hl r (List.mem_cons_of_mem _ hr)) (by simpa using h) e hk
  simp only [List.set_cons_succ, List.flatten_cons, ih]
  have e1 : (j + 1) * sz + k = q.length + (j * sz + k) := by rw [hq, Nat.add_mul]; omega
  have e2 : (j + 1) * sz + k + m = q.length + (j * sz + k + m) := by rw [hq, Nat.add_mul]; omega
  rw [e2, e1, List.drop_length_add_append, List.take_length_add_append]
  simp
theorem Vr.lens {w : World} {O : Nat → Prop} {b sz : Nat} : ∀ (rs : List (List D)) (off : Nat), Vr w O b off sz rs → ∀ r ∈ rs, r.length = sz
 | [], _, _ => by simp
 | r :: rs, off, h => by
  simp only [Vr] at h
  intro r' hr
  rcases List.mem_cons.1 hr with rfl | hr
  ·exact h.1.1
  ·exact Vr.lens rs _ h.2 r' hr
/-- Cells of an array are written. -/
theorem Vr.set {w w' : World} {O O' : Nat → Prop} {b sz off k : Nat} {c : Array Value} {T : TypeId} {rows : List (List D)} {us : List Value} {cs : List D} (hb : w.heap[b]? = some (.cells c T (0, 0))) (hv : Vr w O b off sz rows) (hk : Kept w O w' O')
  (hsz : off + rows.length * sz ≤ c.size) (j : Nat) (r r' : List D) (hj : rows[j]? = some r) (hr' : r' = r.take k ++ cs ++ r.drop (k + cs.length)) (hkl : k + cs.length ≤ sz) (hus : Vs w O rho0 cs us) (h1 : ∀ u ∈ us, u.oneCell' = true)
  (hb' : w'.heap[b]? = some (.cells (setMany c (off + (j * sz + k)) us) T (0, 0))) : Vr w' O' b off sz (rows.set j r') := by
 have hl := hv.lens
 have hfl := flat_len rows hl
 obtain ⟨h2, h3⟩ := hv.flat
 obtain ⟨h4, h5, _⟩ := Vc.to_Vs hb _ _ h2
 have hul := hus.length
 have hjl : j < rows.length := (List.getElem?_eq_some_iff.1 hj).1
 have hjs : j * sz + sz ≤ rows.length * sz := by
  have := Nat.mul_le_mul_right sz (show j + 1 ≤ rows.length by omega)
  rw [Nat.add_mul] at this; omega
 have hfs := flat_set (ds := cs) rows j r r' hl hj hr' hkl
 have hlen' : (rows.set j r').flatten.length = rows.flatten.length := by
  rw [hfs]; simp only [List.length_append, List.length_take, List.length_drop]; omega
 have hcl : c.toList.length = c.size := by simp
 have hblk := blk_set (c := c.toList) (off := off) (len := rows.flatten.length) (p := j * sz + k) (us := us) (by omega) (by omega)
 have hsm := setMany_toList us c (off + (j * sz + k)) (by omega)
 refine Vr.of_blk hb' _ _ ?_ ?_ ?_
 ·intro q hq
  rcases List.mem_or_eq_of_mem_set hq with hq | rfl
  ·exact hl q hq
  ·have := hl r (List.mem_of_getElem? hj)
   rw [hr']; simp only [List.length_append, List.length_take, List.length_drop]; omega
 ·rw [hlen', hsm, ← Nat.add_assoc, Nat.add_assoc off, hblk, hfs, hul]
  exact Vs.mono hk (RhoLe.refl _) _ _ (((h4.take _).append hus).append (h4.drop _))
 ·rw [hlen', hsm, ← Nat.add_assoc, Nat.add_assoc off, hblk]
  intro v hv
  simp only [List.mem_append] at hv
  rcases hv with (hv | hv) | hv
  ·exact h5 v (List.mem_of_mem_take hv)
  ·exact h1 v hv
  ·exact h5 v (List.mem_of_mem_drop hv)
section
variable {P : Program} {env : Env} {dst : Option Tmp} {ty : TypeId} {pos : String} {aft : Array Edge} {g : Option (Nat × Bool)}
theorem q_indexG {t e : TypeId} {x y : Operand} {id n sz off : Nat} {k : IntKind} {i : Int} (hu : P.underlying t = some (.slice e)) (hs : ∀ w, (sizeOf e).run P w = .ok sz w) (hx : env.op x = some (.gs id n)) (hy : env.op y = some (.raw (.int k i))) (h0 : 0 ≤ i) (hi : i.toNat < n) (ho : i.toNat * sz = off) (obs : Obs) :
  QStep P ⟨dst, .indexAddr t x y, ty, pos, aft, g⟩ env obs (.eptr id off) obs :=
 .val fun _ _ a w _ hv => by
  have h1 := hv x (by simp [Op.operands]) _ hx
  have h2 := hv y (by simp [Op.operands]) _ hy
  simp only [V] at h1 h2
  rcases h1 with ⟨h1, _⟩ | ⟨_, l, h3, h4⟩
  ·omega
  ·refine ⟨.pointer (some ⟨l.b, l.off + off, none⟩), ?_, ?_⟩
   ·have h8 : i < (n : Int) := by omega
    simp [execOp, Instr.indexAt, h4, h2, asIntOf, run_und hu, h0, h8, hs, addr_add, ho]
   ·simp only [V]; exact ⟨l, h3, rfl⟩
theorem q_fieldG {t : TypeId} {x : Operand} {f n id off off' : Nat} {fs : Array Field} (ft : TypeId) (fo : Nat) (hu : P.underlying t = some (.struct fs)) (hs : ∀ w, (sizeOf ft).run P w = .ok (n + 1) w) (hf : (fs[f]?).map (fun x => (x.type, x.offset)) = some (ft, fo)) (hx : env.op x = some (.eptr id off)) (hd : off + fo = off') (obs : Obs) :
  QStep P ⟨dst, .fieldAddr t x f, ty, pos, aft, g⟩ env obs (.eptr id off') obs :=
 .val fun _ _ a w _ hv => by
  have h1 := hv x (by simp [Op.operands]) _ hx
  simp only [V] at h1
  obtain ⟨l, h2, e⟩ := h1
  obtain ⟨fl, hfl, hfe⟩ := Option.map_eq_some_iff.1 hf
  cases hfe
  subst hd
  refine ⟨.pointer (some ⟨l.b, l.off + (off + fl.offset), none⟩), ?_, ?_⟩
  ·simp [execOp, Instr.fieldAt, e, run_und hu, hfl, Instr.sureAddr, fieldPlace, hs, addr_add, Nat.add_assoc]
  ·simp only [V]; exact ⟨l, h2, rfl⟩
theorem q_loadGA {t : TypeId} {x : Operand} {id off n sz j : Nat} {rows : List (List D)} {r : List D} {obs : Obs} (ht : ∀ w, (isAgg t).run P w = .ok true w) (hs : ∀ w, (sizeOf t).run P w = .ok n w) (hx : env.op x = some (.eptr id off)) (ho : obs.get id = some (.arr sz rows)) (hn : n = sz) (hoff : off = j * sz) (hr : rows[j]? = some r) :
  QStep P ⟨dst, .load t x, ty, pos, aft, g⟩ env obs (.agg r) obs :=
 .val fun O ρ a w hok hv => by
  have h1 := hv x (by simp [Op.operands]) _ hx
  simp only [V] at h1
  obtain ⟨l, h2, e⟩ := h1
  have hlive : (Ob.arr sz rows).live = true := by
   cases rows with
   | nil => simp at hr
   | cons => rfl
  obtain ⟨l', h3, _, c, T, h4, _, _, h5⟩ := hok.own id _ ho hlive
  rw [h2] at h3; cases h3
  obtain ⟨h6, h7⟩ := h5.get _ _ j r hr
  obtain ⟨us, h8, h9, _⟩ := run_loadCells (P := P) r (l.off + j * sz) 0 #[] (by simpa using h7)
  subst hoff; subst hn
  refine ⟨.agg us.toArray, ?_, ?_⟩
  ·rw [h6] at h8
   simp [execOp, Instr.loadAt, e, Instr.sureAddr, loadVar, ht, hs, loadCells, h8 w rfl]
  ·simp only [V]; exact ⟨_, rfl, by simpa using h9.rho⟩
theorem q_storeGA {t : TypeId} {x y : Operand} {id off n sz j : Nat} {rows : List (List D)} {cs : List D} {obs : Obs} (hs : ∀ w, (sizeOf t).run P w = .ok n w) (hx : env.op x = some (.eptr id off)) (hy : env.op y = some (.agg cs)) (hn : cs.length = n) (h1 : oneL cs = true) (hp : D.pureB.pureL cs = true) (ho : obs.get id = some (.arr sz rows)) (hns : n = sz) (hoff : off = j * sz) (hj : j < rows.length) :
  QStep P ⟨dst, .store t x y, ty, pos, aft, g⟩ env obs (.raw undef) (obs.set id (.arr sz (rows.set j cs))) :=
 .step fun O ρ a w hok hv => by
  have hv1 := hv x (by simp [Op.operands]) _ hx
  have hv2 := hv y (by simp [Op.operands]) _ hy
  simp only [V] at hv1 hv2
  obtain ⟨us, e2, h7⟩ := hv2
  obtain ⟨l, h2, e⟩ := hv1
  have hlive : (Ob.arr sz rows).live = true := by
   cases rows with
   | nil => simp at hj
   | cons => rfl
  obtain ⟨l', h3, _, c, T, h4, hc, hrl, h5⟩ := hok.own id _ ho hlive
  rw [h2] at h3; cases h3
  have hlen := h7.length
  simp only [Array.length_toList] at hlen
  subst hoff; subst hns
  have hjs : j * n + n ≤ rows.length * n := by
   have := Nat.mul_le_mul_right n (show j + 1 ≤ rows.length by omega)
   rw [Nat.add_mul] at this; omega
  have hrc : rows.length * n ≤ l.cap * n := Nat.mul_le_mul_right n hrl.1
  have h6 := run_storeCells (P := P) us.toList w c (l.off + j * n) 0 h4 (by simp; omega) (h7.one h1)
  refine ⟨undef, _, ρ, .inr ⟨?_, rfl⟩, Tr.upd (o' := .arr n (rows.set j cs)) hok ho hlive h2 (.cells (setMany c (l.off + j * n + 0) us.toList) T (0, 0)) ?_, by simp [V]⟩
  ·have : us.size = n := by omega
   simp [execOp, Instr.storeAt, e, e2, Instr.sureAddr, storeVar, Value.cells, hs, this, h6]
  ·intro hk
   refine ⟨setMany c (l.off + j * n) us.toList, T, by simp [(Array.getElem?_eq_some_iff.1 h4).1], by rw [setMany_size]; exact hc, by simpa using hrl, ?_⟩
   exact Vr.set (k := 0) h4 h5 hk (by omega) j (rows[j]) cs (by simp [hj]) (by have := (h5.lens) rows[j] (List.getElem_mem hj); simp; omega) (by omega) (Vs.pure _ _ hp h7) (h7.one h1) (by simp [(Array.getElem?_eq_some_iff.1 h4).1])
theorem q_loadG1 {t : TypeId} {x : Operand} {id off sz : Nat} {rows : List (List D)} {r : List D} {d : D} {obs : Obs} (j k : Nat) (ht : ∀ w, (isAgg t).run P w = .ok false w) (hx : env.op x = some (.eptr id off)) (ho : obs.get id = some (.arr sz rows)) (hoff : off = j * sz + k) (hr : rows[j]? = some r) (hd : r[k]? = some d) :
  QStep P ⟨dst, .load t x, ty, pos, aft, g⟩ env obs d obs :=
 .val fun O ρ a w hok hv => by
  have h1 := hv x (by simp [Op.operands]) _ hx
  simp only [V] at h1
  obtain ⟨l, h2, e⟩ := h1
  have hlive : (Ob.arr sz rows).live = true := by
   cases rows with
   | nil => simp at hr
   | cons => rfl
  obtain ⟨l', h3, _, c, T, h4, _, _, h5⟩ := hok.own id _ ho hlive
  rw [h2] at h3; cases h3
  obtain ⟨h6, h7⟩ := h5.get _ _ j r hr
  obtain ⟨v, h8, h9⟩ := h7.get _ _ k d hd
  subst hoff
  rw [Nat.add_assoc] at h8
  exact ⟨v, by simp [execOp, Instr.loadAt, e, Instr.sureAddr, loadVar, ht, h8], h9.rho⟩
theorem q_storeG1 {t : TypeId} {x y : Operand} {id off sz : Nat} {rows : List (List D)} {r : List D} {d : D} {obs : Obs} (j k : Nat) (hs : ∀ w, (sizeOf t).run P w = .ok 1 w) (hx : env.op x = some (.eptr id off)) (hy : env.op y = some d) (h1 : d.one = true) (hp : d.pureB = true) (ho : obs.get id = some (.arr sz rows)) (hoff : off = j * sz + k) (hr : rows[j]? = some r) (hk : k < r.length) :
  QStep P ⟨dst, .store t x y, ty, pos, aft, g⟩ env obs (.raw undef) (obs.set id (.arr sz (rows.set j (r.set k d)))) :=
 .step fun O ρ a w hok hv => by
  have hv1 := hv x (by simp [Op.operands]) _ hx
  have hv2 := hv y (by simp [Op.operands]) _ hy
  simp only [V] at hv1
  obtain ⟨l, h2, e⟩ := hv1
  have hj : j < rows.length := (List.getElem?_eq_some_iff.1 hr).1
  have hlive : (Ob.arr sz rows).live = true := by
   cases rows with
   | nil => simp at hj
   | cons => rfl
  obtain ⟨l', h3, _, c, T, h4, hc, hrl, h5⟩ := hok.own id _ ho hlive
  rw [h2] at h3; cases h3
  subst hoff
  have hrs := (h5.get _ _ j r hr).1
  have hjs : j * sz + sz ≤ rows.length * sz := by
   have := Nat.mul_le_mul_right sz (show j + 1 ≤ rows.length by omega)
   rw [Nat.add_mul] at this; omega
  have hrc : rows.length * sz ≤ l.cap * sz := Nat.mul_le_mul_right sz hrl.1
  have h6 := run_storeCells (P := P) [a.eval y] w c (l.off + (j * sz + k)) 0 h4 (by simp; omega) (by simpa using hv2.one h1)
  refine ⟨undef, _, ρ, .inr ⟨?_, rfl⟩, Tr.upd (o' := .arr sz (rows.set j (r.set k d))) hok ho hlive h2 (.cells (setMany c (l.off + (j * sz + k) + 0) [a.eval y]) T (0, 0)) ?_, by simp [V]⟩
  ·simp [execOp, Instr.storeAt, e, Instr.sureAddr, storeVar, cells_one (hv2.one h1), hs, h6]
  ·intro hk'
   refine ⟨setMany c (l.off + (j * sz + k)) [a.eval y], T, by simp [(Array.getElem?_eq_some_iff.1 h4).1], by rw [setMany_size]; exact hc, by simpa using hrl, ?_⟩
   exact Vr.set (k := k) (cs := [d]) h4 h5 hk' (by omega) j r _ hr (by simp [List.set_eq_take_append_cons_drop, hk]) (by simp; omega) (by simp only [Vs]; exact ⟨_, _, rfl, V.pure _ _ hp hv2, rfl⟩) (by simpa using hv2.one h1) (by simp [(Array.getElem?_eq_some_iff.1 h4).1])
/-! Structs of strings are compared. -/
inductive StrF (P : Program) : List Field → Nat → Prop
 | nil (k : Nat) : StrF P [] k
 | cons {f : Field} {fs : List Field} {k : Nat} (hn : (f.name == "_") = false) (hu : P.underlying f.type = some .string) (ha : ∀ w, (isAgg f.type).run P w = .ok false w) (ho : f.offset = k) (r : StrF P fs (k + 1)) : StrF P (f :: fs) k
theorem eqFields_str {P : Program} {d : Nat} {xs ys : List Str} {fs : List Field} {k : Nat} (h : StrF P fs k) (hx : k + fs.length = xs.length) (hy : k + fs.length = ys.length) (w : World) :
  (Op.eqFields (d + 1) (xs.map fun s => Value.string ⟨s.toArray⟩).toArray (ys.map fun s => Value.string ⟨s.toArray⟩).toArray fs).run P w = .ok (decide (xs.drop k = ys.drop k)) w := by
 induction h with
 | nil k =>
  simp only [List.length_nil, Nat.add_zero] at hx hy
  rw [List.drop_of_length_le (by omega), List.drop_of_length_le (by omega)]
  simp [Op.eqFields]
 | @cons f fs k hn hu ha ho r ih =>
  simp only [List.length_cons] at hx hy
  have ih := ih (by omega) (by omega)
  have h1 : k < xs.length := by omega
  have h2 : k < ys.length := by omega
  have hdec : decide (xs.drop k = ys.drop k) = (decide (xs[k] = ys[k]) && decide (xs.drop (k + 1) = ys.drop (k + 1))) := by
   rw [List.drop_eq_getElem_cons h1, List.drop_eq_getElem_cons h2]; simp only [List.cons.injEq, Bool.decide_and]
  rw [hdec]
  have hn' : f.name ≠ "_" := by simpa using hn
  simp only [Op.eqFields, hn', ne_eq, not_false_eq_true, if_true, Sem.run_bind, part, ha, Result.andThen_ok, Bool.false_eq_true, if_false, ho]
  simp only [List.getElem?_toArray, List.getElem?_map, List.getElem?_eq_getElem h1, List.getElem?_eq_getElem h2, Option.map_some, Sem.run_pure, Result.andThen_ok, run_equalIn_string _ _ _ _ _ hu, toList_str]
  by_cases e : xs[k] = ys[k]
  ·simp only [e, BEq.rfl, Bool.not_true, Bool.false_eq_true, if_false, decide_true, Bool.true_and]; exact ih
  ·have : (xs[k] == ys[k]) = false := by simpa using e
   simp only [this, Bool.not_false, if_true, Sem.run_pure, e, decide_false, Bool.false_and]
theorem Vs_strs {w : World} {O : Nat → Prop} {ρ : Rho} : ∀ {ss : List Str} {vs : List Value}, Vs w O ρ (ss.map D.str) vs → vs = ss.map fun s => Value.string ⟨s.toArray⟩
 | [], vs, h => by simpa [Vs] using h
 | s :: ss, vs, h => by
  simp only [List.map_cons, Vs, V] at h
  obtain ⟨u, us, rfl, h1, h2⟩ := h
  rw [h1.1, Vs_strs h2]; rfl
theorem q_cmpA {op : BinOp} {t t' : TypeId} {x y : Operand} {xs ys : List Str} {fs : List Field} (hop : op = .eql ∨ op = .neq) (hu : P.underlying t = some (.struct fs.toArray)) (hp : P.stoodInHeld t = false) (hg : P.eqGuardType P.depth t = false) (hf : StrF P fs 0) (hlx : xs.length = fs.length) (hly : ys.length = fs.length)
  (hx : env.op x = some (.agg (xs.map D.str))) (hy : env.op y = some (.agg (ys.map D.str))) (obs : Obs) : QStep P ⟨dst, .binOp op t x y t', ty, pos, aft, g⟩ env obs (.raw (.bool (if op = .eql then decide (xs = ys) else !decide (xs = ys)))) obs :=
 .val fun _ _ a w _ hv => by
  have h1 := hv x (by simp [Op.operands]) _ hx
  have h2 := hv y (by simp [Op.operands]) _ hy
  simp only [V] at h1 h2
  obtain ⟨us, e1, h1⟩ := h1
  obtain ⟨vs, e2, h2⟩ := h2
  have h1 := Vs_strs h1
  have h2 := Vs_strs h2
  have hfo : P.fieldsOf t = fs.toArray := by simp [Program.fieldsOf, hu]
  have h3 := run_equalIn_struct (P := P) w 9999 t us vs (by rw [hfo]; exact hu) hp
  have h4 : us = (xs.map fun s => Value.string ⟨s.toArray⟩).toArray := by rw [← h1]
  have h5 : vs = (ys.map fun s => Value.string ⟨s.toArray⟩).toArray := by rw [← h2]
  have h6 := eqFields_str (d := 9998) hf (xs := xs) (ys := ys) (by omega) (by omega) w
  rw [hfo] at h3
  simp only [h4, h5] at h3 e1 e2
  simp only [List.drop_zero] at h6
  refine ⟨.bool (if op = .eql then decide (xs = ys) else !decide (xs = ys)), ?_, by simp only [V]⟩
  rcases hop with rfl | rfl
  ·simp [execOp, e1, e2, run_eqGuard_agg _ _ _ _ _ _ _ hg, run_eql_struct, h3, h6]
  ·simp [execOp, e1, e2, run_eqGuard_agg _ _ _ _ _ _ _ hg, run_neq_struct, h3, h6]
theorem q_neqA {t t' : TypeId} {x y : Operand} {xs ys : List Str} {fs : List Field} {ds es : List D} (hu : P.underlying t = some (.struct fs.toArray)) (hp : P.stoodInHeld t = false) (hg : P.eqGuardType P.depth t = false) (hf : StrF P fs 0) (hlx : xs.length = fs.length) (hly : ys.length = fs.length)
  (hx : env.op x = some (.agg ds)) (hy : env.op y = some (.agg es)) (hd : ds = xs.map D.str) (he : es = ys.map D.str) (obs : Obs) : QStep P ⟨dst, .binOp .neq t x y t', ty, pos, aft, g⟩ env obs (.raw (.bool (!decide (xs = ys)))) obs := by
 subst hd; subst he
 exact q_cmpA (.inr rfl) hu hp hg hf hlx hly hx hy obs
/-- A letter as a text. -/
theorem q_runeS {s t : TypeId} {x : Operand} {k : IntKind} {n : Int} {c : UInt8} {u : TypeDesc} (hs : P.underlying s = some u) (ht : P.underlying t = some .string) (hx : env.op x = some (.raw (.int k n))) (h0 : 0 ≤ n) (h1 : n < 128) (hc : UInt8.ofNat n.toNat = c) (obs : Obs) :
  QStep P ⟨dst, .convert s t x, ty, pos, aft, g⟩ env obs (.str [c]) obs :=
 .val fun _ _ a w _ hv => ⟨.string ⟨#[c]⟩, by
  have h2 := hv x (by simp [Op.operands]) _ hx
  simp only [V] at h2
  have h3 : Utf8.encode n = ⟨#[c]⟩ := by
   have hv : Utf8.valid n = true := by simp [Utf8.valid]; omega
   have : n.toNat < 128 := by omega
   simp [Utf8.encode, hv, this, hc]
  simp [execOp, h2, run_convert_int_string w s t k n (by rw [hs]; rfl) ht, h3], by simp [V, big]⟩
end
end Go.T
namespace Go.T
open Go
variable [Noise]
theorem Vs.set_same {w : World} {O : Nat → Prop} {ρ : Rho} {ds : List D} {vs : List Value} {i : Nat} {d d' : D} (h : Vs w O ρ ds vs) (hi : ds[i]? = some d) (hd : ∀ v, V w O ρ d v → V w O ρ d' v) : Vs w O ρ (ds.set i d') vs := by
 obtain ⟨v, h3, h4⟩ := h.get i _ hi
 have h5 := Vs.set i h (hd v h4)
 have h6 : vs.set i v = vs := by
  obtain ⟨hl, he⟩ := List.getElem?_eq_some_iff.1 h3
  rw [← he]; exact List.set_getElem_self hl
 rwa [h6] at h5
/-- Another description of a cell of a variable. -/
theorem redescTr {O : Nat → Prop} {w : World} {ρ : Rho} {obs : Obs} {k i : Nat} {ds : List D} {d d' : D} (hok : ObsOK w O ρ obs) (hk : obs.get k = some (.cells ds)) (hi : ds[i]? = some d)
  (hd : ∀ v, V w (Ot O ρ obs) ρ d v → V w (Ot O ρ obs) ρ d' v) : Tr O w ρ obs w ρ (obs.set k (.cells (ds.set i d'))) := by
 have hO1 : ∀ b, Owned ρ (obs.set k (.cells (ds.set i d'))) b → Owned ρ obs b := by
  rintro b ⟨j, x, l, h1, h2, h3⟩
  rw [Obs.get_set] at h1
  by_cases e : k = j
  ·subst e; exact ⟨k, _, l, hk, rfl, h3⟩
  ·rw [if_neg e] at h1; exact ⟨j, x, l, h1, h2, h3⟩
 have hkp : Kept w (Ot O ρ obs) w (Ot O ρ (obs.set k (.cells (ds.set i d')))) := Kept.subO fun b => Or.imp _root_.id (hO1 b)
 refine ⟨RhoLe.refl _, Nat.le_refl _, fun _ _ _ => rfl, fun b hb => .inl (hO1 b hb), ⟨hok.lt, ?_, ?_, ?_⟩, rfl, rfl, Clk.eq rfl rfl⟩
 ·intro j hj
  rw [Obs.get_set] at hj
  by_cases e : k = j
  ·simp [e] at hj
  ·rw [if_neg e] at hj; exact hok.fresh j hj
 ·intro j x h1 h2
  rw [Obs.get_set] at h1
  by_cases e : k = j
  ·subst e
   simp only [if_true, Option.some.injEq] at h1
   subst h1
   obtain ⟨l, h3, h4, vs, T, h5, h6⟩ := hok.own k _ hk rfl
   exact ⟨l, h3, h4, vs, T, h5, Vs.mono hkp (RhoLe.refl _) _ _ (h6.set_same hi hd)⟩
  ·rw [if_neg e] at h1
   obtain ⟨l, h3, h4, h5⟩ := hok.own j x h1 h2
   exact ⟨l, h3, h4, h5.mono hkp (RhoLe.refl _) rfl⟩
 ·intro a b x x' l1 l2 h1 h2 h3 h4 h5 h6 h7
  have look : ∀ j y, (obs.set k (.cells (ds.set i d'))).get j = some y → y.live = true → ∃ y', obs.get j = some y' ∧ y'.live = true := by
   intro j y hy hl
   rw [Obs.get_set] at hy
   by_cases e : k = j
   ·subst e; exact ⟨_, hk, rfl⟩
   ·rw [if_neg e] at hy; exact ⟨y, hy, hl⟩
  obtain ⟨y, hy1, hy2⟩ := look a x h1 h3
  obtain ⟨z, hz1, hz2⟩ := look b x' h2 h4
  exact hok.inj a b y z l1 l2 hy1 hz1 hy2 hz2 h5 h6 h7
/-- The slice in a field of the variable k ceases to grow. -/
theorem Le.freezeO {F : Fr} {env : Env} {obs : Obs} {sz n : Nat} {rows : List (List D)} {ds : List D} (k i id : Nat) (hk : obs.get k = some (.cells ds)) (hi : ds[i]? = some (.gs id n)) (ho : obs.get id = some (.arr sz rows)) (hn : rows.length = n) :
  Le F env obs env ((obs.set id .dead).set k (.cells (ds.set i (.snap sz false rows)))) := .step fun O ρ w f hok hv => by
 have h1 := Tr.die id hok
 have hne : id ≠ k := by rintro rfl; rw [hk] at ho; cases ho
 have h2 := redescTr (d' := .snap sz false rows) h1.ok (k := k) (ds := ds) (by rw [Obs.get_set, if_neg hne]; exact hk) hi (fun v h => gs_snap hok ho hn (by simpa only [V] using h))
 have h3 := h1.trans h2
 exact ⟨ρ, h3, fun t d h => h3.V (hv t d h)⟩
/-- Another name for the slice in a field of the variable k. -/
theorem Le.renO {F : Fr} {env : Env} {obs : Obs} {sz n : Nat} {rows : List (List D)} {ds : List D} (k i id id' : Nat) (hk : obs.get k = some (.cells ds)) (hi : ds[i]? = some (.gs id n)) (ho : obs.get id = some (.arr sz rows)) (hn : rows.length = n) (hid : obs.get id' = none) :
  Le F env obs env (Obs.set ((id', .arr sz rows) :: obs.set id .dead) k (.cells (ds.set i (.gs id' n)))) := .step fun O ρ w f hok hv => by
 have hne : id ≠ k := by rintro rfl; rw [hk] at ho; cases ho
 have hne' : id' ≠ k := by rintro rfl; rw [hk] at hid; cases hid
 have hget : Obs.get ((id', .arr sz rows) :: obs.set id .dead) k = some (.cells ds) := by
  rw [Obs.get_cons, if_neg hne', Obs.get_set, if_neg hne]; exact hk
 cases rows with
 | nil =>
  subst hn
  have h1 := Tr.rename0 (id := id) (id' := id') (sz := sz) hok
  have h2 := redescTr (d' := .gs id' 0) h1.ok hget hi (fun v h => by simpa [V] using h)
  have h3 := h1.trans h2
  exact ⟨ρ, h3, fun t d h => h3.V (hv t d h)⟩
 | cons r rs =>
  obtain ⟨l, h4, _⟩ := hok.own id _ ho rfl
  have h1 := Tr.rename (id := id) (id' := id') hok ho rfl hid h4
  have h2 := redescTr (d' := .gs id' n) h1.ok hget hi (fun v h => by
   simp only [V] at h ⊢
   rcases h with h | ⟨h, l', h5, h6⟩
   ·exact .inl h
   ·have := h1.le id l h4
    rw [this] at h5; cases h5
    exact .inr ⟨h, l, upd_same .., h6⟩)
  have h3 := h1.trans h2
  exact ⟨_, h3, fun t d h => h3.V (hv t d h)⟩
theorem Le.subO {F : Fr} {env : Env} {obs : Obs} {ds : List D} {d d' : D} (k i : Nat) (hk : obs.get k = some (.cells ds)) (hi : ds[i]? = some d) (s : Sub d d') : Le F env obs env (obs.set k (.cells (ds.set i d'))) := .step fun O ρ w f hok hv => by
 have h3 := redescTr hok hk hi (fun v h => s.out _ _ _ _ h)
 exact ⟨ρ, h3, fun t d h => h3.V (hv t d h)⟩
/-- What the results are. -/
def Rd (P : Program) (fn : Func) (env : Env) (obs : Obs) (r : D) : Prop :=
 ∀ (O : Nat → Prop) (ρ : Rho) (tmps : Array Value) (w : World), ObsOK w O ρ obs → (∀ t d, env.get t = some d → V w (Ot O ρ obs) ρ d (tmps.getD t undef)) → ∃ v, (results fn tmps).run P w = .ok v w ∧ V w (Ot O ρ obs) ρ r v
def rdQ (P : Program) (fn : Func) (r : D) : Exit → Env → Obs → Prop
 | .ret, env, obs | .normal, env, obs => Rd P fn env obs r
 | _, _, _ => False
theorem Fc.mkR {P : Program} {f : FuncId} {fn : Func} {c : Code} {args : List D} {r : D} (hf : P.funcs[f]? = some fn) (hb : fn.body = some c) {N : Nat} (hN : fn.ntmps = N) (hn' : Nat.ble args.length N = true) (hp : D.pureB.pureL args = true) (hr : r.pureB = true)
  (h' : Run P ⟨N, [], false, none⟩ [c] (rdQ P fn r) (args0 args 0) []) : Fc P f args r := ⟨fun w O ρ vals hO hgl hv0 => by
 have hno : ∀ b, ¬ Owned rho0 [] b := fun b ⟨i, o, l, h1, _⟩ => by simp [Obs.get] at h1
 have hok : ObsOK w O rho0 [] := ⟨hO, fun _ _ => rfl, fun i o h1 => by simp [Obs.get] at h1, fun i j o o' l l' h1 => by simp [Obs.get] at h1⟩
 have hv : Vs w (Ot O rho0 []) rho0 args vals := Vs.mono (Kept.subO fun b hb => hb.elim _root_.id (fun g => (hno b g).elim)) (RhoLe.refl _) _ _ (Vs.pure args vals hp hv0)
 refine calls_of_WP hf hb h'.start (St.begin fn.ntmps hN (Nat.le_of_ble_eq_true hn') hok (hgl.mono (Kept.subO fun b hb => hb.elim _root_.id (fun g => (hno b g).elim))) hv [] none (fun _ _ e => by cases e)) ?_ ?_
 ·intro e env' obs' hq
  cases e <;> first | exact .inl rfl | exact .inr rfl | exact hq.elim
 ·intro e env' obs' tmps w' ρ' hq _ htr henv
  have : Rd P fn env' obs' r := by cases e <;> first | exact hq | exact hq.elim
  obtain ⟨v, h1, h2⟩ := this _ _ _ _ htr.ok henv
  refine ⟨v, h1, v, rfl, ?_, htr.size, fun b hb => htr.same b hb (hno b), htr.os⟩
  exact V.pure r _ hr (V.mono (O' := O) (Kept.subO fun b hb => Or.inl hb) (RhoLe.refl _) _ _ h2)⟩
section
variable {P : Program} {fn : Func} {env : Env} {obs : Obs}
/-- A struct in a variable. -/
theorem loadA_ok {O : Nat → Prop} {ρ : Rho} {w : World} {ty : TypeId} {id n : Nat} {ds : List D} {u : Value} (hok : ObsOK w O ρ obs) (ha : ∀ w, (isAgg ty).run P w = .ok true w) (hs : ∀ w, (sizeOf ty).run P w = .ok n w) (hn : ds.length = n) (ho : obs.get id = some (.cells ds)) (hu : V w (Ot O ρ obs) ρ (.box id 0) u) :
  ∃ a v, u = .pointer (some a) ∧ (loadVar ty a).run P w = .ok v w ∧ V w (Ot O ρ obs) ρ (.agg ds) v := by
 simp only [V] at hu
 obtain ⟨l, h2, e⟩ := hu
 obtain ⟨l', h3, _, vs, T, h4, h5⟩ := hok.own id _ ho rfl
 rw [h2] at h3; cases h3
 have hl := h5.length
 have h6 := run_loadBlk (P := P) h4 n 0 0 #[] (by simp at hl; omega)
 refine ⟨_, .agg ((vs.toList.drop 0).take n).toArray, e, ?_, ?_⟩
 ·simp [loadVar, ha, hs, loadCells, h6]
 ·simp only [V]
  refine ⟨_, rfl, ?_⟩
  have : vs.toList.take n = vs.toList := List.take_of_length_le (by omega)
  simpa [this] using h5
theorem load1_ok {O : Nat → Prop} {ρ : Rho} {w : World} {ty : TypeId} {id : Nat} {d : D} {u : Value} (hok : ObsOK w O ρ obs) (ha : ∀ w, (isAgg ty).run P w = .ok false w) (ho : obs.get id = some (.cells [d])) (hu : V w (Ot O ρ obs) ρ (.box id 0) u) :
  ∃ a v, u = .pointer (some a) ∧ (loadVar ty a).run P w = .ok v w ∧ V w (Ot O ρ obs) ρ d v := by
 simp only [V] at hu
 obtain ⟨l, h2, e⟩ := hu
 obtain ⟨l', h3, _, vs, T, h4, h5⟩ := hok.own id _ ho rfl
 rw [h2] at h3; cases h3
 obtain ⟨v, h6, h7⟩ := h5.get 0 d rfl
 have h8 := cell_of_blk h4 h6
 exact ⟨_, v, e, by simp [loadVar, ha, h8], h7⟩
theorem Rd.cA {p : Tmp} {ty : TypeId} {id n : Nat} {ds : List D} {r : D} (h : fn.results = #[.cell p ty]) (ha : ∀ w, (isAgg ty).run P w = .ok true w) (hs : ∀ w, (sizeOf ty).run P w = .ok n w) (hn : ds.length = n) (ht : env.get p = some (.box id 0)) (ho : obs.get id = some (.cells ds)) (s : Sub (.agg ds) r) : Rd P fn env obs r := by
 intro O ρ tmps w hok hv
 obtain ⟨a, v, e, h1, h2⟩ := loadA_ok (P := P) hok ha hs hn ho (hv p _ ht)
 have e' : tmps[p]?.getD undef = .pointer (some a) := by simpa using e
 exact ⟨v, by simp [results, h, e', asAddr, h1], s.out _ _ _ _ h2⟩
theorem Rd.cAt {p q : Tmp} {ty : TypeId} {id n : Nat} {ds : List D} {d r r' : D} (h : fn.results = #[.cell p ty, .tmp q]) (ha : ∀ w, (isAgg ty).run P w = .ok true w) (hs : ∀ w, (sizeOf ty).run P w = .ok n w) (hn : ds.length = n) (ht : env.get p = some (.box id 0)) (ho : obs.get id = some (.cells ds)) (hq : env.get q = some d) (s : Sub (.agg ds) r) (s' : Sub d r') : Rd P fn env obs (.tup [r, r']) := by
 intro O ρ tmps w hok hv
 obtain ⟨a, v, e, h1, h2⟩ := loadA_ok (P := P) hok ha hs hn ho (hv p _ ht)
 have e' : tmps[p]?.getD undef = .pointer (some a) := by simpa using e
 refine ⟨.tuple #[v, tmps.getD q undef], by simp [results, h, e', asAddr, h1], ?_⟩
 simp only [V]
 exact ⟨_, rfl, by simp only [Vs]; exact ⟨_, _, rfl, s.out _ _ _ _ h2, _, _, rfl, s'.out _ _ _ _ (hv q _ hq), rfl⟩⟩
theorem Rd.c1 {p : Tmp} {ty : TypeId} {id : Nat} {d r : D} (h : fn.results = #[.cell p ty]) (ha : ∀ w, (isAgg ty).run P w = .ok false w) (ht : env.get p = some (.box id 0)) (ho : obs.get id = some (.cells [d])) (s : Sub d r) : Rd P fn env obs r := by
 intro O ρ tmps w hok hv
 obtain ⟨a, v, e, h1, h2⟩ := load1_ok (P := P) hok ha ho (hv p _ ht)
 have e' : tmps[p]?.getD undef = .pointer (some a) := by simpa using e
 exact ⟨v, by simp [results, h, e', asAddr, h1], s.out _ _ _ _ h2⟩
theorem Rd.c11 {p q : Tmp} {ty ty' : TypeId} {id id' : Nat} {d d' r r' : D} (h : fn.results = #[.cell p ty, .cell q ty']) (ha : ∀ w, (isAgg ty).run P w = .ok false w) (ha' : ∀ w, (isAgg ty').run P w = .ok false w) (ht : env.get p = some (.box id 0)) (ho : obs.get id = some (.cells [d])) (ht' : env.get q = some (.box id' 0)) (ho' : obs.get id' = some (.cells [d'])) (s : Sub d r) (s' : Sub d' r') : Rd P fn env obs (.tup [r, r']) := by
 intro O ρ tmps w hok hv
 obtain ⟨a, v, e, h1, h2⟩ := load1_ok (P := P) hok ha ho (hv p _ ht)
 obtain ⟨a', v', e', h1', h2'⟩ := load1_ok (P := P) hok ha' ho' (hv q _ ht')
 have g : tmps[p]?.getD undef = .pointer (some a) := by simpa using e
 have g' : tmps[q]?.getD undef = .pointer (some a') := by simpa using e'
 refine ⟨.tuple #[v, v'], by simp [results, h, g, g', asAddr, h1, h1'], ?_⟩
 simp only [V]
 exact ⟨_, rfl, by simp only [Vs]; exact ⟨_, _, rfl, s.out _ _ _ _ h2, _, _, rfl, s'.out _ _ _ _ h2', rfl⟩⟩
end
end Go.T
namespace Go.T
open Go
structure Line where
 account : Str
 currency : Str
 amount : Str
 deriving DecidableEq, Inhabited
structure Entry where
 day : Int
 cause : Str
 lines : List Line
 deriving DecidableEq, Inhabited
structure Close where
 day : Int
 known : Int
 deriving DecidableEq, Inhabited
structure Posted where
 day : Int
 known : Int
 by_ : Str
 entry : Entry
 deriving DecidableEq, Inhabited
structure Balance where
 account : Str
 currency : Str
 amount : Str
 deriving DecidableEq, Inhabited
structure Term where
 name : Str
 amount : Str
 deriving DecidableEq, Inhabited
@[reducible] def encLine (x : Line) : List D := [.str x.account, .str x.currency, .str x.amount]
@[reducible] def encEntry (x : Entry) : List D := [.i x.day, .str x.cause, .snap 3 false (x.lines.map encLine)]
@[reducible] def encClose (x : Close) : List D := [.i x.day, .i x.known]
@[reducible] def encPosted (x : Posted) : List D := [.i x.day, .i x.known, .str x.by_, .i x.entry.day, .str x.entry.cause, .snap 3 false (x.entry.lines.map encLine)]
@[reducible] def encBalance (x : Balance) : List D := [.str x.account, .str x.currency, .str x.amount]
@[reducible] def encTerm (x : Term) : List D := [.str x.name, .str x.amount]
@[reducible] def sEntries (l : List Entry) : D := .snap 3 false (l.map encEntry)
@[reducible] def sLines (l : List Line) : D := .snap 3 false (l.map encLine)
@[reducible] def sCloses (l : List Close) : D := .snap 2 false (l.map encClose)
@[reducible] def sPosteds (l : List Posted) : D := .snap 6 false (l.map encPosted)
@[reducible] def sStrs (l : List Str) : D := .snap 1 false (l.map fun s => [.str s])
/-! Numbers in decimal texts. -/
def isDig (c : UInt8) : Bool := 48 ≤ c.toNat && c.toNat ≤ 57
def stripNeg : Str → Str × Bool
 | 45 :: r => (r, true)
 | s => (s, false)
def dropZ : Str → Str
 | 48 :: r => dropZ r
 | s => s
def digits (s : Str) : Str × Bool := if (stripNeg s).1.all isDig then (dropZ (stripNeg s).1, (stripNeg s).2 && decide (dropZ (stripNeg s).1 ≠ [])) else ([], false)
def canon (s : Str) : Str := if (digits s).2 then 45 :: (digits s).1 else (digits s).1
def natVal (d : Str) : Nat := d.foldl (fun a c => 10 * a + (c.toNat - 48)) 0
def val (s : Str) : Int := if (digits s).2 then -(natVal (digits s).1 : Int) else natVal (digits s).1
/-! Letters. -/
def causeChar (c : UInt8) : Bool := (97 ≤ c.toNat && c.toNat ≤ 122) || (48 ≤ c.toNat && c.toNat ≤ 57) || c.toNat == 95 || c.toNat == 45 || c.toNat == 32
def isCause (s : Str) : Bool := 1 ≤ s.length && s.length ≤ 48 && s.all causeChar
def nameChar (c : UInt8) : Bool := (97 ≤ c.toNat && c.toNat ≤ 122) || (48 ≤ c.toNat && c.toNat ≤ 57) || c.toNat == 95
def isName (s : Str) : Bool := 1 ≤ s.length && s.length ≤ 16 && s.all nameChar
def isCode (s : Str) : Bool := s.all (fun c => 65 ≤ c.toNat && c.toNat ≤ 90) && s.length == 3
def validDay (d : Int) : Bool := decide (-25567 ≤ d) && decide (d ≤ 84005)
def checkHead (e : Entry) : Int := if validDay e.day then if isCause e.cause then 0 else 23 else 13
/-! Sizes. -/
def greatLine (x : Line) : Bool := decide (60 < x.account.length) || decide (60 < x.currency.length) || decide (13 < x.amount.length)
def greatOne (e : Entry) : Bool := decide (60 < e.cause.length) || (decide (8 < e.lines.length) && decide (e.lines.length ≤ 64)) || decide (66 < e.lines.length) || e.lines.any greatLine
/-! Closings. -/
/-! Comparisons; account codes. -/
def cmpT (a b : Str) : Int := if Str.lt a b then -1 else if Str.lt b a then 1 else 0
def cmpLine (a b : Line) : Int := if cmpT a.account b.account ≠ 0 then cmpT a.account b.account else cmpT a.currency b.currency
def numCmp (a b : Str) : Int :=
 if (digits a).2 ≠ (digits b).2 then (if (digits a).2 then -1 else 1)
 else if (digits a).1.length ≠ (digits b).1.length then (if (digits a).1.length < (digits b).1.length then (if (digits a).2 then 1 else -1) else (if (digits a).2 then -1 else 1))
 else if Str.lt (digits a).1 (digits b).1 then (if (digits a).2 then 1 else -1) else if Str.lt (digits b).1 (digits a).1 then (if (digits a).2 then -1 else 1) else 0
def checkNum (s : Str) : Int := if canon s = s then 0 else 1
def negS (s : Str) : Str := if (digits s).2 = true ∨ (digits s).1 = [] then (digits s).1 else 45 :: (digits s).1
/-- The parts between dots: cur is what the present part has so far. -/
def segsFrom (cur : Str) : Str → List Str
 | [] => [cur]
 | c :: r => if c.toNat = 46 then cur :: segsFrom [] r else segsFrom (cur ++ [c]) r
def segments (s : Str) : List Str := segsFrom [] s
def checkCode (s : Str) : Int := if (segments s).all isName && decide ((segments s).length ≤ 6) then 0 else 3
def checkFields (l : Line) : Int := if checkCode l.account ≠ 0 then 3 else if isCode l.currency then (if checkNum l.amount ≠ 0 then 1 else 0) else 12
end Go.T
namespace Go.T
open Go
theorem head_get {s : Str} {n : Int} (hn : n = 0) (h : 0 < s.length) : s[n.toNat]? = some (s.headD 0) := by
 subst hn; cases s <;> simp_all
theorem stripNeg_T {s : Str} (h : 0 < s.length) (h' : (s.headD 0).toNat = 45) : stripNeg s = (s.drop 1, true) := by
 cases s with
 | nil => simp at h
 | cons c r =>
  have : c = 45 := UInt8.toNat_inj.1 (by simpa using h')
  subst this; rfl
theorem stripNeg_F {s : Str} (h : ¬ (0 < s.length ∧ (s.headD 0).toNat = 45)) : stripNeg s = (s, false) := by
 cases s with
 | nil => rfl
 | cons c r =>
  have h' : c ≠ 45 := by
   rintro rfl; simp at h
  unfold stripNeg
  split
  ·rename_i heq; simp at heq; exact absurd heq.1 h'
  ·rfl
theorem dropZ_T {s : Str} (h : 0 < s.length) (h' : (s.headD 0).toNat = 48) : dropZ s = dropZ (s.drop 1) := by
 cases s with
 | nil => simp at h
 | cons c r =>
  have : c = 48 := UInt8.toNat_inj.1 (by simpa using h')
  subst this; simp [dropZ]
theorem dropZ_F {s : Str} (h : ¬ (0 < s.length ∧ (s.headD 0).toNat = 48)) : dropZ s = s := by
 cases s with
 | nil => rfl
 | cons c r =>
  have h' : c ≠ 48 := by
   rintro rfl; simp at h
  unfold dropZ
  split
  ·rename_i heq; simp at heq; exact absurd heq.1 h'
  ·rfl
theorem dropZ_len (s : Str) : (dropZ s).length ≤ s.length := by
 induction s with
 | nil => simp [dropZ]
 | cons c r ih =>
  unfold dropZ
  split
  ·rename_i heq; simp at heq; rw [← heq.2]; simp; omega
  ·exact Nat.le_refl _
theorem stripNeg_len (s : Str) : (stripNeg s).1.length ≤ s.length := by
 unfold stripNeg; split <;> simp
theorem digits_len (s : Str) : (digits s).1.length ≤ s.length := by
 unfold digits
 split
 ·exact Nat.le_trans (dropZ_len _) (stripNeg_len s)
 ·simp
theorem stripNeg_len1 (s : Str) (h : (stripNeg s).2 = true) : (stripNeg s).1.length + 1 = s.length := by
 unfold stripNeg at *; split at h <;> simp_all
theorem dropZ_all (s : Str) (p : UInt8 → Bool) (h : s.all p = true) : (dropZ s).all p = true := by
 induction s with
 | nil => simpa [dropZ] using h
 | cons c r ih =>
  unfold dropZ
  split
  ·rename_i heq; simp at heq; rw [← heq.2]; exact ih (by simp at h ⊢; exact h.2)
  ·exact h
theorem digits_dig (s : Str) : (digits s).1.all isDig = true := by
 unfold digits
 split
 ·rename_i h; exact dropZ_all _ _ h
 ·rfl
theorem canon_len (s : Str) : (canon s).length ≤ s.length := by
 have h1 := digits_len s
 unfold canon
 split
 ·rename_i h
  have : (stripNeg s).2 = true := by
   unfold digits at h; split at h <;> simp_all
  have h2 := stripNeg_len1 s this
  have h3 : (digits s).1.length ≤ (stripNeg s).1.length := by
   unfold digits; split
   ·exact dropZ_len _
   ·simp
  simp; omega
 ·exact h1
theorem digits_len1 (s : Str) (h : (digits s).2 = true) : (digits s).1.length + 1 ≤ s.length := by
 have := canon_len s
 unfold canon at this; rw [if_pos h] at this; simpa using this
theorem drop1_take (s : Str) : (s.drop 1).take (s.length - 1) = s.drop 1 := List.take_of_length_le (by simp)
theorem digits_end1 {s cur : Str} (hd : (stripNeg s).1.all isDig = true) (hx : dropZ cur = dropZ (stripNeg s).1) (h : (cur.length : Int) ≤ 0 ∨ ¬ ((cur.headD 0).toNat : Int) = 48) : cur = (digits s).1 := by
 unfold digits
 rw [if_pos hd, ← hx]
 exact (dropZ_F (by omega)).symm
theorem digits_end2 {s cur : Str} (hd : (stripNeg s).1.all isDig = true) (hx : dropZ cur = dropZ (stripNeg s).1) (h : (cur.length : Int) ≤ 0 ∨ ¬ ((cur.headD 0).toNat : Int) = 48) : ((stripNeg s).2 && decide ((0 : Int) < cur.length)) = (digits s).2 := by
 unfold digits
 rw [if_pos hd, ← hx, dropZ_F (by omega)]
 cases cur <;> simp <;> omega
theorem digits_bad {s pre rest : Str} {x : UInt8} (hx : (stripNeg s).1 = pre ++ x :: rest) (h : (x.toNat : Int) < 48 ∨ 57 < (x.toNat : Int)) : digits s = ([], false) := by
 unfold digits
 rw [if_neg]
 rw [hx]
 simp only [List.all_append, List.all_cons, Bool.and_eq_true, not_and]
 intro _ h2
 simp [isDig] at h2
 omega
end Go.T
namespace Go.T
open Go
theorem rev_ind {α : Type} {p : List α → Prop} (h0 : p []) (h1 : ∀ l a, p l → p (l ++ [a])) (l : List α) : p l := by
  rw [← List.reverse_reverse l]
  induction l.reverse with
  | nil => simpa
  | cons a l ih => simpa using h1 _ a ih
theorem natVal_snoc (d : Str) (c : UInt8) : natVal (d ++ [c]) = 10 * natVal d + (c.toNat - 48) := by simp [natVal]
theorem natVal_lt : ∀ (d : Str), d.all isDig = true → natVal d < 10 ^ d.length := by
  refine rev_ind (by simp [natVal]) ?_
  intro d c ih h
  simp only [List.all_append, List.all_cons, List.all_nil, Bool.and_true, Bool.and_eq_true] at h
  have := ih h.1
  have hc : c.toNat - 48 ≤ 9 := by have := h.2; simp [isDig] at this; omega
  rw [natVal_snoc, List.length_append, List.length_singleton, Nat.pow_succ]; omega
theorem natVal_small {d : Str} (h : d.all isDig = true) (hl : d.length ≤ 17) : natVal d < 100000000000000000 := by
  have h1 := natVal_lt d h
  have h2 : 10 ^ d.length ≤ 10 ^ 17 := Nat.pow_le_pow_right (by omega) hl
  omega
/-- The digits of a number; none of 0. -/
def natDig (n : Nat) : Str := if h : n = 0 then [] else natDig (n / 10) ++ [UInt8.ofNat (48 + n % 10)]
decreasing_by omega
def ofInt (n : Int) : Str := if n < 0 then 45 :: natDig n.natAbs else natDig n.natAbs
def addS (a b : Str) : Str := ofInt (val a + val b)
theorem natDig_zero : natDig 0 = [] := by rw [natDig]; simp
theorem natDig_step {n : Nat} (h : n ≠ 0) : natDig n = natDig (n / 10) ++ [UInt8.ofNat (48 + n % 10)] := by rw [natDig]; simp [h]
theorem natDig_len (k : Nat) : ∀ n, n < 10 ^ k → (natDig n).length ≤ k := by
  induction k with
  | zero => intro n h; obtain rfl : n = 0 := by omega
            simp [natDig_zero]
  | succ k ih =>
    intro n h
    by_cases e : n = 0
    · subst e; simp [natDig_zero]
    · rw [natDig_step e]
      have := ih (n / 10) (by rw [Nat.pow_succ] at h; omega)
      simp; omega
theorem natDig_int {c : Int} (h : c ≠ 0) : natDig c.natAbs = natDig (c.tdiv 10).natAbs ++ [UInt8.ofNat (48 + c.natAbs % 10)] := by
  rw [natDig_step (by omega), Int.natAbs_tdiv]; rfl
theorem tmod_abs (c : Int) : (c.tmod 10).natAbs = c.natAbs % 10 := by rw [Int.natAbs_tmod]; rfl
theorem tdiv_abs (c : Int) : (c.tdiv 10).natAbs = c.natAbs / 10 := by rw [Int.natAbs_tdiv]; rfl
theorem val_bound {s : Str} (h : (digits s).1.length ≤ 17) : -100000000000000000 < val s ∧ val s < 100000000000000000 := by
  have := natVal_small (digits_dig s) h
  unfold val; split <;> omega
theorem wrap32_ok {n : Int} (h1 : -2147483648 ≤ n) (h2 : n ≤ 2147483647) : IntKind.i32.wrap n = n := IntWalk.i32_in n ⟨h1, h2⟩
end Go.T
namespace Go.T
open Go
theorem natDig_dig (n : Nat) : (natDig n).all isDig = true := by
 induction n using Nat.strongRecOn with
 | _ n ih =>
  by_cases e : n = 0
  ·subst e; simp [natDig_zero]
  ·rw [natDig_step e, List.all_append, ih (n / 10) (by omega)]
   have : (48 + n % 10) % 256 = 48 + n % 10 := Nat.mod_eq_of_lt (by omega)
   simp [isDig, this]; omega
theorem natVal_natDig (n : Nat) : natVal (natDig n) = n := by
 induction n using Nat.strongRecOn with
 | _ n ih =>
  by_cases e : n = 0
  ·subst e; simp [natDig_zero, natVal]
  ·rw [natDig_step e, natVal_snoc, ih (n / 10) (by omega)]
   have : (48 + n % 10) % 256 = 48 + n % 10 := Nat.mod_eq_of_lt (by omega)
   simp [this]; omega
theorem natDig_nil {n : Nat} : natDig n = [] ↔ n = 0 := by
 constructor
 ·intro h
  by_cases e : n = 0
  ·exact e
  ·rw [natDig_step e] at h; simp at h
 ·rintro rfl; exact natDig_zero
/-- No digit string that was written begins with 0. -/
theorem natDig_head (n : Nat) : ∀ c r, natDig n = c :: r → c.toNat ≠ 48 := by
 induction n using Nat.strongRecOn with
 | _ n ih =>
  intro c r h
  by_cases e : n = 0
  ·subst e; simp [natDig_zero] at h
  ·rw [natDig_step e] at h
   by_cases e2 : n / 10 = 0
   ·rw [e2, natDig_zero] at h
    simp only [List.nil_append, List.cons.injEq] at h
    rw [← h.1]
    have : (48 + n % 10) % 256 = 48 + n % 10 := Nat.mod_eq_of_lt (by omega)
    simp [this]; omega
   ·cases hd : natDig (n / 10) with
    | nil => exact absurd (natDig_nil.1 hd) e2
    | cons c' r' =>
     rw [hd] at h
     simp only [List.cons_append, List.cons.injEq] at h
     rw [← h.1]
     exact ih (n / 10) (by omega) c' r' hd
theorem dropZ_natDig (n : Nat) : dropZ (natDig n) = natDig n := by
 apply dropZ_F
 intro ⟨h1, h2⟩
 cases hd : natDig n with
 | nil => simp [hd] at h1
 | cons c r => rw [hd] at h2; exact natDig_head n c r hd (by simpa using h2)
theorem stripNeg_dig {s : Str} (h : s.all isDig = true) : stripNeg s = (s, false) := by
 apply stripNeg_F
 intro ⟨h1, h2⟩
 cases s with
 | nil => simp at h1
 | cons c r =>
  simp only [List.all_cons, Bool.and_eq_true, isDig, decide_eq_true_eq] at h
  simp at h2; omega
theorem digits_ofInt (n : Int) : digits (ofInt n) = (natDig n.natAbs, decide (n < 0)) := by
 unfold ofInt
 split
 ·rename_i h
  have : stripNeg (45 :: natDig n.natAbs) = (natDig n.natAbs, true) := rfl
  unfold digits
  rw [this]
  simp only [natDig_dig, if_true, dropZ_natDig, h, decide_true, Bool.true_and]
  have : natDig n.natAbs ≠ [] := by rw [ne_eq, natDig_nil]; omega
  simp [this]
 ·rename_i h
  unfold digits
  rw [stripNeg_dig (natDig_dig _)]
  simp [natDig_dig, dropZ_natDig, h]
theorem val_ofInt (n : Int) : val (ofInt n) = n := by
 unfold val
 rw [digits_ofInt]
 simp only [natVal_natDig, decide_eq_true_eq]
 split <;> omega
theorem ofInt_nil {n : Int} : ofInt n = [] ↔ n = 0 := by
 unfold ofInt
 split
 ·simp; omega
 ·rw [natDig_nil]; omega
theorem ofInt_zero : ofInt 0 = [] := ofInt_nil.2 rfl
theorem addS_ofInt (n : Int) (b : Str) : addS (ofInt n) b = ofInt (n + val b) := by rw [addS, val_ofInt]
theorem ofInt_digits {n : Int} (h : -100000000000000000 < n ∧ n < 100000000000000000) : (digits (ofInt n)).1.length ≤ 17 := by
 rw [digits_ofInt]; exact natDig_len 17 _ (by omega)
/-- The sum of the amounts of a currency. -/
def sumV (c : Str) : List Line → Int
 | [] => 0
 | l :: ls => (if l.currency = c then val l.amount else 0) + sumV c ls
theorem sumV_append (c : Str) (a b : List Line) : sumV c (a ++ b) = sumV c a + sumV c b := by
 induction a with
 | nil => simp [sumV]
 | cons x a ih => simp only [List.cons_append, sumV, ih]; omega
theorem val_13 {s : Str} (h : s.length ≤ 14) : -100000000000000 < val s ∧ val s < 100000000000000 := by
 have h1 := natVal_lt (digits s).1 (digits_dig s)
 have h2 := digits_len s
 have h3 : 10 ^ (digits s).1.length ≤ 10 ^ 14 := Nat.pow_le_pow_right (by omega) (by omega)
 unfold val; split <;> omega
theorem sumV_bound {c : Str} {ls : List Line} (h : ∀ l ∈ ls, l.amount.length ≤ 14) : -(ls.length * 100000000000000 : Int) ≤ sumV c ls ∧ sumV c ls ≤ ls.length * 100000000000000 := by
 induction ls with
 | nil => simp [sumV]
 | cons x ls ih =>
  have h1 := ih (fun l hl => h l (List.mem_cons_of_mem _ hl))
  have h2 := val_13 (h x List.mem_cons_self)
  simp only [sumV, List.length_cons]
  split <;> omega
def balanced (ls : List Line) : Bool := ls.all fun x => decide (sumV x.currency ls = 0)
/-- What the sizes say of an entry's lines. -/
def smallLine (l : Line) : Prop := l.account.length ≤ 60 ∧ l.currency.length ≤ 60 ∧ l.amount.length ≤ 14
def smallE (e : Entry) : Prop := e.cause.length ≤ 60 ∧ e.lines.length ≤ 66 ∧ ∀ l ∈ e.lines, smallLine l
/-- The lines one after the other; pre are those before. -/
def checkLines (pre : List Line) : List Line → Int
 | [] => 0
 | l :: ls => if checkFields l ≠ 0 then checkFields l else if l.amount = [] then 2 else if 0 < pre.length ∧ 0 ≤ cmpLine (pre.getLastD default) l then 8 else checkLines (pre ++ [l]) ls
def checkE (e : Entry) : Int :=
 if checkHead e ≠ 0 then checkHead e else if e.lines.length = 0 then 11 else if 64 < e.lines.length then 4
 else if checkLines [] e.lines ≠ 0 then checkLines [] e.lines else if balanced e.lines then 0 else 14
theorem idx_last {α β : Type} [Inhabited α] {l pre rest : List α} {n : Int} (f : α → β) (h : l = pre ++ rest) (h0 : 0 < pre.length) (hn : n = (pre.length : Int) - 1) : (l.map f)[n.toNat]? = some (f (pre.getLastD default)) := by
 subst h; subst hn
 have e : ((pre.length : Int) - 1).toNat = pre.length - 1 := by omega
 rw [e, List.getElem?_map, List.getElem?_append_left (by omega)]
 have : pre[pre.length - 1]? = some (pre.getLastD default) := by
  rw [← List.getLast?_eq_getElem?]
  cases pre with
  | nil => simp at h0
  | cons a l => simp [List.getLast?_cons, List.getLastD_cons, List.getLastD_eq_getLast?]
 rw [this]; rfl
/-! Closings in order. -/
def checkCl (pre : List Close) : List Close → Int
 | [] => 0
 | c :: cs => if c.day < -25567 ∨ 84005 ≤ c.day then 13 else if c.known < 0 then 2 else if 0 < pre.length ∧ (c.day ≤ (pre.getLastD default).day ∨ c.known < (pre.getLastD default).known) then 8 else checkCl (pre ++ [c]) cs
def checkCloses (l : List Close) : Int := if 64 < l.length then 4 else checkCl [] l
/-! Entries are compared. -/
def opposite (e : Entry) : Entry := { e with lines := e.lines.map fun l => { l with amount := negS l.amount } }
def validE (l : List Entry) : Bool := l.all fun e => decide (checkE e = 0)
end Go.T
namespace Go.T
open Go
end Go.T
namespace Go.T
open Go
end Go.T
namespace Go.T
open Go
theorem line_eq {x y : Line} (h : [x.account, x.currency, x.amount] = [y.account, y.currency, y.amount]) : y = x := by
 cases x; cases y; simp_all
theorem same_end {a b : Entry} {pre sb : List Line} (h : a.day = b.day ∧ a.cause = b.cause) (hx : a.lines = pre ++ []) (hb : b.lines = pre ++ sb) (hl : ([] : List Line).length = sb.length) : true = decide (a = b) := by
 obtain rfl : sb = [] := List.length_eq_zero_iff.1 hl.symm
 cases a; cases b; simp_all
theorem same_bad {a b : Entry} {pre sb rest : List Line} {x y : Line} (hx : a.lines = pre ++ x :: rest) (hb : b.lines = pre ++ y :: sb) (h : ¬ [x.account, x.currency, x.amount] = [y.account, y.currency, y.amount]) : false = decide (a = b) := by
 have : a ≠ b := by
  rintro rfl
  rw [hx] at hb
  simp at hb
  exact h (by rw [hb.1])
 simp [this]
end Go.T
