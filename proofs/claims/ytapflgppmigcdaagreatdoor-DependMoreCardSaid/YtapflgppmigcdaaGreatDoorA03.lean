/-
  Contracts of the functions that the statement reaches, and the logic in which they are proved (no condition): parts Core7, Core8, Core9, Core10, Core11, Sq, Core12, Core13, Sq2, Spec1, SpecD1.
-/
import Derived.Test.YtapflgppmigcdaaGreatDoorA02
import Derived.Tactics
import Derived.OwnWalk
set_option linter.all false
namespace Go.T
open Go
variable [Noise]
theorem QStep.step {P : Program} {o : Oper} {env : Env} {obs obs' : Obs} {d : D}
  (h : ∀ (O : Nat → Prop) (ρ : Rho) (a : Act) (w : World), ObsOK w O ρ obs → (∀ x ∈ o.op.operands.toList, ∀ d', env.op x = some d' → V w (Ot O ρ obs) ρ d' (a.eval x)) →
   ∃ v w' ρ', ((execOp a.eval o).run P w = .ok (.value v) w' ∨ ((execOp a.eval o).run P w = .ok .skip w' ∧ v = undef)) ∧ Tr O w ρ obs w' ρ' obs' ∧ V w' (Ot O ρ' obs') ρ' d v) : QStep P o env obs d obs' := by
 intro O ρ a w hok _ hv
 obtain ⟨v, w', ρ', h1, h2, h3⟩ := h O ρ a w hok hv
 unfold Oper.wp
 rcases h1 with h1 | ⟨h1, rfl⟩
 ·rw [h1]; exact ⟨ρ', v, rfl, h2, h3⟩
 ·rw [h1]; exact ⟨ρ', undef, rfl, h2, h3⟩
section
variable {P : Program} {env : Env} {dst : Option Tmp} {ty : TypeId} {pos : String} {aft : Array Edge} {g : Option (Nat × Bool)}
def rawD : Value → D
 | .string b => bif Nat.beq b.data.size 0 then .str [] else .raw (.string b)
 | v => .raw v
theorem rawD_V {w : World} {O : Nat → Prop} {ρ : Rho} (v : Value) : V w O ρ (rawD v) v := by
 cases v with
 | string b =>
  simp only [rawD]
  cases hb : Nat.beq b.data.size 0 with
  | false => simp [V]
  | true =>
   have : b.data = #[] := by
    have := Nat.eq_of_beq_eq_true hb
    exact Array.size_eq_zero_iff.1 this
   simp only [cond_true, V]
   refine ⟨?_, by simp⟩
   cases b; simp_all
 | _ => simp [rawD, V]
theorem Vs.raws {w : World} {O : Nat → Prop} {ρ : Rho} : ∀ (vs : List Value), Vs w O ρ (vs.map rawD) vs
 | [] => by simp [Vs]
 | v :: vs => by simp only [List.map_cons, Vs]; exact ⟨v, vs, rfl, rawD_V v, Vs.raws vs⟩
theorem q_alloc {t : TypeId} {z : Value} {obs : Obs} (id : Nat) (hz : ∀ w, (zeroValue t).run P w = .ok z w) (hid : obs.get id = none) : QStep P ⟨dst, .alloc t, ty, pos, aft, g⟩ env obs (.box id 0) ((id, .cells (z.cells.toList.map rawD)) :: obs) :=
 .step fun O ρ a w hok _ => by
  refine ⟨.pointer (some ⟨w.heap.size, 0, none⟩), { w with heap := w.heap.push (.cells z.cells t (0, 0)) }, T.upd ρ id ⟨w.heap.size, 0, 0⟩, .inl ?_, ?_, ?_⟩
  ·simp [execOp, Instr.alloc, hz, newVar, newRow]
  ·refine Tr.born hok hid _ rfl (fun _ _ h _ => h) (fun _ h => h) ?_
   intro _
   exact ⟨z.cells, t, by simp, Vs.raws _⟩
  ·simp only [V]; exact ⟨_, upd_same .., rfl⟩
theorem q_boxA {t : TypeId} {x : Operand} {cs : List D} {obs : Obs} (id : Nat) (hx : env.op x = some (.agg cs)) (hid : obs.get id = none) : QStep P ⟨dst, .box t x, ty, pos, aft, g⟩ env obs (.box id 0) ((id, .cells cs) :: obs) :=
 .step fun O ρ a w hok hv => by
  have h1 := hv x (by simp [Op.operands]) _ hx
  simp only [V] at h1
  obtain ⟨vs, e, h2⟩ := h1
  refine ⟨.pointer (some ⟨w.heap.size, 0, none⟩), { w with heap := w.heap.push (.cells vs t (0, 0)) }, T.upd ρ id ⟨w.heap.size, 0, 0⟩, .inl ?_, ?_, ?_⟩
  ·simp [execOp, Instr.box, e, newVar, newRow, Value.cells]
  ·refine Tr.born hok hid _ rfl (fun _ _ h _ => h) (fun _ h => h) ?_
   intro hk
   exact ⟨vs, t, by simp, Vs.mono hk (upd_le _ (hok.fresh id hid)) _ _ h2⟩
  ·simp only [V]; exact ⟨_, upd_same .., rfl⟩
theorem q_box1 {t : TypeId} {x : Operand} {d : D} {obs : Obs} (id : Nat) (hx : env.op x = some d) (hd : d.one = true) (hid : obs.get id = none) : QStep P ⟨dst, .box t x, ty, pos, aft, g⟩ env obs (.box id 0) ((id, .cells [d]) :: obs) :=
 .step fun O ρ a w hok hv => by
  have h1 := hv x (by simp [Op.operands]) _ hx
  refine ⟨.pointer (some ⟨w.heap.size, 0, none⟩), { w with heap := w.heap.push (.cells #[a.eval x] t (0, 0)) }, T.upd ρ id ⟨w.heap.size, 0, 0⟩, .inl ?_, ?_, ?_⟩
  ·simp [execOp, Instr.box, newVar, newRow, cells_one (h1.one hd)]
  ·refine Tr.born hok hid _ rfl (fun _ _ h _ => h) (fun _ h => h) ?_
   intro hk
   refine ⟨#[a.eval x], t, by simp, ?_⟩
   simp only [Vs]
   exact ⟨_, _, rfl, V.mono hk (upd_le _ (hok.fresh id hid)) _ _ h1, rfl⟩
  ·simp only [V]; exact ⟨_, upd_same .., rfl⟩
theorem q_fieldB {t : TypeId} {x : Operand} {f n : Nat} {fs : Array Field} {id off : Nat} (ft : TypeId) (fo : Nat) (hu : P.underlying t = some (.struct fs)) (hs : ∀ w, (sizeOf ft).run P w = .ok (n + 1) w) (hf : (fs[f]?).map (fun x => (x.type, x.offset)) = some (ft, fo)) (hx : env.op x = some (.box id off)) (obs : Obs) :
  QStep P ⟨dst, .fieldAddr t x f, ty, pos, aft, g⟩ env obs (.box id (off + fo)) obs :=
 .val fun _ _ a w _ hv => by
  have h1 := hv x (by simp [Op.operands]) _ hx
  simp only [V] at h1
  obtain ⟨l, h2, e⟩ := h1
  obtain ⟨fl, hfl, hfe⟩ := Option.map_eq_some_iff.1 hf
  cases hfe
  refine ⟨.pointer (some ⟨l.b, off + fl.offset, none⟩), ?_, ?_⟩
  ·simp [execOp, Instr.fieldAt, e, run_und hu, hfl, Instr.sureAddr, fieldPlace, hs, addr_add]
  ·simp only [V]; exact ⟨l, h2, rfl⟩
theorem cell_of_blk {w : World} {b off : Nat} {c : Array Value} {T : TypeId} {v : Value} (hb : w.heap[b]? = some (.cells c T (0, 0))) (hc : c.toList[off]? = some v) : w.cell? ⟨b, off, none⟩ = some v := by
 simpa [World.cell?, hb] using hc
theorem q_load1 {t : TypeId} {x : Operand} {id off : Nat} {ds : List D} {d : D} {obs : Obs} (ht : ∀ w, (isAgg t).run P w = .ok false w) (hx : env.op x = some (.box id off)) (ho : obs.get id = some (.cells ds)) (hd : ds[off]? = some d) : QStep P ⟨dst, .load t x, ty, pos, aft, g⟩ env obs d obs :=
 .val fun O ρ a w hok hv => by
  have h1 := hv x (by simp [Op.operands]) _ hx
  simp only [V] at h1
  obtain ⟨l, h2, e⟩ := h1
  obtain ⟨l', h3, _, vs, T, h4, h5⟩ := hok.own id _ ho rfl
  rw [h2] at h3; cases h3
  obtain ⟨v, h6, h7⟩ := h5.get off d hd
  exact ⟨v, by simp [execOp, Instr.loadAt, e, Instr.sureAddr, loadVar, ht, cell_of_blk h4 h6], h7⟩
theorem run_loadBlk {w : World} {b : Nat} {c : Array Value} {T : TypeId} (hb : w.heap[b]? = some (.cells c T (0, 0))) : ∀ (n off i : Nat) (acc : Array Value), off + i + n ≤ c.size →
  (loadCellsFrom ⟨b, off, none⟩ i n acc).run P w = .ok (acc ++ ((c.toList.drop (off + i)).take n).toArray) w
 | 0, off, i, acc, _ => by simp [loadCellsFrom]
 | n + 1, off, i, acc, h => by
  have hl : off + i < c.toList.length := by simp; omega
  have h1 := cell_of_blk (off := off + i) hb (List.getElem?_eq_getElem hl)
  simp only [loadCellsFrom, addr_add, Sem.run_bind, run_load, h1, Result.andThen_ok]
  rw [run_loadBlk hb n off (i + 1) _ (by omega), List.drop_eq_getElem_cons hl]
  simp [Nat.add_assoc]
theorem Vs.drop {w : World} {O : Nat → Prop} {ρ : Rho} : ∀ (n : Nat) {ds : List D} {vs : List Value}, Vs w O ρ ds vs → Vs w O ρ (ds.drop n) (vs.drop n)
 | 0, ds, vs, h => by simpa using h
 | n + 1, [], vs, h => by simp only [Vs] at h; subst h; simp [Vs]
 | n + 1, d :: ds, vs, h => by
  simp only [Vs] at h
  obtain ⟨u, us, rfl, h1, h2⟩ := h
  simpa using Vs.drop n h2
theorem Vs.take {w : World} {O : Nat → Prop} {ρ : Rho} : ∀ (n : Nat) {ds : List D} {vs : List Value}, Vs w O ρ ds vs → Vs w O ρ (ds.take n) (vs.take n)
 | 0, ds, vs, h => by simp [Vs]
 | n + 1, [], vs, h => by simp only [Vs] at h; subst h; simp [Vs]
 | n + 1, d :: ds, vs, h => by
  simp only [Vs] at h
  obtain ⟨u, us, rfl, h1, h2⟩ := h
  simp only [List.take_succ_cons, Vs]
  exact ⟨u, us.take n, rfl, h1, Vs.take n h2⟩
theorem q_loadA {t : TypeId} {x : Operand} {id off n : Nat} {ds cs : List D} {obs : Obs} (ht : ∀ w, (isAgg t).run P w = .ok true w) (hs : ∀ w, (sizeOf t).run P w = .ok n w) (hx : env.op x = some (.box id off)) (ho : obs.get id = some (.cells ds)) (hn : off + n ≤ ds.length) (hd : (ds.drop off).take n = cs) : QStep P ⟨dst, .load t x, ty, pos, aft, g⟩ env obs (.agg cs) obs :=
 .val fun O ρ a w hok hv => by
  have h1 := hv x (by simp [Op.operands]) _ hx
  simp only [V] at h1
  obtain ⟨l, h2, e⟩ := h1
  obtain ⟨l', h3, _, vs, T, h4, h5⟩ := hok.own id _ ho rfl
  rw [h2] at h3; cases h3
  have hl := h5.length
  have h6 := run_loadBlk (P := P) h4 n off 0 #[] (by simp at hl; omega)
  refine ⟨.agg ((vs.toList.drop off).take n).toArray, ?_, ?_⟩
  ·simp [execOp, Instr.loadAt, e, Instr.sureAddr, loadVar, ht, hs, loadCells, h6]
  ·simp only [V]
   refine ⟨_, rfl, ?_⟩
   rw [← hd]
   simpa using (h5.drop off).take n
theorem q_loadW {t : TypeId} {x : Operand} {id n : Nat} {ds : List D} {obs : Obs} (ht : ∀ w, (isAgg t).run P w = .ok true w) (hs : ∀ w, (sizeOf t).run P w = .ok n w) (hx : env.op x = some (.box id 0)) (ho : obs.get id = some (.cells ds)) (hn : ds.length = n) : QStep P ⟨dst, .load t x, ty, pos, aft, g⟩ env obs (.agg ds) obs :=
 q_loadA ht hs hx ho (by omega) (by subst hn; simp)
theorem q_store1 {t : TypeId} {x y : Operand} {id off : Nat} {ds : List D} {d : D} {obs : Obs} (hs : ∀ w, (sizeOf t).run P w = .ok 1 w) (hx : env.op x = some (.box id off)) (hy : env.op y = some d) (h1 : d.one = true) (ho : obs.get id = some (.cells ds)) (hl : off < ds.length) :
  QStep P ⟨dst, .store t x y, ty, pos, aft, g⟩ env obs (.raw undef) (obs.set id (.cells (ds.set off d))) :=
 .step fun O ρ a w hok hv => by
  have hv1 := hv x (by simp [Op.operands]) _ hx
  have hv2 := hv y (by simp [Op.operands]) _ hy
  simp only [V] at hv1
  obtain ⟨l, h2, e⟩ := hv1
  obtain ⟨l', h3, _, vs, T, h4, h5⟩ := hok.own id _ ho rfl
  rw [h2] at h3; cases h3
  have hlen := h5.length
  have h6 := run_storeCells (P := P) [a.eval y] w vs off 0 h4 (by simp at hlen ⊢; omega) (by simpa using hv2.one h1)
  refine ⟨undef, _, ρ, .inr ⟨?_, rfl⟩, Tr.upd (o' := .cells (ds.set off d)) hok ho rfl h2 (.cells (setMany vs (off + 0) [a.eval y]) T (0, 0)) ?_, by simp [V]⟩
  ·simp [execOp, Instr.storeAt, e, Instr.sureAddr, storeVar, cells_one (hv2.one h1), hs, h6]
  ·intro hk
   refine ⟨setMany vs off [a.eval y], T, by simp [(Array.getElem?_eq_some_iff.1 h4).1], ?_⟩
   have := Vs.setMany (cs := [d]) (us := [a.eval y]) (by simp only [Vs]; exact ⟨_, _, rfl, V.mono hk (RhoLe.refl _) _ _ hv2, rfl⟩) off (Vs.mono hk (RhoLe.refl _) _ _ h5)
   simpa [setL] using this
theorem q_storeA {t : TypeId} {x y : Operand} {id off n : Nat} {ds cs : List D} {obs : Obs} (hs : ∀ w, (sizeOf t).run P w = .ok n w) (hx : env.op x = some (.box id off)) (hy : env.op y = some (.agg cs)) (hn : cs.length = n) (h1 : oneL cs = true) (ho : obs.get id = some (.cells ds)) (hl : off + n ≤ ds.length) :
  QStep P ⟨dst, .store t x y, ty, pos, aft, g⟩ env obs (.raw undef) (obs.set id (.cells (setL ds off cs))) :=
 .step fun O ρ a w hok hv => by
  have hv1 := hv x (by simp [Op.operands]) _ hx
  have hv2 := hv y (by simp [Op.operands]) _ hy
  simp only [V] at hv1 hv2
  obtain ⟨us, e2, h7⟩ := hv2
  obtain ⟨l, h2, e⟩ := hv1
  obtain ⟨l', h3, _, vs, T, h4, h5⟩ := hok.own id _ ho rfl
  rw [h2] at h3; cases h3
  have hlen := h5.length
  have hlen2 := h7.length
  simp only [Array.length_toList] at hlen hlen2
  have h6 := run_storeCells (P := P) us.toList w vs off 0 h4 (by simp; omega) (h7.one h1)
  refine ⟨undef, _, ρ, .inr ⟨?_, rfl⟩, Tr.upd (o' := .cells (setL ds off cs)) hok ho rfl h2 (.cells (setMany vs (off + 0) us.toList) T (0, 0)) ?_, by simp [V]⟩
  ·have : us.size = n := by omega
   simp [execOp, Instr.storeAt, e, e2, Instr.sureAddr, storeVar, Value.cells, hs, this, h6]
  ·intro hk
   refine ⟨setMany vs off us.toList, T, by simp [(Array.getElem?_eq_some_iff.1 h4).1], ?_⟩
   exact Vs.setMany (Vs.mono hk (RhoLe.refl _) _ _ h7) off (Vs.mono hk (RhoLe.refl _) _ _ h5)
theorem setL_all : ∀ (cs ds pre : List D), cs.length = ds.length → setL (pre ++ ds) pre.length cs = pre ++ cs
 | [], ds, pre, h => by obtain rfl := List.length_eq_zero_iff.1 h.symm; simp [setL]
 | c :: cs, [], pre, h => by simp at h
 | c :: cs, d :: ds, pre, h => by
  have := setL_all cs ds (pre ++ [c]) (by simpa using h)
  simp only [setL]
  rw [List.set_append_right _ _ (Nat.le_refl _)]
  simpa using this
theorem q_storeW {t : TypeId} {x y : Operand} {id n : Nat} {ds cs : List D} {obs : Obs} (hs : ∀ w, (sizeOf t).run P w = .ok n w) (hx : env.op x = some (.box id 0)) (hy : env.op y = some (.agg cs)) (hn : cs.length = n) (h1 : oneL cs = true) (ho : obs.get id = some (.cells ds)) (hl : ds.length = n) :
  QStep P ⟨dst, .store t x y, ty, pos, aft, g⟩ env obs (.raw undef) (obs.set id (.cells cs)) := by
 have h := q_storeA (dst := dst) (ty := ty) (pos := pos) (aft := aft) (g := g) hs hx hy hn h1 ho (by omega)
 have h2 := setL_all cs ds [] (by omega)
 simp only [List.nil_append, List.length_nil] at h2
 rwa [h2] at h
end
end Go.T
namespace Go.T
open Go
variable [Noise]
def D.cellsL : D → List D
 | .agg cs => cs
 | d => [d]
def D.okc : D → Bool
 | .agg cs => oneL cs
 | d => d.one
theorem V.cellsL {w : World} {O : Nat → Prop} {ρ : Rho} {d : D} {v : Value} (hd : d.okc = true) (h : V w O ρ d v) : Vs w O ρ d.cellsL v.cells.toList := by
 cases d with
 | agg cs =>
  simp only [V] at h
  obtain ⟨vs, rfl, h⟩ := h
  simpa [D.cellsL, Value.cells] using h
 | _ =>
  have := h.one (by simpa [D.okc] using hd)
  rw [cells_one this]
  simp only [D.cellsL, Vs]
  exact ⟨v, [], rfl, h, rfl⟩
theorem okc_one {d : D} (h : d.okc = true) : oneL d.cellsL = true := by
 cases d <;> simp_all [D.okc, D.cellsL, oneL]
def fillD (place : Nat → Option (Nat × Nat)) (ds : List D) : List (Nat × D) → Option (List D)
 | [] => some ds
 | (i, d) :: rest => match place i with
  | none => none
  | some (off, size) => bif Nat.beq d.cellsL.length size && Nat.ble (off + size) ds.length && d.okc then fillD place (setL ds off d.cellsL) rest else none
theorem foldl_setMany (off : Nat) : ∀ (l : List Value) (c : Array Value) (j : Nat), (l.zipIdx j).foldl (fun cs (x : Value × Nat) => cs.setIfInBounds (off + x.2) x.1) c = setMany c (off + j) l
 | [], c, j => rfl
 | v :: l, c, j => by
  simp only [List.zipIdx_cons, List.foldl_cons, setMany]
  rw [foldl_setMany off l _ (j + 1)]; rfl
theorem fill_V {w : World} {O : Nat → Prop} {ρ : Rho} (place : Nat → Option (Nat × Nat)) : ∀ (pds : List (Nat × D)) (pvs : List (Nat × Value)) (ds : List D) (c : Array Value) (cs : List D), pds.map (·.1) = pvs.map (·.1) → Vs w O ρ (pds.map (·.2)) (pvs.map (·.2)) → Vs w O ρ ds c.toList → fillD place ds pds = some cs →
  ∃ c', Instr.fill place c pvs = some c' ∧ Vs w O ρ cs c'.toList
 | [], pvs, ds, c, cs, h1, _, h3, h4 => by
  obtain rfl : pvs = [] := by simpa using h1.symm
  simp only [fillD, Option.some.injEq] at h4
  subst h4
  exact ⟨c, rfl, h3⟩
 | (i, d) :: pds, [], ds, c, cs, h1, _, _, _ => by simp at h1
 | (i, d) :: pds, (j, v) :: pvs, ds, c, cs, h1, h2, h3, h4 => by
  simp only [List.map_cons, List.cons.injEq] at h1
  obtain ⟨rfl, h1⟩ := h1
  simp only [List.map_cons, Vs] at h2
  obtain ⟨u, us, e, h5, h6⟩ := h2
  simp only [List.cons.injEq] at e
  obtain ⟨rfl, rfl⟩ := e
  simp only [fillD] at h4
  cases hp : place i with
  | none => simp [hp] at h4
  | some x =>
   obtain ⟨off, size⟩ := x
   simp only [hp] at h4
   cases hb : (Nat.beq d.cellsL.length size && Nat.ble (off + size) ds.length && d.okc) with
   | false => simp [hb] at h4
   | true =>
    simp only [hb, cond_true] at h4
    simp only [Bool.and_eq_true, Nat.beq_eq, Nat.ble_eq] at hb
    obtain ⟨⟨hl1, hl2⟩, hok⟩ := hb
    have h7 := h5.cellsL hok
    have hsz := h7.length
    have hsz2 := h3.length
    simp only [Array.length_toList] at hsz hsz2
    have h8 := Vs.setMany h7 off h3
    obtain ⟨c', h9, h10⟩ := fill_V place pds pvs _ _ cs h1 h6 h8 h4
    refine ⟨c', ?_, h10⟩
    rw [Instr.fill, hp]
    have hc : ¬ ((v.cells.size ≠ size || decide (off + v.cells.size > c.size)) = true) := by simp; omega
    simp only [if_neg hc]
    have h11 : Array.foldl (fun cs (x : Value × Nat) => cs.setIfInBounds (off + x.2) x.1) c v.cells.zipIdx = setMany c off v.cells.toList := by
     rw [← Array.foldl_toList, Array.toList_zipIdx]
     exact foldl_setMany off v.cells.toList c 0
    rw [h11]
    exact h9
def Env.partsD (env : Env) : List (Nat × Operand) → Option (List (Nat × D))
 | [] => some []
 | (i, x) :: r => match env.op x, env.partsD r with
  | some d, some ds => some ((i, d) :: ds)
  | _, _ => none
theorem partsD_V {w : World} {O : Nat → Prop} {ρ : Rho} {env : Env} {a : Act} : ∀ (xs : List (Nat × Operand)) (pds : List (Nat × D)), env.partsD xs = some pds → (∀ x ∈ xs.map (·.2), ∀ d', env.op x = some d' → V w O ρ d' (a.eval x)) →
  pds.map (·.1) = (xs.map fun x => (x.1, a.eval x.2)).map (·.1) ∧ Vs w O ρ (pds.map (·.2)) ((xs.map fun x => (x.1, a.eval x.2)).map (·.2))
 | [], pds, h, _ => by simp only [Env.partsD, Option.some.injEq] at h; subst h; simp [Vs]
 | (i, x) :: xs, pds, h, hv => by
  simp only [Env.partsD] at h
  split at h
  ·rename_i d ds' h1 h2
   simp only [Option.some.injEq] at h
   subst h
   obtain ⟨h3, h4⟩ := partsD_V xs ds' h2 (fun y hy => hv y (List.mem_cons_of_mem _ hy))
   refine ⟨by simp only [List.map_cons, h3], ?_⟩
   simp only [List.map_cons, Vs]
   exact ⟨_, _, rfl, hv x (by simp) d h1, h4⟩
  ·cases h
section
variable {P : Program} {env : Env} {dst : Option Tmp} {ty : TypeId} {pos : String} {aft : Array Edge} {g : Option (Nat × Bool)}
theorem q_build {t : TypeId} {fs : Array Field} {z : Value} {pl : Array (Nat × Nat)} {xs : List (Nat × Operand)} {pds : List (Nat × D)} {cs : List D} (hu : P.underlying t = some (.struct fs)) (hz : ∀ w, (zeroValue t).run P w = .ok z w)
  (hp : ∀ w, (fs.mapM (m := Sem) fun f => Prod.mk f.offset <$> sizeOf f.type).run P w = .ok pl w) (hx : env.partsD xs = some pds) (hf : fillD (pl[·]?) (z.cells.toList.map rawD) pds = some cs) (obs : Obs) :
  QStep P ⟨dst, .build t xs.toArray, ty, pos, aft, g⟩ env obs (.agg cs) obs :=
 .val fun O ρ a w _ hv => by
  obtain ⟨h1, h2⟩ := partsD_V (a := a) xs pds hx (fun x hx d' h => hv x (by simpa [Op.operands] using hx) d' h)
  obtain ⟨c', h3, h4⟩ := fill_V (pl[·]?) pds _ _ z.cells cs h1 h2 (Vs.raws _) hf
  refine ⟨.agg c', ?_, ?_⟩
  ·simp [execOp, Instr.build, hz, run_und hu, hp, h3]
  ·simp only [V]; exact ⟨_, rfl, h4⟩
theorem Vc.of_blk {w : World} {O : Nat → Prop} {b : Nat} {c : Array Value} {T : TypeId} {fr : Nat × Nat} (hb : w.heap[b]? = some (.cells c T fr)) : ∀ (ds : List D) (off : Nat), Vs w O rho0 ds ((c.toList.drop off).take ds.length) → (∀ v ∈ (c.toList.drop off).take ds.length, v.oneCell' = true) → Vc w O b off ds
 | [], off, _, _ => by simp [Vc]
 | d :: ds, off, h, h1 => by
  simp only [Vs, List.length_cons] at h
  obtain ⟨u, us, e, h2, h3⟩ := h
  have hl : off < c.toList.length := by
   rcases Nat.lt_or_ge off c.toList.length with g | g
   ·exact g
   ·rw [List.drop_of_length_le g] at e; simp at e
  rw [List.length_cons, List.drop_eq_getElem_cons hl, List.take_succ_cons] at h1
  rw [List.drop_eq_getElem_cons hl, List.take_succ_cons] at e
  simp only [List.cons.injEq] at e
  obtain ⟨rfl, rfl⟩ := e
  simp only [Vc]
  refine ⟨⟨_, ⟨?_, h1 _ List.mem_cons_self⟩, h2⟩, Vc.of_blk hb ds (off + 1) h3 (fun v hv => h1 v (List.mem_cons_of_mem _ hv))⟩
  simp [World.cell?, hb]
theorem Vc.to_Vs {w : World} {O : Nat → Prop} {b : Nat} {c : Array Value} {T : TypeId} {fr : Nat × Nat} (hb : w.heap[b]? = some (.cells c T fr)) : ∀ (ds : List D) (off : Nat), Vc w O b off ds → Vs w O rho0 ds ((c.toList.drop off).take ds.length) ∧ (∀ v ∈ (c.toList.drop off).take ds.length, v.oneCell' = true) ∧ (ds ≠ [] → off + ds.length ≤ c.size)
 | [], off, _ => by simp [Vs]
 | d :: ds, off, h => by
  simp only [Vc] at h
  obtain ⟨⟨u, ⟨h1, h2⟩, h3⟩, h4⟩ := h
  have h5 : c[off]? = some u := by simpa [World.cell?, hb] using h1
  obtain ⟨hl, he⟩ := Array.getElem?_eq_some_iff.1 h5
  have hl' : off < c.toList.length := by simpa using hl
  obtain ⟨h6, h7, h8⟩ := Vc.to_Vs hb ds (off + 1) h4
  rw [List.length_cons, List.drop_eq_getElem_cons hl', List.take_succ_cons]
  refine ⟨?_, ?_, fun _ => ?_⟩
  ·simp only [Vs]; exact ⟨_, _, rfl, by simpa [he] using h3, h6⟩
  ·intro v hv
   cases hv with
   | head => simpa [he] using h2
   | tail _ hm => exact h7 v hm
  ·cases ds with
   | nil => simp; omega
   | cons d' ds => have := h8 (by simp); simp at this ⊢; omega
theorem Vr.of_blk {w : World} {O : Nat → Prop} {b sz : Nat} {c : Array Value} {T : TypeId} {fr : Nat × Nat} (hb : w.heap[b]? = some (.cells c T fr)) : ∀ (rows : List (List D)) (off : Nat), (∀ r ∈ rows, r.length = sz) → Vs w O rho0 rows.flatten ((c.toList.drop off).take rows.flatten.length) → (∀ v ∈ (c.toList.drop off).take rows.flatten.length, v.oneCell' = true) → Vr w O b off sz rows
 | [], off, _, _, _ => by simp [Vr]
 | r :: rs, off, hl, h, h1 => by
  have hr : r.length = sz := hl r List.mem_cons_self
  simp only [List.flatten_cons, List.length_append] at h h1
  have h2 := h.take r.length
  have h3 := h.drop r.length
  simp only [List.take_left, List.drop_left, List.take_take] at h2 h3
  rw [Nat.min_eq_left (by omega)] at h2
  rw [List.drop_take, List.drop_drop, show r.length + rs.flatten.length - r.length = rs.flatten.length by omega, hr] at h3
  rw [List.take_add] at h1
  simp only [List.mem_append] at h1
  simp only [Vr]
  refine ⟨⟨hr, Vc.of_blk hb r off h2 (fun v hv => h1 v (.inl hv))⟩, Vr.of_blk hb rs (off + sz) (fun x hx => hl x (List.mem_cons_of_mem _ hx)) h3 (fun v hv => h1 v (.inr ?_))⟩
  rw [List.drop_drop, hr]; exact hv
theorem q_buildSlice {t e : TypeId} {n sz : Nat} {z : Value} {xs : List (Nat × Operand)} {pds : List (Nat × D)} {cs : List D} {rows : List (List D)} (hu : P.underlying t = some (.slice e)) (hs : ∀ w, (sizeOf e).run P w = .ok sz w) (hn : n * sz ≤ 16777216) (hnb : n ≤ 16777216)
  (hn0 : n * sz ≠ 0) (hz : ∀ w, (zeroValue e).run P w = .ok z w) (hx : env.partsD xs = some pds)
  (hf : fillD (fun i => some (i * sz, sz)) (((Array.range (n * sz)).map (z.cells[· % z.cells.size]!)).toList.map rawD) pds = some cs) (hr : rows.flatten = cs) (hlen : rows.length = n) (hrl : rows.all (fun r => Nat.beq r.length sz) = true) (h1 : oneL cs = true) (hp : D.pureB.pureL cs = true) (obs : Obs) :
  QStep P ⟨dst, .buildSlice t n xs.toArray, ty, pos, aft, g⟩ env obs (.snap sz true rows) obs :=
 .step fun O ρ a w hok hv => by
  obtain ⟨h2, h3⟩ := partsD_V (a := a) xs pds hx (fun x hx d' h => hv x (by simpa [Op.operands] using hx) d' h)
  obtain ⟨c', h4, h5⟩ := fill_V (fun i => some (i * sz, sz)) pds _ _ ((Array.range (n * sz)).map (z.cells[· % z.cells.size]!)) cs h2 h3 (Vs.raws _) hf
  have hk : Keep w { w with heap := w.heap.push (.cells c' e (0, 0)) } := ⟨by simp, fun b hb => by rw [Array.getElem?_push, if_neg (by omega)], rfl, rfl, Clk.eq rfl rfl⟩
  refine ⟨.slice (some ⟨w.heap.size, 0, none⟩) n n, { w with heap := w.heap.push (.cells c' e (0, 0)) }, ρ, .inl ?_, Tr.of_keep hk hok, ?_⟩
  ·have h6 : ¬ n * sz > 2 ^ 24 := by omega
   have h9 : Instr.fill (fun i => some (i * sz, sz)) ((Array.range (n * sz)).map fun x => z.cells[x % z.cells.size]!) ((Array.map (fun x => (x.1, a.eval x.2)) xs.toArray).toList) = some c' := by
    simpa using h4
   simp only [execOp, Instr.buildSlice, Sem.run_bind, run_und hu, Result.andThen_ok, hs, if_neg h6, if_neg hn0, Sem.run_pure, hz, h9]
   simp [newRow]
  ·simp only [V]
   refine ⟨some ⟨w.heap.size, 0, none⟩, n, by rw [hlen], ⟨by omega, ?_⟩, by simp [hlen], fun hne => ⟨w.heap.size, 0, rfl, ⟨by simp, ?_⟩, ?_⟩⟩
   ·rw [hlen]; unfold big; omega
   ·rintro (hb | hb)
    ·have := hok.lt _ hb; omega
    ·have := (hok.block hb).1; omega
   ·have h8 : Vs w (Ot O ρ obs) rho0 cs c'.toList := Vs.pure cs _ hp h5
    have hl : c'.toList.length = cs.length := h8.length
    refine Vr.of_blk (c := c') (T := e) (fr := (0, 0)) (by simp) rows 0 ?_ ?_ (fun v hv => h8.one h1 v (List.mem_of_mem_drop (List.mem_of_mem_take hv)))
    ·intro r hr'
     have := List.all_eq_true.1 hrl r hr'
     simpa using this
    ·rw [hr, ← hl]
     simp only [List.drop_zero, List.take_length]
     exact Vs.mono (hk.kept _) (RhoLe.refl _) _ _ h8
theorem q_buildSlice0 {t e : TypeId} {sz : Nat} (hu : P.underlying t = some (.slice e)) (hs : ∀ w, (sizeOf e).run P w = .ok sz w) (obs : Obs) : QStep P ⟨dst, .buildSlice t 0 #[], ty, pos, aft, g⟩ env obs (.snap sz true []) obs :=
 .step fun O ρ a w hok hv => by
  have hk : Keep w { w with heap := w.heap.push (.cells #[] e (0, 0)) } := ⟨by simp, fun b hb => by rw [Array.getElem?_push, if_neg (by omega)], rfl, rfl, Clk.eq rfl rfl⟩
  refine ⟨.slice (some ⟨w.heap.size, 0, none⟩) 0 0, { w with heap := w.heap.push (.cells #[] e (0, 0)) }, ρ, .inl ?_, Tr.of_keep hk hok, ?_⟩
  ·have h0 : Array.range 0 = #[] := by decide
   simp [execOp, Instr.buildSlice, run_und hu, hs, Instr.fill, newRow, h0]
  ·simp only [V]
   exact ⟨_, 0, rfl, by simp [big]⟩
end
end Go.T
namespace Go.T
open Go
variable [Noise]
theorem growBy_le (newLen : Nat) (hn : 256 ≤ newLen) : ∀ (r c : Nat), c ≤ 2 * newLen → Builtin.growBy newLen r c ≤ 2 * newLen
 | 0, c, h => by simpa [Builtin.growBy] using h
 | r + 1, c, h => by
  simp only [Builtin.growBy]
  split
  ·exact h
  ·exact growBy_le newLen hn r _ (by omega)
theorem nextslicecap_le (need cap : Nat) (h : cap < need) : Builtin.nextslicecap need cap ≤ 2 * need := by
 unfold Builtin.nextslicecap
 split
 ·omega
 ·split
  ·omega
  ·exact growBy_le need (by omega) 4 cap (by omega)
theorem Vr.flat {w : World} {O : Nat → Prop} {b sz : Nat} : ∀ (rows : List (List D)) (off : Nat), Vr w O b off sz rows → Vc w O b off rows.flatten ∧ rows.flatten.length = rows.length * sz
 | [], off, _ => by simp [Vc]
 | r :: rs, off, h => by
  simp only [Vr] at h
  obtain ⟨⟨h1, h2⟩, h3⟩ := h
  obtain ⟨h4, h5⟩ := Vr.flat rs (off + sz) h3
  simp only [List.flatten_cons, List.length_append, List.length_cons, h1, h5, Nat.add_mul]
  exact ⟨Vc.app r rs.flatten off h2 (by rw [h1]; exact h4), by omega⟩
where
 Vc.app {w : World} {O : Nat → Prop} {b : Nat} : ∀ (xs ys : List D) (off : Nat), Vc w O b off xs → Vc w O b (off + xs.length) ys → Vc w O b off (xs ++ ys)
  | [], ys, off, _, h => by simpa using h
  | x :: xs, ys, off, h, h' => by
   simp only [Vc, List.cons_append] at h ⊢
   exact ⟨h.1, Vc.app xs ys (off + 1) h.2 (by rw [show off + 1 + xs.length = off + (x :: xs).length by simp; omega]; exact h')⟩
theorem run_firstSnap {P : Program} {w : World} {O : Nat → Prop} {ρ : Rho} {sz : Nat} {full : Bool} {rows : List (List D)} {v : Value} (h : V w O ρ (.snap sz full rows) v) :
  (∀ w', (Builtin.lenOf v).run P w' = .ok rows.length w') ∧ ∃ us, (∀ w', w'.heap = w.heap → (Builtin.firstCells sz rows.length v).run P w' = .ok us.toArray w') ∧ Vs w O rho0 rows.flatten us ∧ (∀ u ∈ us, u.oneCell' = true) ∧ us.length = rows.length * sz ∧ (∀ r ∈ rows, r.length = sz) := by
 simp only [V] at h
 obtain ⟨a, cap, rfl, h1, h2, h3⟩ := h
 refine ⟨fun _ => rfl, ?_⟩
 by_cases hne : rows = []
 ·subst hne
  refine ⟨[], ?_, by simp [Vs], by simp, by simp, by simp⟩
  cases a with
  | none => simp [Builtin.firstCells]
  | some a => simp [Builtin.firstCells, loadCells, loadCellsFrom]
 ·obtain ⟨b, off, rfl, ho, h4⟩ := h3 hne
  obtain ⟨h5, h6⟩ := Vr.flat rows off h4
  obtain ⟨us, h7, h8, h9⟩ := run_loadCells (P := P) rows.flatten off 0 #[] (by simpa using h5)
  refine ⟨us, ?_, h8, h9, by rw [h8.length, h6], ?_⟩
  ·rw [h6] at h7
   intro w' he
   simpa [Builtin.firstCells, loadCells] using h7 w' he
  ·intro r hr
   obtain ⟨i, hi⟩ := List.getElem?_of_mem hr
   exact (Vr.get rows off h4 i r hi).1
theorem setMany_toList : ∀ (us : List Value) (c : Array Value) (k : Nat), k + us.length ≤ c.size → (setMany c k us).toList = c.toList.take k ++ us ++ c.toList.drop (k + us.length)
 | [], c, k, h => by simp [setMany]
 | u :: us, c, k, h => by
  simp only [List.length_cons] at h
  simp only [setMany]
  rw [setMany_toList us _ (k + 1) (by simp; omega), Array.toList_setIfInBounds]
  have hk : k < c.toList.length := by simp; omega
  rw [List.take_set, List.drop_set]
  have h1 : ¬ k + 1 + us.length ≤ k := by omega
  rw [if_pos (by omega)]
  rw [List.take_succ_eq_append_getElem hk]
  rw [List.set_append_right _ _ (by simp; omega)]
  simp [Nat.min_eq_left (by omega : k ≤ c.size), Nat.add_assoc, Nat.add_comm 1]
theorem Obs.set_set (i : Nat) (x y : Ob) : ∀ obs : Obs, (obs.set i x).set i y = obs.set i y
 | [] => by simp [Obs.set]
 | (t, d) :: r => by
  simp only [Obs.set]
  cases h : Nat.beq t i with
  | true => simp [Obs.set, h]
  | false => simp [Obs.set, h, Obs.set_set i x y r]
section
variable {P : Program} {env : Env} {dst : Option Tmp} {ty : TypeId} {pos : String} {aft : Array Edge} {g : Option (Nat × Bool)}
theorem run_append_room {st xt e T : TypeId} {xd : TypeDesc} {sz n cap : Nat} {a : Addr} {x : Value} {us : List Value} {m : Nat} {w w' : World} (hu : P.underlying st = some (.slice e)) (hs : ∀ w, (sizeOf e).run P w = .ok sz w) (hxu : P.underlying xt = some xd) (hxi : ∀ k, xd ≠ .int k)
  (hm : (Builtin.lenOf x).run P w = .ok m w) (hf : (Builtin.firstCells sz m x).run P w = .ok us.toArray w) (hc : n + m ≤ cap) (hst : (storeCells (a.add (n * sz)) us).run P w = .ok () w') :
  (Builtin.append_ #[st, xt] T #[.slice (some a) n cap, x]).run P w = .ok (.slice (some a) (n + m) cap) w' := by
 simp [Builtin.append_, run_und hu, hs, run_und hxu, hm, hc, hf, hst]
theorem run_append_grow {st xt e T : TypeId} {xd : TypeDesc} {ti : TypeInfo} {z : Value} {sz n cap : Nat} {base : Option Addr} {x : Value} {us vs : List Value} {m : Nat} {w : World} (hu : P.underlying st = some (.slice e)) (hs : ∀ w, (sizeOf e).run P w = .ok sz w) (hxu : P.underlying xt = some xd) (hxi : ∀ k, xd ≠ .int k)
  (hti : ∀ w, (typeInfo e).run P w = .ok ti w) (hz : ∀ w, (zeroValue e).run P w = .ok z w)
  (hm : ∀ w', w'.heap = w.heap → (Builtin.lenOf x).run P w' = .ok m w') (hf : ∀ w', w'.heap = w.heap → (Builtin.firstCells sz m x).run P w' = .ok us.toArray w') (hfs : ∀ w', w'.heap = w.heap → (Builtin.firstCells sz n (.slice base n cap)).run P w' = .ok vs.toArray w')
  (hc : ¬ n + m ≤ cap) (hb : (n + m) * ti.bytes ≤ 140737488355328) (hb0 : ti.bytes ≠ 0) :
  ∃ nc, n + m ≤ nc ∧ (Builtin.append_ #[st, xt] T #[.slice base n cap, x]).run P w = .ok (.slice (some ⟨w.heap.size, 0, none⟩) (n + m) nc) { w with drawn := w.drawn + 1, heap := w.heap.push (.cells (vs.toArray ++ us.toArray ++ Builtin.zeroCells z.cells (nc - (n + m))) e (0, 0)) } := by
 have h1 := nextslicecap_le (n + m) cap (by omega)
 have h2 : ¬ Builtin.nextslicecap (n + m) cap * ti.bytes > 281474976710656 := by
  have := Nat.mul_le_mul_right ti.bytes h1
  rw [Nat.mul_assoc] at this
  omega
 refine ⟨(n + m) + (w.tape w.drawn (.appendCap (n + m) cap e)) % (2 ^ 63 - (n + m)), by omega, ?_⟩
 have hm0 := hm w rfl
 have hf1 := hf w.drew rfl
 have hfs1 := hfs w.drew rfl
 simp [Builtin.append_, run_und hu, hs, run_und hxu, hm0, hc, hti, hb0, h2, Question.forced, Question.cut, hfs1, hf1, hz, newRow]
 simp only [World.alloc, World.drew]
 have h9 : vs.toArray ++ (us.toArray ++ Builtin.zeroCells z.cells (w.tape w.drawn (Question.appendCap (n + m) cap e) % (9223372036854775808 - (n + m)))) = (vs ++ us).toArray ++ Builtin.zeroCells z.cells (w.tape w.drawn (Question.appendCap (n + m) cap e) % (9223372036854775808 - (n + m))) := by
  apply Array.ext'; simp
 rw [h9]
theorem zeroCells_size (z : Array Value) (n : Nat) : (Builtin.zeroCells z n).size = n * z.size := by simp [Builtin.zeroCells]
theorem Own.grown {w w' : World} {O : Nat → Prop} {ρ : Rho} {b nc sz : Nat} {T : TypeId} {ds : List (List D)} {vs : List Value} {zs : Array Value} (hb : w'.heap[b]? = some (.cells (vs.toArray ++ zs) T (0, 0))) (hlen : vs.length = ds.length * sz) (hzs : zs.size = (nc - ds.length) * sz) (hnc : ds.length ≤ nc) (hbg : ds.length ≤ big)
  (hrow : ∀ r ∈ ds, r.length = sz) (hv : Vs w O rho0 ds.flatten vs) (h1 : ∀ v ∈ vs, v.oneCell' = true) {O' : Nat → Prop} (hk : Kept w O w' O') : Own w' O' ρ ⟨b, 0, nc⟩ (.arr sz ds) := by
 refine ⟨_, T, hb, ?_, ⟨hnc, hbg⟩, ?_⟩
 ·simp only [Array.size_append, List.size_toArray, hlen, hzs, Nat.zero_add]
  rw [← Nat.add_mul, Nat.add_sub_cancel' hnc]
  exact Nat.le_refl _
 ·have hfl : ds.flatten.length = vs.length := hv.length.symm
  have hseg : (((vs.toArray ++ zs).toList).drop 0).take ds.flatten.length = vs := by
   simp [hfl]
  refine Vr.of_blk hb ds 0 hrow ?_ ?_
  ·rw [hseg]; exact Vs.mono hk (RhoLe.refl _) _ _ hv
  ·rw [hseg]; exact h1
theorem Tr.drawn {O : Nat → Prop} {w : World} {ρ : Rho} {obs : Obs} (hok : ObsOK w O ρ obs) (n : Nat) (hn : w.drawn ≤ n) : Tr O w ρ obs { w with drawn := n } ρ obs :=
 Tr.of_keep ⟨Nat.le_refl _, fun _ _ => rfl, rfl, rfl, .inl ⟨rfl, hn⟩⟩ hok
theorem dead_sub {obs : Obs} {id : Nat} : ∀ i x, (obs.set id .dead).get i = some x → x.live = true → obs.get i = some x := by
 intro i x h1 h2
 rw [Obs.get_set] at h1
 by_cases e : id = i
 ·simp only [if_pos e, Option.some.injEq] at h1; subst h1; simp [Ob.live] at h2
 ·rw [if_neg e] at h1; exact h1
theorem dead_dom {obs : Obs} {id : Nat} : ∀ i, (obs.set id .dead).get i = none → obs.get i = none := by
 intro i h1
 rw [Obs.get_set] at h1
 by_cases e : id = i
 ·simp [e] at h1
 ·rw [if_neg e] at h1; exact h1
theorem Tr.rename0 {O : Nat → Prop} {w : World} {ρ : Rho} {obs : Obs} {id id' : Nat} {sz : Nat} (hok : ObsOK w O ρ obs) : Tr O w ρ obs w ρ ((id', .arr sz []) :: obs.set id .dead) := by
 have look : ∀ i x, Obs.get ((id', Ob.arr sz []) :: obs.set id .dead) i = some x → x.live = true → obs.get i = some x := by
  intro i x h1 h2
  rw [Obs.get_cons] at h1
  by_cases e : id' = i
  ·simp only [if_pos e, Option.some.injEq] at h1; subst h1; simp [Ob.live] at h2
  ·rw [if_neg e] at h1; exact dead_sub i x h1 h2
 have hOwn : ∀ b, Owned ρ ((id', .arr sz []) :: obs.set id .dead) b → Owned ρ obs b := by
  rintro b ⟨i, x, l, h1, h2, h3⟩
  exact ⟨i, x, l, look i x h1 h2, h2, h3⟩
 have hk : Kept w (Ot O ρ obs) w (Ot O ρ ((id', .arr sz []) :: obs.set id .dead)) := Kept.subO fun b => Or.imp _root_.id (hOwn b)
 refine ⟨RhoLe.refl _, Nat.le_refl _, fun _ _ _ => rfl, fun b hb => .inl (hOwn b hb), ⟨hok.lt, ?_, ?_, ?_⟩, rfl, rfl, Clk.eq rfl rfl⟩
 ·intro i hi
  rw [Obs.get_cons] at hi
  by_cases e : id' = i
  ·simp [e] at hi
  ·rw [if_neg e] at hi; exact hok.fresh i (dead_dom i hi)
 ·intro i x h1 h2
  obtain ⟨l, h3, h4, h5⟩ := hok.own i x (look i x h1 h2) h2
  exact ⟨l, h3, h4, h5.mono hk (RhoLe.refl _) rfl⟩
 ·intro i j x x' l1 l2 h1 h2 h3 h4
  exact hok.inj i j x x' l1 l2 (look i x h1 h3) (look j x' h2 h4) h3 h4
theorem q_append {st xt e e' : TypeId} {ti : TypeInfo} {z : Value} {sz n id bt : Nat} {x y : Operand} {full : Bool} {rows new : List (List D)} {obs : Obs} (id' : Nat) (hu : P.underlying st = some (.slice e)) (hxu : P.underlying xt = some (.slice e')) (hs : ∀ w, (sizeOf e).run P w = .ok sz w)
  (hti : ∀ w, (typeInfo e).run P w = .ok ti w) (hz : ∀ w, (zeroValue e).run P w = .ok z w) (hzs : z.cells.size = sz) (hbt : ti.bytes = bt) (hb00 : Nat.beq bt 0 = false) (hx : env.op x = some (.gs id n)) (ho : obs.get id = some (.arr sz rows)) (hn : rows.length = n) (hy : env.op y = some (.snap sz full new)) (hid : obs.get id' = none)
  (hbb : (n + new.length) * bt ≤ 140737488355328) :
  QStep P ⟨dst, .call ⟨.builtin .append, #[x, y], #[st, xt]⟩, ty, pos, aft, g⟩ env obs (.gs id' (n + new.length)) ((id', .arr sz (rows ++ new)) :: obs.set id .dead) :=
 .step fun O ρ a w hok hv => by
  have hb : (n + new.length) * ti.bytes ≤ 140737488355328 := by rw [hbt]; exact hbb
  have hb0 : ti.bytes ≠ 0 := by
   rw [hbt]; intro h; subst h; simp at hb00
  have hvx := hv x (by simp [Op.operands, Call.operands]) _ hx
  have hvy := hv y (by simp [Op.operands, Call.operands]) _ hy
  have hrun : ∀ v w', (Builtin.append_ #[st, xt] ty #[a.eval x, a.eval y]).run P w = .ok v w' → (execOp a.eval ⟨dst, .call ⟨.builtin .append, #[x, y], #[st, xt]⟩, ty, pos, aft, g⟩).run P w = .ok (.value v) w' := by
   intro v w' h
   simp [execOp, resolve, invoke, builtin, h]
  obtain ⟨hlen, us, hfu, hus, hone, hul, hrl⟩ := run_firstSnap (P := P) hvy
  have hbig : n + new.length ≤ big := by
   have : (n + new.length) * 1 ≤ (n + new.length) * ti.bytes := Nat.mul_le_mul_left _ (by omega)
   unfold big; omega
  -- the grown slice in a new block
  have grow : ∀ (base : Option Addr) (cap : Nat) (vs : List Value), a.eval x = .slice base n cap → (∀ w', w'.heap = w.heap → (Builtin.firstCells sz n (.slice base n cap)).run P w' = .ok vs.toArray w') → ¬ n + new.length ≤ cap → vs.length = n * sz → Vs w (Ot O ρ obs) rho0 rows.flatten vs → (∀ v ∈ vs, v.oneCell' = true) → (∀ r ∈ rows, r.length = sz) → n + new.length ≠ 0 →
    ∃ v w' ρ', ((execOp a.eval ⟨dst, .call ⟨.builtin .append, #[x, y], #[st, xt]⟩, ty, pos, aft, g⟩).run P w = .ok (.value v) w' ∨ ((execOp a.eval ⟨dst, .call ⟨.builtin .append, #[x, y], #[st, xt]⟩, ty, pos, aft, g⟩).run P w = .ok .skip w' ∧ v = undef)) ∧ Tr O w ρ obs w' ρ' ((id', .arr sz (rows ++ new)) :: obs.set id .dead) ∧ V w' (Ot O ρ' ((id', .arr sz (rows ++ new)) :: obs.set id .dead)) ρ' (.gs id' (n + new.length)) v := by
   intro base cap vs e1 hvs hc hvl hvv hv1 hrr hne
   obtain ⟨nc, h1, h2⟩ := run_append_grow (T := ty) (w := w) hu hs hxu (by simp) hti hz (fun w' _ => hlen w') hfu hvs hc hb hb0
   rw [← e1] at h2
   have hok1 : ObsOK { w with drawn := w.drawn + 1 } O ρ obs := (Tr.drawn hok (w.drawn + 1) (Nat.le_succ _)).ok
   have htr := Tr.drawn hok (w.drawn + 1) (Nat.le_succ _)
   refine ⟨_, _, T.upd ρ id' ⟨w.heap.size, 0, nc⟩, .inl (hrun _ _ h2), htr.trans (Tr.born (w := { w with drawn := w.drawn + 1 }) hok1 hid _ rfl dead_sub dead_dom ?_), ?_⟩
   ·intro hk
    have hl2 : (rows ++ new).length = n + new.length := by rw [List.length_append, hn]
    have hap : (vs ++ us).toArray = vs.toArray ++ us.toArray := by simp
    refine Own.grown (w := { w with drawn := w.drawn + 1 }) (T := e) (vs := vs ++ us) (zs := Builtin.zeroCells z.cells (nc - (n + new.length))) (by rw [hap]; simp) ?_ ?_ ?_ (by rw [hl2]; exact hbig) ?_ ?_ ?_ hk
    ·rw [List.length_append, hl2, hvl, hul, Nat.add_mul]
    ·rw [zeroCells_size, hzs, hl2]
    ·rw [hl2]; exact h1
    ·intro r hr
     rcases List.mem_append.1 hr with hr | hr
     ·exact hrr r hr
     ·exact hrl r hr
    ·rw [List.flatten_append]
     exact Vs.mono htr.kept (RhoLe.refl _) _ _ (Vs.append hvv hus)
    ·intro v hv'
     rcases List.mem_append.1 hv' with hv' | hv'
     ·exact hv1 v hv'
     ·exact hone v hv'
   ·simp only [V]
    exact .inr ⟨hne, _, upd_same .., rfl⟩
  by_cases hn0 : n = 0
  ·subst hn0
   obtain rfl : rows = [] := List.length_eq_zero_iff.1 hn
   have he : ∃ ad, a.eval x = .slice ad 0 0 := by
    simp only [V] at hvx
    rcases hvx with ⟨_, ad, e⟩ | ⟨h, _⟩
    ·exact ⟨ad, e⟩
    ·exact absurd rfl h
   obtain ⟨ad, e1⟩ := he
   by_cases hm : new = []
   ·subst hm
    refine ⟨.slice ad 0 0, w, ρ, .inl (hrun _ _ ?_), by simpa using Tr.rename0 (id := id) (id' := id') (sz := sz) hok, by simp [V]⟩
    have h1 := hfu w rfl
    have hus0 : us = [] := by
     have := hul; simp at this; exact this
    subst hus0
    rw [e1]
    cases ad with
    | none => simp [Builtin.append_, run_und hu, hs, run_und hxu, hlen w] at h1 ⊢; simp [h1]
    | some ad => simp [Builtin.append_, run_und hu, hs, run_und hxu, hlen w] at h1 ⊢; simp [h1, storeCells]
   ·refine grow ad 0 [] e1 ?_ ?_ (by simp) (by simp [Vs]) (by simp) (by simp) ?_
    ·intro w' _
     cases ad with
     | none => simp [Builtin.firstCells]
     | some ad => simp [Builtin.firstCells, loadCells, loadCellsFrom]
    ·have : new.length ≠ 0 := fun h => hm (List.length_eq_zero_iff.1 h)
     omega
    ·have : new.length ≠ 0 := fun h => hm (List.length_eq_zero_iff.1 h)
     omega
  ·have hlive : (Ob.arr sz rows).live = true := by
    cases rows with
    | nil => simp at hn; exact absurd hn.symm hn0
    | cons r rs => rfl
   obtain ⟨l, h3, hOl, c, T, h4, h5, h6, h7⟩ := hok.own id _ ho hlive
   have e1 : a.eval x = .slice (some ⟨l.b, l.off, none⟩) n l.cap := by
    simp only [V] at hvx
    rcases hvx with ⟨h, _⟩ | ⟨_, l', h8, e⟩
    ·exact absurd h hn0
    ·rw [h3] at h8; cases h8; exact e
   obtain ⟨h8, h9⟩ := Vr.flat rows l.off h7
   have hrr : ∀ r ∈ rows, r.length = sz := by
    intro r hr
    obtain ⟨i, hi⟩ := List.getElem?_of_mem hr
    exact (Vr.get rows l.off h7 i r hi).1
   rw [hn] at h9 h6
   by_cases hc : n + new.length ≤ l.cap
   ·-- in place
    obtain ⟨h10, h11, _⟩ := Vc.to_Vs h4 rows.flatten l.off h8
    have hbd : l.off + n * sz + us.length ≤ c.size := by
     rw [hul]
     have : (n + new.length) * sz ≤ l.cap * sz := Nat.mul_le_mul_right sz hc
     rw [Nat.add_mul] at this
     omega
    have hst := run_storeCells (P := P) (b := l.b) (T := T) us w c (l.off + n * sz) 0 h4 (by omega) hone
    have hrm := run_append_room (T := ty) (a := ⟨l.b, l.off, none⟩) (w := w) hu hs hxu (by simp) (hlen w) (hfu w rfl) hc (by rw [addr_add]; exact hst)
    have htr := Tr.upd (o' := .arr sz (rows ++ new)) hok ho hlive h3 (.cells (setMany c (l.off + n * sz + 0) us) T (0, 0)) ?_
    ·have hlive' : (Ob.arr sz (rows ++ new)).live = true := by
      cases rows with
      | nil => simp at hn; exact absurd hn.symm hn0
      | cons r rs => rfl
     have hid2 : (obs.set id (.arr sz (rows ++ new))).get id' = none := by
      rw [Obs.get_set]
      by_cases e : id = id'
      ·subst e; rw [ho] at hid; cases hid
      ·rw [if_neg e]; exact hid
     have htr2 := Tr.rename (id := id) (id' := id') htr.ok (by rw [Obs.get_set]; simp) hlive' hid2 h3
     have hset : (obs.set id (.arr sz (rows ++ new))).set id .dead = obs.set id .dead := by
      exact Obs.set_set ..
     rw [hset] at htr2
     refine ⟨_, _, Go.T.upd ρ id' l, .inl (hrun _ _ (by rw [e1]; exact hrm)), htr.trans htr2, ?_⟩
     simp only [V]
     exact .inr ⟨by omega, l, upd_same .., rfl⟩
    ·intro hk
     refine ⟨_, T, by simp [(Array.getElem?_eq_some_iff.1 h4).1]; rfl, ?_, ?_, ?_⟩
     ·rw [setMany_size]; exact h5
     ·rw [List.length_append, hn]; exact ⟨hc, hbig⟩
     ·have hseg : ((setMany c (l.off + n * sz) us).toList.drop l.off).take (rows ++ new).flatten.length = (c.toList.drop l.off).take rows.flatten.length ++ us := by
       rw [setMany_toList us c _ hbd, List.flatten_append, List.length_append, h9, hus.length.symm]
       have h12 : (c.toList.take (l.off + n * sz) ++ us ++ c.toList.drop (l.off + n * sz + us.length)).drop l.off = (c.toList.drop l.off).take (n * sz) ++ us ++ c.toList.drop (l.off + n * sz + us.length) := by
        rw [List.append_assoc, List.drop_append_of_le_length (by simp; omega), List.drop_take, List.append_assoc, show l.off + n * sz - l.off = n * sz by omega]
       rw [h12]
       have h13 : ((c.toList.drop l.off).take (n * sz) ++ us).length = n * sz + us.length := by
        simp; omega
       rw [← h13, List.take_left]
      refine Vr.of_blk (c := setMany c (l.off + n * sz) us) (T := T) (fr := (0, 0)) (by simp [(Array.getElem?_eq_some_iff.1 h4).1]) (rows ++ new) l.off ?_ ?_ ?_
      ·intro r hr
       rcases List.mem_append.1 hr with hr | hr
       ·exact hrr r hr
       ·exact hrl r hr
      ·rw [hseg, List.flatten_append]
       exact Vs.mono hk (RhoLe.refl _) _ _ (Vs.append h10 hus)
      ·rw [hseg]
       intro v hv'
       rcases List.mem_append.1 hv' with hv' | hv'
       ·exact h11 v hv'
       ·exact hone v hv'
   ·obtain ⟨vs, h10, h11, h12⟩ := run_loadCells (P := P) rows.flatten l.off 0 #[] (by simpa using h8)
    refine grow (some ⟨l.b, l.off, none⟩) l.cap vs e1 ?_ hc (by rw [h11.length, h9]) h11 h12 hrr (by omega)
    intro w' he
    rw [h9] at h10
    simpa [Builtin.firstCells, loadCells] using h10 w' he
end
end Go.T
namespace Go.T
open Go
variable [Noise]
theorem Le.step {F : Fr} {env env' : Env} {obs obs' : Obs}
  (h : ∀ (O : Nat → Prop) (ρ : Rho) (w : World) (f : Nat → Value), ObsOK w O ρ obs → (∀ t d, env.get t = some d → V w (Ot O ρ obs) ρ d (f t)) → ∃ ρ', Tr O w ρ obs w ρ' obs' ∧ ∀ t d, env'.get t = some d → V w (Ot O ρ' obs') ρ' d (f t)) : Le F env obs env' obs' :=
 ⟨fun C a w ⟨ρ, hs⟩ => by
  obtain ⟨ρ', h1, h2⟩ := h C.O ρ w (fun t => a.tmps.getD t undef) hs.tr.ok hs.env
  exact ⟨ρ', hs.step h1 h2 rfl rfl⟩⟩
theorem Tr.own0 {O : Nat → Prop} {w : World} {ρ : Rho} {obs : Obs} (id sz : Nat) (hok : ObsOK w O ρ obs) : Tr O w ρ obs w ρ ((id, .arr sz []) :: obs) := by
 have look : ∀ i x, Obs.get ((id, Ob.arr sz []) :: obs) i = some x → x.live = true → obs.get i = some x := by
  intro i x h1 h2
  rw [Obs.get_cons] at h1
  by_cases e : id = i
  ·simp only [if_pos e, Option.some.injEq] at h1; subst h1; simp [Ob.live] at h2
  ·rw [if_neg e] at h1; exact h1
 have hOwn : ∀ b, Owned ρ ((id, .arr sz []) :: obs) b → Owned ρ obs b := by
  rintro b ⟨i, x, l, h1, h2, h3⟩
  exact ⟨i, x, l, look i x h1 h2, h2, h3⟩
 have hk : Kept w (Ot O ρ obs) w (Ot O ρ ((id, .arr sz []) :: obs)) := Kept.subO fun b => Or.imp _root_.id (hOwn b)
 refine ⟨RhoLe.refl _, Nat.le_refl _, fun _ _ _ => rfl, fun b hb => .inl (hOwn b hb), ⟨hok.lt, ?_, ?_, ?_⟩, rfl, rfl, Clk.eq rfl rfl⟩
 ·intro i hi
  rw [Obs.get_cons] at hi
  by_cases e : id = i
  ·simp [e] at hi
  ·rw [if_neg e] at hi; exact hok.fresh i hi
 ·intro i x h1 h2
  obtain ⟨l, h3, h4, h5⟩ := hok.own i x (look i x h1 h2) h2
  exact ⟨l, h3, h4, h5.mono hk (RhoLe.refl _) rfl⟩
 ·intro i j x x' l1 l2 h1 h2 h3 h4
  exact hok.inj i j x x' l1 l2 (look i x h1 h3) (look j x' h2 h4) h3 h4
theorem Le.own0 {F : Fr} {env : Env} {obs : Obs} (id sz : Nat) : Le F env obs env ((id, .arr sz []) :: obs) := .step fun O ρ w f hok hv =>
 ⟨ρ, Tr.own0 id sz hok, fun t d h => (Tr.own0 id sz hok).V (hv t d h)⟩
theorem QStep.own0 {P : Program} {o : Oper} {env : Env} {obs obs' : Obs} {d d0 : D} {t : Nat} (id sz : Nat) (ht : env.get t = some d0) (hs : Sub d0 (.gs id 0)) (h : QStep P o ((t, .gs id 0) :: env) ((id, .arr sz []) :: obs) d obs') : QStep P o env obs d obs' := by
 intro O ρ a w hok hgl hv
 have htr := Tr.own0 id sz hok
 refine Oper.wp_mono ?_ (h O ρ a w htr.ok (hgl.mono htr.kept) ?_)
 ·rintro a' w' ⟨ρ', v, h1, h2, h3⟩
  exact ⟨ρ', v, h1, htr.trans h2, h3⟩
 ·intro x hx d' hd
  cases x with
  | tmp s =>
   simp only [Env.op, Env.get_cons] at hd
   by_cases e : t = s
   ·subst e
    simp only [if_true, Option.some.injEq] at hd
    subst hd
    exact htr.V (hs.out _ _ _ _ (hv (.tmp t) hx d0 ht))
   ·rw [if_neg e] at hd
    exact htr.V (hv (.tmp s) hx d' hd)
  | const v => exact op_const hd
  | global g => simp only [Env.op, Option.some.injEq] at hd; subst hd; simp [V, Act.eval]
  | func f => simp only [Env.op, Option.some.injEq] at hd; subst hd; exact ⟨#[], #[], rfl, by simp [Vs], by simp [Vs]⟩
theorem Sub.gsNil (id : Nat) : Sub (.raw (.slice none 0 0)) (.gs id 0) := ⟨fun w O ρ v h => by
 simp only [V] at h ⊢
 exact .inl ⟨trivial, none, h⟩⟩
theorem Sub.gsEmpty (id sz : Nat) : Sub (.snap sz true []) (.gs id 0) := ⟨fun w O ρ v h => by
 simp only [V] at h ⊢
 obtain ⟨a, cap, e, _, h2, _⟩ := h
 have := h2 trivial
 exact .inl ⟨trivial, a, by rw [e, this]; rfl⟩⟩
theorem Le.ren {F : Fr} {env : Env} {obs : Obs} {sz n : Nat} {rows : List (List D)} (t id id' : Nat) (ht : env.get t = some (.gs id n)) (ho : obs.get id = some (.arr sz rows)) (hn : rows.length = n) (hid : obs.get id' = none) :
  Le F env obs ((t, .gs id' n) :: env) ((id', .arr sz rows) :: obs.set id .dead) := .step fun O ρ w f hok hv => by
 have hvt := hv t _ ht
 cases rows with
 | nil =>
  subst hn
  have htr := Tr.rename0 (id := id) (id' := id') (sz := sz) hok
  refine ⟨ρ, htr, fun s d h => ?_⟩
  rw [Env.get_cons] at h
  by_cases e : t = s
  ·rw [if_pos e] at h
   cases h
   subst e
   simp only [V] at hvt ⊢
   rcases hvt with h | ⟨h, _⟩
   ·exact .inl h
   ·exact absurd rfl h
  ·rw [if_neg e] at h
   exact htr.V (hv s d h)
 | cons r rs =>
  obtain ⟨l, h3, _⟩ := hok.own id _ ho rfl
  have htr := Tr.rename (id := id) (id' := id') hok ho rfl hid h3
  refine ⟨_, htr, fun s d h => ?_⟩
  rw [Env.get_cons] at h
  by_cases e : t = s
  ·rw [if_pos e] at h
   cases h
   subst e
   simp only [V] at hvt ⊢
   rcases hvt with h | ⟨h, l', h4, h5⟩
   ·exact .inl h
   ·rw [h3] at h4; cases h4
    exact .inr ⟨h, l, upd_same .., h5⟩
  ·rw [if_neg e] at h
   exact htr.V (hv s d h)
theorem Tr.die {O : Nat → Prop} {w : World} {ρ : Rho} {obs : Obs} (id : Nat) (hok : ObsOK w O ρ obs) : Tr O w ρ obs w ρ (obs.set id .dead) := by
 have hOwn : ∀ b, Owned ρ (obs.set id .dead) b → Owned ρ obs b := by
  rintro b ⟨i, x, l, h1, h2, h3⟩
  exact ⟨i, x, l, dead_sub i x h1 h2, h2, h3⟩
 have hk : Kept w (Ot O ρ obs) w (Ot O ρ (obs.set id .dead)) := Kept.subO fun b => Or.imp _root_.id (hOwn b)
 refine ⟨RhoLe.refl _, Nat.le_refl _, fun _ _ _ => rfl, fun b hb => .inl (hOwn b hb), ⟨hok.lt, fun i hi => hok.fresh i (dead_dom i hi), ?_, ?_⟩, rfl, rfl, Clk.eq rfl rfl⟩
 ·intro i x h1 h2
  obtain ⟨l, h3, h4, h5⟩ := hok.own i x (dead_sub i x h1 h2) h2
  exact ⟨l, h3, h4, h5.mono hk (RhoLe.refl _) rfl⟩
 ·intro i j x x' l1 l2 h1 h2 h3 h4
  exact hok.inj i j x x' l1 l2 (dead_sub i x h1 h3) (dead_sub j x' h2 h4) h3 h4
theorem gs_snap {O : Nat → Prop} {w : World} {ρ : Rho} {obs : Obs} {id sz n : Nat} {rows : List (List D)} {v : Value} (hok : ObsOK w O ρ obs) (ho : obs.get id = some (.arr sz rows)) (hn : rows.length = n) (hv : V w (Ot O ρ obs) ρ (.gs id n) v) :
  V w (Ot O ρ (obs.set id .dead)) ρ (.snap sz false rows) v := by
 simp only [V] at hv ⊢
 cases rows with
 | nil =>
  subst hn
  rcases hv with ⟨_, a, e⟩ | ⟨h, _⟩
  ·exact ⟨a, 0, e, by simp [big]⟩
  ·exact absurd rfl h
 | cons r rs =>
  rcases hv with ⟨h, _⟩ | ⟨_, l, h1, e⟩
  ·rw [h] at hn; simp at hn
  ·obtain ⟨l', h3, h4, c, T, h5, h6, h7, h8⟩ := hok.own id _ ho rfl
   rw [h1] at h3; cases h3
   refine ⟨some ⟨l.b, l.off, none⟩, l.cap, by rw [hn]; exact e, h7, by simp, fun _ => ⟨l.b, l.off, rfl, ⟨(Array.getElem?_eq_some_iff.1 h5).1, ?_⟩, ?_⟩⟩
   ·rintro (hb | ⟨i, x, l', g1, g2, g3, g4⟩)
    ·exact h4 hb
    ·have hx := dead_sub i x g1 g2
     have := hok.inj i id x _ l' l hx ho g2 rfl g3 h1 g4
     subst this
     rw [Obs.get_set] at g1
     simp only [if_true, Option.some.injEq] at g1
     subst g1; simp [Ob.live] at g2
   ·have hk := (Tr.die id hok).kept
    exact Own.mono.vr hk rfl _ _ h8
theorem Le.freeze {F : Fr} {env : Env} {obs : Obs} {sz n : Nat} {rows : List (List D)} (t id : Nat) (ht : env.get t = some (.gs id n)) (ho : obs.get id = some (.arr sz rows)) (hn : rows.length = n) :
  Le F env obs ((t, .snap sz false rows) :: env) (obs.set id .dead) := .step fun O ρ w f hok hv => by
 have htr := Tr.die id hok
 refine ⟨ρ, htr, fun s d h => ?_⟩
 rw [Env.get_cons] at h
 by_cases e : t = s
 ·rw [if_pos e] at h
  cases h
  subst e
  exact gs_snap hok ho hn (hv t _ ht)
 ·rw [if_neg e] at h
  exact htr.V (hv s d h)
end Go.T
namespace Go.T
open Go
variable [Noise]
section
variable {P : Program} {N : Nat} {ops : Array Oper} {K : Env → Obs → Prop} {l : List Oper} {ks : List Kind} {env : Env} {obs : Obs}
theorem on_of {o : Oper} {g t : Nat} {b c : Bool} (hg : o.guard = some (g, b)) (ht : (ops[g]?).bind (·.dst) = some t) (he : env.get t = some (.raw (.bool c))) (hc : c = b) : On ops env o := by
 subst hc; simp only [On, hg]; exact ⟨t, ht, he⟩
theorem off_of {o : Oper} {g t : Nat} {b c : Bool} (hg : o.guard = some (g, b)) (ht : (ops[g]?).bind (·.dst) = some t) (he : env.get t = some (.raw (.bool c))) (hc : c = !b) : Off ops env o :=
 ⟨g, b, t, .bool c, hg, ht, he, by subst hc; cases b <;> simp⟩
theorem off_un {o : Oper} {g t : Nat} {b : Bool} (hg : o.guard = some (g, b)) (ht : (ops[g]?).bind (·.dst) = some t) (he : env.get t = some (.raw undef)) : Off ops env o :=
 ⟨g, b, t, undef, hg, ht, he, by simp [undef]⟩
theorem DerK.gT {o : Oper} {k₀ : Kind} {g t : Nat} {p : Bool} {d : D} (hd : dstB N o.dst = true) (hk : k₀ = .p ∨ k₀ = .r) (hg : o.guard = some (g, true)) (ht : (ops[g]?).bind (·.dst) = some t) (he : env.get t = some (.raw (.bool p)))
  (h : p = true → (k₀ = .p → ∀ obs, QStep P o env obs d obs) ∧ (k₀ = .r → QStep P o env obs d obs)) (k : DerK P N ops K l ks (env.put o.dst (bif p then d else .raw undef)) obs) : DerK P N ops K (o :: l) (k₀ :: ks) env obs := by
 cases p with
 | false => exact .off hd (off_of hg ht he rfl) k
 | true =>
  rcases hk with rfl | rfl
  ·exact .p hd (on_of hg ht he rfl) ((h rfl).1 rfl) k
  ·exact .r hd (on_of hg ht he rfl) ((h rfl).2 rfl) k
theorem DerK.gF {o : Oper} {k₀ : Kind} {g t : Nat} {p : Bool} {d : D} (hd : dstB N o.dst = true) (hk : k₀ = .p ∨ k₀ = .r) (hg : o.guard = some (g, false)) (ht : (ops[g]?).bind (·.dst) = some t) (he : env.get t = some (.raw (.bool p)))
  (h : p = false → (k₀ = .p → ∀ obs, QStep P o env obs d obs) ∧ (k₀ = .r → QStep P o env obs d obs)) (k : DerK P N ops K l ks (env.put o.dst (bif !p then d else .raw undef)) obs) : DerK P N ops K (o :: l) (k₀ :: ks) env obs := by
 cases p with
 | true => exact .off hd (off_of hg ht he rfl) k
 | false =>
  rcases hk with rfl | rfl
  ·exact .p hd (on_of hg ht he rfl) ((h rfl).1 rfl) k
  ·exact .r hd (on_of hg ht he rfl) ((h rfl).2 rfl) k
theorem DerK.nF {o : Oper} {k₀ : Kind} {g t : Nat} {c p : Bool} {d : D} (hd : dstB N o.dst = true) (hk : k₀ = .p ∨ k₀ = .r) (hg : o.guard = some (g, false)) (ht : (ops[g]?).bind (·.dst) = some t) (he : env.get t = some (bif c then .raw (.bool p) else .raw undef))
  (h : c = true → p = false → (k₀ = .p → ∀ obs, QStep P o env obs d obs) ∧ (k₀ = .r → QStep P o env obs d obs)) (k : DerK P N ops K l ks (env.put o.dst (bif c && !p then d else .raw undef)) obs) : DerK P N ops K (o :: l) (k₀ :: ks) env obs := by
 cases c with
 | false => exact .off hd (off_un hg ht he) k
 | true => exact DerK.gF hd hk hg ht he (h rfl) k
theorem opT {x : Operand} {c : Bool} {d u : D} (h : env.op x = some (bif c then d else u)) (hc : c = true) : env.op x = some d := by rw [h, hc]; rfl
theorem opA {x : Operand} {c r : Bool} {d u : D} (h : env.op x = some (bif c && r then d else u)) (hc : c = true) : env.op x = some (bif r then d else u) := by rw [h, hc]; rfl
theorem opsC {x : Operand} {xs : List Operand} {d : D} {ds : List D} (h : env.op x = some d) (r : env.opsD xs = some ds) : env.opsD (x :: xs) = some (d :: ds) := by simp [Env.opsD, h, r]
theorem nt {p : Bool} (h : p = false) : (!p) = true := by rw [h]; rfl
theorem bF {c p : Bool} (h : c = true) (h' : p = false) : (c && !p) = true := by rw [h, h']; rfl
theorem pk {P : Program} {o : Oper} {env : Env} {d : D} {obs : Obs} (h : ∀ obs, QStep P o env obs d obs) : (Kind.p = .p → ∀ obs, QStep P o env obs d obs) ∧ (Kind.p = .r → QStep P o env obs d obs) := ⟨fun _ => h, (fun e => by cases e)⟩
theorem rk {P : Program} {o : Oper} {env : Env} {d : D} {obs : Obs} (h : QStep P o env obs d obs) : (Kind.r = .p → ∀ obs, QStep P o env obs d obs) ∧ (Kind.r = .r → QStep P o env obs d obs) := ⟨(fun e => by cases e), fun _ => h⟩
theorem q_and {dst : Option Tmp} {ty : TypeId} {pos : String} {aft : Array Edge} {g : Option (Nat × Bool)} {c x : Operand} {b q : Bool} {u : D} (hc : env.op c = some (.raw (.bool b))) (hx : env.op x = some (bif b then .raw (.bool q) else u)) (obs : Obs) :
  QStep P ⟨dst, .pick c x (.const (.bool false)), ty, pos, aft, g⟩ env obs (.raw (.bool (b && q))) obs := by
 cases b with
 | true => exact q_pickT hc rfl hx obs
 | false => exact q_pickF hc rfl rfl obs
theorem q_or {dst : Option Tmp} {ty : TypeId} {pos : String} {aft : Array Edge} {g : Option (Nat × Bool)} {c y : Operand} {b q : Bool} {u : D} (hc : env.op c = some (.raw (.bool b))) (hx : env.op y = some (bif !b then .raw (.bool q) else u)) (obs : Obs) :
  QStep P ⟨dst, .pick c (.const (.bool true)) y, ty, pos, aft, g⟩ env obs (.raw (.bool (b || q))) obs := by
 cases b with
 | true => exact q_pickT hc rfl rfl obs
 | false => exact q_pickF hc rfl hx obs
end
theorem DerK.mono {P : Program} {N : Nat} {ops : Array Oper} {K K' : Env → Obs → Prop} {l : List Oper} {ks : List Kind} {env : Env} {obs : Obs} (h : DerK P N ops K l ks env obs) (hk : ∀ e o, K e o → K' e o) : DerK P N ops K' l ks env obs := by
 induction h with
 | nil h => exact .nil (hk _ _ h)
 | p hd hg h _ ih => exact .p hd hg h ih
 | r hd hg h _ ih => exact .r hd hg h ih
 | w hd hg h _ ih => exact .w hd hg h ih
 | off hd hg _ ih => exact .off hd hg ih
def WPd (P : Program) (F : Fr) : List Code → (Exit → Env → Obs → Prop) → Env → Obs → Prop
 | [], Q, env, obs => Q .normal env obs
 | c :: cs, Q, env, obs => WP P F c (thenQ (WPd P F cs Q) Q) env obs
structure Run (P : Program) (F : Fr) (cs : List Code) (Q : Exit → Env → Obs → Prop) (env : Env) (obs : Obs) : Prop where
 out : WPd P F cs Q env obs
def bq (id : Nat) (K : Env → Obs → Prop) (Q : Exit → Env → Obs → Prop) : Exit → Env → Obs → Prop
 | .normal, env, obs => K env obs
 | .exit i, env, obs => bif Nat.beq i id then K env obs else Q (.exit i) env obs
 | e, env, obs => Q e env obs
section
variable {P : Program} {F : Fr} {Q Q' : Exit → Env → Obs → Prop} {K : Env → Obs → Prop} {env : Env} {obs : Obs} {cs : List Code}
theorem WP.mono {c : Code} (h : WP P F c Q env obs) (hq : ∀ e env obs, Q e env obs → Q' e env obs) : WP P F c Q' env obs :=
 ⟨fun C a w hs => wpIn_mono (h.out C a w hs) fun e _ _ ⟨env', obs', h1, h2⟩ => ⟨env', obs', hq e env' obs' h1, h2⟩⟩
theorem Run.start {c : Code} (h : Run P F [c] Q env obs) : WP P F c Q env obs := WP.mono h.out fun e _ _ h => by cases e <;> exact h
theorem Run.seq {a b : Code} (h : Run P F (a :: b :: cs) Q env obs) : Run P F (.seq a b :: cs) Q env obs := ⟨by
 refine WP.seq (WP.mono h.out ?_)
 intro e env obs h
 cases e <;> exact h⟩
theorem Run.reg {id : Nat} {l : List Oper} (ks : List Kind) (h : DerK P F.N l.toArray (Run P F cs Q) l ks env obs) : Run P F (.region id l.toArray false :: cs) Q env obs :=
 ⟨WP.region (Q := thenQ (WPd P F cs Q) Q) (h.mono fun _ _ h => h.out)⟩
theorem Run.regD {id : Nat} {l : List Oper} (ks : List Kind) (hm : P.follows .mixedOrders = true) (hok : orderOK l.toArray ks = true) (h : DerK P F.N l.toArray (Run P F cs Q) l ks env obs) : Run P F (.region id l.toArray true :: cs) Q env obs :=
 ⟨WP.regionD (Q := thenQ (WPd P F cs Q) Q) hm hok (h.mono fun _ _ h => h.out)⟩
theorem Run.skip (h : Run P F cs Q env obs) : Run P F (.skip :: cs) Q env obs := ⟨WP.skip (Q := thenQ (WPd P F cs Q) Q) h.out⟩
theorem Run.ret (h : Q .ret env obs) : Run P F (.ret :: cs) Q env obs := ⟨WP.ret (Q := thenQ (WPd P F cs Q) Q) h⟩
theorem Run.exit {id : Nat} (h : Q (.exit id) env obs) : Run P F (.exit id :: cs) Q env obs := ⟨WP.exit (Q := thenQ (WPd P F cs Q) Q) h⟩
theorem Run.nil (h : Q .normal env obs) : Run P F [] Q env obs := ⟨h⟩
theorem Run.cond {c : Operand} {x y : Code} {b : Bool} (hc : env.op c = some (.raw (.bool b))) (ht : b = true → Run P F (x :: cs) Q env obs) (hf : b = false → Run P F (y :: cs) Q env obs) : Run P F (.cond c x y :: cs) Q env obs :=
 ⟨WP.cond hc (fun e => (ht e).out) (fun e => (hf e).out)⟩
theorem Run.condT {c : Operand} {x y : Code} {b : Bool} (hc : env.op c = some (.raw (.bool b))) (hb : b = true) (ht : Run P F (x :: cs) Q env obs) : Run P F (.cond c x y :: cs) Q env obs := ⟨WP.condT hc hb ht.out⟩
theorem Run.condF {c : Operand} {x y : Code} {b : Bool} (hc : env.op c = some (.raw (.bool b))) (hb : b = false) (ht : Run P F (y :: cs) Q env obs) : Run P F (.cond c x y :: cs) Q env obs := ⟨WP.condF hc hb ht.out⟩
theorem Run.weak {c : Code} {env' : Env} {obs' : Obs} (h : Le F env obs env' obs') (hr : Run P F (c :: cs) Q env' obs') : Run P F (c :: cs) Q env obs := ⟨WP.weak h hr.out⟩
theorem Run.block {id : Nat} {c : Code} (h : Run P F [c] (bq id (Run P F cs Q) Q) env obs) : Run P F (.block id c :: cs) Q env obs := ⟨by
 refine WP.block (WP.mono h.start ?_)
 intro e env obs h
 cases e with
 | normal => exact h.out
 | exit i =>
  simp only [bq, blockQ] at h ⊢
  cases hb : Nat.beq i id with
  | true => simp only [hb, cond_true] at h ⊢; exact h.out
  | false => simp only [hb, cond_false] at h ⊢; exact h
 | _ => exact h⟩
theorem bN0 {id : Nat} (h : K env obs) : bq id K Q .normal env obs := h
theorem bX0 {id : Nat} (h : K env obs) : bq id K Q (.exit id) env obs := by simp only [bq, Nat.beq_refl, cond_true]; exact h
theorem bq_pass {id i : Nat} (hi : Nat.beq i id = false) (h : Q (.exit i) env obs) : bq id K Q (.exit i) env obs := by simp only [bq, hi, cond_false]; exact h
theorem bq_ret {id : Nat} (h : Q .ret env obs) : bq id K Q .ret env obs := h
theorem tN0 (h : K env obs) : thenQ K Q .normal env obs := h
theorem tX0 {i : Nat} (h : Q (.exit i) env obs) : thenQ K Q (.exit i) env obs := h
theorem tq_ret (h : Q .ret env obs) : thenQ K Q .ret env obs := h
theorem Run.loop {ι : Type} {c : Code} (E : ι → Env) (B : ι → Obs) (m : ι → Nat) (x0 : ι) (h0 : Le F env obs (E x0) (B x0))
  (round : ∀ x, Run P F [c] (thenQ (fun e o => ∃ x', m x' < m x ∧ Le F e o (E x') (B x')) Q) (E x) (B x)) : Run P F (.loop c :: cs) Q env obs := ⟨by
 refine WP.loop E B m x0 h0 fun x => WP.mono (round x).start ?_
 intro e env obs h
 cases e <;> exact h⟩
end
theorem Run.bStr {P : Program} {F : Fr} {Q : Exit → Env → Obs → Prop} {env : Env} {obs : Obs} {c : Code} {cs : List Code} {s : List UInt8} (t : Nat) (h : env.get t = some (.str s)) (k : s.length ≤ big → Run P F (c :: cs) Q env obs) : Run P F (c :: cs) Q env obs := ⟨⟨fun C a w hs => by
 have hb : s.length ≤ big := by
  obtain ⟨ρ, hs⟩ := hs
  have := hs.env t _ h
  simp only [V] at this
  exact this.2
 exact (k hb).out.out C a w hs⟩⟩
theorem Run.bSnap {P : Program} {F : Fr} {Q : Exit → Env → Obs → Prop} {env : Env} {obs : Obs} {c : Code} {cs : List Code} {sz : Nat} {f : Bool} {rows : List (List D)} (t : Nat) (h : env.get t = some (.snap sz f rows)) (k : rows.length ≤ big → Run P F (c :: cs) Q env obs) : Run P F (c :: cs) Q env obs := ⟨⟨fun C a w hs => by
 have hb : rows.length ≤ big := by
  obtain ⟨ρ, hs⟩ := hs
  have := hs.env t _ h
  simp only [V] at this
  obtain ⟨_, _, _, h1, _⟩ := this
  exact h1.2
 exact (k hb).out.out C a w hs⟩⟩
theorem Run.bAgg {P : Program} {F : Fr} {Q : Exit → Env → Obs → Prop} {env : Env} {obs : Obs} {c : Code} {cs : List Code} {ds : List D} {sz : Nat} {f : Bool} {rows : List (List D)} (t i : Nat) (h : env.get t = some (.agg ds)) (hi : ds[i]? = some (.snap sz f rows)) (k : rows.length ≤ big → Run P F (c :: cs) Q env obs) : Run P F (c :: cs) Q env obs := ⟨⟨fun C s w hs => by
 have hb : rows.length ≤ big := by
  obtain ⟨ρ, hs⟩ := hs
  have h1 := hs.env t _ h
  simp only [V] at h1
  obtain ⟨vs, _, h1⟩ := h1
  obtain ⟨v, _, h2⟩ := h1.get i _ hi
  simp only [V] at h2
  obtain ⟨_, _, _, h3, _⟩ := h2
  exact h3.2
 exact (k hb).out.out C s w hs⟩⟩
theorem Sub.int {k : IntKind} {n m : Int} (h : n = m) : Sub (.raw (.int k n)) (.raw (.int k m)) := .of_eq (by rw [h])
theorem Sub.bool {n m : Bool} (h : n = m) : Sub (.raw (.bool n)) (.raw (.bool m)) := .of_eq (by rw [h])
theorem Sub.str {n m : List UInt8} (h : n = m) : Sub (.str n) (.str m) := .of_eq (by rw [h])
theorem Sub.snap {sz : Nat} {f : Bool} {n m : List (List D)} (h : n = m) : Sub (.snap sz f n) (.snap sz false m) := h ▸ .unfull sz f n
theorem ret1 {env : Env} {obs : Obs} {t : Nat} {d r : D} (h : env.get t = some d) (s : Sub d r) : retQ [t] r .ret env obs := ⟨[d], by simp [getAll, h], s⟩
theorem ret2 {env : Env} {obs : Obs} {t u : Nat} {d e d' e' : D} (h : env.get t = some d) (h' : env.get u = some e) (s : Sub d d') (s' : Sub e e') : retQ [t, u] (.tup [d', e']) .ret env obs := ⟨[d, e], by simp [getAll, h, h'], .tup2 s s'⟩
theorem iMd {α β : Type} {l pre rest : List α} {x : α} {n : Int} (f : α → β) (h : l = pre ++ x :: rest) (hn : n = (pre.length : Int)) : (l.map f)[n.toNat]? = some (f x) := by
 subst h; subst hn; simp
theorem idx_midS {l pre rest : List UInt8} {x : UInt8} {n : Int} (h : l = pre ++ x :: rest) (hn : n = (pre.length : Int)) : l[n.toNat]? = some x := by
 subst h; subst hn; simp
theorem wrap64_ok {n : Int} (h1 : -9223372036854775808 ≤ n) (h2 : n ≤ 9223372036854775807) : IntKind.i64.wrap n = n := IntWalk.i64_in n ⟨h1, h2⟩
theorem w64 {n : Int} (h : -9223372036854775808 ≤ n ∧ n ≤ 9223372036854775807) : IntKind.i64.wrap n = n := IntWalk.i64_in n h
theorem wrapu64_ok {n : Int} (h1 : 0 ≤ n) (h2 : n ≤ 18446744073709551615) : IntKind.u64.wrap n = n := IntWalk.u64_in n ⟨h1, h2⟩
theorem Fc.mk' {P : Program} {f : FuncId} {fn : Func} {c : Code} {args : List D} {r : D} (ts : List Nat) (hf : P.funcs[f]? = some fn) (hb : fn.body = some c) {N : Nat} (hN : fn.ntmps = N) (hn : Nat.ble args.length N = true) (hp : D.pureB.pureL args = true) (hr : r.pureB = true)
  (hres : ∀ tmps w, (results fn tmps).run P w = .ok (resV ts tmps) w) (h : Run P ⟨N, [], false, none⟩ [c] (retQ ts r) (args0 args 0) []) : Fc P f args r :=
 Fc.of_wp ts hf hb hN (Nat.le_of_ble_eq_true hn) hp hr hres h.start
end Go.T
namespace Go.T
open Go
variable [Noise]
theorem DerK.mv {P : Program} {N : Nat} {ops : Array Oper} {K : Env → Obs → Prop} {dst : Option Tmp} {ty : TypeId} {pos : String} {aft : Array Edge} {x : Operand} {l : List Oper} {ks : List Kind} {env : Env} {obs : Obs} {d : D} (hd : dstB N dst = true) (hx : env.op x = some d)
  (k : DerK P N ops K l ks (env.put dst d) obs) : DerK P N ops K (⟨dst, .move x, ty, pos, aft, none⟩ :: l) (.p :: ks) env obs := .p hd trivial (fun _ => qMv hx _) k
theorem DerK.ag {P : Program} {N : Nat} {ops : Array Oper} {K : Env → Obs → Prop} {dst : Option Tmp} {ty : TypeId} {pos : String} {aft : Array Edge} {x : Operand} {l : List Oper} {ks : List Kind} {env : Env} {obs : Obs} {d : D} (hd : dstB N dst = true) (hx : env.op x = some d)
  (k : DerK P N ops K l ks (env.put dst d) obs) : DerK P N ops K (⟨dst, .assign x, ty, pos, aft, none⟩ :: l) (.p :: ks) env obs := .p hd trivial (fun _ => q_assign hx _) k
theorem bs : ((∀ a b : Bool, ((a && b) = true) = (a = true ∧ b = true)) ∧ (∀ a b : Bool, ((a || b) = true) = (a = true ∨ b = true)) ∧ (∀ x y : Bool, ((x && y) = false) = (x = false ∨ y = false)) ∧ (∀ x y : Bool, ((x || y) = false) = (x = false ∧ y = false)) ∧
  (∀ (p : Prop) [Decidable p], (decide p = true) = p) ∧ (∀ (p : Prop) [Decidable p], (decide p = false) = ¬ p) ∧ (∀ b : Bool, ((!b) = true) = (b = false)) ∧ (∀ b : Bool, ((!b) = false) = (b = true)) ∧ (∀ a b : Int, (¬ a < b) = (b ≤ a)) ∧ (∀ a b : Int, (¬ a ≤ b) = (b < a)) ∧
  (∀ p : Prop, (¬ ¬ p) = p)) ∧ (∀ {α : Type} [BEq α] [LawfulBEq α] (a b : α), ((a != b) = true) = (a ≠ b)) ∧ (∀ {α : Type} (a b : α), (a ≠ b) = ¬ (a = b)) ∧ (∀ {α β : Type} (f : α → β) (l : List α), (l.map f).length = l.length) :=
 ⟨⟨fun a b => by simp, fun a b => by simp, fun a b => by cases a <;> cases b <;> simp, fun a b => by simp, fun p _ => by simp, fun p _ => by simp, fun b => by simp, fun b => by simp, fun a b => by simp, fun a b => by simp, fun p => by simp⟩, fun a b => by simp, fun a b => rfl, fun f l => by simp⟩
theorem DerK.P {P : Program} {N : Nat} {ops : Array Oper} {K : Env → Obs → Prop} {dst : Option Tmp} {o : Op} {ty : TypeId} {pos : String} {aft : Array Edge} {l : List Oper} {ks : List Kind} {env : Env} {obs : Obs} {d : D} (hd : dstB N dst = true) (h : ∀ obs, QStep P ⟨dst, o, ty, pos, aft, none⟩ env obs d obs) (k : DerK P N ops K l ks (env.put dst d) obs) : DerK P N ops K (⟨dst, o, ty, pos, aft, none⟩ :: l) (.p :: ks) env obs := .p hd trivial h k
theorem DerK.R {P : Program} {N : Nat} {ops : Array Oper} {K : Env → Obs → Prop} {dst : Option Tmp} {o : Op} {ty : TypeId} {pos : String} {aft : Array Edge} {l : List Oper} {ks : List Kind} {env : Env} {obs : Obs} {d : D} (hd : dstB N dst = true) (h : QStep P ⟨dst, o, ty, pos, aft, none⟩ env obs d obs) (k : DerK P N ops K l ks (env.put dst d) obs) : DerK P N ops K (⟨dst, o, ty, pos, aft, none⟩ :: l) (.r :: ks) env obs := .r hd trivial h k
theorem DerK.W {P : Program} {N : Nat} {ops : Array Oper} {K : Env → Obs → Prop} {dst : Option Tmp} {o : Op} {ty : TypeId} {pos : String} {aft : Array Edge} {l : List Oper} {ks : List Kind} {env : Env} {obs obs' : Obs} {d : D} (hd : dstB N dst = true) (h : QStep P ⟨dst, o, ty, pos, aft, none⟩ env obs d obs') (k : DerK P N ops K l ks (env.put dst d) obs') : DerK P N ops K (⟨dst, o, ty, pos, aft, none⟩ :: l) (.w :: ks) env obs := .w hd trivial h k
theorem Sub.intA {k : IntKind} {n m : Int} (h : n = m := by first | rfl | (simp; done) | omega | (simp; omega)) : Sub (.raw (.int k n)) (.raw (.int k m)) := .int h
theorem Sub.boolA {n m : Bool} (h : n = m := by first | rfl | (simp; done) | omega | (simp; omega)) : Sub (.raw (.bool n)) (.raw (.bool m)) := .bool h
theorem Sub.strA {n m : List UInt8} (h : n = m := by first | rfl | (simp; done) | omega | (simp; omega)) : Sub (.str n) (.str m) := .str h
end Go.T
namespace Go.T
open Go
variable [Noise]
section
variable {P : Program} {env : Env} {dst : Option Tmp} {ty : TypeId} {pos : String} {aft : Array Edge} {g : Option (Nat × Bool)}
theorem q_max {tys : Array TypeId} {x y : Operand} {k : IntKind} {n m r : Int} (hx : env.op x = some (.raw (.int k n))) (hy : env.op y = some (.raw (.int k m))) (h : max n m = r) (obs : Obs) : QStep P ⟨dst, .call ⟨.builtin .max, #[x, y], tys⟩, ty, pos, aft, g⟩ env obs (.raw (.int k r)) obs :=
 .val fun _ _ a w _ hv => ⟨.int k r, by
  have h1 := hv x (by simp [Op.operands, Call.operands]) _ hx
  have h2 := hv y (by simp [Op.operands, Call.operands]) _ hy
  simp only [V] at h1 h2
  have : (if m > n then m else n) = r := by rw [← h]; omega
  simp [execOp, resolve, invoke, builtin, Builtin.max_, Builtin.max2, h1, h2, this], by simp [V]⟩
theorem q_min {tys : Array TypeId} {x y : Operand} {k : IntKind} {n m r : Int} (hx : env.op x = some (.raw (.int k n))) (hy : env.op y = some (.raw (.int k m))) (h : min n m = r) (obs : Obs) : QStep P ⟨dst, .call ⟨.builtin .min, #[x, y], tys⟩, ty, pos, aft, g⟩ env obs (.raw (.int k r)) obs :=
 .val fun _ _ a w _ hv => ⟨.int k r, by
  have h1 := hv x (by simp [Op.operands, Call.operands]) _ hx
  have h2 := hv y (by simp [Op.operands, Call.operands]) _ hy
  simp only [V] at h1 h2
  have : (if m < n then m else n) = r := by rw [← h]; omega
  simp [execOp, resolve, invoke, builtin, Builtin.min_, Builtin.min2, h1, h2, this], by simp [V]⟩
@[reducible] def byteRows (s : Str) : List (List D) := s.map fun c => [.raw (.int .u8 c.toNat)]
theorem byteRows_V {w : World} {O : Nat → Prop} {b : Nat} {c : Array Value} {T : TypeId} {fr : Nat × Nat} (hb : w.heap[b]? = some (.cells c T fr)) : ∀ (s : Str) (off : Nat), (∀ j x, s[j]? = some x → c.toList[off + j]? = some (.int .u8 x.toNat)) → Vr w O b off 1 (byteRows s)
 | [], off, _ => by simp [byteRows, Vr]
 | x :: s, off, h => by
  simp only [byteRows, List.map_cons, Vr]
  refine ⟨⟨rfl, ?_⟩, byteRows_V hb s (off + 1) (fun j y hj => ?_)⟩
  ·simp only [Vc]
   have h0 := h 0 x rfl
   refine ⟨⟨.int .u8 x.toNat, ⟨?_, rfl⟩, by simp [V]⟩, trivial⟩
   simp only [World.cell?, hb]
   simpa using h0
  ·have := h (j + 1) y (by simpa using hj)
   rw [show off + 1 + j = off + (j + 1) by omega]; exact this
theorem run_row_marked (e : TypeId) (c : Array Value) (n cap : Nat) (w : World) : (do let a ← newRow e c; markStringish a; pure (Value.slice (some a) n cap) : Sem Value).run P w = .ok (.slice (some ⟨w.heap.size, 0, none⟩) n cap) { w with heap := w.heap.push (.cells c e (c.size, c.size + 1)) } := by
 have h1 : (newRow e c).run P w = .ok ⟨w.heap.size, 0, none⟩ { w with heap := w.heap.push (.cells c e (0, 0)) } := by
  simp [newRow, run_newObj_alloc]
 have h2 : (markStringish ⟨w.heap.size, 0, none⟩).run P { w with heap := w.heap.push (.cells c e (0, 0)) } = .ok () { w with heap := w.heap.push (.cells c e (c.size, c.size + 1)) } := by
  have hs : World.shape? { w with heap := w.heap.push (.cells c e (0, 0)) } w.heap.size = some (e, c.size) := by simp [World.shape?]
  have hf : World.freeze { w with heap := w.heap.push (.cells c e (0, 0)) } ⟨w.heap.size, c.size, none⟩ 1 = { w with heap := w.heap.push (.cells c e (c.size, c.size + 1)) } := by
   unfold World.freeze
   rw [if_neg (by omega)]
   congr 1
   apply Array.ext
   ·simp
   ·intro i h1 h2
    simp only [Array.getElem_modify, Array.getElem_push]
    by_cases hi : w.heap.size = i
    ·subst hi; simp
    ·have : i < w.heap.size := by simp at h2; omega
     simp [hi, this]
  unfold markStringish
  rw [Sem.run_bind]
  have : (shape w.heap.size).run P { w with heap := w.heap.push (.cells c e (0, 0)) } = .ok (some (e, c.size)) { w with heap := w.heap.push (.cells c e (0, 0)) } := by
   show Result.ok (World.shape? _ _) _ = _
   rw [hs]
  rw [this]
  show Result.ok () (World.freeze _ _ _) = _
  rw [hf]
 rw [Sem.run_bind, h1]
 simp only [Result.andThen_ok]
 rw [Sem.run_bind, h2]
 rfl
theorem q_bytes {st t e : TypeId} {x : Operand} {s : Str} {u : TypeDesc} (hs : P.underlying st = some .string) (ht : P.underlying t = some (.slice e)) (he : P.underlying e = some (.int .u8)) (hx : env.op x = some (.str s)) (obs : Obs) :
  QStep P ⟨dst, .convert st t x, ty, pos, aft, g⟩ env obs (.snap 1 false (byteRows s)) obs :=
 .step fun O ρ a w hok hv => by
  have h1 := hv x (by simp [Op.operands]) _ hx
  simp only [V] at h1
  have hsz : (⟨s.toArray⟩ : ByteArray).size = s.length := by simp [ByteArray.size]
  obtain ⟨cap, hcap, hrun⟩ : ∃ cap, s.length ≤ cap ∧ (Conv.stringToBytes e ⟨s.toArray⟩).run P w = .ok (.slice (some ⟨w.heap.size, 0, none⟩) s.length cap) { w with drawn := w.drawn + 1, heap := w.heap.push (.cells ((s.toArray.map fun b => .int .u8 b.toNat) ++ Array.replicate (cap - s.length) (.int .u8 0)) e (cap, cap + 1)) } := by
   refine ⟨s.length + (w.tape w.drawn (.appendCap s.length 0 e)) % (2 ^ 63 - s.length), by omega, ?_⟩
   have hq : Question.forced (.appendCap s.length 0 e) = false := rfl
   have hc : Question.cut (.appendCap s.length 0 e) (w.tape w.drawn (.appendCap s.length 0 e)) = s.length + (w.tape w.drawn (.appendCap s.length 0 e)) % (2 ^ 63 - s.length) := by simp [Question.cut]
   unfold Conv.stringToBytes
   rw [hsz, Sem.run_bind, run_choose_drew, hq]
   simp only [Bool.false_eq_true, if_false, Result.andThen_ok, hc]
   rw [run_row_marked]
   have : s.length + (w.tape w.drawn (.appendCap s.length 0 e)) % (2 ^ 63 - s.length) - s.length = (w.tape w.drawn (.appendCap s.length 0 e)) % (2 ^ 63 - s.length) := by omega
   rw [this]
   have hsz2 : ((s.toArray.map fun b => Value.int .u8 b.toNat) ++ Array.replicate ((w.tape w.drawn (.appendCap s.length 0 e)) % (2 ^ 63 - s.length)) (Value.int .u8 0)).size = s.length + (w.tape w.drawn (.appendCap s.length 0 e)) % (2 ^ 63 - s.length) := by simp
   rw [hsz2]; rfl
  let w' : World := { w with drawn := w.drawn + 1, heap := w.heap.push (.cells ((s.toArray.map fun b => .int .u8 b.toNat) ++ Array.replicate (cap - s.length) (.int .u8 0)) e (cap, cap + 1)) }
  have htr : Tr O w ρ obs w' ρ obs := Tr.of_keep ⟨by simp [w'], fun b hb => by
   show (w.heap.push _)[b]? = _
   rw [Array.getElem?_push, if_neg (by omega)], rfl, rfl, .inl ⟨rfl, Nat.le_succ _⟩⟩ hok
  have hv' : V w' (Ot O ρ obs) ρ (.snap 1 false (byteRows s)) (.slice (some ⟨w.heap.size, 0, none⟩) s.length cap) := by
   simp only [V]
   refine ⟨_, _, by simp [byteRows]; rfl, ⟨by simpa [byteRows] using hcap, by simpa [byteRows] using h1.2⟩, by simp, fun _ => ⟨w.heap.size, 0, rfl, ⟨by simp [w'], ?_⟩, byteRows_V (c := (s.toArray.map fun b => .int .u8 b.toNat) ++ Array.replicate (cap - s.length) (.int .u8 0)) (T := e) (fr := (cap, cap + 1)) (by simp [w']) s 0 ?_⟩⟩
   ·rintro (hb | hb)
    ·have := hok.lt _ hb; omega
    ·have := (hok.block hb).1; omega
   ·intro j y hj
    have hlt : j < s.length := (List.getElem?_eq_some_iff.1 hj).1
    have hjx : s[j] = y := (List.getElem?_eq_some_iff.1 hj).2
    simp [List.getElem?_append_left, hlt, hjx]
  refine ⟨_, w', ρ, .inl ?_, htr, hv'⟩
  have hcv : (convert st t (.string ⟨s.toArray⟩)).run P w = .ok (.slice (some ⟨w.heap.size, 0, none⟩) s.length cap) w' := by
   simp only [convert, Sem.run_bind, run_und hs, run_und ht, run_und he, Result.andThen_ok, hrun, w']
  simp [execOp, h1.1, hcv]
end
end Go.T
namespace Go.T
open Go
variable [Noise]
theorem Sub.gs {id n m : Nat} (h : n = m) : Sub (.gs id n) (.gs id m) := .of_eq (by rw [h])
theorem ObsLe.arr {all obs e : Obs} {i sz : Nat} {rows rows' : List (List D)} (h : obs.get i = some (.arr sz rows)) (he : rows = rows') (r : ObsLe all obs e) : ObsLe all obs ((i, .arr sz rows') :: e) := by
 subst he; exact .cons h rfl r
theorem ObsLe.eq {all obs e : Obs} {i : Nat} {o o' : Ob} (h : obs.get i = some o) (he : o = o') (hp : o'.okB all.has = true) (r : ObsLe all obs e) : ObsLe all obs ((i, o') :: e) := by
 subst he; exact .cons h hp r
theorem zeros_list (z : Value) (m : Nat) : ((Array.range m).map (z.cells[· % z.cells.size]!)).toList = (List.range m).map fun x => (z.cells.toList[x % z.cells.toList.length]?).getD default := by
 rw [Array.toList_map, Array.toList_range]
 refine List.map_congr_left fun x _ => ?_
 simp only [Array.length_toList, Array.getElem?_toList]
 exact getElem!_def ..
section
variable {P : Program} {env : Env} {dst : Option Tmp} {ty : TypeId} {pos : String} {aft : Array Edge} {g : Option (Nat × Bool)}
theorem qBu {t e : TypeId} {n sz : Nat} {z : Value} {xs : List (Nat × Operand)} {pds : List (Nat × D)} {cs : List D} {rows : List (List D)} (hu : P.underlying t = some (.slice e)) (hs : ∀ w, (sizeOf e).run P w = .ok sz w) (hn : Nat.ble (n * sz) 16777216 = true) (hnb : Nat.ble n 16777216 = true)
  (hn0 : Nat.beq (n * sz) 0 = false) (hz : ∀ w, (zeroValue e).run P w = .ok z w) (hx : env.partsD xs = some pds)
  (hf : fillD (fun i => some (i * sz, sz)) (((List.range (n * sz)).map fun x => (z.cells.toList[x % z.cells.toList.length]?).getD default).map rawD) pds = some cs) (hr : rows.flatten = cs) (hlen : rows.length = n) (hrl : rows.all (fun r => Nat.beq r.length sz) = true) (h1 : oneL cs = true) (hp : D.pureB.pureL cs = true) (obs : Obs) :
  QStep P ⟨dst, .buildSlice t n xs.toArray, ty, pos, aft, g⟩ env obs (.snap sz true rows) obs :=
 q_buildSlice hu hs (Nat.le_of_ble_eq_true hn) (Nat.le_of_ble_eq_true hnb) (by intro h; rw [h] at hn0; simp at hn0) hz hx (by rw [zeros_list]; exact hf) hr hlen hrl h1 hp obs
end
end Go.T
namespace Go.T
open Go
theorem ObsLe.eqA {all obs e : Obs} {i : Nat} {o o' : Ob} (h : obs.get i = some o) (hp : o'.okB all.has = true) (r : ObsLe all obs e) (he : o = o' := by first | rfl | (simp; done)) : ObsLe all obs ((i, o') :: e) := .eq h he hp r
structure Line where
 account : Str
 currency : Str
 amount : Str
 deriving DecidableEq, Inhabited
structure Entry where
 day : Int
 cause : Str
 lines : List Line
 deriving DecidableEq, Inhabited
@[reducible] def sStrs (l : List Str) : D := .snap 1 false (l.map fun s => [.str s])
def isDig (c : UInt8) : Bool := 48 ≤ c.toNat && c.toNat ≤ 57
def stripNeg : Str → Str × Bool
 | 45 :: r => (r, true)
 | s => (s, false)
def dropZ : Str → Str
 | 48 :: r => dropZ r
 | s => s
def digits (s : Str) : Str × Bool := if (stripNeg s).1.all isDig then (dropZ (stripNeg s).1, (stripNeg s).2 && decide (dropZ (stripNeg s).1 ≠ [])) else ([], false)
def natVal (d : Str) : Nat := d.foldl (fun a c => 10 * a + (c.toNat - 48)) 0
def val (s : Str) : Int := if (digits s).2 then -(natVal (digits s).1 : Int) else natVal (digits s).1
def nameChar (c : UInt8) : Bool := (97 ≤ c.toNat && c.toNat ≤ 122) || (48 ≤ c.toNat && c.toNat ≤ 57) || c.toNat == 95
def isName (s : Str) : Bool := 1 ≤ s.length && s.length ≤ 16 && s.all nameChar
def isCode (s : Str) : Bool := s.all (fun c => 65 ≤ c.toNat && c.toNat ≤ 90) && s.length == 3
def validDay (d : Int) : Bool := decide (-25567 ≤ d) && decide (d ≤ 84005)
def greatLine (x : Line) : Bool := decide (60 < x.account.length) || decide (60 < x.currency.length) || decide (13 < x.amount.length)
def greatOne (e : Entry) : Bool := decide (60 < e.cause.length) || (decide (8 < e.lines.length) && decide (e.lines.length ≤ 64)) || decide (66 < e.lines.length) || e.lines.any greatLine
def great (l : List Entry) : Bool := decide (10 < l.length) || l.any greatOne
def cmpT (a b : Str) : Int := if Str.lt a b then -1 else if Str.lt b a then 1 else 0
def negS (s : Str) : Str := if (digits s).2 = true ∨ (digits s).1 = [] then (digits s).1 else 45 :: (digits s).1
structure Frac where
 num : Str
 den : Str
 deriving DecidableEq, Inhabited
structure Pick where
 lot : Str
 qty : Str
 deriving DecidableEq, Inhabited
structure Opt where
 other : Str
 ratio : Frac
 price : Frac
 value : Frac
 deriving DecidableEq, Inhabited
structure Fact where
 key : Str
 stamp : Int
 cancelled : Bool
 day : Int
 kind : Int
 instr : Str
 other : Str
 cur : Str
 target : Str
 qty : Str
 amt : Str
 fee : Str
 price : Frac
 ratio : Frac
 share : Frac
 picks : List Pick
 opts : List Opt
 choice : Int
 deriving DecidableEq, Inhabited
structure Inst where
 id : Str
 kind : Int
 cur : Str
 places : Int
 issued : Int
 matures : Int
 face : Frac
 coupon : Frac
 months : Int
 count : Int
 other : Str
 strike : Frac
 deriving DecidableEq, Inhabited
structure Cur where
 code : Str
 places : Int
 deriving DecidableEq, Inhabited
structure Acct where
 code : Str
 kind : Int
 deriving DecidableEq, Inhabited
structure Setup where
 curs : List Cur
 insts : List Inst
 accts : List Acct
 weekend : List Int
 holidays : List Int
 marks : List Int
 stale : Int
 deriving DecidableEq, Inhabited
@[reducible] def encFrac (x : Frac) : List D := [.str x.num, .str x.den]
@[reducible] def encPick (x : Pick) : List D := [.str x.lot, .str x.qty]
@[reducible] def encOpt (x : Opt) : List D := [.str x.other, .str x.ratio.num, .str x.ratio.den, .str x.price.num, .str x.price.den, .str x.value.num, .str x.value.den]
@[reducible] def sFracs (l : List Frac) : D := .snap 2 false (l.map encFrac)
@[reducible] def sPicks (l : List Pick) : D := .snap 2 false (l.map encPick)
@[reducible] def sOpts (l : List Opt) : D := .snap 7 false (l.map encOpt)
@[reducible] def encFact (f : Fact) : List D := [.str f.key, .i f.stamp, .b f.cancelled, .i f.day, .i f.kind, .str f.instr, .str f.other, .str f.cur, .str f.target, .str f.qty, .str f.amt, .str f.fee,
 .str f.price.num, .str f.price.den, .str f.ratio.num, .str f.ratio.den, .str f.share.num, .str f.share.den, sPicks f.picks, sOpts f.opts, .i f.choice]
@[reducible] def encInst (x : Inst) : List D := [.str x.id, .i x.kind, .str x.cur, .i x.places, .i x.issued, .i x.matures, .str x.face.num, .str x.face.den, .str x.coupon.num, .str x.coupon.den, .i x.months, .i x.count, .str x.other, .str x.strike.num, .str x.strike.den]
@[reducible] def encCur (x : Cur) : List D := [.str x.code, .i x.places]
@[reducible] def encAcct (x : Acct) : List D := [.str x.code, .i x.kind]
@[reducible] def sInts (l : List Int) : D := .snap 1 false (l.map fun n => [D.i n])
@[reducible] def sCurs (l : List Cur) : D := .snap 2 false (l.map encCur)
@[reducible] def sInsts (l : List Inst) : D := .snap 15 false (l.map encInst)
@[reducible] def sAccts (l : List Acct) : D := .snap 2 false (l.map encAcct)
@[reducible] def sFacts (l : List Fact) : D := .snap 21 false (l.map encFact)
@[reducible] def encSetup (s : Setup) : List D := [sCurs s.curs, sInsts s.insts, sAccts s.accts, sInts s.weekend, sInts s.holidays, sInts s.marks, .i s.stale]
@[reducible] def gt (n : Int) (s : Str) : Bool := decide (n < (s.length : Int))
@[reducible] def gtL {α : Type} (n : Int) (l : List α) : Bool := decide (n < (l.length : Int))
@[reducible] def leL {α : Type} (n : Int) (l : List α) : Bool := decide ((l.length : Int) ≤ n)
def greatFr (f : Frac) : Bool := gt 60 f.num || gt 60 f.den
def greatInst (x : Inst) : Bool := gt 60 x.id || gt 60 x.cur || gt 60 x.other || [x.face, x.coupon, x.strike].any greatFr
def greatInsts (l : List Inst) : Bool := l.any greatInst || (gtL 8 l && leL 64 l || gtL 67 l)
def greatTab (l : List Cur) : Bool := (l.take 24).any (fun c => gt 8 c.code) || gtL 18 l
def greatCal (w h : List Int) : Bool := gtL 10 w || gtL 20 h && decide ((h.length : Int) < 980) || gtL 1005 h
def greatSetup (s : Setup) : Bool := s.accts.any (fun a => gt 120 a.code) || (gtL 16 s.accts && leL 256 s.accts || gtL 259 s.accts) ||
 (greatInsts s.insts || greatTab s.curs || greatCal s.weekend s.holidays || gtL 4 s.marks && leL 64 s.marks || gtL 66 s.marks)
def longFr (f : Frac) : Bool := gt 13 f.num || gt 13 f.den
def greatPick (p : Pick) : Bool := gt 30 p.lot || decide (13 < p.qty.length)
def greatOpt (o : Opt) : Bool := gt 24 o.other || longFr o.ratio || longFr o.price || longFr o.value
def greatFact1 (f : Fact) : Bool := gt 24 f.key || gt 24 f.instr || gt 24 f.other || gt 24 f.cur || gt 24 f.target || decide (13 < f.qty.length) || decide (13 < f.amt.length) || decide (13 < f.fee.length) || longFr f.price || longFr f.ratio || longFr f.share
def greatFact2 (f : Fact) : Bool := gtL 4 f.picks && leL 64 f.picks || gtL 66 f.picks || gtL 3 f.opts && leL 8 f.opts || gtL 10 f.opts
def greatFact (f : Fact) : Bool := greatFact1 f || (greatFact2 f || (f.picks.any greatPick || f.opts.any greatOpt))
def greatFacts (l : List Fact) : Bool := (gtL 12 l && leL 1000 l || gtL 1002 l) || l.any greatFact
def greatView (l : List Fact) : Bool := gtL 8 l || greatFacts l
theorem any_T {α : Type} {l pre rest : List α} {x : α} {P : α → Bool} (hx : l = pre ++ x :: rest) (h : P x = true) : l.any P = true := by subst hx; simp [h]
theorem any_F {α : Type} {l pre : List α} {P : α → Bool} (hx : l = pre ++ []) (h : pre.any P = false) : l.any P = false := by subst hx; simpa using h
theorem any_S {α : Type} {pre : List α} {x : α} {P : α → Bool} (h : pre.any P = false) (h2 : P x = false) : (pre ++ [x]).any P = false := by simp [h2]; simpa using h
theorem any24_T {α : Type} {l pre rest : List α} {x : α} {P : α → Bool} (hx : l = pre ++ x :: rest) (h : P x = true) (hn : pre.length < 24) : (l.take 24).any P = true := by
 subst hx
 rw [List.take_append, List.take_of_length_le (by omega), show 24 - pre.length = (23 - pre.length) + 1 by omega, List.take_succ_cons]
 simp [h]
theorem any24_F {α : Type} {l pre rest : List α} {P : α → Bool} (hx : l = pre ++ rest) (hp : pre.any P = false) (h24 : pre.length ≤ 24) (h : rest = [] ∨ 24 ≤ pre.length) : (l.take 24).any P = false := by
 subst hx
 rcases h with rfl | h
 ·rw [List.append_nil, List.take_of_length_le h24]; exact hp
 ·rw [List.take_append_of_le_length h, List.take_of_length_le h24]; exact hp
theorem or1 {a b : Bool} (h : a = true) : true = (a || b) := by simp [h]
theorem or2 {a b c : Bool} (h : a = false) (h' : c = b) : c = (a || b) := by simp [h, h']
end Go.T
