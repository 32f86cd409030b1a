/-
  Contracts of the functions that the statement reaches, and the logic in which they are proved (no condition): parts Spec21, Core28, W18, W19, W20, W21, W22, W23.
-/
import Derived.Test.YtlhemheagekhaaaGreatDoorA08
set_option linter.all false
namespace Go.T
open Go
def insI (c : Entry → Entry → Int) : List Entry → Entry → List Entry
 | [], x => [x]
 | y :: r, x => if c x y < 0 then y :: insI c r x else x :: y :: r
def sortI (c : Entry → Entry → Int) (l : List Entry) : List Entry := (l.foldl (insI c) []).reverse
theorem insI_len (c : Entry → Entry → Int) (r : List Entry) (x : Entry) : (insI c r x).length = r.length + 1 := by
 induction r with
 | nil => rfl
 | cons y r ih => simp only [insI]; split <;> simp [ih]
theorem insI_mem (c : Entry → Entry → Int) (r : List Entry) (x e : Entry) : e ∈ insI c r x ↔ e = x ∨ e ∈ r := by
 induction r with
 | nil => simp [insI]
 | cons y r ih =>
  simp only [insI]
  split
  ·simp only [List.mem_cons, ih]; constructor
   ·rintro (h | h | h) <;> simp [h]
   ·rintro (h | h | h) <;> simp [h]
  ·simp
theorem ins_done1 {c : Entry → Entry → Int} {q R : List Entry} {x : Entry} (hr : q.reverse ++ insI c ([] : List Entry).reverse x = R) : ([] ++ x :: q).reverse = R := by rw [← hr]; simp [insI]
theorem ins_done2 {c : Entry → Entry → Int} {p q R : List Entry} {x y : Entry} (hr : q.reverse ++ insI c (p ++ [y]).reverse x = R) (h : ¬ c x y < 0) : ((p ++ [y]) ++ x :: q).reverse = R := by rw [← hr]; simp [insI, h]
theorem rowX (p : List Entry) (y x : Entry) (r : List Entry) : (((p ++ [y]) ++ x :: r).map encEntry)[(p ++ [y]).length]? = some (encEntry x) := by simp
theorem rowY (p : List Entry) (y x : Entry) (r : List Entry) : (((p ++ [y]) ++ x :: r).map encEntry)[p.length]? = some (encEntry y) := by simp
theorem swap_rows (p : List Entry) (y x : Entry) (r : List Entry) : ((((p ++ [y]) ++ x :: r).map encEntry).set (p ++ [y]).length (encEntry y)).set p.length (encEntry x) = (p ++ x :: (y :: r)).map encEntry := by
 simp [List.set_append]
end Go.T
namespace Go.T
open Go
variable [Noise]
section
variable {P : Program} {env : Env} {dst : Option Tmp} {ty : TypeId} {pos : String} {aft : Array Edge} {g : Option (Nat × Bool)}
theorem q_capNil {t e : TypeId} {x : Operand} (hu : P.underlying t = some (.slice e)) (hx : env.op x = some (.raw (.slice none 0 0))) (obs : Obs) : QStep P ⟨dst, .call ⟨.builtin .cap, #[x], #[t]⟩, ty, pos, aft, g⟩ env obs (.raw (.int .i64 0)) obs :=
 .val fun _ _ a w _ hv => ⟨.int .i64 0, by
  have h1 := hv x (by simp [Op.operands, Call.operands]) _ hx
  simp only [V] at h1
  simp [execOp, resolve, invoke, builtin, Builtin.cap_, h1, run_und hu, goInt], by simp [V]⟩
theorem q_sliceNil {t e : TypeId} {x y : Operand} {sz : Nat} {k : IntKind} (hu : P.underlying t = some (.slice e)) (hs : ∀ w, (sizeOf e).run P w = .ok sz w) (hx : env.op x = some (.raw (.slice none 0 0))) (hy : env.op y = some (.raw (.int k 0))) (obs : Obs) :
  QStep P ⟨dst, .slice t x none (some y) none, ty, pos, aft, g⟩ env obs (.raw (.slice none 0 0)) obs :=
 .val fun _ _ a w _ hv => ⟨.slice none 0 0, by
  have h1 := hv x (by simp [Op.operands]) _ hx
  have h2 := hv y (by simp [Op.operands]) _ hy
  simp only [V] at h1 h2
  simp [execOp, Instr.sliceAt, Instr.slice, run_und hu, h1, h2, Instr.sliceBounds, Instr.sliceBound, asIntOf, hs], by simp [V]⟩
theorem q_sliceGr {t e : TypeId} {x y : Operand} {sz id n : Nat} {k : IntKind} (hu : P.underlying t = some (.slice e)) (hs : ∀ w, (sizeOf e).run P w = .ok sz w) (hx : env.op x = some (.gr id n)) (hy : env.op y = some (.raw (.int k 0))) (obs : Obs) :
  QStep P ⟨dst, .slice t x none (some y) none, ty, pos, aft, g⟩ env obs (.gr id 0) obs :=
 .val fun _ ρ a w _ hv => by
  have h1 := hv x (by simp [Op.operands]) _ hx
  have h2 := hv y (by simp [Op.operands]) _ hy
  simp only [V] at h1 h2
  obtain ⟨l, h3, h4, e1⟩ := h1
  refine ⟨.slice (some ⟨l.b, l.off, none⟩) 0 l.cap, ?_, by simp only [V]; exact ⟨l, h3, Nat.zero_le _, rfl⟩⟩
  simp [execOp, Instr.sliceAt, Instr.slice, run_und hu, e1, h2, Instr.sliceBounds, Instr.sliceBound, asIntOf, hs, addr_add]
/-- As many zeros behind nothing. -/
theorem q_appendMake {st xt e : TypeId} {ti : TypeInfo} {z : Value} {k : IntKind} {sz n bt : Nat} {nx : Int} {x y : Operand} {obs : Obs} (id : Nat) (hu : P.underlying st = some (.slice e)) (hxu : P.underlying xt = some (.int k)) (hs : ∀ w, (sizeOf e).run P w = .ok sz w)
  (hti : ∀ w, (typeInfo e).run P w = .ok ti w) (hz : ∀ w, (zeroValue e).run P w = .ok z w) (hzs : z.cells.size = sz) (hsz : sz ≠ 0) (hbt : ti.bytes = bt) (hx : env.op x = some (.raw (.slice none 0 0))) (hy : env.op y = some (.raw (.int .i64 nx))) (hn : nx = (n : Int)) (h0 : n ≠ 0) (hb : n * bt ≤ 140737488355328) (hbig : n ≤ 1000000000000) (hid : obs.get id = none) :
  QStep P ⟨dst, .call ⟨.builtin .append, #[x, y], #[st, xt]⟩, ty, pos, aft, g⟩ env obs (.gr id n) ((id, .res sz) :: obs) :=
 .step fun O ρ a w hok hv => by
  have h1 := hv x (by simp [Op.operands, Call.operands]) _ hx
  have h2 := hv y (by simp [Op.operands, Call.operands]) _ hy
  simp only [V] at h1 h2
  subst hn
  have hw : IntKind.i64.wrap (n : Int) = n := by rw [IntKind.wrap_i64]; omega
  have hb1 : ¬ (281474976710656 : Int) < (n : Int) * (ti.bytes : Int) := by rw [hbt, ← Int.natCast_mul]; omega
  have hcap := nextslicecap_le n 0 (by omega)
  have hb2 : ¬ Builtin.nextslicecap n 0 * ti.bytes > 281474976710656 := by
   have := Nat.mul_le_mul_right ti.bytes hcap
   rw [Nat.mul_assoc] at this
   rw [hbt] at this ⊢
   omega
  have hns : ¬ n * sz = 0 := by
   intro h; rcases Nat.mul_eq_zero.1 h with h | h <;> contradiction
  let nc := n + (w.tape w.drawn (.appendCap n 0 e)) % (2 ^ 63 - n)
  have hnc : n ≤ nc := Nat.le_add_right ..
  have hrun : (Builtin.append_ #[st, xt] ty #[.slice none 0 0, .int .i64 n]).run P w = .ok (.slice (some ⟨w.heap.size, 0, none⟩) n nc) { w with drawn := w.drawn + 1, heap := w.heap.push (.cells (Builtin.zeroCells z.cells n ++ Builtin.zeroCells z.cells (nc - n)) e (0, 0)) } := by
   have hneg : ¬ (n : Int) < 0 := by omega
   have hmx : IntKind.i64.max = 9223372036854775807 := by decide
   have hmax : ¬ (IntKind.i64.max < (n : Int)) := by omega
   have hmax2 : ¬ ((9223372036854775807 : Int) < (n : Int)) := by omega
   simp [Builtin.append_, run_und hu, hs, run_und hxu, asInt, asIntOf, hw, hneg, hti, hb1, h0, hmax, hmax2, hb2, Question.forced, Question.cut, Builtin.firstCells, hz, hns, newRow, nc]
   rfl
  have htr := Tr.drawn hok (w.drawn + 1) (Nat.le_succ _)
  refine ⟨.slice (some ⟨w.heap.size, 0, none⟩) n nc, _, T.upd ρ id ⟨w.heap.size, 0, nc⟩, .inl (by simp [execOp, resolve, invoke, builtin, h1, h2, hrun]), htr.trans (Tr.born (w := { w with drawn := w.drawn + 1 }) htr.ok hid (.cells (Builtin.zeroCells z.cells n ++ Builtin.zeroCells z.cells (nc - n)) e (0, 0)) rfl (fun i x h _ => h) (fun i h => h) ?_), ?_⟩
  ·intro _
   refine ⟨Builtin.zeroCells z.cells n ++ Builtin.zeroCells z.cells (nc - n), e, by simp, ?_⟩
   simp only [Array.size_append, zeroCells_size, hzs, Nat.zero_add]
   rw [← Nat.add_mul, Nat.add_sub_cancel' hnc]
   exact Nat.le_refl _
  ·simp only [V]; exact ⟨⟨w.heap.size, 0, nc⟩, by simp [T.upd], hnc, rfl⟩
theorem q_appendGr {st xt e e' : TypeId} {ti : TypeInfo} {z : Value} {sz id bt : Nat} {x y : Operand} {full : Bool} {new : List (List D)} {obs : Obs} (id' : Nat) (hu : P.underlying st = some (.slice e)) (hxu : P.underlying xt = some (.slice e')) (hs : ∀ w, (sizeOf e).run P w = .ok sz w)
  (hti : ∀ w, (typeInfo e).run P w = .ok ti w) (hz : ∀ w, (zeroValue e).run P w = .ok z w) (hzs : z.cells.size = sz) (hbt : ti.bytes = bt) (hb00 : Nat.beq bt 0 = false) (hx : env.op x = some (.gr id 0)) (ho : obs.get id = some (.res sz)) (hy : env.op y = some (.snap sz full new)) (hne : new ≠ []) (hid : obs.get id' = none)
  (hbb : new.length * bt ≤ 140737488355328) :
  QStep P ⟨dst, .call ⟨.builtin .append, #[x, y], #[st, xt]⟩, ty, pos, aft, g⟩ env obs (.gs id' new.length) ((id', .arr sz new) :: obs.set id .dead) :=
 .step fun O ρ a w hok hv => by
  have hb : (0 + new.length) * ti.bytes ≤ 140737488355328 := by rw [hbt, Nat.zero_add]; exact hbb
  have hb0 : ti.bytes ≠ 0 := by
   rw [hbt]; intro h; subst h; simp at hb00
  have hn0 : new.length ≠ 0 := fun h => hne (List.length_eq_zero_iff.1 h)
  have hvx := hv x (by simp [Op.operands, Call.operands]) _ hx
  have hvy := hv y (by simp [Op.operands, Call.operands]) _ hy
  have hrun : ∀ v w', (Builtin.append_ #[st, xt] ty #[a.eval x, a.eval y]).run P w = .ok v w' → (execOp a.eval ⟨dst, .call ⟨.builtin .append, #[x, y], #[st, xt]⟩, ty, pos, aft, g⟩).run P w = .ok (.value v) w' := by
   intro v w' h
   simp [execOp, resolve, invoke, builtin, h]
  obtain ⟨hlen, us, hfu, hus, hone, hul, hrl⟩ := run_firstSnap (P := P) hvy
  have hbig : new.length ≤ big := by
   have : (0 + new.length) * 1 ≤ (0 + new.length) * ti.bytes := Nat.mul_le_mul_left _ (by omega)
   unfold big; omega
  simp only [V] at hvx
  obtain ⟨l, h2, _, e1⟩ := hvx
  obtain ⟨l', h3, _, c, T, h4, h5⟩ := hok.own id _ ho rfl
  rw [h2] at h3; cases h3
  have hlive' : (Ob.arr sz new).live = true := by
   cases new with
   | nil => exact absurd rfl hne
   | cons r rs => rfl
  by_cases hc : 0 + new.length ≤ l.cap
  ·have hbd : l.off + us.length ≤ c.size := by
    rw [hul]
    have : new.length * sz ≤ l.cap * sz := Nat.mul_le_mul_right sz (by omega)
    omega
   have hst := run_storeCells (P := P) (b := l.b) (T := T) us w c l.off 0 h4 (by omega) hone
   have hrm := run_append_room (T := ty) (n := 0) (a := ⟨l.b, l.off, none⟩) (w := w) hu hs hxu (by simp) (hlen w) (hfu w rfl) hc (by rw [addr_add]; simpa using hst)
   have htr := Tr.upd (o' := .arr sz new) hok ho rfl h2 (.cells (setMany c (l.off + 0) us) T (0, 0)) ?_
   ·have hid2 : (obs.set id (.arr sz new)).get id' = none := by
     rw [Obs.get_set]
     by_cases e : id = id'
     ·subst e; rw [ho] at hid; cases hid
     ·rw [if_neg e]; exact hid
    have htr2 := Tr.rename (id := id) (id' := id') htr.ok (by rw [Obs.get_set]; simp) hlive' hid2 h2
    rw [Obs.set_set] at htr2
    refine ⟨_, _, Go.T.upd ρ id' l, .inl (hrun _ _ (by rw [e1]; exact hrm)), htr.trans htr2, ?_⟩
    simp only [V]
    exact .inr ⟨hn0, l, upd_same .., by rw [Nat.zero_add]⟩
   ·intro hk
    refine ⟨setMany c l.off us, T, by simp [(Array.getElem?_eq_some_iff.1 h4).1], by rw [setMany_size]; exact h5, ⟨by omega, hbig⟩, ?_⟩
    have hseg : ((setMany c l.off us).toList.drop l.off).take new.flatten.length = us := by
     rw [hus.length.symm, setMany_toList us c l.off (by omega), List.append_assoc, List.drop_append_of_le_length (by simp; omega), List.drop_of_length_le (by simp; omega)]; simp
    refine Vr.of_blk (c := setMany c l.off us) (T := T) (fr := (0, 0)) (by simp [(Array.getElem?_eq_some_iff.1 h4).1]) new l.off hrl ?_ ?_
    ·rw [hseg]; exact Vs.mono hk (RhoLe.refl _) _ _ hus
    ·rw [hseg]; exact hone
  ·obtain ⟨nc, h6, h7⟩ := run_append_grow (T := ty) (w := w) (n := 0) (cap := l.cap) (base := some ⟨l.b, l.off, none⟩) (vs := []) hu hs hxu (by simp) hti hz (fun w' _ => hlen w') hfu (fun w' _ => by simp [Builtin.firstCells, loadCells, loadCellsFrom]) hc hb hb0
   rw [← e1] at h7
   have htr := Tr.drawn hok (w.drawn + 1) (Nat.le_succ _)
   refine ⟨_, _, Go.T.upd ρ id' ⟨w.heap.size, 0, nc⟩, .inl (hrun _ _ h7), htr.trans (Tr.born (w := { w with drawn := w.drawn + 1 }) htr.ok hid _ rfl dead_sub dead_dom ?_), ?_⟩
   ·intro hk
    refine Own.grown (w := { w with drawn := w.drawn + 1 }) (T := e) (vs := us) (zs := Builtin.zeroCells z.cells (nc - (0 + new.length))) (by simp) hul (by rw [zeroCells_size, hzs, Nat.zero_add]) (by omega) hbig hrl ?_ hone hk
    exact Vs.mono htr.kept (RhoLe.refl _) _ _ hus
   ·simp only [V]
    exact .inr ⟨hn0, _, upd_same .., by rw [Nat.zero_add]⟩
theorem q_appendGr0 {st xt e e' : TypeId} {sz id : Nat} {x y : Operand} {full : Bool} (hu : P.underlying st = some (.slice e)) (hxu : P.underlying xt = some (.slice e')) (hs : ∀ w, (sizeOf e).run P w = .ok sz w)
  (hx : env.op x = some (.gr id 0)) (hy : env.op y = some (.snap sz full [])) (obs : Obs) :
  QStep P ⟨dst, .call ⟨.builtin .append, #[x, y], #[st, xt]⟩, ty, pos, aft, g⟩ env obs (.gr id 0) obs :=
 .val fun O ρ a w hok hv => by
  have hvx := hv x (by simp [Op.operands, Call.operands]) _ hx
  have hvy := hv y (by simp [Op.operands, Call.operands]) _ hy
  obtain ⟨hlen, us, hfu, hus, hone, hul, hrl⟩ := run_firstSnap (P := P) hvy
  have hus0 : us = [] := List.length_eq_zero_iff.1 (by simpa using hul)
  subst hus0
  simp only [V] at hvx
  obtain ⟨l, h2, _, e1⟩ := hvx
  have hrm := run_append_room (T := ty) (n := 0) (cap := l.cap) (a := ⟨l.b, l.off, none⟩) (w := w) (w' := w) hu hs hxu (by simp) (hlen w) (hfu w rfl) (by simp) (by simp [storeCells])
  refine ⟨.slice (some ⟨l.b, l.off, none⟩) 0 l.cap, ?_, by simp only [V]; exact ⟨l, h2, Nat.zero_le _, rfl⟩⟩
  rw [← e1] at hrm
  simp [execOp, resolve, invoke, builtin]
  simp at hrm
  rw [hrm]
  rfl
end
end Go.T
namespace Go.T
open Go Go.Proofs
set_option maxRecDepth 20000
theorem bldWriteString_ok (s t : Str) (hl : s.length + t.length ≤ 140737488355328) : FcO Tryz.prog 133 [.box 7000 0, .str t] [(7000, .bld 7001 s.length), (7001, .ba s)] (.tup [.i t.length, .raw .nilIface]) [(7000, .bld 7002 (s ++ t).length), (7002, .ba (s ++ t)), (7001, .dead)] := by
 refine FcO.mk' [4, 5] Tryz.func133 rfl Tryz.ntmps133 rfl rfl rfl (fun t w => results_tmp2 Tryz.results133 t _ w) ?_
 refine Run.seq (Run.reg [.p, .p] ?_)
 refine .ag rfl rfl <| .ag rfl rfl <| .nil ?_
 refine Run.seq (Run.reg [.p, .w] ?_)
 refine .mv rfl rfl <| .W rfl (q_callO Tryz.call179 rfl (copyCheck_ok 7000 7001 _ _) (.cons rfl rfl (.cons rfl rfl .nil)) rfl rfl) <| .nil ?_
 refine Run.seq (Run.reg [.p, .p, .p, .p, .r, .p, .w, .p, .p, .w] ?_)
 refine .mv rfl rfl <| .mv rfl rfl <| .P rfl (q_nilCheckBox rfl) <| .P rfl (q_fieldB (n := 0) 140 1 Tryz.underlying179 Tryz.sizeOf140 rfl rfl) <| .R rfl (q_loadBld (e := 0) Tryz.isAgg140 rfl rfl rfl rfl) <| .mv rfl rfl <| .W rfl (q_appendB 7002 Tryz.underlying140 Tryz.underlying9 (by simp) Tryz.sizeOf5 Tryz.typeInfo5 rfl Tryz.zeroValue5 rfl rfl rfl rfl (.inl rfl) rfl hl) <| .P rfl (q_nilCheckBox rfl) <| .P rfl (q_fieldB (n := 0) 140 1 Tryz.underlying179 Tryz.sizeOf140 rfl rfl) <| .W rfl (q_storeBld Tryz.sizeOf140 rfl rfl rfl rfl (by simp)) <| .nil ?_
 refine Run.seq (Run.reg [.p, .p, .p, .p] ?_)
 refine .mv rfl rfl <| .P rfl (q_lenS Tryz.underlying9 rfl) <| .ag rfl rfl <| .ag rfl rfl <| .nil ?_
 refine Run.ret (?_)
 exact retO2 rfl rfl (Sub.int (by rfl)) (by exact Sub.refl _) (.eq rfl (by simp) rfl (.cons rfl rfl (.cons rfl rfl .nil)))
theorem bldWriteByte_ok (s : Str) (c : UInt8) (hl : s.length + 1 ≤ 140737488355328) : FcO Tryz.prog 132 [.box 7000 0, .raw (.int .u8 c.toNat)] [(7000, .bld 7001 s.length), (7001, .ba s)] (.raw .nilIface) [(7000, .bld 7002 (s ++ [c]).length), (7002, .ba (s ++ [c])), (7001, .dead)] := by
 refine FcO.mk' [4] Tryz.func132 rfl Tryz.ntmps132 rfl rfl rfl (fun t w => results_tmp Tryz.results132 t _ w) ?_
 refine Run.seq (Run.reg [.p] ?_)
 refine .ag rfl rfl <| .nil ?_
 refine Run.seq (Run.reg [.p, .w] ?_)
 refine .mv rfl rfl <| .W rfl (q_callO Tryz.call179 rfl (copyCheck_ok 7000 7001 _ _) (.cons rfl rfl (.cons rfl rfl .nil)) rfl rfl) <| .nil ?_
 refine Run.seq (Run.reg [.p, .p, .p, .p, .r, .p, .p, .w, .p, .p, .w] ?_)
 refine .mv rfl rfl <| .mv rfl rfl <| .P rfl (q_nilCheckBox rfl) <| .P rfl (q_fieldB (n := 0) 140 1 Tryz.underlying179 Tryz.sizeOf140 rfl rfl) <| .R rfl (q_loadBld (e := 0) Tryz.isAgg140 rfl rfl rfl rfl) <| .mv rfl rfl <| .P rfl (q_buildSlice' (n := 1) (rows := byteRows [c]) Tryz.underlying140 Tryz.sizeOf5 rfl rfl rfl Tryz.zeroValue5 rfl rfl rfl rfl rfl rfl rfl) <| .W rfl (q_appendB 7002 Tryz.underlying140 Tryz.underlying140 (by simp) Tryz.sizeOf5 Tryz.typeInfo5 rfl Tryz.zeroValue5 rfl rfl rfl rfl (.inr ⟨_, rfl⟩) rfl hl) <| .P rfl (q_nilCheckBox rfl) <| .P rfl (q_fieldB (n := 0) 140 1 Tryz.underlying179 Tryz.sizeOf140 rfl rfl) <| .W rfl (q_storeBld Tryz.sizeOf140 rfl rfl rfl rfl (by simp)) <| .nil ?_
 refine Run.seq (Run.reg [.p] ?_)
 refine .ag rfl rfl <| .nil ?_
 refine Run.ret (?_)
 exact retO1 rfl (by exact Sub.refl _) (.eq rfl (by simp) rfl (.cons rfl rfl (.cons rfl rfl .nil)))
theorem bldWriteString_ok2 (s t : Str) (hl : s.length + t.length ≤ 140737488355328) : FcO Tryz.prog 133 [.box 7000 0, .str t] [(7000, .bld 7002 s.length), (7002, .ba s)] (.tup [.i t.length, .raw .nilIface]) [(7000, .bld 7001 (s ++ t).length), (7001, .ba (s ++ t)), (7002, .dead)] := by
 refine FcO.mk' [4, 5] Tryz.func133 rfl Tryz.ntmps133 rfl rfl rfl (fun t w => results_tmp2 Tryz.results133 t _ w) ?_
 refine Run.seq (Run.reg [.p, .p] ?_)
 refine .ag rfl rfl <| .ag rfl rfl <| .nil ?_
 refine Run.seq (Run.reg [.p, .w] ?_)
 refine .mv rfl rfl <| .W rfl (q_callO Tryz.call179 rfl (copyCheck_ok 7000 7002 _ _) (.cons rfl rfl (.cons rfl rfl .nil)) rfl rfl) <| .nil ?_
 refine Run.seq (Run.reg [.p, .p, .p, .p, .r, .p, .w, .p, .p, .w] ?_)
 refine .mv rfl rfl <| .mv rfl rfl <| .P rfl (q_nilCheckBox rfl) <| .P rfl (q_fieldB (n := 0) 140 1 Tryz.underlying179 Tryz.sizeOf140 rfl rfl) <| .R rfl (q_loadBld (e := 0) Tryz.isAgg140 rfl rfl rfl rfl) <| .mv rfl rfl <| .W rfl (q_appendB 7001 Tryz.underlying140 Tryz.underlying9 (by simp) Tryz.sizeOf5 Tryz.typeInfo5 rfl Tryz.zeroValue5 rfl rfl rfl rfl (.inl rfl) rfl hl) <| .P rfl (q_nilCheckBox rfl) <| .P rfl (q_fieldB (n := 0) 140 1 Tryz.underlying179 Tryz.sizeOf140 rfl rfl) <| .W rfl (q_storeBld Tryz.sizeOf140 rfl rfl rfl rfl (by simp)) <| .nil ?_
 refine Run.seq (Run.reg [.p, .p, .p, .p] ?_)
 refine .mv rfl rfl <| .P rfl (q_lenS Tryz.underlying9 rfl) <| .ag rfl rfl <| .ag rfl rfl <| .nil ?_
 refine Run.ret (?_)
 exact retO2 rfl rfl (Sub.int (by rfl)) (by exact Sub.refl _) (.eq rfl (by simp) rfl (.cons rfl rfl (.cons rfl rfl .nil)))
end Go.T
namespace Go.T
open Go Go.Proofs
set_option maxRecDepth 20000
theorem formatUint_ok (u : Nat) (hu : u < 18446744073709551616) : Fc Tryz.prog 134 [.raw (.int .u64 u), .i 10] (.str (Lib.decDigits u)) := by
 refine Fc.mk' [4] Tryz.func134 rfl Tryz.ntmps134 rfl rfl rfl (fun t w => results_tmp Tryz.results134 t _ w) ?_
 refine Run.seq (Run.reg [.p] ?_)
 refine .ag rfl rfl <| .nil ?_
 refine Run.seq (Run.reg [.p, .p, .p, .p] ?_)
 refine .mv rfl rfl <| .mv rfl rfl <| .P rfl (q_call Tryz.call180 rfl (formatUint180_ok _ (by first | assumption | omega | (simp at *; omega)))) <| .ag rfl rfl <| .nil ?_
 refine Run.ret (?_)
 exact ret1 rfl (Sub.str (by rfl))
structure cut_ok_L0 (m : List Nat) where
 cur : List Nat
 hx : cutM cur = cutM m
 hl : cur.length ≤ m.length
theorem cut_ok (m : List Nat) : Fc Tryz.prog 131 [sMag m] (sMag (cutM m)) := by
 refine Fc.mk' [2] Tryz.func131 rfl Tryz.ntmps131 rfl rfl rfl (fun t w => results_tmp Tryz.results131 t _ w) ?_
 refine Run.bSnap 0 rfl (fun hb => ?_)
 simp only [List.length_map, big] at hb
 refine Run.seq (Run.reg [.p] ?_)
 refine .ag rfl rfl <| .nil ?_
 refine Run.seq ?_
 refine Run.block ?_
 refine Run.loop (ι := cut_ok_L0 m) (fun sx => [(0, sMag sx.cur)]) (fun sx => []) (fun sx => sx.cur.length) ⟨m, rfl, by omega⟩ ?_ ?_
 ·exact Le.mk rfl (.same rfl rfl .nil) .nil
 ·rintro ⟨cur, hx, hl⟩
  show Run _ _ _ _ [(0, sMag cur)] []
  rcases snoc_cases cur with rfl | ⟨i, x, rfl⟩
  ·skip
   refine Run.seq (Run.seq (Run.reg [.p, .p, .p, .p, .p, .p, .p, .p, .p, .p, .p, .p] ?_))
   refine .mv rfl rfl <| .P rfl (q_lenI Tryz.underlying114 rfl) <| .P rfl (q_gtr rfl rfl) <| .mv rfl rfl ?_
   refine .off rfl (off_of rfl rfl rfl (by first | (simp; done) | (simp; omega) | (simp at *; omega))) ?_
   refine .off rfl (off_of rfl rfl rfl (by first | (simp; done) | (simp; omega) | (simp at *; omega))) ?_
   refine .off rfl (off_of rfl rfl rfl (by first | (simp; done) | (simp; omega) | (simp at *; omega))) ?_
   refine .off rfl (off_of rfl rfl rfl (by first | (simp; done) | (simp; omega) | (simp at *; omega))) ?_
   refine .off rfl (off_of rfl rfl rfl (by first | (simp; done) | (simp; omega) | (simp at *; omega))) ?_
   refine .off rfl (off_of rfl rfl rfl (by first | (simp; done) | (simp; omega) | (simp at *; omega))) ?_
   refine .off rfl (off_of rfl rfl rfl (by first | (simp; done) | (simp; omega) | (simp at *; omega))) ?_
   refine .P rfl (q_pickF rfl (by first | (simp; done) | (simp; omega) | (simp at *; omega)) rfl) <| .nil ?_
   refine Run.condF rfl rfl ?_
   refine Run.exit (tq_exit (bq_exit ?_))
   refine Run.seq (Run.reg [.p, .p] ?_)
   refine .mv rfl rfl <| .ag rfl rfl <| .nil ?_
   refine Run.ret (?_)
   exact ret1 rfl (Sub.snap (by first | (rw [← hx]; rfl) | (rw [← hx, cutM_pos i (by omega)])))
  ·skip
   refine Run.seq (Run.seq (Run.reg [.p, .p, .p, .p, .p, .p, .p, .p, .p, .p, .p, .p] ?_))
   refine .mv rfl rfl <| .P rfl (q_lenI Tryz.underlying114 rfl) <| .P rfl (q_gtr rfl rfl) <| .mv rfl rfl <| .p rfl (on_of rfl rfl rfl (by first | (simp; done) | (simp; omega) | (simp at *; omega))) (fun _ => q_move rfl _) <| .p rfl (on_of rfl rfl rfl (by first | (simp; done) | (simp; omega) | (simp at *; omega))) (fun _ => q_move rfl _) <| .p rfl (on_of rfl rfl rfl (by first | (simp; done) | (simp; omega) | (simp at *; omega))) (fun _ => q_lenI Tryz.underlying114 rfl _) <| .p rfl (on_of rfl rfl rfl (by first | (simp; done) | (simp; omega) | (simp at *; omega))) (fun _ => q_sub rfl rfl (wrap64_ok (by first | omega | (simp; done) | (simp; omega) | (simp at *; omega)) (by first | omega | (simp; done) | (simp; omega) | (simp at *; omega))) _) <| .p rfl (on_of rfl rfl rfl (by first | (simp; done) | (simp; omega) | (simp at *; omega))) (fun _ => q_indexI Tryz.underlying114 Tryz.sizeOf171 rfl rfl (by simp) (idx_end (fun (n : Nat) => [D.raw (.int .u64 (n : Int))]) i x rfl) _) <| .p rfl (on_of rfl rfl rfl (by first | (simp; done) | (simp; omega) | (simp at *; omega))) (fun _ => q_loadI Tryz.isAgg171 rfl _) <| .p rfl (on_of rfl rfl rfl (by first | (simp; done) | (simp; omega) | (simp at *; omega))) (fun _ => q_eql rfl rfl _) <| .P rfl (q_pickT rfl (by first | (simp; done) | (simp; omega) | (simp at *; omega)) rfl) <| .nil ?_
   refine Run.cond rfl (fun h1 => ?_) (fun h1 => ?_)
   ·have ph1 := h1; try simp only [bs] at ph1
    refine Run.skip ?_
    refine Run.block ?_
    refine Run.reg [.p, .p, .p, .p, .p, .p] ?_
    refine .mv rfl rfl <| .mv rfl rfl <| .P rfl (q_lenI Tryz.underlying114 rfl) <| .P rfl (q_sub rfl rfl (wrap64_ok (by first | omega | (simp; done) | (simp; omega) | (simp at *; omega)) (by first | omega | (simp; done) | (simp; omega) | (simp at *; omega)))) <| .P rfl (q_sliceI Tryz.underlying114 Tryz.sizeOf171 rfl (h := i.length) (r := encMag i) (.inl ⟨rfl, rfl⟩) (.inr ⟨_, _, rfl, (opI rfl (by simp))⟩) (by omega) (by simp) (by simp)) <| .ag rfl rfl <| .nil ?_
    refine Run.nil (bq_norm ?_)
    refine Run.nil (tq_norm ?_)
    exact ⟨⟨i, by rw [← hx, show x = 0 by omega, cutM_zero], by simp at hl; omega⟩, by simp, Le.mk rfl (.same rfl rfl .nil) .nil⟩
   ·have ph1 := h1; try simp only [bs] at ph1
    refine Run.exit (tq_exit (bq_exit ?_))
    refine Run.seq (Run.reg [.p, .p] ?_)
    refine .mv rfl rfl <| .ag rfl rfl <| .nil ?_
    refine Run.ret (?_)
    exact ret1 rfl (Sub.snap (by first | (rw [← hx]; rfl) | (rw [← hx, cutM_pos i (by omega)])))
end Go.T
namespace Go.T
open Go Go.Proofs
set_option maxRecDepth 20000
theorem digits_ok (s : Str) : Fc Tryz.prog 129 [.str s] (.tup [.str (digits s).1, .b (digits s).2]) := by
 refine Fc.mk' [2, 3] Tryz.func129 rfl Tryz.ntmps129 rfl rfl rfl (fun t w => results_tmp2 Tryz.results129 t _ w) ?_
 refine Run.seq (Run.reg [.p, .p] ?_)
 refine .ag rfl rfl <| .ag rfl rfl <| .nil ?_
 refine Run.seq (Run.reg [.p, .p, .p, .p, .p, .p, .p] ?_)
 refine .mv rfl rfl <| .P rfl (q_call Tryz.call174 rfl (cutPrefix_ok _)) <| .mv rfl rfl <| .P rfl (q_extract rfl rfl) <| .P rfl (q_extract rfl rfl) <| .ag rfl rfl <| .ag rfl rfl <| .nil ?_
 refine Run.seq (Run.seq (Run.reg [.p, .p, .p] ?_))
 refine .mv rfl rfl <| .P rfl (q_call Tryz.call175 rfl (trimDigits_ok _)) <| .P rfl (q_neqS rfl rfl) <| .nil ?_
 refine Run.cond rfl (fun h1 => ?_) (fun h1 => ?_)
 ·have ph1 := h1; try simp only [bs] at ph1
  refine Run.seq (Run.reg [.p, .p] ?_)
  refine .ag rfl rfl <| .ag rfl rfl <| .nil ?_
  refine Run.ret (?_)
  exact ret2 rfl rfl (Sub.str (by grind [digits, trimD_nil])) (Sub.bool (by grind [digits, trimD_nil]))
 ·have ph1 := h1; try simp only [bs] at ph1
  refine Run.skip ?_
  refine Run.seq (Run.reg [.p, .p, .p] ?_)
  refine .mv rfl rfl <| .P rfl (q_call Tryz.call176 rfl (trimLeft0_ok _)) <| .ag rfl rfl <| .nil ?_
  refine Run.seq (Run.reg [.p, .p, .p, .p, .p, .p, .p, .p] ?_)
  refine .mv rfl rfl <| .mv rfl rfl <| .mv rfl rfl <| .gT rfl (.inl rfl) rfl rfl rfl (fun hg => pk (fun _ => q_move rfl _)) <| .gT rfl (.inl rfl) rfl rfl rfl (fun hg => pk (fun _ => q_neqS (opT rfl hg) rfl _)) <| .P rfl (q_and rfl rfl) <| .ag rfl rfl <| .ag rfl rfl <| .nil ?_
  refine Run.ret (?_)
  exact ret2 rfl rfl (Sub.str (by grind [digits, trimD_nil])) (Sub.bool (by grind [digits, trimD_nil]))
theorem canonical_ok (s : Str) : Fc Tryz.prog 168 [.str s] (.str (canon s)) := by
 refine Fc.mk' [2] Tryz.func168 rfl Tryz.ntmps168 rfl rfl rfl (fun t w => results_tmp Tryz.results168 t _ w) ?_
 refine Run.bStr 0 rfl (fun hb => ?_)
 simp only [big] at hb
 have hdl := digits_len s
 refine Run.seq (Run.reg [.p] ?_)
 refine .ag rfl rfl <| .nil ?_
 refine Run.seq (Run.reg [.p, .p, .p, .p, .p, .p, .p] ?_)
 refine .mv rfl rfl <| .P rfl (q_call Tryz.call129 rfl (digits_ok _)) <| .mv rfl rfl <| .P rfl (q_extract rfl rfl) <| .P rfl (q_extract rfl rfl) <| .ag rfl rfl <| .ag rfl rfl <| .nil ?_
 refine Run.seq (Run.seq (Run.reg [.p] ?_))
 refine .mv rfl rfl <| .nil ?_
 refine Run.cond rfl (fun h1 => ?_) (fun h1 => ?_)
 ·have ph1 := h1; try simp only [bs] at ph1
  refine Run.reg [.p, .p, .p] ?_
  refine .mv rfl rfl <| .P rfl (q_addS rfl rfl (by have := digits_len1 s (by assumption); simp [big]; omega) rfl) <| .ag rfl rfl <| .nil ?_
  refine Run.seq (Run.reg [.p, .p] ?_)
  refine .mv rfl rfl <| .ag rfl rfl <| .nil ?_
  refine Run.ret (?_)
  exact ret1 rfl (Sub.str (by grind [canon]))
 ·have ph1 := h1; try simp only [bs] at ph1
  refine Run.skip ?_
  refine Run.seq (Run.reg [.p, .p] ?_)
  refine .mv rfl rfl <| .ag rfl rfl <| .nil ?_
  refine Run.ret (?_)
  exact ret1 rfl (Sub.str (by grind [canon]))
theorem intCheck_ok (s : Str) : Fc Tryz.prog 117 [.str s] (.i (checkNum s)) := by
 refine Fc.mk' [2] Tryz.func117 rfl Tryz.ntmps117 rfl rfl rfl (fun t w => results_tmp Tryz.results117 t _ w) ?_
 refine Run.seq (Run.reg [.p] ?_)
 refine .ag rfl rfl <| .nil ?_
 refine Run.seq (Run.seq (Run.reg [.p, .p, .p, .p] ?_))
 refine .mv rfl rfl <| .mv rfl rfl <| .P rfl (q_call Tryz.call168 rfl (canonical_ok _)) <| .P rfl (q_neqS rfl rfl) <| .nil ?_
 refine Run.cond rfl (fun h1 => ?_) (fun h1 => ?_)
 ·have ph1 := h1; try simp only [bs] at ph1
  refine Run.seq (Run.reg [.p] ?_)
  refine .ag rfl rfl <| .nil ?_
  refine Run.ret (?_)
  exact ret1 rfl (Sub.int (by grind [checkNum]))
 ·have ph1 := h1; try simp only [bs] at ph1
  refine Run.skip ?_
  refine Run.seq (Run.reg [.p] ?_)
  refine .ag rfl rfl <| .nil ?_
  refine Run.ret (?_)
  exact ret1 rfl (Sub.int (by grind [checkNum]))
structure read_ok_L0 (s : Str) where
 rest : Str
 tl : Str
 e : Int
 done : List Nat
 hr : (digits s).1 = rest ++ tl
 he : (0 < e → e = rest.length) ∧ (e ≤ 0 → rest = [])
 hx : done ++ groupsOf rest = groupsOf (digits s).1
theorem read_ok (s : Str) (hs : s.length ≤ 100000) : Fc Tryz.prog 79 [.str s] (.agg (encNum (digits s).2 (groupsOf (digits s).1))) := by
 refine Fc.mkR Tryz.func79 rfl Tryz.ntmps79 rfl rfl rfl ?_
 have hdl := digits_len s
 have hdd := digits_dig s
 have hgl := groupsOf_len (digits s).1
 refine Run.seq (Run.reg [.w] ?_)
 refine .W rfl (q_alloc 0 Tryz.zeroValue116 rfl) <| .nil ?_
 refine Run.seq (Run.reg [.p, .p, .p, .p, .p, .p, .p] ?_)
 refine .mv rfl rfl <| .P rfl (q_call Tryz.call129 rfl (digits_ok _)) <| .mv rfl rfl <| .P rfl (q_extract rfl rfl) <| .P rfl (q_extract rfl rfl) <| .ag rfl rfl <| .ag rfl rfl <| .nil ?_
 refine Run.seq (Run.reg [.p] ?_)
 refine .ag rfl rfl <| .nil ?_
 refine Run.seq (Run.seq (Run.reg [.p, .p, .p] ?_))
 refine .mv rfl rfl <| .P rfl (q_lenS Tryz.underlying9 rfl) <| .ag rfl rfl <| .nil ?_
 refine Run.block ?_
 refine Run.loop (ι := read_ok_L0 s) (fun sx => [(2, .box 0 0), (3, .str (digits s).1), (4, .b (digits s).2), (5, .gs 1 sx.done.length), (6, .i sx.e)]) (fun sx => [(0, .cells [.b false, .raw (.slice none 0 0)]), (1, .arr 1 (encMag sx.done))]) (fun sx => sx.rest.length) ⟨(digits s).1, [], (digits s).1.length, [], by simp, ⟨fun _ => rfl, fun h => List.length_eq_zero_iff.1 (by omega)⟩, rfl⟩ ?_ ?_
 ·exact (Le.own0 1 1).trans <| Le.mk rfl (.same rfl rfl (.cons rfl Sub.strA rfl (.cons rfl Sub.boolA rfl (.cons rfl (Sub.gsNil _) rfl (.cons rfl Sub.intA rfl .nil))))) (.cons rfl rfl (.arr rfl (by simp) .nil))
 ·rintro ⟨rest, tl, e, done, hr, he, hx⟩
  show Run _ _ _ _ [(2, .box 0 0), (3, .str (digits s).1), (4, .b (digits s).2), (5, .gs 1 done.length), (6, .i e)] [(0, .cells [.b false, .raw (.slice none 0 0)]), (1, .arr 1 (encMag done))]
  have hrl := congrArg List.length hr
  simp only [List.length_append] at hrl
  have hxl := congrArg List.length hx
  simp only [List.length_append] at hxl
  refine Run.seq (Run.seq (Run.reg [.p, .p] ?_))
  refine .mv rfl rfl <| .P rfl (q_gtr rfl rfl) <| .nil ?_
  refine Run.cond rfl (fun h1 => ?_) (fun h1 => ?_)
  ·have ph1 := h1; try simp only [bs] at ph1
   refine Run.skip ?_
   refine Run.seq ?_
   refine Run.block ?_
   refine Run.seq (Run.reg [.p, .p, .p, .p, .p, .p, .p, .p, .p, .p, .p, .p] ?_)
   refine .mv rfl rfl <| .mv rfl rfl <| .P rfl (q_sub rfl rfl (wrap64_ok (by first | omega | (simp; done) | (simp; omega) | (simp at *; omega)) (by first | omega | (simp; done) | (simp; omega) | (simp at *; omega)))) <| .P rfl (q_max rfl rfl rfl) <| .mv rfl rfl <| .P rfl (q_sliceS Tryz.underlying9 rfl (l := rest.length - 9) (h := rest.length) (r := rest.drop (rest.length - 9)) (.inr ⟨_, _, rfl, opI rfl (by omega)⟩) (.inr ⟨_, _, rfl, opI rfl (by omega)⟩) (by omega) (by rw [hr]; simp) (by rw [hr]; simp [List.drop_append, List.take_append] <;> omega)) <| .P rfl (q_call Tryz.call130 rfl (parseUint_ok _ (by intro e; have := congrArg List.length e; simp at this; omega) (by rw [hr, List.all_append, Bool.and_eq_true] at hdd; have := hdd.1; rw [← List.take_append_drop (rest.length - 9) rest, List.all_append, Bool.and_eq_true] at this; exact this.2) (by simp; omega))) <| .mv rfl rfl <| .P rfl (q_extract rfl rfl) <| .P rfl (q_extract rfl rfl) <| .ag rfl rfl <| .ag rfl rfl <| .nil ?_
   refine Run.reg [.p, .p, .p, .w, .p] ?_
   refine .mv rfl rfl <| .mv rfl rfl <| .P rfl (q_buildSlice' (n := 1) (rows := encMag [natVal (rest.drop (rest.length - 9))]) Tryz.underlying114 Tryz.sizeOf171 rfl rfl rfl Tryz.zeroValue171 rfl rfl rfl rfl rfl rfl rfl) <| .W rfl (q_append 2 Tryz.underlying114 Tryz.underlying114 Tryz.sizeOf171 Tryz.typeInfo171 Tryz.zeroValue171 rfl (bt := 8) rfl rfl rfl rfl (by simp) rfl rfl (by simp; omega)) <| .ag rfl rfl <| .nil ?_
   refine Run.nil (bq_norm ?_)
   refine Run.reg [.p, .p, .p] ?_
   refine .mv rfl rfl <| .P rfl (q_sub rfl rfl (wrap64_ok (by first | omega | (simp; done) | (simp; omega) | (simp at *; omega)) (by first | omega | (simp; done) | (simp; omega) | (simp at *; omega)))) <| .ag rfl rfl <| .nil ?_
   refine Run.nil (tq_norm ?_)
   exact ⟨⟨rest.take (rest.length - 9), rest.drop (rest.length - 9) ++ tl, e - 9, done ++ [natVal (rest.drop (rest.length - 9))], by rw [hr, ← List.append_assoc, List.take_append_drop], ⟨fun h => by simp; omega, fun h => List.length_eq_zero_iff.1 (by simp; omega)⟩, by rw [← hx, groupsOf_step (s := rest) (by omega)]; simp⟩, by simp; omega, (Le.mk (obs' := [(0, _), (2, _)]) rfl (show EnvLe _ _ [(2, _), (3, _), (4, _), (5, _), (6, _)] from (.same rfl rfl (.same rfl rfl (.same rfl rfl (.same rfl rfl (.same rfl rfl .nil)))))) (.cons (i := 0) rfl rfl (.cons (i := 2) rfl rfl .nil))).trans <| (Le.ren 5 2 1 rfl rfl (by simp) rfl).trans <| Le.mk rfl (.same rfl rfl (.cons rfl Sub.strA rfl (.cons rfl Sub.boolA rfl (.cons rfl (Sub.gs (by simp)) rfl (.cons rfl Sub.intA rfl .nil))))) (.cons rfl rfl (.arr rfl (by simp) .nil))⟩
  ·have ph1 := h1; try simp only [bs] at ph1
   refine Run.exit (tq_exit (bq_exit ?_))
   refine Run.seq (Run.reg [.p, .p, .p, .w] ?_)
   refine .mv rfl rfl <| .mv rfl rfl <| .P rfl (q_build (pl := #[(0, 1), (1, 1)]) Tryz.underlying116 Tryz.zeroValue116 (fun w => by kernel_rfl) rfl rfl) <| .W rfl (q_storeW Tryz.sizeOf116 rfl rfl rfl rfl rfl rfl) <| .nil ?_
   refine Run.weak (Le.freezeO 0 1 1 rfl rfl rfl (by simp)) ?_
   refine Run.ret (?_)
   exact Rd.cA Tryz.results79 Tryz.isAgg116 Tryz.sizeOf116 rfl rfl rfl (Sub.agg (.cons (Sub.bool (by rfl)) (.cons (Sub.snap (by rw [← hx, he.2 (by omega), groupsOf_nil, List.append_nil])) .nil)))
end Go.T
namespace Go.T
open Go Go.Proofs
set_option maxRecDepth 20000
structure text_ok_L0 (neg : Bool) (m : List Nat) where
 lo : List Nat
 hi : List Nat
 st : Str
 hx : cutM m = lo ++ hi
 ht : st ++ padAll lo = textM neg m
 hne : st ≠ []
 hst : st.length ≤ 21 + 9 * hi.length
theorem text_ok (neg : Bool) (m : List Nat) (hm : magOK m) (hs : m.length ≤ 20000) : Fc Tryz.prog 80 [.agg (encNum neg m)] (.str (textM neg m)) := by
 refine Fc.mk' [2] Tryz.func80 rfl Tryz.ntmps80 rfl rfl rfl (fun t w => results_tmp Tryz.results80 t _ w) ?_
 have hcl := cutM_len m
 have hcm := cutM_ok hm
 have hd0 : (cutM m).length ≠ 0 → (Lib.decDigits (lastN (cutM m))).length ≤ 9 := fun h => dec9 (hcm _ (last_mem h))
 refine Run.seq (Run.reg [.w, .p] ?_)
 refine .W rfl (q_boxA 0 rfl rfl) <| .ag rfl rfl <| .nil ?_
 refine Run.seq (Run.reg [.p, .r, .p, .p] ?_)
 refine .P rfl (q_fieldB (n := 0) 114 1 Tryz.underlying116 Tryz.sizeOf114 rfl rfl) <| .R rfl (q_load1 Tryz.isAgg114 rfl rfl rfl) <| .P rfl (q_call Tryz.call131 rfl (cut_ok _)) <| .ag rfl rfl <| .nil ?_
 refine Run.seq (Run.seq (Run.reg [.p, .p, .p] ?_))
 refine .mv rfl rfl <| .P rfl (q_lenI Tryz.underlying114 rfl) <| .P rfl (q_eql rfl rfl) <| .nil ?_
 refine Run.cond rfl (fun h1 => ?_) (fun h1 => ?_)
 ·have ph1 := h1; try simp only [bs] at ph1
  refine Run.seq (Run.reg [.p] ?_)
  refine .ag rfl rfl <| .nil ?_
  refine Run.ret (?_)
  exact ret1 rfl (Sub.str (by first | (have e : lo = [] := List.length_eq_zero_iff.mp (by omega); rw [e] at ht; rw [← ht]; simp [padAll_nil]; done) | (simp [← ht, padAll_nil]; done) | grind [textM]))
 ·have ph1 := h1; try simp only [bs] at ph1
  refine Run.skip ?_
  refine Run.seq (Run.reg [.w] ?_)
  refine .W rfl (q_allocBld 7000 7001 Tryz.zeroValue179 rfl) <| .nil ?_
  refine Run.seq (Run.seq (Run.reg [.p, .r] ?_))
  refine .P rfl (q_fieldB (n := 0) 4 0 Tryz.underlying116 Tryz.sizeOf4 rfl rfl) <| .R rfl (q_load1 Tryz.isAgg4 rfl rfl rfl) <| .nil ?_
  refine Run.cond rfl (fun h2 => ?_) (fun h2 => ?_)
  ·have ph2 := h2; try simp only [bs] at ph2
   refine Run.reg [.w] ?_
   refine .W rfl (q_callO Tryz.call132 rfl (bldWriteByte_ok _ 45 (by first | (simp; done) | (simp; omega))) (.cons rfl rfl (.cons rfl rfl .nil)) rfl rfl) <| .nil ?_
   refine Run.weak (Le.mk (obs' := [(0, _), (7000, _), (7002, _)]) rfl (show EnvLe _ _ [(0, _), (1, _), (2, _), (7, _), (8, _), (9, _), (3, _), (10, _), (11, _), (12, _), (4, _), (13, _), (14, _)] from (.same rfl rfl (.same rfl rfl (.same rfl rfl (.same rfl rfl (.same rfl rfl (.same rfl rfl (.same rfl rfl (.same rfl rfl (.same rfl rfl (.same rfl rfl (.same rfl rfl (.same rfl rfl (.same rfl rfl .nil)))))))))))))) (.cons (i := 0) rfl rfl (.cons (i := 7000) rfl rfl (.cons (i := 7002) rfl rfl .nil)))) ?_
   refine Run.seq (Run.reg [.p, .p, .p, .p, .p, .p, .p, .w] ?_)
   refine .mv rfl rfl <| .mv rfl rfl <| .P rfl (q_lenI Tryz.underlying114 rfl) <| .P rfl (q_sub rfl rfl (wrap64_ok (by first | omega | (simp; done) | (simp; omega) | (simp at *; omega)) (by first | omega | (simp; done) | (simp; omega) | (simp at *; omega)))) <| .P rfl (q_indexI Tryz.underlying114 Tryz.sizeOf171 rfl rfl (by simp; omega) (idx_lastN (pre := cutM m) (rest := []) (by simp) (by omega) (by simp))) <| .P rfl (q_loadI Tryz.isAgg171 rfl) <| .P rfl (q_call Tryz.call134 rfl (formatUint_ok _ (by have := hcm _ (last_mem (l := cutM m) (by omega)); unfold gB at this; omega))) <| .W rfl (q_callO Tryz.call133 rfl (bldWriteString_ok2 _ _ (by first | (simp; done) | (simp; omega))) (.cons rfl rfl (.cons rfl rfl .nil)) rfl rfl) <| .nil ?_
   refine Run.weak (Le.mk (obs' := [(0, _), (7000, _), (7001, _)]) rfl (show EnvLe _ _ [(0, _), (1, _), (2, _), (7, _), (8, _), (9, _), (3, _), (10, _), (11, _), (12, _), (4, _), (13, _), (14, _), (16, _), (17, _), (18, _), (19, _), (20, _), (21, _), (22, _)] from (.same rfl rfl (.same rfl rfl (.same rfl rfl (.same rfl rfl (.same rfl rfl (.same rfl rfl (.same rfl rfl (.same rfl rfl (.same rfl rfl (.same rfl rfl (.same rfl rfl (.same rfl rfl (.same rfl rfl (.same rfl rfl (.same rfl rfl (.same rfl rfl (.same rfl rfl (.same rfl rfl (.same rfl rfl (.same rfl rfl .nil))))))))))))))))))))) (.cons (i := 0) rfl rfl (.cons (i := 7000) rfl rfl (.cons (i := 7001) rfl rfl .nil)))) ?_
   refine Run.seq (Run.seq (Run.reg [.p, .p, .p, .p] ?_))
   refine .mv rfl rfl <| .P rfl (q_lenI Tryz.underlying114 rfl) <| .P rfl (q_sub rfl rfl (wrap64_ok (by first | omega | (simp; done) | (simp; omega) | (simp at *; omega)) (by first | omega | (simp; done) | (simp; omega) | (simp at *; omega)))) <| .ag rfl rfl <| .nil ?_
   refine Run.block ?_
   refine Run.loop (ι := text_ok_L0 neg m) (fun sx => [(1, .box 0 0), (3, sMag (cutM m)), (4, .box 7000 0), (5, .i ((sx.lo.length : Int) - 1))]) (fun sx => [(0, .cells (encNum neg m)), (7000, .bld 7001 sx.st.length), (7001, .ba sx.st)]) (fun sx => sx.lo.length) ⟨(cutM m).dropLast, [lastN (cutM m)], ([] ++ [45]) ++ Lib.decDigits (lastN (cutM m)), dropLast_eq (by omega), by unfold textM; rw [if_neg (by omega)]; simp at *; simp [*], by simp [dec_ne], by have := dec9 (hcm _ (last_mem (l := cutM m) (by omega))); simp; omega⟩ ?_ ?_
   ·exact Le.mk rfl (.same rfl rfl (.same rfl rfl (.same rfl rfl (.cons rfl Sub.intA rfl .nil)))) (.cons rfl rfl (.eq rfl (by first | rfl | (simp; done) | (simp; omega)) rfl (.eq rfl (by first | rfl | (simp; done) | (simp; omega)) rfl .nil)))
   ·rintro ⟨lo, hi, st, hx, ht, hne, hst⟩
    show Run _ _ _ _ [(1, .box 0 0), (3, sMag (cutM m)), (4, .box 7000 0), (5, .i ((lo.length : Int) - 1))] [(0, .cells (encNum neg m)), (7000, .bld 7001 st.length), (7001, .ba st)]
    have hxl := congrArg List.length hx
    simp only [List.length_append] at hxl
    have hy : lo.length ≠ 0 → lastN lo < gB := fun h => hcm _ (by rw [hx]; exact List.mem_append_left _ (last_mem h))
    have hd9 : lo.length ≠ 0 → (Lib.decDigits (lastN lo)).length ≤ 9 := fun h => dec9 (hy h)
    refine Run.seq (Run.seq (Run.reg [.p, .p] ?_))
    refine .mv rfl rfl <| .P rfl (q_geq rfl rfl) <| .nil ?_
    refine Run.cond rfl (fun h3 => ?_) (fun h3 => ?_)
    ·have ph3 := h3; try simp only [bs] at ph3
     refine Run.skip ?_
     refine Run.seq ?_
     refine Run.block ?_
     refine Run.seq (Run.reg [.p, .p, .p, .p, .p, .p] ?_)
     refine .mv rfl rfl <| .mv rfl rfl <| .P rfl (q_indexI Tryz.underlying114 Tryz.sizeOf171 rfl rfl (by omega) (idx_lastN hx (by omega) rfl)) <| .P rfl (q_loadI Tryz.isAgg171 rfl) <| .P rfl (q_call Tryz.call134 rfl (formatUint_ok _ (by unfold gB at hy; omega))) <| .ag rfl rfl <| .nil ?_
     refine Run.reg [.p, .p, .p, .p, .p, .p, .w] ?_
     refine .mv rfl rfl <| .P rfl (q_lenS Tryz.underlying9 rfl) <| .P rfl (q_sub rfl rfl (wrap64_ok (by first | omega | (simp; done) | (simp; omega) | (simp at *; omega)) (by first | omega | (simp; done) | (simp; omega) | (simp at *; omega)))) <| .P rfl (q_call Tryz.call135 rfl (repeat0_ok _ (by first | assumption | omega | (simp at *; omega)) (by first | assumption | omega | (simp at *; omega)))) <| .mv rfl rfl <| .P rfl (q_addS rfl rfl (by unfold big; simp; omega) rfl) <| .W rfl (q_callO Tryz.call133 rfl (bldWriteString_ok _ _ (by first | (simp; done) | (simp; omega))) (.cons rfl rfl (.cons rfl rfl .nil)) rfl rfl) <| .nil ?_
     refine Run.nil (bq_norm ?_)
     refine Run.weak (Le.mk (obs' := [(0, _), (7000, _), (7002, _)]) rfl (show EnvLe _ _ [(1, _), (3, _), (4, _), (5, _), (27, _), (28, _), (31, _), (32, _), (33, _), (34, _), (35, _), (6, _), (36, _), (37, _), (38, _), (39, _), (40, _), (41, _)] from (.same rfl rfl (.same rfl rfl (.same rfl rfl (.same rfl rfl (.same rfl rfl (.same rfl rfl (.same rfl rfl (.same rfl rfl (.same rfl rfl (.same rfl rfl (.same rfl rfl (.same rfl rfl (.same rfl rfl (.same rfl rfl (.same rfl rfl (.same rfl rfl (.same rfl rfl (.same rfl rfl .nil))))))))))))))))))) (.cons (i := 0) rfl rfl (.cons (i := 7000) rfl rfl (.cons (i := 7002) rfl rfl .nil)))) ?_
     refine Run.reg [.p, .p, .p] ?_
     refine .mv rfl rfl <| .P rfl (q_sub rfl rfl (wrap64_ok (by first | omega | (simp; done) | (simp; omega) | (simp at *; omega)) (by first | omega | (simp; done) | (simp; omega) | (simp at *; omega)))) <| .ag rfl rfl <| .nil ?_
     refine Run.nil (tq_norm ?_)
     exact ⟨⟨lo.dropLast, lastN lo :: hi, st ++ (List.replicate (9 - (Lib.decDigits (lastN lo)).length) 48 ++ Lib.decDigits (lastN lo)), by rw [hx]; conv => { lhs; rw [dropLast_eq (l := lo) (by omega)] }; simp, by rw [← ht, padAll_step (lo := lo) (by omega)]; simp [pad9], by simp [hne], by simp; omega⟩, by simp; omega, (Le.mk (obs' := [(0, _), (7000, _), (7002, _)]) rfl (show EnvLe _ _ [(1, _), (3, _), (4, _), (5, _)] from (.same rfl rfl (.same rfl rfl (.same rfl rfl (.same rfl rfl .nil))))) (.cons (i := 0) rfl rfl (.cons (i := 7000) rfl rfl (.cons (i := 7002) rfl rfl .nil)))).trans <| (Le.renB 7000 7002 7001 rfl rfl (by simp) rfl).trans <| Le.mk rfl (.same rfl rfl (.same rfl rfl (.same rfl rfl (.cons rfl Sub.intA rfl .nil)))) (.cons rfl rfl (.eq rfl (by first | rfl | (simp; done) | (simp; omega)) rfl (.eq rfl (by first | rfl | (simp; done) | (simp; omega)) rfl .nil)))⟩
    ·have ph3 := h3; try simp only [bs] at ph3
     refine Run.exit (tq_exit (bq_exit ?_))
     refine Run.seq (Run.reg [.w, .p] ?_)
     refine .W rfl (q_callO Tryz.call136 rfl (bldString_ok 7000 7001 _ _ hne rfl (by unfold big; omega) rfl) (.cons rfl rfl (.cons rfl rfl .nil)) rfl rfl) <| .ag rfl rfl <| .nil ?_
     refine Run.ret (?_)
     exact ret1 rfl (Sub.str (by first | (have e : lo = [] := List.length_eq_zero_iff.mp (by omega); rw [e] at ht; rw [← ht]; simp [padAll_nil]; done) | (simp [← ht, padAll_nil]; done) | grind [textM]))
  ·have ph2 := h2; try simp only [bs] at ph2
   refine Run.skip ?_
   refine Run.seq (Run.reg [.p, .p, .p, .p, .p, .p, .p, .w] ?_)
   refine .mv rfl rfl <| .mv rfl rfl <| .P rfl (q_lenI Tryz.underlying114 rfl) <| .P rfl (q_sub rfl rfl (wrap64_ok (by first | omega | (simp; done) | (simp; omega) | (simp at *; omega)) (by first | omega | (simp; done) | (simp; omega) | (simp at *; omega)))) <| .P rfl (q_indexI Tryz.underlying114 Tryz.sizeOf171 rfl rfl (by simp; omega) (idx_lastN (pre := cutM m) (rest := []) (by simp) (by omega) (by simp))) <| .P rfl (q_loadI Tryz.isAgg171 rfl) <| .P rfl (q_call Tryz.call134 rfl (formatUint_ok _ (by have := hcm _ (last_mem (l := cutM m) (by omega)); unfold gB at this; omega))) <| .W rfl (q_callO Tryz.call133 rfl (bldWriteString_ok _ _ (by first | (simp; done) | (simp; omega))) (.cons rfl rfl (.cons rfl rfl .nil)) rfl rfl) <| .nil ?_
   refine Run.weak (Le.mk (obs' := [(0, _), (7000, _), (7002, _)]) rfl (show EnvLe _ _ [(0, _), (1, _), (2, _), (7, _), (8, _), (9, _), (3, _), (10, _), (11, _), (12, _), (4, _), (13, _), (14, _), (16, _), (17, _), (18, _), (19, _), (20, _), (21, _), (22, _)] from (.same rfl rfl (.same rfl rfl (.same rfl rfl (.same rfl rfl (.same rfl rfl (.same rfl rfl (.same rfl rfl (.same rfl rfl (.same rfl rfl (.same rfl rfl (.same rfl rfl (.same rfl rfl (.same rfl rfl (.same rfl rfl (.same rfl rfl (.same rfl rfl (.same rfl rfl (.same rfl rfl (.same rfl rfl (.same rfl rfl .nil))))))))))))))))))))) (.cons (i := 0) rfl rfl (.cons (i := 7000) rfl rfl (.cons (i := 7002) rfl rfl .nil)))) ?_
   refine Run.seq (Run.seq (Run.reg [.p, .p, .p, .p] ?_))
   refine .mv rfl rfl <| .P rfl (q_lenI Tryz.underlying114 rfl) <| .P rfl (q_sub rfl rfl (wrap64_ok (by first | omega | (simp; done) | (simp; omega) | (simp at *; omega)) (by first | omega | (simp; done) | (simp; omega) | (simp at *; omega)))) <| .ag rfl rfl <| .nil ?_
   refine Run.block ?_
   refine Run.loop (ι := text_ok_L0 neg m) (fun sx => [(1, .box 0 0), (3, sMag (cutM m)), (4, .box 7000 0), (5, .i ((sx.lo.length : Int) - 1))]) (fun sx => [(0, .cells (encNum neg m)), (7000, .bld 7001 sx.st.length), (7001, .ba sx.st)]) (fun sx => sx.lo.length) ⟨(cutM m).dropLast, [lastN (cutM m)], [] ++ Lib.decDigits (lastN (cutM m)), dropLast_eq (by omega), by unfold textM; rw [if_neg (by omega)]; simp at *; simp [*], by simp [dec_ne], by have := dec9 (hcm _ (last_mem (l := cutM m) (by omega))); simp; omega⟩ ?_ ?_
   ·exact (Le.mk (obs' := [(0, _), (7000, _), (7002, _)]) rfl (show EnvLe _ _ [(1, _), (3, _), (4, _), (5, _)] from (.same rfl rfl (.same rfl rfl (.same rfl rfl (.same rfl rfl .nil))))) (.cons (i := 0) rfl rfl (.cons (i := 7000) rfl rfl (.cons (i := 7002) rfl rfl .nil)))).trans <| (Le.renB 7000 7002 7001 rfl rfl (by simp) rfl).trans <| Le.mk rfl (.same rfl rfl (.same rfl rfl (.same rfl rfl (.cons rfl Sub.intA rfl .nil)))) (.cons rfl rfl (.eq rfl (by first | rfl | (simp; done) | (simp; omega)) rfl (.eq rfl (by first | rfl | (simp; done) | (simp; omega)) rfl .nil)))
   ·rintro ⟨lo, hi, st, hx, ht, hne, hst⟩
    show Run _ _ _ _ [(1, .box 0 0), (3, sMag (cutM m)), (4, .box 7000 0), (5, .i ((lo.length : Int) - 1))] [(0, .cells (encNum neg m)), (7000, .bld 7001 st.length), (7001, .ba st)]
    have hxl := congrArg List.length hx
    simp only [List.length_append] at hxl
    have hy : lo.length ≠ 0 → lastN lo < gB := fun h => hcm _ (by rw [hx]; exact List.mem_append_left _ (last_mem h))
    have hd9 : lo.length ≠ 0 → (Lib.decDigits (lastN lo)).length ≤ 9 := fun h => dec9 (hy h)
    refine Run.seq (Run.seq (Run.reg [.p, .p] ?_))
    refine .mv rfl rfl <| .P rfl (q_geq rfl rfl) <| .nil ?_
    refine Run.cond rfl (fun h4 => ?_) (fun h4 => ?_)
    ·have ph4 := h4; try simp only [bs] at ph4
     refine Run.skip ?_
     refine Run.seq ?_
     refine Run.block ?_
     refine Run.seq (Run.reg [.p, .p, .p, .p, .p, .p] ?_)
     refine .mv rfl rfl <| .mv rfl rfl <| .P rfl (q_indexI Tryz.underlying114 Tryz.sizeOf171 rfl rfl (by omega) (idx_lastN hx (by omega) rfl)) <| .P rfl (q_loadI Tryz.isAgg171 rfl) <| .P rfl (q_call Tryz.call134 rfl (formatUint_ok _ (by unfold gB at hy; omega))) <| .ag rfl rfl <| .nil ?_
     refine Run.reg [.p, .p, .p, .p, .p, .p, .w] ?_
     refine .mv rfl rfl <| .P rfl (q_lenS Tryz.underlying9 rfl) <| .P rfl (q_sub rfl rfl (wrap64_ok (by first | omega | (simp; done) | (simp; omega) | (simp at *; omega)) (by first | omega | (simp; done) | (simp; omega) | (simp at *; omega)))) <| .P rfl (q_call Tryz.call135 rfl (repeat0_ok _ (by first | assumption | omega | (simp at *; omega)) (by first | assumption | omega | (simp at *; omega)))) <| .mv rfl rfl <| .P rfl (q_addS rfl rfl (by unfold big; simp; omega) rfl) <| .W rfl (q_callO Tryz.call133 rfl (bldWriteString_ok _ _ (by first | (simp; done) | (simp; omega))) (.cons rfl rfl (.cons rfl rfl .nil)) rfl rfl) <| .nil ?_
     refine Run.nil (bq_norm ?_)
     refine Run.weak (Le.mk (obs' := [(0, _), (7000, _), (7002, _)]) rfl (show EnvLe _ _ [(1, _), (3, _), (4, _), (5, _), (27, _), (28, _), (31, _), (32, _), (33, _), (34, _), (35, _), (6, _), (36, _), (37, _), (38, _), (39, _), (40, _), (41, _)] from (.same rfl rfl (.same rfl rfl (.same rfl rfl (.same rfl rfl (.same rfl rfl (.same rfl rfl (.same rfl rfl (.same rfl rfl (.same rfl rfl (.same rfl rfl (.same rfl rfl (.same rfl rfl (.same rfl rfl (.same rfl rfl (.same rfl rfl (.same rfl rfl (.same rfl rfl (.same rfl rfl .nil))))))))))))))))))) (.cons (i := 0) rfl rfl (.cons (i := 7000) rfl rfl (.cons (i := 7002) rfl rfl .nil)))) ?_
     refine Run.reg [.p, .p, .p] ?_
     refine .mv rfl rfl <| .P rfl (q_sub rfl rfl (wrap64_ok (by first | omega | (simp; done) | (simp; omega) | (simp at *; omega)) (by first | omega | (simp; done) | (simp; omega) | (simp at *; omega)))) <| .ag rfl rfl <| .nil ?_
     refine Run.nil (tq_norm ?_)
     exact ⟨⟨lo.dropLast, lastN lo :: hi, st ++ (List.replicate (9 - (Lib.decDigits (lastN lo)).length) 48 ++ Lib.decDigits (lastN lo)), by rw [hx]; conv => { lhs; rw [dropLast_eq (l := lo) (by omega)] }; simp, by rw [← ht, padAll_step (lo := lo) (by omega)]; simp [pad9], by simp [hne], by simp; omega⟩, by simp; omega, (Le.mk (obs' := [(0, _), (7000, _), (7002, _)]) rfl (show EnvLe _ _ [(1, _), (3, _), (4, _), (5, _)] from (.same rfl rfl (.same rfl rfl (.same rfl rfl (.same rfl rfl .nil))))) (.cons (i := 0) rfl rfl (.cons (i := 7000) rfl rfl (.cons (i := 7002) rfl rfl .nil)))).trans <| (Le.renB 7000 7002 7001 rfl rfl (by simp) rfl).trans <| Le.mk rfl (.same rfl rfl (.same rfl rfl (.same rfl rfl (.cons rfl Sub.intA rfl .nil)))) (.cons rfl rfl (.eq rfl (by first | rfl | (simp; done) | (simp; omega)) rfl (.eq rfl (by first | rfl | (simp; done) | (simp; omega)) rfl .nil)))⟩
    ·have ph4 := h4; try simp only [bs] at ph4
     refine Run.exit (tq_exit (bq_exit ?_))
     refine Run.seq (Run.reg [.w, .p] ?_)
     refine .W rfl (q_callO Tryz.call136 rfl (bldString_ok 7000 7001 _ _ hne rfl (by unfold big; omega) rfl) (.cons rfl rfl (.cons rfl rfl .nil)) rfl rfl) <| .ag rfl rfl <| .nil ?_
     refine Run.ret (?_)
     exact ret1 rfl (Sub.str (by first | (have e : lo = [] := List.length_eq_zero_iff.mp (by omega); rw [e] at ht; rw [← ht]; simp [padAll_nil]; done) | (simp [← ht, padAll_nil]; done) | grind [textM]))
end Go.T
namespace Go.T
open Go Go.Proofs
set_option maxRecDepth 20000
theorem neg_ok (s : Str) (hs : s.length ≤ 9000) : Fc Tryz.prog 75 [.str s] (.str (textM (!(digits s).2) (groupsOf (digits s).1))) := by
 refine Fc.mk' [2] Tryz.func75 rfl Tryz.ntmps75 rfl rfl rfl (fun t w => results_tmp Tryz.results75 t _ w) ?_
 have hdl := digits_len s
 have hgl := groupsOf_len (digits s).1
 have hgo := (groupsOf_spec _ (digits_dig s)).1
 refine Run.seq (Run.reg [.p] ?_)
 refine .ag rfl rfl <| .nil ?_
 refine Run.seq (Run.reg [.p, .p, .w, .w] ?_)
 refine .mv rfl rfl <| .P rfl (q_call Tryz.call79 rfl (read_ok _ (by first | assumption | omega | (simp at *; omega)))) <| .W rfl (q_alloc 0 Tryz.zeroValue116 rfl) <| .W rfl (q_storeW Tryz.sizeOf116 rfl rfl rfl rfl rfl rfl) <| .nil ?_
 refine Run.seq (Run.reg [.p, .r, .p, .p, .w] ?_)
 refine .P rfl (q_fieldB (n := 0) 4 0 Tryz.underlying116 Tryz.sizeOf4 rfl rfl) <| .R rfl (q_load1 Tryz.isAgg4 rfl rfl rfl) <| .P rfl (q_not rfl) <| .P rfl (q_fieldB (n := 0) 4 0 Tryz.underlying116 Tryz.sizeOf4 rfl rfl) <| .W rfl (q_store1 Tryz.sizeOf4 rfl rfl rfl rfl (by first | (simp; done) | decide)) <| .nil ?_
 refine Run.seq (Run.reg [.r, .p, .p] ?_)
 refine .R rfl (q_loadW Tryz.isAgg116 Tryz.sizeOf116 rfl rfl rfl) <| .P rfl (q_call Tryz.call80 rfl (text_ok _ _ (by first | assumption | omega | (simp at *; omega)) (by first | assumption | omega | (simp at *; omega)))) <| .ag rfl rfl <| .nil ?_
 refine Run.ret (?_)
 exact ret1 rfl (Sub.str (by rfl))
structure compareM_ok_L0 (x y : List Nat) where
 lx : List Nat
 rx : List Nat
 ly : List Nat
 ry : List Nat
 ex : x = lx ++ rx
 ey : y = ly ++ ry
 el : lx.length = ly.length
 er : cmpR lx.reverse ly.reverse = cmpM x y
theorem compareM_ok (x y : List Nat) (hx : x.length ≤ 20000) (hy : y.length ≤ 20000) : Fc Tryz.prog 81 [sMag x, sMag y] (.i (cmpM x y)) := by
 refine Fc.mk' [4] Tryz.func81 rfl Tryz.ntmps81 rfl rfl rfl (fun t w => results_tmp Tryz.results81 t _ w) ?_
 refine Run.seq (Run.reg [.p] ?_)
 refine .ag rfl rfl <| .nil ?_
 refine Run.seq (Run.seq (Run.reg [.p, .p, .p, .p, .p] ?_))
 refine .mv rfl rfl <| .P rfl (q_lenI Tryz.underlying114 rfl) <| .mv rfl rfl <| .P rfl (q_lenI Tryz.underlying114 rfl) <| .P rfl (q_neq rfl rfl) <| .nil ?_
 refine Run.cond rfl (fun h1 => ?_) (fun h1 => ?_)
 ·have ph1 := h1; try simp only [bs] at ph1
  refine Run.seq (Run.reg [.p, .p, .p, .p, .p, .p] ?_)
  refine .mv rfl rfl <| .P rfl (q_lenI Tryz.underlying114 rfl) <| .mv rfl rfl <| .P rfl (q_lenI Tryz.underlying114 rfl) <| .P rfl (q_sub rfl rfl (wrap64_ok (by first | omega | (simp; done) | (simp; omega) | (simp at *; omega)) (by first | omega | (simp; done) | (simp; omega) | (simp at *; omega)))) <| .ag rfl rfl <| .nil ?_
  refine Run.ret (?_)
  exact ret1 rfl (Sub.int (by first | (unfold cmpM; rw [if_pos (by simp at *; omega)]; simp; done) | (rw [← er, cmpR_nil (by omega)]; done) | (rw [← er, es (by omega)]; first | rw [if_pos (by omega)] | rw [if_neg (by omega), if_pos (by omega)])))
 ·have ph1 := h1; try simp only [bs] at ph1
  refine Run.skip ?_
  refine Run.seq (Run.seq (Run.reg [.p, .p, .p, .p] ?_))
  refine .mv rfl rfl <| .P rfl (q_lenI Tryz.underlying114 rfl) <| .P rfl (q_sub rfl rfl (wrap64_ok (by first | omega | (simp; done) | (simp; omega) | (simp at *; omega)) (by first | omega | (simp; done) | (simp; omega) | (simp at *; omega)))) <| .ag rfl rfl <| .nil ?_
  refine Run.block ?_
  refine Run.loop (ι := compareM_ok_L0 x y) (fun sx => [(0, sMag x), (1, sMag y), (5, .i ((sx.lx.length : Int) - 1))]) (fun sx => []) (fun sx => sx.lx.length) ⟨x, [], y, [], by simp, by simp, by simp at *; omega, (cmpM_eq (by simp at *; omega)).symm⟩ ?_ ?_
  ·exact Le.mk rfl (.same rfl rfl (.same rfl rfl (.cons rfl Sub.intA rfl .nil))) .nil
  ·rintro ⟨lx, rx, ly, ry, ex, ey, el, er⟩
   show Run _ _ _ _ [(0, sMag x), (1, sMag y), (5, .i ((lx.length : Int) - 1))] []
   have exl := congrArg List.length ex
   have eyl := congrArg List.length ey
   simp only [List.length_append] at exl eyl
   have es := fun h => cmpR_step (x := lx) (y := ly) h el
   refine Run.seq (Run.seq (Run.reg [.p, .p] ?_))
   refine .mv rfl rfl <| .P rfl (q_geq rfl rfl) <| .nil ?_
   refine Run.cond rfl (fun h2 => ?_) (fun h2 => ?_)
   ·have ph2 := h2; try simp only [bs] at ph2
    refine Run.skip ?_
    refine Run.seq ?_
    refine Run.block ?_
    refine Run.block ?_
    refine Run.seq (Run.regD [.p, .p, .p, .p, .p, .p, .p, .p, .p, .p] Tryz_mixed (by decide +kernel) ?_)
    refine .mv rfl rfl <| .mv rfl rfl <| .P rfl (q_indexI Tryz.underlying114 Tryz.sizeOf171 rfl rfl (by omega) (idx_lastN ex (by omega) rfl)) <| .P rfl (q_loadI Tryz.isAgg171 rfl) <| .mv rfl rfl <| .mv rfl rfl <| .P rfl (q_indexI Tryz.underlying114 Tryz.sizeOf171 rfl rfl (by omega) (idx_lastN ey (by omega) (by omega))) <| .P rfl (q_loadI Tryz.isAgg171 rfl) <| .P rfl (q_lss rfl rfl) <| .ag rfl rfl <| .nil ?_
    refine Run.cond rfl (fun h3 => ?_) (fun h3 => ?_)
    ·have ph3 := h3; try simp only [bs] at ph3
     refine Run.seq (Run.reg [.p] ?_)
     refine .ag rfl rfl <| .nil ?_
     refine Run.ret (bq_ret (bq_ret (tq_ret (bq_ret (?_)))))
     exact ret1 rfl (Sub.int (by first | (unfold cmpM; rw [if_pos (by simp at *; omega)]; simp; done) | (rw [← er, cmpR_nil (by omega)]; done) | (rw [← er, es (by omega)]; first | rw [if_pos (by omega)] | rw [if_neg (by omega), if_pos (by omega)])))
    ·have ph3 := h3; try simp only [bs] at ph3
     refine Run.seq (Run.regD [.p, .p, .p, .p, .p, .p, .p, .p, .p, .p] Tryz_mixed (by decide +kernel) ?_)
     refine .mv rfl rfl <| .mv rfl rfl <| .P rfl (q_indexI Tryz.underlying114 Tryz.sizeOf171 rfl rfl (by omega) (idx_lastN ex (by omega) rfl)) <| .P rfl (q_loadI Tryz.isAgg171 rfl) <| .mv rfl rfl <| .mv rfl rfl <| .P rfl (q_indexI Tryz.underlying114 Tryz.sizeOf171 rfl rfl (by omega) (idx_lastN ey (by omega) (by omega))) <| .P rfl (q_loadI Tryz.isAgg171 rfl) <| .P rfl (q_gtr rfl rfl) <| .ag rfl rfl <| .nil ?_
     refine Run.cond rfl (fun h4 => ?_) (fun h4 => ?_)
     ·have ph4 := h4; try simp only [bs] at ph4
      refine Run.seq (Run.reg [.p] ?_)
      refine .ag rfl rfl <| .nil ?_
      refine Run.ret (bq_ret (bq_ret (tq_ret (bq_ret (?_)))))
      exact ret1 rfl (Sub.int (by first | (unfold cmpM; rw [if_pos (by simp at *; omega)]; simp; done) | (rw [← er, cmpR_nil (by omega)]; done) | (rw [← er, es (by omega)]; first | rw [if_pos (by omega)] | rw [if_neg (by omega), if_pos (by omega)])))
     ·have ph4 := h4; try simp only [bs] at ph4
      refine Run.skip ?_
      refine Run.nil (bq_norm ?_)
      refine Run.nil (bq_norm ?_)
      refine Run.reg [.p, .p, .p] ?_
      refine .mv rfl rfl <| .P rfl (q_sub rfl rfl (wrap64_ok (by first | omega | (simp; done) | (simp; omega) | (simp at *; omega)) (by first | omega | (simp; done) | (simp; omega) | (simp at *; omega)))) <| .ag rfl rfl <| .nil ?_
      refine Run.nil (tq_norm ?_)
      exact ⟨⟨lx.dropLast, lastN lx :: rx, ly.dropLast, lastN ly :: ry, by rw [ex]; conv => { lhs; rw [dropLast_eq (l := lx) (by omega)] }; simp, by rw [ey]; conv => { lhs; rw [dropLast_eq (l := ly) (by omega)] }; simp, by simp; omega, by rw [← er, cmpR_step (by omega) el, if_neg (by omega), if_neg (by omega)]⟩, by simp; omega, Le.mk rfl (.same rfl rfl (.same rfl rfl (.cons rfl Sub.intA rfl .nil))) .nil⟩
   ·have ph2 := h2; try simp only [bs] at ph2
    refine Run.exit (tq_exit (bq_exit ?_))
    refine Run.seq (Run.reg [.p] ?_)
    refine .ag rfl rfl <| .nil ?_
    refine Run.ret (?_)
    exact ret1 rfl (Sub.int (by first | (unfold cmpM; rw [if_pos (by simp at *; omega)]; simp; done) | (rw [← er, cmpR_nil (by omega)]; done) | (rw [← er, es (by omega)]; first | rw [if_pos (by omega)] | rw [if_neg (by omega), if_pos (by omega)])))
end Go.T
namespace Go.T
open Go Go.Proofs
set_option maxRecDepth 20000
theorem cloneM_ok (m : List Nat) (hm : m.length ≠ 0) (hs : m.length ≤ 20000) : FcO Tryz.prog 173 [sMag m] [] (.gs 7100 m.length) [(7100, .arr 1 (encMag m))] := by
 refine FcO.mk' [2] Tryz.func173 rfl Tryz.ntmps173 rfl rfl rfl (fun t w => results_tmp Tryz.results173 t _ w) ?_
 refine Run.seq (Run.reg [.p] ?_)
 refine .ag rfl rfl <| .nil ?_
 refine Run.seq (Run.seq (Run.reg [.p, .p] ?_))
 refine .mv rfl rfl <| .P rfl (q_eqlNilF Tryz.underlying114 rfl rfl (by intro e; apply hm; simpa using congrArg List.length e)) <| .nil ?_
 refine Run.condF rfl rfl ?_
 refine Run.skip ?_
 refine Run.seq (Run.reg [.p, .p, .w, .p] ?_)
 refine .P rfl (q_buildSlice0 Tryz.underlying114 Tryz.sizeOf171) <| .mv rfl rfl <| .W rfl (QStep.own0 7099 1 (t := 5) rfl (Sub.gsEmpty _ _) (q_append 7100 Tryz.underlying114 Tryz.underlying114 Tryz.sizeOf171 Tryz.typeInfo171 Tryz.zeroValue171 rfl (bt := 8) rfl rfl rfl rfl rfl rfl rfl (by simp; omega))) <| .ag rfl rfl <| .nil ?_
 refine Run.ret (?_)
 exact retO1 rfl (by exact Sub.gs (by simp)) (.eq rfl (by simp) rfl .nil)
structure minusM_ok_L0 (x y : List Nat) where
 out : List Nat
 rest : List Nat
 c : Nat
 hl : x.length = out.length + rest.length
 hc : c ≤ 1
 ho : magOK rest
 hr : out ++ subC rest (y.drop out.length) c = subC x y 0
theorem minusM_ok (x y : List Nat) (hx : x.length ≠ 0) (hxs : x.length ≤ 20000) (hys : y.length ≤ 20000) (hxo : magOK x) (hyo : magOK y) : Fc Tryz.prog 128 [sMag x, sMag y] (sMag (cutM (subC x y 0))) := by
 refine Fc.mk' [4] Tryz.func128 rfl Tryz.ntmps128 rfl rfl rfl (fun t w => results_tmp Tryz.results128 t _ w) ?_
 refine Run.seq (Run.reg [.p] ?_)
 refine .ag rfl rfl <| .nil ?_
 refine Run.seq (Run.reg [.p, .w, .p] ?_)
 refine .mv rfl rfl <| .W rfl (q_callO Tryz.call173 rfl (cloneM_ok _ (by omega) (by omega)) .nil rfl rfl) <| .ag rfl rfl <| .nil ?_
 refine Run.seq (Run.reg [.p] ?_)
 refine .ag rfl rfl <| .nil ?_
 refine Run.seq (Run.seq (Run.reg [.p, .p, .p] ?_))
 refine .mv rfl rfl <| .P rfl (q_lenG Tryz.underlying114 rfl) <| .mv rfl rfl <| .nil ?_
 refine Run.block ?_
 refine Run.loop (ι := minusM_ok_L0 x y) (fun sx => [(1, sMag y), (5, .gs 7100 x.length), (6, .raw (.int .u64 (sx.c : Int))), (12, .i x.length), (13, .i sx.out.length)]) (fun sx => [(7100, .arr 1 (encMag (sx.out ++ sx.rest)))]) (fun sx => sx.rest.length) ⟨[], x, 0, by simp, by omega, hxo, by simp⟩ ?_ ?_
 ·exact Le.mk rfl (.same rfl rfl (.cons rfl (Sub.gs (by simp)) rfl (.cons rfl Sub.intA rfl (.cons rfl Sub.intA rfl (.cons rfl Sub.intA rfl .nil))))) (.arr rfl (by first | rfl | skip; simp only [List.set_set, List.set_cons_zero]; exact (enc_set _ _ _ _).trans (by simp)) .nil)
 ·rintro ⟨out, rest, c, hl, hc, ho, hr⟩
  show Run _ _ _ _ [(1, sMag y), (5, .gs 7100 x.length), (6, .raw (.int .u64 (c : Int))), (12, .i x.length), (13, .i out.length)] [(7100, .arr 1 (encMag (out ++ rest)))]
  rcases rest with _ | ⟨a, rest⟩
  ·skip
   refine Run.seq (Run.reg [.p] ?_)
   refine .P rfl (q_lss rfl rfl) <| .nil ?_
   refine Run.seq ?_
   refine Run.condF rfl (by simp at hl ⊢; omega) ?_
   refine Run.exit (tq_exit (bq_exit ?_))
   refine Run.weak (Le.freeze 5 7100 rfl rfl (by simp at hl ⊢; omega)) ?_
   refine Run.seq (Run.reg [.p, .p, .p] ?_)
   refine .mv rfl rfl <| .P rfl (q_call Tryz.call131 rfl (cut_ok _)) <| .ag rfl rfl <| .nil ?_
   refine Run.ret (?_)
   exact ret1 rfl (Sub.snap (by first | (simp; done) | (simp [subC] at hr; simp [hr])))
  ·simp only [List.length_cons] at hl
   have ha := ho a (by simp)
   have hb := nthN_ok (k := out.length) hyo
   refine Run.seq (Run.reg [.p] ?_)
   refine .P rfl (q_lss rfl rfl) <| .nil ?_
   refine Run.seq ?_
   refine Run.condT rfl (by simp; omega) ?_
   refine Run.skip ?_
   refine Run.seq ?_
   refine Run.block ?_
   refine Run.seq (Run.reg [.p, .p] ?_)
   refine .mv rfl rfl <| .ag rfl rfl <| .nil ?_
   refine Run.seq (Run.reg [.p, .p] ?_)
   refine .mv rfl rfl <| .ag rfl rfl <| .nil ?_
   refine Run.seq (Run.seq (Run.reg [.p, .p, .p, .p] ?_))
   refine .mv rfl rfl <| .mv rfl rfl <| .P rfl (q_lenI Tryz.underlying114 rfl) <| .P rfl (q_lss rfl rfl) <| .nil ?_
   refine Run.cond rfl (fun h1 => ?_) (fun h1 => ?_)
   ·have ph1 := h1; try simp only [bs] at ph1
    refine Run.reg [.p, .p, .p, .p, .p, .p, .p] ?_
    refine .mv rfl rfl <| .mv rfl rfl <| .mv rfl rfl <| .P rfl (q_indexI Tryz.underlying114 Tryz.sizeOf171 rfl rfl (by omega) (idx_mag (nthN_drop (by simp at *; omega)) rfl)) <| .P rfl (q_loadI Tryz.isAgg171 rfl) <| .P rfl (q_add rfl rfl (addN (by unfold gB at *; omega))) <| .ag rfl rfl <| .nil ?_
    refine Run.seq (Run.reg [.p] ?_)
    refine .ag rfl rfl <| .nil ?_
    refine Run.seq (Run.seq (Run.reg [.p, .p, .p, .r, .p, .p] ?_))
    refine .mv rfl rfl <| .mv rfl rfl <| .P rfl (q_indexG (off := (out.length) * 1) Tryz.underlying114 Tryz.sizeOf171 rfl rfl (by first | omega | (simp; done) | (simp; omega) | (simp at *; omega)) (by simp; omega) (by first | omega | (simp; done) | (simp; omega) | (simp at *; omega))) <| .R rfl (q_loadG1 (r := _) (out.length) 0 Tryz.isAgg171 rfl rfl rfl (enc_mid _ _ _) rfl) <| .mv rfl rfl <| .P rfl (q_lss rfl rfl) <| .nil ?_
    refine Run.cond rfl (fun h2 => ?_) (fun h2 => ?_)
    ·have ph2 := h2; try simp only [bs] at ph2
     refine Run.seq (Run.reg [.p, .p, .p, .r, .p, .p, .w] ?_)
     refine .mv rfl rfl <| .mv rfl rfl <| .P rfl (q_indexG (off := (out.length) * 1) Tryz.underlying114 Tryz.sizeOf171 rfl rfl (by first | omega | (simp; done) | (simp; omega) | (simp at *; omega)) (by simp; omega) (by first | omega | (simp; done) | (simp; omega) | (simp at *; omega))) <| .R rfl (q_loadG1 (r := _) (out.length) 0 Tryz.isAgg171 rfl rfl rfl (enc_mid _ _ _) rfl) <| .P rfl (q_add rfl rfl (addN (b := gB) (by unfold gB at *; omega))) <| .P rfl (q_indexG (off := (out.length) * 1) Tryz.underlying114 Tryz.sizeOf171 rfl rfl (by first | omega | (simp; done) | (simp; omega) | (simp at *; omega)) (by simp; omega) (by first | omega | (simp; done) | (simp; omega) | (simp at *; omega))) <| .W rfl (q_storeG1 (r := _) (out.length) 0 Tryz.sizeOf171 rfl rfl rfl rfl rfl rfl (enc_mid _ _ _) (by simp)) <| .nil ?_
     refine Run.reg [.p] ?_
     refine .ag rfl rfl <| .nil ?_
     refine Run.reg [.p, .p, .p, .r, .p, .p, .p, .w] ?_
     refine .mv rfl rfl <| .mv rfl rfl <| .P rfl (q_indexG (off := (out.length) * 1) Tryz.underlying114 Tryz.sizeOf171 rfl rfl (by first | omega | (simp; done) | (simp; omega) | (simp at *; omega)) (by simp; omega) (by first | omega | (simp; done) | (simp; omega) | (simp at *; omega))) <| .R rfl (q_loadG1 (r := _) (out.length) 0 Tryz.isAgg171 rfl rfl rfl (row_set (enc_mid _ _ _)) rfl) <| .mv rfl rfl <| .P rfl (q_sub rfl rfl (subN (by omega) (by unfold gB at *; omega))) <| .P rfl (q_indexG (off := (out.length) * 1) Tryz.underlying114 Tryz.sizeOf171 rfl rfl (by first | omega | (simp; done) | (simp; omega) | (simp at *; omega)) (by simp; omega) (by first | omega | (simp; done) | (simp; omega) | (simp at *; omega))) <| .W rfl (q_storeG1 (r := _) (out.length) 0 Tryz.sizeOf171 rfl rfl rfl rfl rfl rfl (row_set (enc_mid _ _ _)) (by simp)) <| .nil ?_
     refine Run.nil (bq_norm ?_)
     refine Run.reg [.p, .p] ?_
     refine .P rfl (q_add rfl rfl (wrap64_ok (by first | omega | (simp; done) | (simp; omega) | (simp at *; omega)) (by first | omega | (simp; done) | (simp; omega) | (simp at *; omega)))) <| .mv rfl rfl <| .nil ?_
     refine Run.nil (tq_norm ?_)
     exact ⟨⟨out ++ [a + gB - (c + nthN y out.length)], rest, 1, by simp; omega, by omega, fun u hu => ho u (by simp [hu]), by rw [← hr, subC_stepT (by simp at *; omega), if_pos (by omega), if_pos (by omega)]; simp⟩, by simp, Le.mk rfl (.same rfl rfl (.cons rfl (Sub.gs (by simp)) rfl (.cons rfl Sub.intA rfl (.cons rfl Sub.intA rfl (.cons rfl Sub.intA rfl .nil))))) (.arr rfl (by first | rfl | skip; simp only [List.set_set, List.set_cons_zero]; exact (enc_set _ _ _ _).trans (by simp)) .nil)⟩
    ·have ph2 := h2; try simp only [bs] at ph2
     refine Run.skip ?_
     refine Run.reg [.p, .p, .p, .r, .p, .p, .p, .w] ?_
     refine .mv rfl rfl <| .mv rfl rfl <| .P rfl (q_indexG (off := (out.length) * 1) Tryz.underlying114 Tryz.sizeOf171 rfl rfl (by first | omega | (simp; done) | (simp; omega) | (simp at *; omega)) (by simp; omega) (by first | omega | (simp; done) | (simp; omega) | (simp at *; omega))) <| .R rfl (q_loadG1 (r := _) (out.length) 0 Tryz.isAgg171 rfl rfl rfl (enc_mid _ _ _) rfl) <| .mv rfl rfl <| .P rfl (q_sub rfl rfl (subN (by omega) (by unfold gB at *; omega))) <| .P rfl (q_indexG (off := (out.length) * 1) Tryz.underlying114 Tryz.sizeOf171 rfl rfl (by first | omega | (simp; done) | (simp; omega) | (simp at *; omega)) (by simp; omega) (by first | omega | (simp; done) | (simp; omega) | (simp at *; omega))) <| .W rfl (q_storeG1 (r := _) (out.length) 0 Tryz.sizeOf171 rfl rfl rfl rfl rfl rfl (enc_mid _ _ _) (by simp)) <| .nil ?_
     refine Run.nil (bq_norm ?_)
     refine Run.reg [.p, .p] ?_
     refine .P rfl (q_add rfl rfl (wrap64_ok (by first | omega | (simp; done) | (simp; omega) | (simp at *; omega)) (by first | omega | (simp; done) | (simp; omega) | (simp at *; omega)))) <| .mv rfl rfl <| .nil ?_
     refine Run.nil (tq_norm ?_)
     exact ⟨⟨out ++ [a - (c + nthN y out.length)], rest, 0, by simp; omega, by omega, fun u hu => ho u (by simp [hu]), by rw [← hr, subC_stepT (by simp at *; omega), if_neg (by omega), if_neg (by omega)]; simp⟩, by simp, Le.mk rfl (.same rfl rfl (.cons rfl (Sub.gs (by simp)) rfl (.cons rfl Sub.intA rfl (.cons rfl Sub.intA rfl (.cons rfl Sub.intA rfl .nil))))) (.arr rfl (by first | rfl | skip; simp only [List.set_set, List.set_cons_zero]; exact (enc_set _ _ _ _).trans (by simp)) .nil)⟩
   ·have ph1 := h1; try simp only [bs] at ph1
    refine Run.skip ?_
    refine Run.seq (Run.reg [.p] ?_)
    refine .ag rfl rfl <| .nil ?_
    refine Run.seq (Run.seq (Run.reg [.p, .p, .p, .r, .p, .p] ?_))
    refine .mv rfl rfl <| .mv rfl rfl <| .P rfl (q_indexG (off := (out.length) * 1) Tryz.underlying114 Tryz.sizeOf171 rfl rfl (by first | omega | (simp; done) | (simp; omega) | (simp at *; omega)) (by simp; omega) (by first | omega | (simp; done) | (simp; omega) | (simp at *; omega))) <| .R rfl (q_loadG1 (r := _) (out.length) 0 Tryz.isAgg171 rfl rfl rfl (enc_mid _ _ _) rfl) <| .mv rfl rfl <| .P rfl (q_lss rfl rfl) <| .nil ?_
    refine Run.cond rfl (fun h3 => ?_) (fun h3 => ?_)
    ·have ph3 := h3; try simp only [bs] at ph3
     refine Run.seq (Run.reg [.p, .p, .p, .r, .p, .p, .w] ?_)
     refine .mv rfl rfl <| .mv rfl rfl <| .P rfl (q_indexG (off := (out.length) * 1) Tryz.underlying114 Tryz.sizeOf171 rfl rfl (by first | omega | (simp; done) | (simp; omega) | (simp at *; omega)) (by simp; omega) (by first | omega | (simp; done) | (simp; omega) | (simp at *; omega))) <| .R rfl (q_loadG1 (r := _) (out.length) 0 Tryz.isAgg171 rfl rfl rfl (enc_mid _ _ _) rfl) <| .P rfl (q_add rfl rfl (addN (b := gB) (by unfold gB at *; omega))) <| .P rfl (q_indexG (off := (out.length) * 1) Tryz.underlying114 Tryz.sizeOf171 rfl rfl (by first | omega | (simp; done) | (simp; omega) | (simp at *; omega)) (by simp; omega) (by first | omega | (simp; done) | (simp; omega) | (simp at *; omega))) <| .W rfl (q_storeG1 (r := _) (out.length) 0 Tryz.sizeOf171 rfl rfl rfl rfl rfl rfl (enc_mid _ _ _) (by simp)) <| .nil ?_
     refine Run.reg [.p] ?_
     refine .ag rfl rfl <| .nil ?_
     refine Run.reg [.p, .p, .p, .r, .p, .p, .p, .w] ?_
     refine .mv rfl rfl <| .mv rfl rfl <| .P rfl (q_indexG (off := (out.length) * 1) Tryz.underlying114 Tryz.sizeOf171 rfl rfl (by first | omega | (simp; done) | (simp; omega) | (simp at *; omega)) (by simp; omega) (by first | omega | (simp; done) | (simp; omega) | (simp at *; omega))) <| .R rfl (q_loadG1 (r := _) (out.length) 0 Tryz.isAgg171 rfl rfl rfl (row_set (enc_mid _ _ _)) rfl) <| .mv rfl rfl <| .P rfl (q_sub rfl rfl (subN (by omega) (by unfold gB at *; omega))) <| .P rfl (q_indexG (off := (out.length) * 1) Tryz.underlying114 Tryz.sizeOf171 rfl rfl (by first | omega | (simp; done) | (simp; omega) | (simp at *; omega)) (by simp; omega) (by first | omega | (simp; done) | (simp; omega) | (simp at *; omega))) <| .W rfl (q_storeG1 (r := _) (out.length) 0 Tryz.sizeOf171 rfl rfl rfl rfl rfl rfl (row_set (enc_mid _ _ _)) (by simp)) <| .nil ?_
     refine Run.nil (bq_norm ?_)
     refine Run.reg [.p, .p] ?_
     refine .P rfl (q_add rfl rfl (wrap64_ok (by first | omega | (simp; done) | (simp; omega) | (simp at *; omega)) (by first | omega | (simp; done) | (simp; omega) | (simp at *; omega)))) <| .mv rfl rfl <| .nil ?_
     refine Run.nil (tq_norm ?_)
     exact ⟨⟨out ++ [a + gB - c], rest, 1, by simp; omega, by omega, fun u hu => ho u (by simp [hu]), by rw [← hr, subC_stepF (by simp at *; omega), if_pos (by omega), if_pos (by omega)]; simp⟩, by simp, Le.mk rfl (.same rfl rfl (.cons rfl (Sub.gs (by simp)) rfl (.cons rfl Sub.intA rfl (.cons rfl Sub.intA rfl (.cons rfl Sub.intA rfl .nil))))) (.arr rfl (by first | rfl | skip; simp only [List.set_set, List.set_cons_zero]; exact (enc_set _ _ _ _).trans (by simp)) .nil)⟩
    ·have ph3 := h3; try simp only [bs] at ph3
     refine Run.skip ?_
     refine Run.reg [.p, .p, .p, .r, .p, .p, .p, .w] ?_
     refine .mv rfl rfl <| .mv rfl rfl <| .P rfl (q_indexG (off := (out.length) * 1) Tryz.underlying114 Tryz.sizeOf171 rfl rfl (by first | omega | (simp; done) | (simp; omega) | (simp at *; omega)) (by simp; omega) (by first | omega | (simp; done) | (simp; omega) | (simp at *; omega))) <| .R rfl (q_loadG1 (r := _) (out.length) 0 Tryz.isAgg171 rfl rfl rfl (enc_mid _ _ _) rfl) <| .mv rfl rfl <| .P rfl (q_sub rfl rfl (subN (by omega) (by unfold gB at *; omega))) <| .P rfl (q_indexG (off := (out.length) * 1) Tryz.underlying114 Tryz.sizeOf171 rfl rfl (by first | omega | (simp; done) | (simp; omega) | (simp at *; omega)) (by simp; omega) (by first | omega | (simp; done) | (simp; omega) | (simp at *; omega))) <| .W rfl (q_storeG1 (r := _) (out.length) 0 Tryz.sizeOf171 rfl rfl rfl rfl rfl rfl (enc_mid _ _ _) (by simp)) <| .nil ?_
     refine Run.nil (bq_norm ?_)
     refine Run.reg [.p, .p] ?_
     refine .P rfl (q_add rfl rfl (wrap64_ok (by first | omega | (simp; done) | (simp; omega) | (simp at *; omega)) (by first | omega | (simp; done) | (simp; omega) | (simp at *; omega)))) <| .mv rfl rfl <| .nil ?_
     refine Run.nil (tq_norm ?_)
     exact ⟨⟨out ++ [a - c], rest, 0, by simp; omega, by omega, fun u hu => ho u (by simp [hu]), by rw [← hr, subC_stepF (by simp at *; omega), if_neg (by omega), if_neg (by omega)]; simp⟩, by simp, Le.mk rfl (.same rfl rfl (.cons rfl (Sub.gs (by simp)) rfl (.cons rfl Sub.intA rfl (.cons rfl Sub.intA rfl (.cons rfl Sub.intA rfl .nil))))) (.arr rfl (by first | rfl | skip; simp only [List.set_set, List.set_cons_zero]; exact (enc_set _ _ _ _).trans (by simp)) .nil)⟩
end Go.T
