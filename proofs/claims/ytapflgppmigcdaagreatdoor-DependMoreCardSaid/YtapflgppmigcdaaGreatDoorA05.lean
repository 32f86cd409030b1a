/-
  Contracts of the functions that the statement reaches, and the logic in which they are proved (no condition): parts Core21, Core22, Core23, Core24, Core25, Core26, Core27, Core28, Core29, Core38.
-/
import Derived.Test.YtapflgppmigcdaaGreatDoorA04
import Derived.Laws.MakeOwn
import Derived.Maps.RangeRun
set_option linter.all false
namespace Go.T
open Go
variable [Noise]
@[reducible] def byteVals (s : Str) : List Value := s.map fun b => Value.int .u8 (b.toNat : Int)
section
variable {P : Program} {env : Env} {dst : Option Tmp} {ty : TypeId} {pos : String} {aft : Array Edge} {g : Option (Nat × Bool)}
theorem vs_bytes {w : World} {O : Nat → Prop} {ρ : Rho} : ∀ {t : Str} {us : List Value}, Vs w O ρ (byteRows t).flatten us → us = byteVals t
 | [], us, h => by simpa [byteRows, Vs] using h
 | c :: t, us, h => by
  simp only [byteRows, List.map_cons, List.flatten_cons, List.cons_append, List.nil_append, Vs, V] at h
  obtain ⟨u, us', rfl, rfl, h2⟩ := h
  simp only [byteVals, List.map_cons, List.cons.injEq, true_and]
  exact vs_bytes h2
theorem first_bytes {w : World} {O : Nat → Prop} {ρ : Rho} {t : Str} {dy : D} {v : Value} (hdy : dy = .str t ∨ ∃ f, dy = .snap 1 f (byteRows t)) (h : V w O ρ dy v) :
  (∀ w', (Builtin.lenOf v).run P w' = .ok t.length w') ∧ (∀ w', w'.heap = w.heap → (Builtin.firstCells 1 t.length v).run P w' = .ok (byteVals t).toArray w') := by
 rcases hdy with rfl | ⟨f, rfl⟩
 ·simp only [V] at h
  obtain ⟨rfl, _⟩ := h
  have hsz : (⟨t.toArray⟩ : ByteArray).size = t.length := by simp [ByteArray.size]
  refine ⟨fun w' => by simp [Builtin.lenOf, hsz], fun w' _ => ?_⟩
  have he : (⟨t.toArray⟩ : ByteArray).extract 0 t.length = ⟨t.toArray⟩ := by
   apply ByteArray.ext
   rw [ByteArray.data_extract]
   simp
  simp [Builtin.firstCells, he, byteVals]
 ·obtain ⟨h1, us, h2, h3, _, h5, _⟩ := run_firstSnap (P := P) h
  have := vs_bytes h3
  subst this
  refine ⟨fun w' => by simpa [byteRows] using h1 w', fun w' e => ?_⟩
  have := h2 w' e
  simpa [byteRows] using this
theorem byteVals_one (t : Str) : ∀ u ∈ byteVals t, u.oneCell' = true := by
 intro u hu
 simp only [byteVals, List.mem_map] at hu
 obtain ⟨b, _, rfl⟩ := hu
 rfl
theorem Tr.rename0b {O : Nat → Prop} {w : World} {ρ : Rho} {obs : Obs} {id id' : Nat} (hok : ObsOK w O ρ obs) : Tr O w ρ obs w ρ ((id', .ba []) :: obs.set id .dead) := by
 have h1 := Tr.rename0 (id := id) (id' := id') (sz := 1) hok
 have look : ∀ i x, Obs.get ((id', Ob.ba []) :: obs.set id .dead) i = some x → x.live = true → Obs.get ((id', Ob.arr 1 []) :: obs.set id .dead) i = some x := by
  intro i x h2 h3
  rw [Obs.get_cons] at h2 ⊢
  by_cases e : id' = i
  ·simp only [if_pos e, Option.some.injEq] at h2; subst h2; simp [Ob.live] at h3
  ·rw [if_neg e] at h2 ⊢; exact h2
 have hO : ∀ b, Owned ρ ((id', .ba []) :: obs.set id .dead) b → Owned ρ ((id', .arr 1 []) :: obs.set id .dead) b := by
  rintro b ⟨i, x, l, h2, h3, h4⟩
  exact ⟨i, x, l, look i x h2 h3, h3, h4⟩
 refine ⟨h1.le, h1.size, h1.same, fun b hb => h1.new b (hO b hb), ⟨h1.ok.lt, fun i hi => ?_, fun i x h2 h3 => ?_, fun i j x x' l l' a b c d => h1.ok.inj i j x x' l l' (look i x a c) (look j x' b d) c d⟩, h1.os⟩
 ·rw [Obs.get_cons] at hi
  by_cases e : id' = i
  ·simp [e] at hi
  ·rw [if_neg e] at hi
   exact h1.ok.fresh i (by rw [Obs.get_cons, if_neg e]; exact hi)
 ·obtain ⟨l, g1, g2, g3⟩ := h1.ok.own i x (look i x h2 h3) h3
  exact ⟨l, g1, g2, g3.subO (Kept.subO fun b hb => hb.imp _root_.id (hO b))⟩
theorem q_appendB {st xt : TypeId} {xd : TypeDesc} {ti : TypeInfo} {n id : Nat} {x y : Operand} {s t : Str} {dy : D} {obs : Obs} (id' : Nat) (hu : P.underlying st = some (.slice byteT)) (hxu : P.underlying xt = some xd) (hxi : ∀ k, xd ≠ .int k) (hs : ∀ w, (sizeOf byteT).run P w = .ok 1 w)
  (hti : ∀ w, (typeInfo byteT).run P w = .ok ti w) (hbt : ti.bytes = 1) (hz : ∀ w, (zeroValue byteT).run P w = .ok (.int .u8 0) w) (hx : env.op x = some (.gs id n)) (ho : obs.get id = some (.ba s)) (hn : s.length = n) (hy : env.op y = some dy) (hdy : dy = .str t ∨ ∃ f, dy = .snap 1 f (byteRows t)) (hid : obs.get id' = none)
  (hbb : n + t.length ≤ 140737488355328) :
  QStep P ⟨dst, .call ⟨.builtin .append, #[x, y], #[st, xt]⟩, ty, pos, aft, g⟩ env obs (.gs id' (n + t.length)) ((id', .ba (s ++ t)) :: obs.set id .dead) :=
 .step fun O ρ a w hok hv => by
  have hvx := hv x (by simp [Op.operands, Call.operands]) _ hx
  have hvy := hv y (by simp [Op.operands, Call.operands]) _ hy
  have hrun : ∀ v w', (Builtin.append_ #[st, xt] ty #[a.eval x, a.eval y]).run P w = .ok v w' → (execOp a.eval ⟨dst, .call ⟨.builtin .append, #[x, y], #[st, xt]⟩, ty, pos, aft, g⟩).run P w = .ok (.value v) w' := by
   intro v w' h
   simp [execOp, resolve, invoke, builtin, h]
  obtain ⟨hlen, hfu⟩ := first_bytes (P := P) hdy hvy
  have hul : (byteVals t).length = t.length := by simp [byteVals]
  -- the bytes in a new block
  have grow : ∀ (base : Option Addr) (cap : Nat), a.eval x = .slice base n cap → (∀ w', w'.heap = w.heap → (Builtin.firstCells 1 n (.slice base n cap)).run P w' = .ok (byteVals s).toArray w') → ¬ n + t.length ≤ cap →
    ∃ v w' ρ', ((execOp a.eval ⟨dst, .call ⟨.builtin .append, #[x, y], #[st, xt]⟩, ty, pos, aft, g⟩).run P w = .ok (.value v) w' ∨ ((execOp a.eval ⟨dst, .call ⟨.builtin .append, #[x, y], #[st, xt]⟩, ty, pos, aft, g⟩).run P w = .ok .skip w' ∧ v = undef)) ∧ Tr O w ρ obs w' ρ' ((id', .ba (s ++ t)) :: obs.set id .dead) ∧ V w' (Ot O ρ' ((id', .ba (s ++ t)) :: obs.set id .dead)) ρ' (.gs id' (n + t.length)) v := by
   intro base cap e1 hvs hc
   obtain ⟨nc, hnc, hnc2, h2⟩ : ∃ nc, n + t.length ≤ nc ∧ nc ≤ 9223372036854775807 ∧ (Builtin.append_ #[st, xt] ty #[.slice base n cap, a.eval y]).run P w = .ok (.slice (some ⟨w.heap.size, 0, none⟩) (n + t.length) nc) { w with drawn := w.drawn + 1, heap := w.heap.push (.cells ((byteVals s).toArray ++ (byteVals t).toArray ++ Builtin.zeroCells (Value.int .u8 0).cells (nc - (n + t.length))) byteT (0, 0)) } := by
    have h1 := nextslicecap_le (n + t.length) cap (by omega)
    have h2 : ¬ Builtin.nextslicecap (n + t.length) cap * ti.bytes > 281474976710656 := by rw [hbt]; omega
    refine ⟨(n + t.length) + (w.tape w.drawn (.appendCap (n + t.length) cap byteT)) % (2 ^ 63 - (n + t.length)), by omega, by have := Nat.mod_lt (w.tape w.drawn (.appendCap (n + t.length) cap byteT)) (show 0 < 2 ^ 63 - (n + t.length) by omega); omega, ?_⟩
    have hm0 := hlen w
    have hf1 := hfu w.drew rfl
    have hf2 := hvs w.drew rfl
    have hb0 : ti.bytes ≠ 0 := by omega
    simp [Builtin.append_, run_und hu, hs, run_und hxu, hm0, hc, hti, hb0, h2, Question.forced, Question.cut, hf2, hf1, hz, newRow]
    simp only [World.alloc, World.drew]
    have h9 : ∀ zs : Array Value, (byteVals s).toArray ++ ((byteVals t).toArray ++ zs) = (byteVals s ++ byteVals t).toArray ++ zs := fun zs => by apply Array.ext'; simp
    rw [h9]
   rw [← e1] at h2
   have hok1 : ObsOK { w with drawn := w.drawn + 1 } O ρ obs := (Tr.drawn hok (w.drawn + 1) (Nat.le_succ _)).ok
   have htr := Tr.drawn hok (w.drawn + 1) (Nat.le_succ _)
   refine ⟨_, _, T.upd ρ id' ⟨w.heap.size, 0, nc⟩, .inl (hrun _ _ h2), htr.trans (Tr.born (w := { w with drawn := w.drawn + 1 }) hok1 hid _ rfl dead_sub dead_dom ?_), ?_⟩
   ·intro hk
    refine ⟨(byteVals s).toArray ++ (byteVals t).toArray ++ Builtin.zeroCells (Value.int .u8 0).cells (nc - (n + t.length)), by simp, rfl, ?_, ?_, hnc2, ?_⟩
    ·simp [zeroCells_size, Value.cells, byteVals, hn]; omega
    ·simp [hn]; exact hnc
    ·rw [Array.toList_append, Array.toList_append, List.take_append_of_le_length (by simp [byteVals])]
     rw [List.take_of_length_le (by simp [byteVals])]
     simp [byteVals]
   ·simp only [V]
    exact .inr ⟨by omega, _, upd_same .., rfl⟩
  by_cases hn0 : n = 0
  ·subst hn0
   obtain rfl : s = [] := List.length_eq_zero_iff.1 hn
   have he : ∃ ad, a.eval x = .slice ad 0 0 := by
    simp only [V] at hvx
    rcases hvx with ⟨_, ad, e⟩ | ⟨h, _⟩
    ·exact ⟨ad, e⟩
    ·exact absurd rfl h
   obtain ⟨ad, e1⟩ := he
   by_cases hm : t = []
   ·subst hm
    refine ⟨.slice ad 0 0, w, ρ, .inl (hrun _ _ ?_), by simpa using Tr.rename0b (id := id) (id' := id') hok, by simp [V]⟩
    have h1 := hfu w rfl
    rw [e1]
    cases ad with
    | none => simp [Builtin.append_, run_und hu, hs, run_und hxu, hlen w] at h1 ⊢; simp [h1]
    | some ad => simp [Builtin.append_, run_und hu, hs, run_und hxu, hlen w] at h1 ⊢; simp [h1, storeCells]
   ·refine grow ad 0 e1 ?_ ?_
    ·intro w' _
     cases ad with
     | none => simp [Builtin.firstCells]
     | some ad => simp [Builtin.firstCells, loadCells, loadCellsFrom]
    ·have : t.length ≠ 0 := fun h => hm (List.length_eq_zero_iff.1 h)
     omega
  ·have hlive : (Ob.ba s).live = true := by
    cases s with
    | nil => simp at hn; exact absurd hn.symm hn0
    | cons r rs => rfl
   obtain ⟨l, h3, hOl, c, h4, h5, h6, h7, h8, h9⟩ := hok.own id _ ho hlive
   have e1 : a.eval x = .slice (some ⟨l.b, 0, none⟩) n l.cap := by
    simp only [V] at hvx
    rcases hvx with ⟨h, _⟩ | ⟨_, l', h8, e⟩
    ·exact absurd h hn0
    ·rw [h3] at h8; cases h8; rw [e, h5]
   rw [hn] at h7 h9
   have hcells : ∀ w', w'.heap = w.heap → (Builtin.firstCells 1 n (.slice (some ⟨l.b, 0, none⟩) n l.cap)).run P w' = .ok (byteVals s).toArray w' := by
    intro w' hw
    have := run_loadBlk (P := P) (w := w') (b := l.b) (c := c) (T := byteT) (by rw [hw]; exact h4) n 0 0 #[] (by omega)
    simp only [Builtin.firstCells, loadCells, Nat.mul_one]
    rw [this]
    simp [h9]
   by_cases hc : n + t.length ≤ l.cap
   ·have hst := run_storeCells (P := P) (b := l.b) (T := byteT) (byteVals t) w c (0 + n * 1) 0 h4 (by rw [hul]; omega) (byteVals_one t)
    have hrm := run_append_room (T := ty) (a := ⟨l.b, 0, none⟩) (w := w) hu hs hxu hxi (hlen w) (hfu w rfl) hc (by rw [addr_add]; exact hst)
    have htr := Tr.upd (o' := .ba (s ++ t)) hok ho hlive h3 (.cells (setMany c (0 + n * 1 + 0) (byteVals t)) byteT (0, 0)) ?_
    ·have hlive' : (Ob.ba (s ++ t)).live = true := by
      cases s with
      | nil => simp at hn; exact absurd hn.symm hn0
      | cons r rs => rfl
     have hid2 : (obs.set id (.ba (s ++ t))).get id' = none := by
      rw [Obs.get_set]
      by_cases e : id = id'
      ·subst e; rw [ho] at hid; cases hid
      ·rw [if_neg e]; exact hid
     have htr2 := Tr.rename (id := id) (id' := id') htr.ok (by rw [Obs.get_set]; simp) hlive' hid2 h3
     rw [Obs.set_set] at htr2
     refine ⟨_, _, Go.T.upd ρ id' l, .inl (hrun _ _ (by rw [e1]; exact hrm)), htr.trans htr2, ?_⟩
     simp only [V]
     exact .inr ⟨by omega, l, upd_same .., by rw [h5]⟩
    ·intro hk
     refine ⟨_, by simp [(Array.getElem?_eq_some_iff.1 h4).1]; rfl, h5, by rw [setMany_size]; exact h6, by simp [hn]; exact hc, h8, ?_⟩
     rw [setMany_toList _ _ _ (by rw [hul]; omega)]
     rw [h9, List.length_append, hn]
     rw [List.take_append_of_le_length (by simp [byteVals, hn])]
     rw [List.take_of_length_le (by simp [byteVals, hn])]
     simp [byteVals]
   ·exact grow (some ⟨l.b, 0, none⟩) l.cap e1 hcells hc
end
end Go.T
namespace Go.T
open Go
variable [Noise]
theorem Tr.ownB {O : Nat → Prop} {w : World} {ρ : Rho} {obs : Obs} (id : Nat) (hok : ObsOK w O ρ obs) : Tr O w ρ obs w ρ ((id, .ba []) :: obs) := by
 have look : ∀ i x, Obs.get ((id, Ob.ba []) :: obs) i = some x → x.live = true → obs.get i = some x := by
  intro i x h1 h2
  rw [Obs.get_cons] at h1
  by_cases e : id = i
  ·simp only [if_pos e, Option.some.injEq] at h1; subst h1; simp [Ob.live] at h2
  ·rw [if_neg e] at h1; exact h1
 have hOwn : ∀ b, Owned ρ ((id, .ba []) :: obs) b → Owned ρ obs b := by
  rintro b ⟨i, x, l, h1, h2, h3⟩
  exact ⟨i, x, l, look i x h1 h2, h2, h3⟩
 have hk : Kept w (Ot O ρ obs) w (Ot O ρ ((id, .ba []) :: obs)) := Kept.subO fun b => Or.imp _root_.id (hOwn b)
 refine ⟨RhoLe.refl _, Nat.le_refl _, fun _ _ _ => rfl, fun b hb => .inl (hOwn b hb), ⟨hok.lt, ?_, ?_, ?_⟩, rfl, rfl, Clk.eq rfl rfl⟩
 ·intro i hi
  rw [Obs.get_cons] at hi
  by_cases e : id = i
  ·simp [e] at hi
  ·rw [if_neg e] at hi; exact hok.fresh i hi
 ·intro i x h1 h2
  obtain ⟨l, h3, h4, h5⟩ := hok.own i x (look i x h1 h2) h2
  exact ⟨l, h3, h4, h5.mono hk (RhoLe.refl _) rfl⟩
 ·intro i j x x' l1 l2 h1 h2 h3 h4
  exact hok.inj i j x x' l1 l2 (look i x h1 h3) (look j x' h2 h4) h3 h4
section
variable {P : Program} {env : Env} {dst : Option Tmp} {ty : TypeId} {pos : String} {aft : Array Edge} {g : Option (Nat × Bool)}
theorem q_allocBld {obs : Obs} (id j : Nat) (hz : ∀ w, (zeroValue bldT).run P w = .ok (.agg #[.pointer none, .slice none 0 0]) w) (hid : obs.get id = none) : QStep P ⟨dst, .alloc bldT, ty, pos, aft, g⟩ env obs (.box id 0) ((j, .ba []) :: (id, .bld j 0) :: obs) :=
 .step fun O ρ a w hok hv => by
  have hrun : (Instr.alloc bldT true (.tuple #[])).run P w = .ok (.pointer (some ⟨w.heap.size, 0, none⟩)) { w with heap := w.heap.push (.cells #[.pointer none, .slice none 0 0] bldT (0, 0)) } := by
   simp [Instr.alloc, newVar, newRow, hz, Value.cells, run_newObj_alloc]
  have htr : Tr O w ρ obs { w with heap := w.heap.push (.cells #[.pointer none, .slice none 0 0] bldT (0, 0)) } (upd ρ id ⟨w.heap.size, 0, 0⟩) ((id, .bld j 0) :: obs) :=
   Tr.born hok hid _ rfl (fun i x h _ => h) (fun i h => h) (fun _ => ⟨.pointer none, .slice none 0 0, by simp, .inl rfl, .inl ⟨rfl, none, rfl⟩⟩)
  have htr2 := Tr.ownB j htr.ok
  refine ⟨_, _, _, .inl (by simp [execOp, hrun]; rfl), htr.trans htr2, ?_⟩
  simp only [V]
  exact ⟨_, upd_same .., rfl⟩
theorem q_loadBld {t e : TypeId} {x : Operand} {id j n : Nat} {s : Str} {obs : Obs} (ht : ∀ w, (isAgg t).run P w = .ok false w) (hx : env.op x = some (.box id 1)) (ho : obs.get id = some (.bld j n)) (hj : obs.get j = some (.ba s)) (hn : s.length = n) : QStep P ⟨dst, .load t x, ty, pos, aft, g⟩ env obs (.gs j n) obs :=
 .val fun O ρ a w hok hv => by
  have h1 := hv x (by simp [Op.operands]) _ hx
  simp only [V] at h1
  obtain ⟨l, h2, e⟩ := h1
  obtain ⟨l', h3, _, p, v, h4, h5, h6⟩ := hok.own id _ ho rfl
  rw [h2] at h3; cases h3
  have hc : w.cell? ⟨l.b, 1, none⟩ = some v := by simp [World.cell?, h4]
  refine ⟨v, by simp [execOp, Instr.loadAt, Instr.sureAddr, e, loadVar, ht, hc], ?_⟩
  simp only [V]
  rcases h6 with h6 | ⟨h6, lj, h7, h8⟩
  ·exact .inl h6
  ·refine .inr ⟨h6, lj, h7, ?_⟩
   have hlive : (Ob.ba s).live = true := by
    cases s with
    | nil => simp at hn; exact absurd hn.symm h6
    | cons r rs => rfl
   obtain ⟨lj', h9, _, c, _, h10, _⟩ := hok.own j _ hj hlive
   rw [h7] at h9; cases h9
   rw [h8, h10]
theorem q_storeBld {t : TypeId} {x y : Operand} {id j n j' n' : Nat} {s : Str} {obs : Obs} (hs : ∀ w, (sizeOf t).run P w = .ok 1 w) (hx : env.op x = some (.box id 1)) (hy : env.op y = some (.gs j' n')) (ho : obs.get id = some (.bld j n)) (hj : obs.get j' = some (.ba s)) (hn : s.length = n') :
  QStep P ⟨dst, .store t x y, ty, pos, aft, g⟩ env obs (.raw undef) (obs.set id (.bld j' n')) :=
 .step fun O ρ a w hok hv => by
  have h1 := hv x (by simp [Op.operands]) _ hx
  have hv2 := hv y (by simp [Op.operands]) _ hy
  simp only [V] at h1
  obtain ⟨l, h2, e⟩ := h1
  obtain ⟨l', h3, hO, p, v, h4, h5, h6⟩ := hok.own id _ ho rfl
  rw [h2] at h3; cases h3
  have h7 := run_storeCells (P := P) [a.eval y] w #[p, v] 1 0 h4 (by simp) (by simpa using hv2.one rfl)
  have h8 : (a.eval y).cells = #[a.eval y] := cells_one (hv2.one rfl)
  refine ⟨undef, _, ρ, .inr ⟨?_, rfl⟩, Tr.upd (o' := .bld j' n') hok ho rfl h2 (.cells (setMany #[p, v] (1 + 0) [a.eval y]) bldT (0, 0)) ?_, by simp [V]⟩
  ·simp [execOp, Instr.storeAt, Instr.sureAddr, e, storeVar, h8, hs, h7]
  ·intro hk
   have hset : setMany #[p, v] (1 + 0) [a.eval y] = #[p, a.eval y] := by simp [setMany]
   refine ⟨p, a.eval y, by rw [hset]; simp [(Array.getElem?_eq_some_iff.1 h4).1], h5, ?_⟩
   simp only [V] at hv2
   rcases hv2 with h9 | ⟨h9, lj, h10, h11⟩
   ·exact .inl h9
   ·refine .inr ⟨h9, lj, h10, ?_⟩
    have hlive : (Ob.ba s).live = true := by
     cases s with
     | nil => simp at hn; exact absurd hn.symm h9
     | cons r rs => rfl
    obtain ⟨lj', h12, _, c, _, h13, _⟩ := hok.own j' _ hj hlive
    rw [h10] at h12; cases h12
    rw [h11, h13]
end
theorem Le.renB {F : Fr} {env : Env} {obs : Obs} {n : Nat} {s : Str} (id j j' : Nat) (ho : obs.get id = some (.bld j n)) (hj : obs.get j = some (.ba s)) (hn : s.length = n) (hid : obs.get j' = none) :
  Le F env obs env (Obs.set ((j', .ba s) :: obs.set j .dead) id (.bld j' n)) := .step fun O ρ w f hok hv => by
 have hidj : id ≠ j := by rintro rfl; rw [ho] at hj; cases hj
 have hidj' : id ≠ j' := by rintro rfl; rw [ho] at hid; cases hid
 have hjj : j ≠ j' := by rintro rfl; rw [hj] at hid; cases hid
 have step2 : ∀ (ρ' : Rho), Tr O w ρ obs w ρ' ((j', .ba s) :: obs.set j .dead) → (n ≠ 0 → ∀ lj, ρ j = some lj → ρ' j' = some lj) → ∃ ρ', Tr O w ρ obs w ρ' (Obs.set ((j', .ba s) :: obs.set j .dead) id (.bld j' n)) ∧ ∀ t d, env.get t = some d → V w (Ot O ρ' (Obs.set ((j', .ba s) :: obs.set j .dead) id (.bld j' n))) ρ' d (f t) := by
  intro ρ' htr hlj
  have hg : Obs.get ((j', Ob.ba s) :: obs.set j .dead) id = some (.bld j n) := by
   rw [Obs.get_cons, if_neg (Ne.symm hidj'), Obs.get_set, if_neg (Ne.symm hidj)]; exact ho
  obtain ⟨l, h3, h4, p, v, h5, h6, h7⟩ := htr.ok.own id _ hg rfl
  have hself : { w with heap := w.heap.setIfInBounds l.b (.cells #[p, v] bldT (0, 0)) } = w := by
   have : w.heap.setIfInBounds l.b (.cells #[p, v] bldT (0, 0)) = w.heap := by
    apply Array.ext (by simp)
    intro i h1 h2
    rw [Array.getElem_setIfInBounds]
    split
    ·rename_i e; subst e
     exact (Option.some.inj ((Array.getElem?_eq_getElem h2).symm.trans h5)).symm
    ·rfl
   rw [this]
  have htr2 := Tr.upd (o' := .bld j' n) htr.ok hg rfl h3 (.cells #[p, v] bldT (0, 0)) (fun hk => ⟨p, v, by simp [(Array.getElem?_eq_some_iff.1 h5).1], h6, ?_⟩)
  ·rw [hself] at htr2
   have h := htr.trans htr2
   exact ⟨ρ', h, fun t d hd => h.V (hv t d hd)⟩
  ·rcases h7 with h7 | ⟨h7, lj, h8, h9⟩
   ·exact .inl h7
   ·have hlive : (Ob.ba s).live = true := by
     cases s with
     | nil => simp at hn; exact absurd hn.symm h7
     | cons r rs => rfl
    obtain ⟨lj0, g1, _⟩ := hok.own j _ hj hlive
    have := htr.le j lj0 g1
    rw [this] at h8
    have e := Option.some.inj h8
    exact .inr ⟨h7, lj0, hlj h7 lj0 g1, by rw [e]; exact h9⟩
 cases s with
 | nil =>
  simp at hn
  exact step2 ρ (Tr.rename0b (id := j) (id' := j') hok) (fun h => absurd hn.symm h)
 | cons c r =>
  obtain ⟨l, h3, _⟩ := hok.own j _ hj rfl
  exact step2 _ (Tr.rename (id := j) (id' := j') hok hj rfl hid h3) (fun _ lj hlj => by rw [h3] at hlj; cases hlj; exact upd_same ..)
end Go.T
namespace Go.T
open Go
variable [Noise]
section
variable {P : Program} {env : Env} {dst : Option Tmp} {ty : TypeId} {pos : String} {aft : Array Edge} {g : Option (Nat × Bool)}
theorem made1 {z : Value} (hz : z.cells = #[z]) (n k : Nat) : madeCells z.cells (n + k) = (List.replicate n z).toArray ++ (List.replicate k z).toArray := by
 rw [hz]
 apply Array.ext
 ·simp [madeCells]
 ·intro i h1 h2
  simp only [madeCells, Array.getElem_map, Array.getElem_range]
  have : i % (#[z] : Array Value).size = 0 := by simp [Nat.mod_one]
  rw [this]
  simp only [Array.size_append, List.size_toArray, List.length_replicate] at h2
  by_cases h : i < n
  ·rw [Array.getElem_append_left (by simpa using h)]; simp
  ·rw [Array.getElem_append_right (by simp; omega)]; simp
theorem run_make1 {t e : TypeId} {ti : TypeInfo} {z : Value} {n m : Nat} (hu : P.underlying t = some (.slice e)) (hs : ∀ w, (sizeOf e).run P w = .ok 1 w) (hti : ∀ w, (typeInfo e).run P w = .ok ti w) (hz : ∀ w, (zeroValue e).run P w = .ok z w)
  (hnm : n ≤ m) (h0 : m ≠ 0) (hb : ti.bytes * m ≤ 281474976710656) (h63 : m ≤ 9223372036854775807) (w : World) :
  (Instr.makeSlice t (.int .i64 n) (.int .i64 m)).run P w = .ok (.slice (some ⟨w.heap.size, 0, none⟩) n m) (w.alloc (.cells (madeCells z.cells m) e)) := by
 have wl : IntKind.i64.wrap (n : Int) = n := by rw [IntKind.wrap_i64]; omega
 have wc : IntKind.i64.wrap (m : Int) = m := by rw [IntKind.wrap_i64]; omega
 have n1 : ¬ (m : Int) < 0 := by omega
 have n2 : ¬ (281474976710656 < (ti.bytes : Int) * (m : Int)) := by rw [← Int.natCast_mul]; omega
 have n3 : ¬ (n : Int) < 0 := by omega
 have n4 : ¬ (m : Int) < n := by omega
 simp [Instr.makeSlice, run_underlying hu, asInt, asIntOf, hti, hs, hz, wl, wc, n1, n2, n3, n4, h0, newRow, madeCells]
theorem q_makeSlice1 {t e : TypeId} {ti : TypeInfo} {z : Value} {x y : Operand} {m bt : Nat} {nx ny : Int} {obs : Obs} (id n : Nat) (hu : P.underlying t = some (.slice e)) (hs : ∀ w, (sizeOf e).run P w = .ok 1 w) (hti : ∀ w, (typeInfo e).run P w = .ok ti w) (hz : ∀ w, (zeroValue e).run P w = .ok z w)
  (hzc : z.cells = #[z]) (hz1 : z.oneCell' = true) (hbt : ti.bytes = bt) (hx : env.op x = some (.raw (.int .i64 nx))) (hy : env.op y = some (.raw (.int .i64 ny))) (hnx : nx = (n : Int)) (hny : ny = (m : Int)) (hnm : n ≤ m) (hn0 : n ≠ 0) (hb : bt * m ≤ 281474976710656) (h63 : m ≤ 1000000000000) (hid : obs.get id = none) :
  QStep P ⟨dst, .makeSlice t x y, ty, pos, aft, g⟩ env obs (.gs id n) ((id, .arr 1 (List.replicate n [.raw z])) :: obs) :=
 .step fun O ρ a w hok hv => by
  have hvx := hv x (by simp [Op.operands]) _ hx
  have hvy := hv y (by simp [Op.operands]) _ hy
  simp only [V] at hvx hvy
  subst hnx; subst hny
  have hr := run_make1 (n := n) (m := m) hu hs hti hz hnm (by omega) (by rw [hbt]; exact hb) (by omega) w
  obtain ⟨k, rfl⟩ := Nat.exists_eq_add_of_le hnm
  rw [made1 hzc] at hr
  refine ⟨.slice (some ⟨w.heap.size, 0, none⟩) n (n + k), _, T.upd ρ id ⟨w.heap.size, 0, n + k⟩, .inl ?_, Tr.born hok hid (.cells ((List.replicate n z).toArray ++ (List.replicate k z).toArray) e) rfl (fun i x h _ => h) (fun i h => h) ?_, ?_⟩
  ·simp only [execOp, hvx, hvy]
   rw [Sem.run_bind, hr]
   rfl
  ·intro hk
   refine Own.grown (w := w) (T := e) (O := Ot O ρ obs) (vs := List.replicate n z) (zs := (List.replicate k z).toArray) (by simp) (by simp) (by simp) (by simp) (by simp [big]; omega) (by intro r hr; rw [List.eq_of_mem_replicate hr]; rfl) ?_ ?_ hk
   ·have : ∀ n, Vs w (Ot O ρ obs) rho0 (List.replicate n [D.raw z]).flatten (List.replicate n z) := by
     intro n
     induction n with
     | zero => simp [Vs]
     | succ n ih => rw [List.replicate_succ, List.replicate_succ]; exact ⟨_, _, rfl, by simp [V], ih⟩
    exact this n
   ·intro v hv'; rw [List.eq_of_mem_replicate hv']; exact hz1
  ·simp only [V]
   exact .inr ⟨hn0, ⟨w.heap.size, 0, n + k⟩, by simp [T.upd], rfl⟩
theorem q_makeSlice0 {t e : TypeId} {ti : TypeInfo} {z : Value} {x y : Operand} {m bt : Nat} {nx ny : Int} (hu : P.underlying t = some (.slice e)) (hs : ∀ w, (sizeOf e).run P w = .ok 1 w) (hti : ∀ w, (typeInfo e).run P w = .ok ti w) (hz : ∀ w, (zeroValue e).run P w = .ok z w)
  (hbt : ti.bytes = bt) (hx : env.op x = some (.raw (.int .i64 nx))) (hy : env.op y = some (.raw (.int .i64 ny))) (hnx : nx = 0) (hny : ny = (m : Int)) (h0 : m ≠ 0) (hb : bt * m ≤ 281474976710656) (h63 : m ≤ 1000000000000) (obs : Obs) :
  QStep P ⟨dst, .makeSlice t x y, ty, pos, aft, g⟩ env obs (.snap 1 false []) obs :=
 .step fun O ρ a w hok hv => by
  have hvx := hv x (by simp [Op.operands]) _ hx
  have hvy := hv y (by simp [Op.operands]) _ hy
  simp only [V] at hvx hvy
  subst hnx; subst hny
  have hr := run_make1 (n := 0) (m := m) hu hs hti hz (by omega) h0 (by rw [hbt]; exact hb) (by omega) w
  refine ⟨.slice (some ⟨w.heap.size, 0, none⟩) 0 m, w.alloc (.cells (madeCells z.cells m) e), ρ, .inl ?_, Tr.of_keep ⟨by simp, fun b hb => by show (w.heap.push _)[b]? = _; rw [Array.getElem?_push, if_neg (Nat.ne_of_lt hb)], rfl, rfl, Clk.eq rfl rfl⟩ hok, ?_⟩
  ·simp only [execOp, hvx, hvy]
   rw [Sem.run_bind]
   have hr' : (Instr.makeSlice t (.int .i64 0) (.int .i64 (m : Int))).run P w = .ok (.slice (some ⟨w.heap.size, 0, none⟩) 0 m) (w.alloc (.cells (madeCells z.cells m) e)) := hr
   rw [hr']
   rfl
  ·simp [V, big]
theorem q_copy1 {t e xt : TypeId} {x y : Operand} {id n : Nat} {full : Bool} {rows new : List (List D)} {obs : Obs} (hu : P.underlying t = some (.slice e)) (hs : ∀ w, (sizeOf e).run P w = .ok 1 w)
  (hx : env.op x = some (.gs id n)) (hy : env.op y = some (.snap 1 full new)) (ho : obs.get id = some (.arr 1 rows)) (hn : rows.length = n) (hm : new.length = n) (hn0 : n ≠ 0) :
  QStep P ⟨dst, .call ⟨.builtin .copy, #[x, y], #[t, xt]⟩, ty, pos, aft, g⟩ env obs (.raw (.int .i64 n)) (obs.set id (.arr 1 new)) :=
 .step fun O ρ a w hok hv => by
  have hvx := hv x (by simp [Op.operands, Call.operands]) _ hx
  have hvy := hv y (by simp [Op.operands, Call.operands]) _ hy
  obtain ⟨hlen, us, hfu, hus, hone, hul, hrl⟩ := run_firstSnap (P := P) hvy
  simp only [V] at hvx
  rcases hvx with ⟨e0, _⟩ | ⟨_, l, h2, e1⟩
  ·exact absurd e0 hn0
  have hlive : (Ob.arr 1 rows).live = true := by
   cases rows with
   | nil => exact absurd hn.symm hn0
   | cons => rfl
  obtain ⟨l', h3, _, c, T, h4, hc, hrl', h5⟩ := hok.own id _ ho hlive
  rw [h2] at h3; cases h3
  have hul' : us.length = n := by rw [hul, hm, Nat.mul_one]
  have h6 := run_storeCells (P := P) us w c l.off 0 h4 (by omega) hone
  rw [hm] at hlen hfu
  refine ⟨.int .i64 n, _, ρ, .inl ?_, Tr.upd (o' := .arr 1 new) hok ho hlive h2 (.cells (setMany c (l.off + 0) us) T (0, 0)) ?_, by simp [V]⟩
  ·simp [execOp, resolve, invoke, builtin, Builtin.copy_, run_underlying hu, e1, hlen, hs, hfu w rfl, h6, goInt, Nat.min_self]
  ·intro hk
   refine ⟨setMany c l.off us, T, by simp [(Array.getElem?_eq_some_iff.1 h4).1], by rw [setMany_size]; exact hc, by rw [hm, ← hn]; exact hrl', ?_⟩
   have hfl : new.flatten.length = us.length := hus.length.symm
   have hseg : ((setMany c l.off us).toList.drop l.off).take new.flatten.length = us := by
    rw [hfl, setMany_toList us c l.off (by omega), List.append_assoc, List.drop_append_of_le_length (by simp; omega), List.drop_of_length_le (by simp; omega)]; simp
   refine Vr.of_blk (c := setMany c l.off us) (T := T) (fr := (0, 0)) (by simp [(Array.getElem?_eq_some_iff.1 h4).1]) new l.off hrl ?_ ?_
   ·rw [hseg]; exact Vs.mono hk (RhoLe.refl _) _ _ hus
   ·rw [hseg]; exact hone
theorem q_copy0 {t e xt : TypeId} {x y : Operand} {full full' : Bool} {sz : Nat} (hu : P.underlying t = some (.slice e)) (hs : ∀ w, (sizeOf e).run P w = .ok sz w)
  (hx : env.op x = some (.snap sz full [])) (hy : env.op y = some (.snap sz full' [])) (obs : Obs) :
  QStep P ⟨dst, .call ⟨.builtin .copy, #[x, y], #[t, xt]⟩, ty, pos, aft, g⟩ env obs (.raw (.int .i64 0)) obs :=
 .step fun O ρ a w hok hv => by
  have hvx := hv x (by simp [Op.operands, Call.operands]) _ hx
  have hvy := hv y (by simp [Op.operands, Call.operands]) _ hy
  obtain ⟨hlen, us, hfu, hus, hone, hul, hrl⟩ := run_firstSnap (P := P) hvy
  simp only [V] at hvx
  obtain ⟨b, cap, e1, _⟩ := hvx
  have hus0 : us = [] := List.length_eq_zero_iff.1 (by simpa using hul)
  subst hus0
  have hf := hfu w rfl
  simp only [List.length_nil] at hlen hf e1
  refine ⟨.int .i64 0, w, ρ, .inl ?_, Tr.refl hok, by simp [V]⟩
  cases b with
  | none => simp [execOp, resolve, invoke, builtin, Builtin.copy_, run_underlying hu, e1, hlen, hs, hf, goInt]
  | some b => simp [execOp, resolve, invoke, builtin, Builtin.copy_, run_underlying hu, e1, hlen, hs, hf, goInt, storeCells]
theorem run_eqNil {t e : TypeId} {op : BinOp} (hu : P.underlying t = some (.slice e)) (b : Option Addr) (n m : Nat) (w : World) : (Op.equal t (.slice b n m) (.slice none 0 0)).run P w = .ok b.isNone w := by
 show (Op.equalIn (9999 + 1) t (.slice b n m) (.slice none 0 0)).run P w = _
 rw [Op.equalIn]
 cases b <;> simp [run_und hu]
theorem q_eqlNilN {t t' e : TypeId} {x y : Operand} {sz : Nat} {full : Bool} {rows : List (List D)} (hu : P.underlying t = some (.slice e)) (hx : env.op x = some (.snap sz full rows)) (hy : env.op y = some (.raw (.slice none 0 0))) (obs : Obs) :
  QStepN P ⟨dst, .binOp .eql t x y t', ty, pos, aft, g⟩ env obs (fun b : Bool => rows ≠ [] → b = false) (fun b => .raw (.bool b)) (fun _ => obs) := by
 intro O ρ a w hok hgl hv
 have hvx := hv x (by simp [Op.operands]) _ hx
 have hvy := hv y (by simp [Op.operands]) _ hy
 simp only [V] at hvx hvy
 obtain ⟨b, cap, e1, _, _, h3⟩ := hvx
 have hr : (execOp a.eval ⟨dst, .binOp .eql t x y t', ty, pos, aft, g⟩).run P w = .ok (.value (.bool b.isNone)) w := by
  simp [execOp, e1, hvy, eqGuard, binOp, run_eqNil (op := .eql) hu]
 unfold Oper.wp
 rw [hr]
 refine ⟨b.isNone, ρ, _, ?_, rfl, Tr.refl hok, by simp [V]⟩
 intro hne
 obtain ⟨b', off, rfl, _⟩ := h3 hne
 rfl
theorem q_eqlNilF {t t' e : TypeId} {x y : Operand} {sz : Nat} {full : Bool} {rows : List (List D)} (hu : P.underlying t = some (.slice e)) (hx : env.op x = some (.snap sz full rows)) (hy : env.op y = some (.raw (.slice none 0 0))) (hne : rows ≠ []) (obs : Obs) :
  QStep P ⟨dst, .binOp .eql t x y t', ty, pos, aft, g⟩ env obs (.raw (.bool false)) obs := by
 intro O ρ a w hok hgl hv
 refine Oper.wp_mono ?_ (q_eqlNilN hu hx hy obs O ρ a w hok hgl hv)
 rintro a' w' ⟨i, ρ', v, hA, h⟩
 cases hA hne
 exact ⟨ρ', v, h⟩
end
end Go.T
namespace Go.T
open Go
variable [Noise]
def ghostR (b : Bool) : List (List D) := match b with
 | true => []
 | false => [[.box 0 0]]
@[reducible] def ghost (b : Bool) : Ob := .arr 1 (ghostR b)
def freeB (lo idL : Nat) (o : Obs) : Bool := o.all fun p => !(Nat.ble lo p.1 && Nat.blt p.1 (lo + 100)) && !(Nat.beq p.1 idL)
theorem freeB_get {lo idL : Nat} : ∀ {o : Obs}, freeB lo idL o = true → ∀ i, (lo ≤ i ∧ i < lo + 100) ∨ i = idL → o.get i = none
 | [], _, i, _ => rfl
 | (t, d) :: r, h, i, hi => by
  simp only [freeB, List.all_cons, Bool.and_eq_true] at h
  rw [Obs.get_cons, if_neg, freeB_get (o := r) h.2 i hi]
  rintro rfl
  obtain ⟨⟨h1, h2⟩, _⟩ := h
  rcases hi with ⟨a, b⟩ | rfl
  ·have e1 : Nat.ble lo t = true := by rw [Nat.ble_eq]; exact a
   have e2 : Nat.blt t (lo + 100) = true := by rw [Nat.blt_eq]; exact b
   simp [e1, e2] at h1
  ·simp at h2
end Go.T
namespace Go.T
open Go
variable [Noise]
structure TxA (P : Program) (F : Fr) (ops : Array Oper) (K : Env → Obs → Prop) (fuel : Nat) (listed : Array Bool) (env : Env) (obs : Obs) : Prop where
 out : ∀ (C : Ctx) (Q : Exit → Act → World → Prop), (∀ a w env' obs', K env' obs' → St F C env' obs' a w → Q .normal a w) → ∀ a w, St F C env obs a w → wpAnyIn (fz C.ro) 0 P .any ops Q fuel listed a w
section
variable {P : Program} {F : Fr} {ops : Array Oper} {K : Env → Obs → Prop} {fuel : Nat} {listed : Array Bool} {env : Env} {obs : Obs}
theorem TxA.nil (hr : Region.ready .any ops listed = []) (h : K env obs) : TxA P F ops K 0 listed env obs := ⟨fun _ _ hQ a w hs => ⟨hr, hQ a w env obs h hs⟩⟩
structure AStep (P : Program) (F : Fr) (ops : Array Oper) (K : Env → Obs → Prop) (fuel : Nat) (listed : Array Bool) (env : Env) (obs : Obs) (i : Nat) : Prop where
 out : ∃ o d obs', ops[i]? = some o ∧ dstB F.N o.dst = true ∧ On ops env o ∧ QStep P o env obs d obs' ∧ TxA P F ops K fuel (listed.setIfInBounds i true) (env.put o.dst d) obs'
theorem AStep.mk' {i : Nat} {o : Oper} {d : D} {obs' : Obs} (ho : ops[i]? = some o) (hd : dstB F.N o.dst = true) (hg : On ops env o) (hq : QStep P o env obs d obs') (k : TxA P F ops K fuel (listed.setIfInBounds i true) (env.put o.dst d) obs') : AStep P F ops K fuel listed env obs i := ⟨o, d, obs', ho, hd, hg, hq, k⟩
theorem TxA.step {l : List Nat} (hr : Region.ready .any ops listed = l) (hn : l ≠ []) (h : ∀ i ∈ l, AStep P F ops K fuel listed env obs i) : TxA P F ops K (fuel + 1) listed env obs := ⟨fun C Q hQ a w hs => by
 refine ⟨fun e => absurd (hr ▸ e) hn, fun i hi => ?_⟩
 rw [hr] at hi
 obtain ⟨o, d, obs', ho, hd, hg, hq, k⟩ := (h i hi).out
 obtain ⟨ρ, hst⟩ := hs
 unfold wpOpIn
 simp only [ho]
 rw [if_pos (wanted_on hg fun g b t _ _ d hd => hst.env t d hd)]
 have := hq C.O ρ a w hst.tr.ok hst.glob (fun x _ d' h => op_of_env hst.env x d' h)
 refine Oper.wpIn_mono ?_ (wp_toIn C.ro this (by rintro a' w' ⟨ρ', v, rfl, _⟩; exact Act.put_def ..))
 rintro a' w' ⟨ρ', v, rfl, htr', hv⟩
 exact k.out C Q hQ _ _ ⟨ρ', hst.step htr' (env_put hst.size hd (fun t d h => htr'.V (hst.env t d h)) hv) (Act.size_put _ _ _) (Act.put_def ..)⟩⟩
end
end Go.T
namespace Go.T
open Go
variable [Noise]
abbrev SM := List (Str × Str)
@[reducible] def encSM (m : SM) : List (D × D) := m.map fun p => (.str p.1, .str p.2)
def EsOK (es : List MapEntry) (m : SM) (n : Nat) : Prop := es.length = m.length ∧ ∀ i k v, m[i]? = some (k, v) → ∃ e, es[i]? = some e ∧ e.born = n + i ∧ e.key = .string ⟨k.toArray⟩ ∧ e.val = .string ⟨v.toArray⟩
theorem str_beq (a b : Str) : ((⟨a.toArray⟩ : ByteArray) == ⟨b.toArray⟩) = decide (a = b) := by
  have e : ((⟨a.toArray⟩ : ByteArray) == ⟨b.toArray⟩) = (a.toArray == b.toArray) := rfl
  rw [e, Bool.eq_iff_iff]; simp
theorem own_SM' {w : World} {O : Nat → Prop} {ρ : Rho} {l : Loc} {m : SM} {es : Array MapEntry} (h1 : w.heap[l.b]? = some (.map es m.length)) (h2 : EsOK es.toList m 0) (h3 : ∀ p ∈ m, p.1.length ≤ big ∧ p.2.length ≤ big) : Own w O ρ l (.mp (encSM m)) := by
  refine ⟨es, by simpa [encSM] using h1, by simpa [encSM] using h2.1, fun i kd vd hi => ?_⟩
  simp only [encSM, List.getElem?_map, Option.map_eq_some_iff] at hi
  obtain ⟨⟨k, v⟩, g1, g2⟩ := hi
  cases g2
  obtain ⟨e, g3, g4, g5, g6⟩ := h2.2 i k v g1
  have := h3 _ (List.mem_of_getElem? g1)
  exact ⟨e, by simpa using g3, by omega, by simp only [V]; exact ⟨g5, this.1⟩, by simp only [V]; exact ⟨g6, this.2⟩⟩
section
variable {P : Program} {env : Env} {dst : Option Tmp} {ty : TypeId} {pos : String} {aft : Array Edge} {g : Option (Nat × Bool)}
theorem q_makeMapS {t : TypeId} {obs : Obs} (id : Nat) (hid : obs.get id = none) : QStep P ⟨dst, .makeMap t none, ty, pos, aft, g⟩ env obs (.mapr id) ((id, .mp (encSM [])) :: obs) :=
  .step fun O ρ a w hok hv => by
    refine ⟨.map (some w.heap.size), _, T.upd ρ id ⟨w.heap.size, 0, 0⟩, .inl ?_, Tr.born hok hid (.map #[] 0) rfl (fun i x h _ => h) (fun i h => h) ?_, ?_⟩
    · simp only [execOp, Option.map_none]
      rw [Sem.run_bind]
      rfl
    · intro hk
      exact own_SM' (m := []) (es := #[]) (by simp) ⟨rfl, fun i k v h => by simp at h⟩ (by simp)
    · simp only [V]; exact ⟨⟨w.heap.size, 0, 0⟩, by simp [T.upd], rfl⟩
end
end Go.T
namespace Go.T
open Go
variable [Noise]
open Go.ChangeMaps (setBlock)
section
variable {P : Program} {env : Env} {dst : Option Tmp} {ty : TypeId} {pos : String} {aft : Array Edge} {g : Option (Nat × Bool)}
end
end Go.T
namespace Go.T
open Go
variable [Noise]
section
variable {P : Program} {env : Env} {dst : Option Tmp} {ty : TypeId} {pos : String} {aft : Array Edge} {g : Option (Nat × Bool)}
theorem q_capNil {t e : TypeId} {x : Operand} (hu : P.underlying t = some (.slice e)) (hx : env.op x = some (.raw (.slice none 0 0))) (obs : Obs) : QStep P ⟨dst, .call ⟨.builtin .cap, #[x], #[t]⟩, ty, pos, aft, g⟩ env obs (.raw (.int .i64 0)) obs :=
 .val fun _ _ a w _ hv => ⟨.int .i64 0, by
  have h1 := hv x (by simp [Op.operands, Call.operands]) _ hx
  simp only [V] at h1
  simp [execOp, resolve, invoke, builtin, Builtin.cap_, h1, run_und hu, goInt], by simp [V]⟩
theorem q_sliceNil {t e : TypeId} {x y : Operand} {sz : Nat} {k : IntKind} (hu : P.underlying t = some (.slice e)) (hs : ∀ w, (sizeOf e).run P w = .ok sz w) (hx : env.op x = some (.raw (.slice none 0 0))) (hy : env.op y = some (.raw (.int k 0))) (obs : Obs) :
  QStep P ⟨dst, .slice t x none (some y) none, ty, pos, aft, g⟩ env obs (.raw (.slice none 0 0)) obs :=
 .val fun _ _ a w _ hv => ⟨.slice none 0 0, by
  have h1 := hv x (by simp [Op.operands]) _ hx
  have h2 := hv y (by simp [Op.operands]) _ hy
  simp only [V] at h1 h2
  simp [execOp, Instr.sliceAt, Instr.slice, run_und hu, h1, h2, Instr.sliceBounds, Instr.sliceBound, asIntOf, hs], by simp [V]⟩
theorem q_sliceGr {t e : TypeId} {x y : Operand} {sz id n : Nat} {k : IntKind} (hu : P.underlying t = some (.slice e)) (hs : ∀ w, (sizeOf e).run P w = .ok sz w) (hx : env.op x = some (.gr id n)) (hy : env.op y = some (.raw (.int k 0))) (obs : Obs) :
  QStep P ⟨dst, .slice t x none (some y) none, ty, pos, aft, g⟩ env obs (.gr id 0) obs :=
 .val fun _ ρ a w _ hv => by
  have h1 := hv x (by simp [Op.operands]) _ hx
  have h2 := hv y (by simp [Op.operands]) _ hy
  simp only [V] at h1 h2
  obtain ⟨l, h3, h4, e1⟩ := h1
  refine ⟨.slice (some ⟨l.b, l.off, none⟩) 0 l.cap, ?_, by simp only [V]; exact ⟨l, h3, Nat.zero_le _, rfl⟩⟩
  simp [execOp, Instr.sliceAt, Instr.slice, run_und hu, e1, h2, Instr.sliceBounds, Instr.sliceBound, asIntOf, hs, addr_add]
theorem q_appendMake {st xt e : TypeId} {ti : TypeInfo} {z : Value} {k : IntKind} {sz n bt : Nat} {nx : Int} {x y : Operand} {obs : Obs} (id : Nat) (hu : P.underlying st = some (.slice e)) (hxu : P.underlying xt = some (.int k)) (hs : ∀ w, (sizeOf e).run P w = .ok sz w)
  (hti : ∀ w, (typeInfo e).run P w = .ok ti w) (hz : ∀ w, (zeroValue e).run P w = .ok z w) (hzs : z.cells.size = sz) (hsz : sz ≠ 0) (hbt : ti.bytes = bt) (hx : env.op x = some (.raw (.slice none 0 0))) (hy : env.op y = some (.raw (.int .i64 nx))) (hn : nx = (n : Int)) (h0 : n ≠ 0) (hb : n * bt ≤ 140737488355328) (hbig : n ≤ 1000000000000) (hid : obs.get id = none) :
  QStep P ⟨dst, .call ⟨.builtin .append, #[x, y], #[st, xt]⟩, ty, pos, aft, g⟩ env obs (.gr id n) ((id, .res sz) :: obs) :=
 .step fun O ρ a w hok hv => by
  have h1 := hv x (by simp [Op.operands, Call.operands]) _ hx
  have h2 := hv y (by simp [Op.operands, Call.operands]) _ hy
  simp only [V] at h1 h2
  subst hn
  have hw : IntKind.i64.wrap (n : Int) = n := by rw [IntKind.wrap_i64]; omega
  have hb1 : ¬ (281474976710656 : Int) < (n : Int) * (ti.bytes : Int) := by rw [hbt, ← Int.natCast_mul]; omega
  have hcap := nextslicecap_le n 0 (by omega)
  have hb2 : ¬ Builtin.nextslicecap n 0 * ti.bytes > 281474976710656 := by
   have := Nat.mul_le_mul_right ti.bytes hcap
   rw [Nat.mul_assoc] at this
   rw [hbt] at this ⊢
   omega
  have hns : ¬ n * sz = 0 := by
   intro h; rcases Nat.mul_eq_zero.1 h with h | h <;> contradiction
  let nc := n + (w.tape w.drawn (.appendCap n 0 e)) % (2 ^ 63 - n)
  have hnc : n ≤ nc := Nat.le_add_right ..
  have hrun : (Builtin.append_ #[st, xt] ty #[.slice none 0 0, .int .i64 n]).run P w = .ok (.slice (some ⟨w.heap.size, 0, none⟩) n nc) { w with drawn := w.drawn + 1, heap := w.heap.push (.cells (Builtin.zeroCells z.cells n ++ Builtin.zeroCells z.cells (nc - n)) e (0, 0)) } := by
   have hneg : ¬ (n : Int) < 0 := by omega
   have hmx : IntKind.i64.max = 9223372036854775807 := by decide
   have hmax : ¬ (IntKind.i64.max < (n : Int)) := by omega
   have hmax2 : ¬ ((9223372036854775807 : Int) < (n : Int)) := by omega
   simp [Builtin.append_, run_und hu, hs, run_und hxu, asInt, asIntOf, hw, hneg, hti, hb1, h0, hmax, hmax2, hb2, Question.forced, Question.cut, Builtin.firstCells, hz, hns, newRow, nc]
   rfl
  have htr := Tr.drawn hok (w.drawn + 1) (Nat.le_succ _)
  refine ⟨.slice (some ⟨w.heap.size, 0, none⟩) n nc, _, T.upd ρ id ⟨w.heap.size, 0, nc⟩, .inl (by simp [execOp, resolve, invoke, builtin, h1, h2, hrun]), htr.trans (Tr.born (w := { w with drawn := w.drawn + 1 }) htr.ok hid (.cells (Builtin.zeroCells z.cells n ++ Builtin.zeroCells z.cells (nc - n)) e (0, 0)) rfl (fun i x h _ => h) (fun i h => h) ?_), ?_⟩
  ·intro _
   refine ⟨Builtin.zeroCells z.cells n ++ Builtin.zeroCells z.cells (nc - n), e, by simp, ?_⟩
   simp only [Array.size_append, zeroCells_size, hzs, Nat.zero_add]
   rw [← Nat.add_mul, Nat.add_sub_cancel' hnc]
   exact Nat.le_refl _
  ·simp only [V]; exact ⟨⟨w.heap.size, 0, nc⟩, by simp [T.upd], hnc, rfl⟩
theorem q_appendGr {st xt e e' : TypeId} {ti : TypeInfo} {z : Value} {sz id bt : Nat} {x y : Operand} {full : Bool} {new : List (List D)} {obs : Obs} (id' : Nat) (hu : P.underlying st = some (.slice e)) (hxu : P.underlying xt = some (.slice e')) (hs : ∀ w, (sizeOf e).run P w = .ok sz w)
  (hti : ∀ w, (typeInfo e).run P w = .ok ti w) (hz : ∀ w, (zeroValue e).run P w = .ok z w) (hzs : z.cells.size = sz) (hbt : ti.bytes = bt) (hb00 : Nat.beq bt 0 = false) (hx : env.op x = some (.gr id 0)) (ho : obs.get id = some (.res sz)) (hy : env.op y = some (.snap sz full new)) (hne : new ≠ []) (hid : obs.get id' = none)
  (hbb : new.length * bt ≤ 140737488355328) :
  QStep P ⟨dst, .call ⟨.builtin .append, #[x, y], #[st, xt]⟩, ty, pos, aft, g⟩ env obs (.gs id' new.length) ((id', .arr sz new) :: obs.set id .dead) :=
 .step fun O ρ a w hok hv => by
  have hb : (0 + new.length) * ti.bytes ≤ 140737488355328 := by rw [hbt, Nat.zero_add]; exact hbb
  have hb0 : ti.bytes ≠ 0 := by
   rw [hbt]; intro h; subst h; simp at hb00
  have hn0 : new.length ≠ 0 := fun h => hne (List.length_eq_zero_iff.1 h)
  have hvx := hv x (by simp [Op.operands, Call.operands]) _ hx
  have hvy := hv y (by simp [Op.operands, Call.operands]) _ hy
  have hrun : ∀ v w', (Builtin.append_ #[st, xt] ty #[a.eval x, a.eval y]).run P w = .ok v w' → (execOp a.eval ⟨dst, .call ⟨.builtin .append, #[x, y], #[st, xt]⟩, ty, pos, aft, g⟩).run P w = .ok (.value v) w' := by
   intro v w' h
   simp [execOp, resolve, invoke, builtin, h]
  obtain ⟨hlen, us, hfu, hus, hone, hul, hrl⟩ := run_firstSnap (P := P) hvy
  have hbig : new.length ≤ big := by
   have : (0 + new.length) * 1 ≤ (0 + new.length) * ti.bytes := Nat.mul_le_mul_left _ (by omega)
   unfold big; omega
  simp only [V] at hvx
  obtain ⟨l, h2, _, e1⟩ := hvx
  obtain ⟨l', h3, _, c, T, h4, h5⟩ := hok.own id _ ho rfl
  rw [h2] at h3; cases h3
  have hlive' : (Ob.arr sz new).live = true := by
   cases new with
   | nil => exact absurd rfl hne
   | cons r rs => rfl
  by_cases hc : 0 + new.length ≤ l.cap
  ·have hbd : l.off + us.length ≤ c.size := by
    rw [hul]
    have : new.length * sz ≤ l.cap * sz := Nat.mul_le_mul_right sz (by omega)
    omega
   have hst := run_storeCells (P := P) (b := l.b) (T := T) us w c l.off 0 h4 (by omega) hone
   have hrm := run_append_room (T := ty) (n := 0) (a := ⟨l.b, l.off, none⟩) (w := w) hu hs hxu (by simp) (hlen w) (hfu w rfl) hc (by rw [addr_add]; simpa using hst)
   have htr := Tr.upd (o' := .arr sz new) hok ho rfl h2 (.cells (setMany c (l.off + 0) us) T (0, 0)) ?_
   ·have hid2 : (obs.set id (.arr sz new)).get id' = none := by
     rw [Obs.get_set]
     by_cases e : id = id'
     ·subst e; rw [ho] at hid; cases hid
     ·rw [if_neg e]; exact hid
    have htr2 := Tr.rename (id := id) (id' := id') htr.ok (by rw [Obs.get_set]; simp) hlive' hid2 h2
    rw [Obs.set_set] at htr2
    refine ⟨_, _, Go.T.upd ρ id' l, .inl (hrun _ _ (by rw [e1]; exact hrm)), htr.trans htr2, ?_⟩
    simp only [V]
    exact .inr ⟨hn0, l, upd_same .., by rw [Nat.zero_add]⟩
   ·intro hk
    refine ⟨setMany c l.off us, T, by simp [(Array.getElem?_eq_some_iff.1 h4).1], by rw [setMany_size]; exact h5, ⟨by omega, hbig⟩, ?_⟩
    have hseg : ((setMany c l.off us).toList.drop l.off).take new.flatten.length = us := by
     rw [hus.length.symm, setMany_toList us c l.off (by omega), List.append_assoc, List.drop_append_of_le_length (by simp; omega), List.drop_of_length_le (by simp; omega)]; simp
    refine Vr.of_blk (c := setMany c l.off us) (T := T) (fr := (0, 0)) (by simp [(Array.getElem?_eq_some_iff.1 h4).1]) new l.off hrl ?_ ?_
    ·rw [hseg]; exact Vs.mono hk (RhoLe.refl _) _ _ hus
    ·rw [hseg]; exact hone
  ·obtain ⟨nc, h6, h7⟩ := run_append_grow (T := ty) (w := w) (n := 0) (cap := l.cap) (base := some ⟨l.b, l.off, none⟩) (vs := []) hu hs hxu (by simp) hti hz (fun w' _ => hlen w') hfu (fun w' _ => by simp [Builtin.firstCells, loadCells, loadCellsFrom]) hc hb hb0
   rw [← e1] at h7
   have htr := Tr.drawn hok (w.drawn + 1) (Nat.le_succ _)
   refine ⟨_, _, Go.T.upd ρ id' ⟨w.heap.size, 0, nc⟩, .inl (hrun _ _ h7), htr.trans (Tr.born (w := { w with drawn := w.drawn + 1 }) htr.ok hid _ rfl dead_sub dead_dom ?_), ?_⟩
   ·intro hk
    refine Own.grown (w := { w with drawn := w.drawn + 1 }) (T := e) (vs := us) (zs := Builtin.zeroCells z.cells (nc - (0 + new.length))) (by simp) hul (by rw [zeroCells_size, hzs, Nat.zero_add]) (by omega) hbig hrl ?_ hone hk
    exact Vs.mono htr.kept (RhoLe.refl _) _ _ hus
   ·simp only [V]
    exact .inr ⟨hn0, _, upd_same .., by rw [Nat.zero_add]⟩
theorem q_appendGr0 {st xt e e' : TypeId} {sz id : Nat} {x y : Operand} {full : Bool} (hu : P.underlying st = some (.slice e)) (hxu : P.underlying xt = some (.slice e')) (hs : ∀ w, (sizeOf e).run P w = .ok sz w)
  (hx : env.op x = some (.gr id 0)) (hy : env.op y = some (.snap sz full [])) (obs : Obs) :
  QStep P ⟨dst, .call ⟨.builtin .append, #[x, y], #[st, xt]⟩, ty, pos, aft, g⟩ env obs (.gr id 0) obs :=
 .val fun O ρ a w hok hv => by
  have hvx := hv x (by simp [Op.operands, Call.operands]) _ hx
  have hvy := hv y (by simp [Op.operands, Call.operands]) _ hy
  obtain ⟨hlen, us, hfu, hus, hone, hul, hrl⟩ := run_firstSnap (P := P) hvy
  have hus0 : us = [] := List.length_eq_zero_iff.1 (by simpa using hul)
  subst hus0
  simp only [V] at hvx
  obtain ⟨l, h2, _, e1⟩ := hvx
  have hrm := run_append_room (T := ty) (n := 0) (cap := l.cap) (a := ⟨l.b, l.off, none⟩) (w := w) (w' := w) hu hs hxu (by simp) (hlen w) (hfu w rfl) (by simp) (by simp [storeCells])
  refine ⟨.slice (some ⟨l.b, l.off, none⟩) 0 l.cap, ?_, by simp only [V]; exact ⟨l, h2, Nat.zero_le _, rfl⟩⟩
  rw [← e1] at hrm
  simp [execOp, resolve, invoke, builtin]
  simp at hrm
  rw [hrm]
  rfl
end
end Go.T
namespace Go.T
open Go
open Go.ChangeMaps (setBlock)
variable [Noise]
variable {κ β : Type} [DecidableEq κ]
def findK (k : κ) : List κ → Nat → Option Nat
 | [], _ => none
 | x :: r, i => if k = x then some i else findK k r (i + 1)
structure KeyT (P : Program) (kt : TypeId) (kD : κ → D) (kV : κ → Value) (kOk : κ → Prop) : Prop where
 val : ∀ {w : World} {O : Nat → Prop} {ρ : Rho} {k : κ} {v : Value}, V w O ρ (kD k) v → v = kV k ∧ kOk k
 back : ∀ {w : World} {O : Nat → Prop} {ρ : Rho} {k : κ}, kOk k → V w O ρ (kD k) (kV k)
 check : ∀ (b : Bool) (k : κ) (w : World), kOk k → (Instr.checkKey b 10000 kt (kV k)).run P w = .ok () w
 find : ∀ (k : κ) (es : List MapEntry) (ks : List κ) (w : World), es.map (·.key) = ks.map kV → (∀ x ∈ ks, kOk x) → kOk k →
  (Instr.findKey kt (kV k) es).run P w = .ok ((findK k ks 0).map fun j => (j, (es[j]?.map (·.val)).getD undef)) w
 stays : ∀ (k : κ) (w : World), (Instr.keyThatStays (kV k) (kV k)).run P w = .ok (kV k) w
@[reducible] def encGM (kD : κ → D) (vD : β → D) (m : List (κ × β)) : List (D × D) := m.map fun p => (kD p.1, vD p.2)
def getG (d : β) : List (κ × β) → κ → β
 | [], _ => d
 | (a, v) :: r, k => if k = a then v else getG d r k
def hasG (m : List (κ × β)) (k : κ) : Bool := m.any fun p => decide (k = p.1)
def setG : List (κ × β) → κ → β → List (κ × β)
 | [], k, v => [(k, v)]
 | (a, u) :: r, k, v => if k = a then (k, v) :: r else (a, u) :: setG r k v
theorem findK_cases (d : β) (k : κ) : ∀ (m : List (κ × β)) (i : Nat),
  (findK k (m.map (·.1)) i = none ∧ hasG m k = false ∧ getG d m k = d ∧ ∀ v, setG m k v = m ++ [(k, v)]) ∨
  (∃ j, j < m.length ∧ findK k (m.map (·.1)) i = some (i + j) ∧ m[j]? = some (k, getG d m k) ∧ hasG m k = true ∧ ∀ v, setG m k v = m.set j (k, v))
 | [], i => .inl ⟨rfl, rfl, rfl, fun _ => rfl⟩
 | (a, u) :: m, i => by
  by_cases h : k = a
  ·subst h
   exact .inr ⟨0, by simp, by simp [findK], by simp [getG], by simp [hasG], fun v => by simp [setG]⟩
  ·rcases findK_cases d k m (i + 1) with ⟨h1, h2, h3, h4⟩ | ⟨j, h1, h2, h3, h4, h5⟩
   ·exact .inl ⟨by simp [findK, h, h1], by simpa [hasG, h] using h2, by simp [getG, h, h3], fun v => by simp [setG, h, h4]⟩
   ·exact .inr ⟨j + 1, by simp; omega, by simp only [List.map_cons, findK, h, if_false, h2]; congr 1; omega, by simpa [getG, h] using h3, by simpa [hasG, h] using h4, fun v => by simp [setG, h, h5]⟩
section
variable {P : Program} {kt : TypeId} {kD : κ → D} {kV : κ → Value} {kOk : κ → Prop} {vD : β → D}
structure EsG (w : World) (O : Nat → Prop) (ρ : Rho) (kV : κ → Value) (vD : β → D) (es : Array MapEntry) (m : List (κ × β)) : Prop where
 len : es.size = m.length
 at_ : ∀ (i : Nat) (k : κ) (v : β), m[i]? = some (k, v) → ∃ e, es[i]? = some e ∧ e.born = i ∧ e.key = kV k ∧ V w O ρ (vD v) e.val
theorem EsG.keys {w : World} {O : Nat → Prop} {ρ : Rho} {es : Array MapEntry} {m : List (κ × β)} (h : EsG w O ρ kV vD es m) : es.toList.map (·.key) = (m.map (·.1)).map kV := by
 apply List.ext_getElem?
 intro i
 simp only [List.getElem?_map, Array.getElem?_toList]
 rcases Nat.lt_or_ge i m.length with g | g
 ·obtain ⟨e, g1, _, g3, _⟩ := h.at_ i (m[i]).1 (m[i]).2 (by simp [g])
  rw [g1, List.getElem?_eq_getElem g]; simp [g3]
 ·rw [Array.getElem?_eq_none (by rw [h.len]; exact g), List.getElem?_eq_none g]; rfl
theorem own_G (hK : KeyT P kt kD kV kOk) {w : World} {O : Nat → Prop} {ρ : Rho} {l : Loc} {m : List (κ × β)} (h : Own w O ρ l (.mp (encGM kD vD m))) : ∃ es, w.heap[l.b]? = some (.map es m.length) ∧ EsG w O ρ kV vD es m ∧ ∀ k ∈ m.map (·.1), kOk k := by
 obtain ⟨es, h1, h2, h3⟩ := h
 simp only [encGM, List.length_map] at h1 h2
 have key : ∀ (i : Nat) (k : κ) (v : β), m[i]? = some (k, v) → ∃ e : MapEntry, es[i]? = some e ∧ e.born = i ∧ e.key = kV k ∧ V w O ρ (vD v) e.val ∧ kOk k := by
  intro i k v hi
  obtain ⟨e, g1, g2, g3, g4⟩ := h3 i (kD k) (vD v) (by simp [encGM, hi])
  have := hK.val g3
  exact ⟨e, g1, g2, this.1, g4, this.2⟩
 refine ⟨es, h1, ⟨h2, fun i k v hi => ?_⟩, fun k hk => ?_⟩
 ·obtain ⟨e, g1, g2, g3, g4, _⟩ := key i k v hi; exact ⟨e, g1, g2, g3, g4⟩
 ·obtain ⟨p, hp, rfl⟩ := List.mem_map.1 hk
  obtain ⟨i, hi⟩ := List.getElem?_of_mem hp
  obtain ⟨_, _, _, _, _, g5⟩ := key i p.1 p.2 hi
  exact g5
theorem own_G' (hK : KeyT P kt kD kV kOk) {w : World} {O : Nat → Prop} {ρ : Rho} {l : Loc} {m : List (κ × β)} {es : Array MapEntry} (h1 : w.heap[l.b]? = some (.map es m.length)) (h2 : EsG w O ρ kV vD es m) (h3 : ∀ k ∈ m.map (·.1), kOk k) : Own w O ρ l (.mp (encGM kD vD m)) := by
 refine ⟨es, by simpa [encGM] using h1, by simpa [encGM] using h2.len, fun i kd vd hi => ?_⟩
 simp only [encGM, List.getElem?_map, Option.map_eq_some_iff] at hi
 obtain ⟨⟨k, v⟩, g1, g2⟩ := hi
 cases g2
 obtain ⟨e, g3, g4, g5, g6⟩ := h2.at_ i k v g1
 exact ⟨e, g3, g4, by rw [g5]; exact hK.back (h3 k (List.mem_map.2 ⟨(k, v), List.mem_of_getElem? g1, rfl⟩)), g6⟩
variable {env : Env} {dst : Option Tmp} {ty : TypeId} {pos : String} {aft : Array Edge} {g : Option (Nat × Bool)}
theorem q_makeMapG {t : TypeId} {obs : Obs} (id : Nat) (kD : κ → D) (vD : β → D) (hid : obs.get id = none) : QStep P ⟨dst, .makeMap t none, ty, pos, aft, g⟩ env obs (.mapr id) ((id, .mp (encGM kD vD [])) :: obs) := q_makeMapS id hid
theorem lookG (hK : KeyT P kt kD kV kOk) {O : Nat → Prop} {ρ : Rho} {w : World} {t et : TypeId} {id : Nat} {l : Loc} {m : List (κ × β)} {k : κ} {d : β} {obs : Obs} {zv : Value} {c : Bool} (hu : P.underlying t = some (.map kt et)) (hz : (zeroValue et).run P w = .ok zv w) (hzv : V w (Ot O ρ obs) ρ (vD d) zv)
  (hok : ObsOK w O ρ obs) (ho : obs.get id = some (.mp (encGM kD vD m))) (h2 : ρ id = some l) (hk : kOk k) :
  ∃ v, V w (Ot O ρ obs) ρ (vD (getG d m k)) v ∧ (Instr.lookup t (.map (some l.b)) (kV k) c).run P w = .ok (if c then .tuple #[v, .bool (hasG m k)] else v) w := by
 obtain ⟨l', h3, _, hown⟩ := hok.own id _ ho rfl
 rw [h2] at h3; cases h3
 obtain ⟨es, h4, h5, h6⟩ := own_G hK hown
 have hck := fun b => hK.check b k w hk
 have hfk := hK.find k es.toList (m.map (·.1)) w h5.keys h6 hk
 rcases findK_cases d k m 0 with ⟨g1, g2, g3, _⟩ | ⟨j, gj, g1, g2, g3, _⟩
 ·refine ⟨zv, by rw [g3]; exact hzv, ?_⟩
  rw [g1] at hfk
  cases c <;> simp [Instr.lookup, run_und hu, MapKept.run_getObj_map h4, hck, hfk, hz, g2]
 ·obtain ⟨e, k1, k2, k3, k4⟩ := h5.at_ j k _ g2
  refine ⟨e.val, k4, ?_⟩
  rw [g1] at hfk
  simp only [Option.map_some, Nat.zero_add, Array.getElem?_toList, k1, Option.getD_some] at hfk
  cases c <;> simp [Instr.lookup, run_und hu, MapKept.run_getObj_map h4, hck, hfk, g3]
theorem q_lookupG (hK : KeyT P kt kD kV kOk) {t et : TypeId} {x y : Operand} {id : Nat} {m : List (κ × β)} {k : κ} {d : β} {kd : D} {obs : Obs} {zv : Value} (hu : P.underlying t = some (.map kt et)) (hz : ∀ w, (zeroValue et).run P w = .ok zv w) (hzv : ∀ (w : World) O ρ, V w O ρ (vD d) zv)
  (hx : env.op x = some (.mapr id)) (hy : env.op y = some kd) (hkd : kd = kD k) (ho : obs.get id = some (.mp (encGM kD vD m))) :
  QStep P ⟨dst, .lookup t x y false, ty, pos, aft, g⟩ env obs (vD (getG d m k)) obs :=
 .val fun O ρ a w hok hv => by
  subst hkd
  have hvx := hv x (by simp [Op.operands]) _ hx
  have hvy := hK.val (hv y (by simp [Op.operands]) _ hy)
  simp only [V] at hvx
  obtain ⟨l, h2, e1⟩ := hvx
  obtain ⟨v, h3, h4⟩ := lookG (c := false) hK hu (hz w) (hzv w _ ρ) hok ho h2 hvy.2
  exact ⟨v, by simp [execOp, e1, hvy.1, h4], h3⟩
theorem q_lookupOkG (hK : KeyT P kt kD kV kOk) {t et : TypeId} {x y : Operand} {id : Nat} {m : List (κ × β)} {k : κ} {d : β} {kd : D} {obs : Obs} {zv : Value} (hu : P.underlying t = some (.map kt et)) (hz : ∀ w, (zeroValue et).run P w = .ok zv w) (hzv : ∀ (w : World) O ρ, V w O ρ (vD d) zv)
  (hx : env.op x = some (.mapr id)) (hy : env.op y = some kd) (hkd : kd = kD k) (ho : obs.get id = some (.mp (encGM kD vD m))) :
  QStep P ⟨dst, .lookup t x y true, ty, pos, aft, g⟩ env obs (.tup [vD (getG d m k), .b (hasG m k)]) obs :=
 .val fun O ρ a w hok hv => by
  subst hkd
  have hvx := hv x (by simp [Op.operands]) _ hx
  have hvy := hK.val (hv y (by simp [Op.operands]) _ hy)
  simp only [V] at hvx
  obtain ⟨l, h2, e1⟩ := hvx
  obtain ⟨v, h3, h4⟩ := lookG (c := true) hK hu (hz w) (hzv w _ ρ) hok ho h2 hvy.2
  refine ⟨.tuple #[v, .bool (hasG m k)], by simp [execOp, e1, hvy.1, h4], ?_⟩
  simp only [V, Vs]
  exact ⟨_, rfl, _, _, rfl, h3, _, _, rfl, rfl, rfl⟩
theorem setG_keys (hOk : κ → Prop) {m : List (κ × β)} {k : κ} {v : β} (h : ∀ x ∈ m.map (·.1), hOk x) (hk : hOk k) : ∀ x ∈ (setG m k v).map (·.1), hOk x := by
 induction m with
 | nil => intro x hx; simp [setG] at hx; subst hx; exact hk
 | cons p r ih =>
  obtain ⟨a, u⟩ := p
  intro x hx
  simp only [setG] at hx
  split at hx
  ·simp only [List.map_cons, List.mem_cons] at hx h
   rcases hx with rfl | hx
   ·exact hk
   ·exact h x (.inr hx)
  ·simp only [List.map_cons, List.mem_cons] at hx
   rcases hx with rfl | hx
   ·exact h _ (by simp)
   ·exact ih (fun y hy => h y (by simp only [List.map_cons, List.mem_cons]; exact .inr hy)) x hx
theorem qMu (hK : KeyT P kt kD kV kOk) {t et : TypeId} {x y z : Operand} {id : Nat} {m : List (κ × β)} {k : κ} {v : β} {kd vd : D} {obs : Obs} (hu : P.underlying t = some (.map kt et))
  (hx : env.op x = some (.mapr id)) (hy : env.op y = some kd) (hz : env.op z = some vd) (hkd : kd = kD k) (hvd : vd = vD v) (ho : obs.get id = some (.mp (encGM kD vD m))) :
  QStep P ⟨dst, .mapUpdate t x y z, ty, pos, aft, g⟩ env obs (.raw undef) (obs.set id (.mp (encGM kD vD (setG m k v)))) :=
 .step fun O ρ a w hok hv => by
  subst hkd; subst hvd
  have hvx := hv x (by simp [Op.operands]) _ hx
  have hvy := hK.val (hv y (by simp [Op.operands]) _ hy)
  have hvz := hv z (by simp [Op.operands]) _ hz
  simp only [V] at hvx
  obtain ⟨l, h2, e1⟩ := hvx
  obtain ⟨l', h3, _, hown⟩ := hok.own id _ ho rfl
  rw [h2] at h3; cases h3
  obtain ⟨es, h4, h5, h6⟩ := own_G hK hown
  have hck := fun b => hK.check b k w hvy.2
  have hfk := hK.find k es.toList (m.map (·.1)) w h5.keys h6 hvy.2
  have hset : ∀ o', (setObj l.b o').run P w = .ok () { w with heap := w.heap.setIfInBounds l.b o' } := fun o' => by simp [setObj, Sem.run, h4]
  have hlt := (Array.getElem?_eq_some_iff.1 h4).1
  have hks := setG_keys kOk (v := v) h6 hvy.2
  rcases findK_cases v k m 0 with ⟨g1, _, _, g4⟩ | ⟨j, gj, g1, g2, _, g4⟩
  ·rw [g1] at hfk
   refine ⟨undef, _, ρ, .inr ⟨?_, rfl⟩, Tr.upd (o' := .mp (encGM kD vD (setG m k v))) hok ho rfl h2 (.map (es.push { key := kV k, val := a.eval z, born := m.length }) (m.length + 1)) ?_, by simp [V]⟩
   ·simp [execOp, Instr.mapUpdate, run_und hu, e1, hvy.1, MapKept.run_getObj_map h4, hck, hfk, hset]
   ·intro hkp
    rw [g4] at hks hkp ⊢
    refine own_G' hK (es := es.push { key := kV k, val := a.eval z, born := m.length }) (by simp [hlt]) ⟨by simp [h5.len], fun i k' v' hi => ?_⟩ hks
    rw [Array.getElem?_push, h5.len]
    by_cases e : i = m.length
    ·subst e
     rw [List.getElem?_append_right (Nat.le_refl _)] at hi
     simp at hi
     obtain ⟨rfl, rfl⟩ := hi
     exact ⟨_, by rw [if_pos rfl], rfl, rfl, V.mono hkp (RhoLe.refl _) _ _ hvz⟩
    ·have hi' : i < m.length := by
      rcases Nat.lt_or_ge i m.length with q | q
      ·exact q
      ·rw [List.getElem?_eq_none (by simp; omega)] at hi; cases hi
     rw [List.getElem?_append_left hi'] at hi
     obtain ⟨x, q1, q2, q3, q4⟩ := h5.at_ i k' v' hi
     exact ⟨x, by rw [if_neg e]; exact q1, q2, q3, V.mono hkp (RhoLe.refl _) _ _ q4⟩
  ·obtain ⟨e, k1, k2, k3, _⟩ := h5.at_ j k _ g2
   rw [g1] at hfk
   simp only [Option.map_some, Nat.zero_add] at hfk
   refine ⟨undef, _, ρ, .inr ⟨?_, rfl⟩, Tr.upd (o' := .mp (encGM kD vD (setG m k v))) hok ho rfl h2 (.map (es.modify j fun e => { e with key := kV k, val := a.eval z }) m.length) ?_, by simp [V]⟩
   ·simp [execOp, Instr.mapUpdate, run_und hu, e1, hvy.1, MapKept.run_getObj_map h4, hck, hfk, hset, k1, k3, hK.stays]
   ·intro hkp
    rw [g4] at hks hkp ⊢
    refine own_G' hK (es := es.modify j fun e => { e with key := kV k, val := a.eval z }) (by simp [hlt]) ⟨by simp [h5.len], fun i k' v' hi => ?_⟩ hks
    rw [Array.getElem?_modify]
    rw [List.getElem?_set] at hi
    by_cases e' : j = i
    ·subst e'
     rw [if_pos rfl, if_pos gj] at hi
     cases hi
     exact ⟨{ e with key := kV k, val := a.eval z }, by rw [if_pos rfl, k1]; rfl, k2, rfl, V.mono hkp (RhoLe.refl _) _ _ hvz⟩
    ·rw [if_neg e'] at hi
     obtain ⟨x, q1, q2, q3, q4⟩ := h5.at_ i k' v' hi
     exact ⟨x, by rw [if_neg e']; exact q1, q2, q3, V.mono hkp (RhoLe.refl _) _ _ q4⟩
theorem EsG.mem {w : World} {O : Nat → Prop} {ρ : Rho} {es : Array MapEntry} {m : List (κ × β)} (h : EsG w O ρ kV vD es m) {e : MapEntry} (he : e ∈ es.toList) : ∃ k v, m[e.born]? = some (k, v) ∧ es[e.born]? = some e ∧ e.key = kV k ∧ V w O ρ (vD v) e.val := by
 obtain ⟨j, hj⟩ := List.getElem?_of_mem he
 rw [Array.getElem?_toList] at hj
 have hlt : j < m.length := by rw [← h.len]; exact (Array.getElem?_eq_some_iff.1 hj).1
 obtain ⟨e', g1, g2, g3, g4⟩ := h.at_ j (m[j]).1 (m[j]).2 (by simp [hlt])
 rw [hj] at g1; cases g1
 subst g2
 exact ⟨_, _, by simp [hlt], hj, g3, g4⟩
theorem EsG.borns {w : World} {O : Nat → Prop} {ρ : Rho} {es : Array MapEntry} {m : List (κ × β)} (h : EsG w O ρ kV vD es m) : es.toList.map (·.born) = List.range m.length := by
 apply List.ext_getElem?
 intro i
 rw [List.getElem?_map, Array.getElem?_toList]
 rcases Nat.lt_or_ge i m.length with g | g
 ·obtain ⟨e, g1, g2, _⟩ := h.at_ i (m[i]).1 (m[i]).2 (by simp [g])
  rw [g1, List.getElem?_range g]; simp [g2]
 ·rw [Array.getElem?_eq_none (by rw [h.len]; exact g), List.getElem?_eq_none (by simpa using g)]; rfl
theorem q_rangeG (hK : KeyT P kt kD kV kOk) {t et : TypeId} {x : Operand} {id : Nat} {m : List (κ × β)} {obs : Obs} (idI : Nat) (hu : P.underlying t = some (.map kt et)) (hx : env.op x = some (.mapr id)) (ho : obs.get id = some (.mp (encGM kD vD m))) (hid : obs.get idI = none) :
  QStep P ⟨dst, .range t x, ty, pos, aft, g⟩ env obs (.box idI 0) ((idI, .mi id m.length []) :: obs) :=
 .step fun O ρ a w hok hv => by
  have hvx := hv x (by simp [Op.operands]) _ hx
  simp only [V] at hvx
  obtain ⟨l, h2, e1⟩ := hvx
  obtain ⟨l', h3, _, hown⟩ := hok.own id _ ho rfl
  rw [h2] at h3; cases h3
  obtain ⟨es, h4, h5, h6⟩ := own_G hK hown
  have hr := run_range_map (P := P) w t kt et l.b es m.length hu h4
  refine ⟨.pointer (some ⟨w.heap.size, 0, none⟩), _, T.upd ρ idI ⟨w.heap.size, 0, 0⟩, .inl ?_, Tr.born hok hid (.mapIter (some l.b) m.length #[] m.length) rfl (fun i x h _ => h) (fun i h => h) ?_, ?_⟩
  ·simp only [execOp, e1]
   rw [Sem.run_bind, hr]
   rfl
  ·intro hk
   have hne : idI ≠ id := by rintro rfl; rw [ho] at hid; cases hid
   exact ⟨l, by simp [T.upd, hne.symm, h2], by simp⟩
  ·simp only [V]; exact ⟨⟨w.heap.size, 0, 0⟩, by simp [T.upd], rfl⟩
def nextGA (m : List (κ × β)) (seen : List Nat) : Option (Nat × κ × β) → Prop
 | none => ∀ j, j < m.length → j ∈ seen
 | some (j, k, v) => m[j]? = some (k, v) ∧ j ∉ seen
@[reducible] def nextGD (kD : κ → D) (vD : β → D) : Option (Nat × κ × β) → D
 | none => .tup [.b false]
 | some (_, k, v) => .tup [.b true, kD k, vD v]
@[reducible] def nextGO (obs : Obs) (idI id n : Nat) (seen : List Nat) : Option (Nat × κ × β) → Obs
 | none => obs
 | some (j, _, _) => obs.set idI (.mi id n (seen ++ [j]))
theorem q_nextG (hK : KeyT P kt kD kV kOk) {x : Operand} {id idI : Nat} {m : List (κ × β)} {seen : List Nat} {obs : Obs} (hx : env.op x = some (.box idI 0)) (hi : obs.get idI = some (.mi id m.length seen)) (ho : obs.get id = some (.mp (encGM kD vD m))) :
  QStepN P ⟨dst, .next x false, ty, pos, aft, g⟩ env obs (nextGA m seen) (nextGD kD vD) (nextGO obs idI id m.length seen) := by
 intro O ρ a w hok hgl hv
 have hvx := hv x (by simp [Op.operands]) _ hx
 simp only [V] at hvx
 obtain ⟨r, hr1, e1⟩ := hvx
 obtain ⟨r', hr2, _, lm, hm, hit⟩ := hok.own idI _ hi rfl
 rw [hr1] at hr2; cases hr2
 obtain ⟨l', h3, _, hown⟩ := hok.own id _ ho rfl
 rw [hm] at h3; cases h3
 obtain ⟨es, h4, h5, h6⟩ := own_G hK hown
 have hold : ∀ x ∈ es.toList, x.born < m.length := fun x hx => by
  obtain ⟨_, _, q, _⟩ := h5.mem hx
  exact (List.getElem?_eq_some_iff.1 q).1
 unfold Oper.wp
 have hex : (execOp a.eval ⟨dst, .next x false, ty, pos, aft, g⟩).run P w = ((Instr.next (.pointer (some ⟨r.b, 0, none⟩)) false ty).bind fun v => Sem.pure (Next.value v)).run P w := by
  simp only [execOp, e1]; rfl
 rw [hex]
 rcases run_next_at (P := P) w ty r.b lm.b m.length m.length seen.toArray es m.length hit h4 hold (Nat.le_refl _) with ⟨hz, hrun⟩ | ⟨e, he, w1, hw1, hrun⟩
 ·have : ((Instr.next (.pointer (some ⟨r.b, 0, none⟩)) false ty).bind fun v => Sem.pure (Next.value v)).run P w = .ok (.value (.tuple #[.bool false])) w := by
   show (Sem.bind _ _).run P w = _
   rw [Sem.run_bind', hrun]; rfl
  rw [this]
  refine ⟨none, ρ, _, ?_, rfl, Tr.refl hok, by simp [V, Vs, D.b]⟩
  intro j hj
  have hz' : leftOf es seen.toArray = #[] := Array.eq_empty_of_size_eq_zero hz
  obtain ⟨e, g1, g2, _⟩ := h5.at_ j (m[j]).1 (m[j]).2 (by simp [hj])
  unfold leftOf at hz'
  rw [Array.filter_eq_empty_iff] at hz'
  have hmem : e ∈ es := Array.mem_of_getElem? g1
  have := hz' e hmem
  simp at this
  rw [g2] at this
  exact this
 ·have hee : e ∈ es.toList ∧ e.born ∉ seen := by
   unfold leftOf at he
   simp at he
   exact ⟨by simpa using he.1, by simpa using he.2⟩
  obtain ⟨k, v, g1, g2, g3, g4⟩ := h5.mem hee.1
  have : ((Instr.next (.pointer (some ⟨r.b, 0, none⟩)) false ty).bind fun v => Sem.pure (Next.value v)).run P w = .ok (.value (.tuple #[.bool true, e.key, e.val])) (setBlock w1 r.b (.mapIter (some lm.b) m.length (seen.toArray.push e.born) m.length)) := by
   show (Sem.bind _ _).run P w = _
   rw [Sem.run_bind', hrun]; rfl
  rw [this]
  have htr1 : Tr O w ρ obs w1 ρ obs := by
   rcases hw1 with rfl | rfl
   ·exact Tr.refl hok
   ·exact Tr.drawn hok _ (by first | exact Nat.le_succ _ | omega)
  have hit1 : w1.heap[r.b]? = some (.mapIter (some lm.b) m.length seen.toArray m.length) := by rcases hw1 with rfl | rfl <;> exact hit
  have htr2 := Tr.upd (o' := .mi id m.length (seen ++ [e.born])) htr1.ok hi rfl hr1 (.mapIter (some lm.b) m.length (seen.toArray.push e.born) m.length) (fun _ => ⟨lm, hm, by simp [(Array.getElem?_eq_some_iff.1 hit1).1]⟩)
  refine ⟨some (e.born, k, v), ρ, _, ⟨g1, hee.2⟩, rfl, htr1.trans htr2, ?_⟩
  simp only [V, Vs, D.b]
  refine ⟨_, rfl, _, _, rfl, rfl, _, _, rfl, ?_, _, _, rfl, (htr1.trans htr2).V g4, rfl⟩
  rw [g3]
  exact hK.back (h6 k (List.mem_map.2 ⟨(k, v), List.mem_of_getElem? g1, rfl⟩))
theorem q_entryG (hK : KeyT P kt kD kV kOk) {x : Operand} {id idI j : Nat} {k : κ} {v : β} {m : List (κ × β)} {seen : List Nat} {obs : Obs} (hx : env.op x = some (.box idI 0)) (hi : obs.get idI = some (.mi id m.length (seen ++ [j]))) (ho : obs.get id = some (.mp (encGM kD vD m))) (hj : m[j]? = some (k, v)) :
  QStep P ⟨dst, .entry x, ty, pos, aft, g⟩ env obs (.tup [kD k, vD v]) obs :=
 .val fun O ρ a w hok hv => by
  have hvx := hv x (by simp [Op.operands]) _ hx
  simp only [V] at hvx
  obtain ⟨r, hr1, e1⟩ := hvx
  obtain ⟨r', hr2, _, lm, hm, hit⟩ := hok.own idI _ hi rfl
  rw [hr1] at hr2; cases hr2
  obtain ⟨l', h3, _, hown⟩ := hok.own id _ ho rfl
  rw [hm] at h3; cases h3
  obtain ⟨es, h4, h5, h6⟩ := own_G hK hown
  obtain ⟨e, g1, g2, g3, g4⟩ := h5.at_ j k v hj
  have hit' : w.heap[r.b]? = some (.mapIter (some lm.b) m.length (seen.toArray.push e.born) m.length) := by rw [hit, g2]; simp
  have hnd : (es.toList.map (·.born)).Nodup := by rw [h5.borns]; exact List.nodup_range
  have hrun := run_entry_at (P := P) w r.b lm.b m.length seen.toArray es m.length e hit' h4 (by simpa using Array.mem_of_getElem? g1) hnd
  refine ⟨.tuple #[e.key, e.val], ?_, ?_⟩
  ·simp only [execOp, e1]
   rw [Sem.run_bind, hrun]
   rfl
  ·simp only [V, Vs]
   refine ⟨_, rfl, _, _, rfl, ?_, _, _, rfl, g4, rfl⟩
   rw [g3]
   exact hK.back (h6 k (List.mem_map.2 ⟨(k, v), List.mem_of_getElem? hj, rfl⟩))
end
@[reducible] def vStr (s : Str) : Value := .string ⟨s.toArray⟩
theorem findK_ge {k : κ} : ∀ {ks : List κ} {i j : Nat}, findK k ks i = some j → i ≤ j
 | [], _, _, h => by simp [findK] at h
 | x :: ks, i, j, h => by
  simp only [findK] at h
  split at h
  ·simp at h; omega
  ·have := findK_ge h; omega
end Go.T
namespace Go.T
open Go
variable [Noise]
structure TyI where
 u : Option TypeDesc := none
 agg : Option Bool := none
 sz : Option Nat := none
 zc : Option (List D) := none
 pl : Option (List (Nat × Nat)) := none
 bt : Option Nat := none
structure TyOK (P : Program) (t : TypeId) (i : TyI) : Prop where
 u : ∀ d, i.u = some d → P.underlying t = some d
 agg : ∀ b, i.agg = some b → ∀ w, (isAgg t).run P w = .ok b w
 sz : ∀ n, i.sz = some n → ∀ w, (sizeOf t).run P w = .ok n w
 zc : ∀ ds, i.zc = some ds → ∃ z, (∀ w, (zeroValue t).run P w = .ok z w) ∧ z.cells.toList.map rawD = ds
 pl : ∀ pl, i.pl = some pl → ∀ fs, P.underlying t = some (.struct fs) → ∀ w, (fs.mapM (m := Sem) fun f => Prod.mk f.offset <$> sizeOf f.type).run P w = .ok pl.toArray w
 bt : ∀ n, i.bt = some n → ∃ ti, (∀ w, (typeInfo t).run P w = .ok ti w) ∧ ti.bytes = n
structure TabOK (P : Program) (T : TypeId → TyI) : Prop where
 ty : ∀ t, TyOK P t (T t)
 mixed : P.follows .mixedOrders = true
def lget {α : Type _} : List α → Nat → Option α
 | [], _ => none
 | a :: _, 0 => some a
 | _ :: l, n + 1 => lget l n
theorem lget_eq {α : Type _} : ∀ (l : List α) (n : Nat), lget l n = l[n]?
 | [], n => by simp [lget]
 | a :: l, 0 => by simp [lget]
 | a :: l, n + 1 => by simp [lget, lget_eq l n]
def lenB {α : Type _} : List α → Nat → Bool
 | [], 0 => true
 | _ :: l, n + 1 => lenB l n
 | _, _ => false
theorem lenB_eq {α : Type _} : ∀ (l : List α) (n : Nat), lenB l n = true → l.length = n
 | [], 0, _ => rfl
 | a :: l, n + 1, h => by simp [lenB_eq l n h]
 | [], n + 1, h => by simp [lenB] at h
 | a :: l, 0, h => by simp [lenB] at h
def dropK : List D → Nat → (List D → Prop) → Prop
 | l, 0, k => k l
 | _ :: l, n + 1, k => dropK l n k
 | [], _ + 1, _ => False
theorem dropK_eq : ∀ (l : List D) (n : Nat) (k : List D → Prop), dropK l n k → n ≤ l.length ∧ k (l.drop n)
 | l, 0, k, h => ⟨Nat.zero_le _, by simpa [dropK] using h⟩
 | a :: l, n + 1, k, h => by
  obtain ⟨h1, h2⟩ := dropK_eq l n k h
  exact ⟨by simp; omega, by simpa using h2⟩
 | [], n + 1, k, h => h.elim
def takeK : List D → Nat → (List D → Prop) → Prop
 | _, 0, k => k []
 | a :: l, n + 1, k => takeK l n fun r => k (a :: r)
 | [], _ + 1, _ => False
theorem takeK_eq : ∀ (l : List D) (n : Nat) (k : List D → Prop), takeK l n k → n ≤ l.length ∧ k (l.take n)
 | l, 0, k, h => ⟨Nat.zero_le _, by simpa [takeK] using h⟩
 | a :: l, n + 1, k, h => by
  obtain ⟨h1, h2⟩ := takeK_eq l n _ h
  exact ⟨by simp; omega, by simpa using h2⟩
 | [], n + 1, k, h => h.elim
def setLK : List D → Nat → List D → (List D → Prop) → Prop
 | ds, _, [], k => k ds
 | _ :: ds, 0, c :: cs, k => setLK ds 0 cs fun r => k (c :: r)
 | d :: ds, n + 1, c :: cs, k => setLK ds n (c :: cs) fun r => k (d :: r)
 | [], _, _ :: _, _ => False
theorem setL_cons (d : D) : ∀ (cs ds : List D) (n : Nat), setL (d :: ds) (n + 1) cs = d :: setL ds n cs
 | [], ds, n => rfl
 | c :: cs, ds, n => by simp [setL, setL_cons d cs]
theorem setLK_eq : ∀ (ds : List D) (n : Nat) (cs : List D) (k : List D → Prop), setLK ds n cs k → (cs ≠ [] → n + cs.length ≤ ds.length) ∧ k (setL ds n cs)
 | ds, n, [], k, h => by
  unfold setLK at h
  exact ⟨fun e => absurd rfl e, h⟩
 | d :: ds, 0, c :: cs, k, h => by
  simp only [setLK] at h
  obtain ⟨h1, h2⟩ := setLK_eq ds 0 cs _ h
  refine ⟨fun _ => ?_, ?_⟩
  ·cases cs with
   | nil => simp
   | cons c' cs => have := h1 (by simp); simp at this ⊢; omega
  ·simp only [setL, List.set_cons_zero, setL_cons]; exact h2
 | d :: ds, n + 1, c :: cs, k, h => by
  simp only [setLK] at h
  obtain ⟨h1, h2⟩ := setLK_eq ds n (c :: cs) _ h
  refine ⟨fun _ => ?_, ?_⟩
  ·have := h1 (by simp); simp at this ⊢; omega
  ·rw [setL_cons]; exact h2
 | [], n, c :: cs, k, h => by simp [setLK] at h
def obsSetK : Obs → Nat → Ob → (Obs → Prop) → Prop
 | [], i, x, k => k [(i, x)]
 | (t, d) :: r, i, x, k => bif Nat.beq t i then k ((t, x) :: r) else obsSetK r i x fun r' => k ((t, d) :: r')
theorem obsSetK_eq : ∀ (obs : Obs) (i : Nat) (x : Ob) (k : Obs → Prop), obsSetK obs i x k → k (obs.set i x)
 | [], i, x, k, h => h
 | (t, d) :: r, i, x, k, h => by
  simp only [obsSetK] at h
  simp only [Obs.set]
  cases hb : Nat.beq t i with
  | true => simpa only [hb, cond_true] using h
  | false => simp only [hb, cond_false] at h ⊢; exact obsSetK_eq r i x _ h
def freshK : List Nat → Obs → (Nat → Prop) → Prop
 | [], _, _ => False
 | i :: is, obs, k => match obs.get i with
  | none => k i
  | some _ => freshK is obs k
theorem freshK_eq : ∀ (is : List Nat) (obs : Obs) (k : Nat → Prop), freshK is obs k → ∃ i, obs.get i = none ∧ k i
 | [], obs, k, h => h.elim
 | i :: is, obs, k, h => by
  simp only [freshK] at h
  cases hg : obs.get i with
  | none => simp only [hg] at h; exact ⟨i, hg, h⟩
  | some o => simp only [hg] at h; exact freshK_eq is obs k h
def ids : List Nat := [0, 1, 2, 3, 4, 5, 6, 7, 8, 9, 10, 11, 12, 13, 14, 15, 16, 17, 18, 19, 20, 21, 22, 23, 24, 25, 26, 27, 28, 29, 30, 31, 32, 33, 34, 35, 36, 37, 38, 39, 40, 41, 42, 43, 44, 45, 46, 47, 48, 49, 50]
def opsK (e : Env) : List Operand → (List D → Prop) → Prop
 | [], k => k []
 | x :: xs, k => match e.op x with
  | some d => opsK e xs fun r => k (d :: r)
  | none => False
theorem opsK_eq (e : Env) : ∀ (xs : List Operand) (k : List D → Prop), opsK e xs k → ∃ ds, e.opsD xs = some ds ∧ k ds
 | [], k, h => ⟨[], rfl, h⟩
 | x :: xs, k, h => by
  simp only [opsK] at h
  cases hx : e.op x with
  | none => simp only [hx] at h
  | some d =>
   simp only [hx] at h
   obtain ⟨ds, h1, h2⟩ := opsK_eq e xs _ h
   exact ⟨d :: ds, by simp [Env.opsD, hx, h1], h2⟩
def partsK (e : Env) : List (Nat × Operand) → (List (Nat × D) → Prop) → Prop
 | [], k => k []
 | (i, x) :: xs, k => match e.op x with
  | some d => partsK e xs fun r => k ((i, d) :: r)
  | none => False
theorem partsK_eq (e : Env) : ∀ (xs : List (Nat × Operand)) (k : List (Nat × D) → Prop), partsK e xs k → ∃ ds, e.partsD xs = some ds ∧ k ds
 | [], k, h => ⟨[], rfl, h⟩
 | (i, x) :: xs, k, h => by
  simp only [partsK] at h
  cases hx : e.op x with
  | none => simp only [hx] at h
  | some d =>
   simp only [hx] at h
   obtain ⟨ds, h1, h2⟩ := partsK_eq e xs _ h
   exact ⟨(i, d) :: ds, by simp [Env.partsD, hx, h1], h2⟩
def fillK (pl : List (Nat × Nat)) : List D → List (Nat × D) → (List D → Prop) → Prop
 | ds, [], k => k ds
 | ds, (i, d) :: r, k => match lget pl i with
  | some (off, size) => bif lenB d.cellsL size && d.okc then setLK ds off d.cellsL fun ds' => fillK pl ds' r k else False
  | none => False
theorem okc_ne {d : D} {n : Nat} (h : d.cellsL.length = n) (hn : n ≠ 0) : d.cellsL ≠ [] := by
 intro e; rw [e] at h; exact hn h.symm
theorem fillK_eq (pl : List (Nat × Nat)) (hp : pl.all (fun x => !Nat.beq x.2 0) = true) : ∀ (pds : List (Nat × D)) (ds : List D) (k : List D → Prop), fillK pl ds pds k → ∃ cs, fillD (pl.toArray[·]?) ds pds = some cs ∧ k cs
 | [], ds, k, h => ⟨ds, rfl, h⟩
 | (i, d) :: r, ds, k, h => by
  simp only [fillK, lget_eq] at h
  cases hl : pl[i]? with
  | none => simp only [hl] at h
  | some x =>
   obtain ⟨off, size⟩ := x
   simp only [hl] at h
   cases hb : (lenB d.cellsL size && d.okc) with
   | false => simp only [hb, cond_false] at h
   | true =>
    simp only [hb, cond_true] at h
    simp only [Bool.and_eq_true] at hb
    obtain ⟨h1, h2⟩ := setLK_eq _ _ _ _ h
    have hlen := lenB_eq _ _ hb.1
    have hne : size ≠ 0 := by
     have := List.all_eq_true.1 hp (off, size) (List.mem_of_getElem? hl)
     intro e; subst e; simp at this
    have hle := h1 (okc_ne hlen hne)
    obtain ⟨cs, h3, h4⟩ := fillK_eq pl hp r _ k h2
    refine ⟨cs, ?_, h4⟩
    have hg : pl.toArray[i]? = some (off, size) := by simpa using hl
    have hc : (Nat.beq d.cellsL.length size && Nat.ble (off + size) ds.length && d.okc) = true := by
     simp only [Bool.and_eq_true, Nat.beq_eq, Nat.ble_eq]
     exact ⟨⟨hlen, by omega⟩, hb.2⟩
    simp only [fillD, hg, hc, cond_true]
    exact h3
def Lq (e E : Env) : Prop := ∀ t d, e.get t = some d → d = .any ∨ E.get t = some d
theorem Lq.refl (e : Env) : Lq e e := fun _ _ h => .inr h
theorem op_const_eq (e E : Env) (v : Value) : e.op (.const v) = E.op (.const v) := by cases v <;> rfl
theorem Lq.op {e E : Env} (h : Lq e E) {x : Operand} {d : D} (hx : e.op x = some d) : d = .any ∨ E.op x = some d := by
 cases x with
 | tmp t => exact h t d hx
 | const v => exact .inr ((op_const_eq E e v).trans hx)
 | global g => exact .inr hx
 | func f => exact .inr hx
theorem QStep.lq {P : Program} {o : Oper} {e E : Env} {obs obs' : Obs} {d : D} (h : Lq e E) (hq : QStep P o e obs d obs') : QStep P o E obs d obs' := by
 intro O ρ a w hok hgl hv
 refine hq O ρ a w hok hgl fun x hx d' hd => ?_
 rcases h.op hd with rfl | hd
 ·simp [V]
 ·exact hv x hx d' hd
theorem Lq.put {e E : Env} (h : Lq e E) (t : Nat) (d : D) : Lq ((t, d) :: e) ((t, d) :: E) := by
 intro s x hx
 rw [Env.get_cons] at hx ⊢
 by_cases g : t = s
 ·rw [if_pos g] at hx ⊢; exact .inr hx
 ·rw [if_neg g] at hx ⊢; exact h s x hx
theorem Lq.putAny {e E : Env} (h : Lq e E) (t : Nat) (d : D) : Lq ((t, .any) :: e) ((t, d) :: E) := by
 intro s x hx
 rw [Env.get_cons] at hx ⊢
 by_cases g : t = s
 ·rw [if_pos g] at hx; cases hx; exact .inl rfl
 ·rw [if_neg g] at hx ⊢; exact h s x hx
abbrev KK := Kind → D → Obs → Prop
def SK (P : Program) (o : Oper) (e : Env) (obs : Obs) : Kind → D → Obs → Prop
 | .p, d, obs' => (∀ obs, QStep P o e obs d obs) ∧ obs' = obs
 | .r, d, obs' => QStep P o e obs d obs ∧ obs' = obs
 | .w, d, obs' => QStep P o e obs d obs'
theorem SK.lq {P : Program} {o : Oper} {e E : Env} {obs obs' : Obs} {k : Kind} {d : D} (hl : Lq e E) (h : SK P o e obs k d obs') : SK P o E obs k d obs' := by
 cases k with
 | p => exact ⟨fun obs => (h.1 obs).lq hl, h.2⟩
 | r => exact ⟨h.1.lq hl, h.2⟩
 | w => exact QStep.lq hl h
structure Gen (P : Program) (A : Prop) (o : Oper) (e : Env) (obs : Obs) (K : KK) : Prop where
 out : ∃ k d obs', (A → SK P o e obs k d obs') ∧ K k d obs'
section
variable {P : Program} {A : Prop} {o : Oper} {e : Env} {obs obs' : Obs} {d : D} {K : KK}
theorem gP (h : A → ∀ obs, QStep P o e obs d obs) (k : K .p d obs) : Gen P A o e obs K := ⟨.p, d, obs, fun a => ⟨h a, rfl⟩, k⟩
theorem gR (h : A → QStep P o e obs d obs) (k : K .r d obs) : Gen P A o e obs K := ⟨.r, d, obs, fun a => ⟨h a, rfl⟩, k⟩
theorem gW (h : A → QStep P o e obs d obs') (k : K .w d obs') : Gen P A o e obs K := ⟨.w, d, obs', h, k⟩
theorem oP (h : ∀ obs, QStep P o e obs d obs) (k : K .p d obs) : Gen P True o e obs K := gP (fun _ => h) k
theorem oR (h : QStep P o e obs d obs) (k : K .r d obs) : Gen P True o e obs K := gR (fun _ => h) k
theorem oW (h : QStep P o e obs d obs') (k : K .w d obs') : Gen P True o e obs K := gW (fun _ => h) k
end
structure IxX (A : Prop) (n : Int) (rows : List (List D)) (K : List D → Prop) : Prop where
 out : ∃ r, (A → 0 ≤ n ∧ rows[n.toNat]? = some r) ∧ K r
structure IxS (A : Prop) (n : Int) (s : Str) (K : UInt8 → Prop) : Prop where
 out : ∃ r, (A → 0 ≤ n ∧ s[n.toNat]? = some r) ∧ K r
theorem ix {n : Int} {rows : List (List D)} {K : List D → Prop} {r : List D} (h0 : 0 ≤ n) (h : rows[n.toNat]? = some r) (k : K r) : IxX True n rows K := ⟨r, fun _ => ⟨h0, h⟩, k⟩
theorem ixG {A : Prop} {n : Int} {rows : List (List D)} {K : List D → Prop} {r : List D} (h : A → 0 ≤ n ∧ rows[n.toNat]? = some r) (k : K r) : IxX A n rows K := ⟨r, h, k⟩
theorem ixS {n : Int} {s : Str} {K : UInt8 → Prop} {r : UInt8} (h0 : 0 ≤ n) (h : s[n.toNat]? = some r) (k : K r) : IxS True n s K := ⟨r, fun _ => ⟨h0, h⟩, k⟩
theorem ixSG {A : Prop} {n : Int} {s : Str} {K : UInt8 → Prop} {r : UInt8} (h : A → 0 ≤ n ∧ s[n.toNat]? = some r) (k : K r) : IxS A n s K := ⟨r, h, k⟩
structure Sd (A S K : Prop) : Prop where
 s : A → S
 k : K
theorem sd {S K : Prop} (h : S) (k : K) : Sd True S K := ⟨fun _ => h, k⟩
def binI (A : Prop) (op : BinOp) (k : IntKind) (n m : Int) (G : Prop) (K : D → Prop) : Prop :=
 match op with
 | .add => Sd A (k.wrap (n + m) = n + m) (K (.raw (.int k (n + m))))
 | .sub => Sd A (k.wrap (n - m) = n - m) (K (.raw (.int k (n - m))))
 | .mul => Sd A (k.wrap (n * m) = n * m) (K (.raw (.int k (n * m))))
 | .lss => K (.raw (.bool (decide (n < m))))
 | .leq => K (.raw (.bool (decide (n ≤ m))))
 | .gtr => K (.raw (.bool (decide (m < n))))
 | .geq => K (.raw (.bool (decide (m ≤ n))))
 | .eql => K (.raw (.bool (decide (n = m))))
 | .neq => K (.raw (.bool (decide (n ≠ m))))
 | _ => G
def binS (A : Prop) (op : BinOp) (s r : Str) (G : Prop) (K : D → Prop) : Prop :=
 match op with
 | .add => Sd A (s.length + r.length ≤ big) (K (.str (s ++ r)))
 | .lss => K (.raw (.bool (Str.lt s r)))
 | .leq => K (.raw (.bool (!Str.lt r s)))
 | .gtr => K (.raw (.bool (Str.lt r s)))
 | .geq => K (.raw (.bool (!Str.lt s r)))
 | .eql => K (.raw (.bool (decide (s = r))))
 | .neq => K (.raw (.bool (decide (s ≠ r))))
 | _ => G
def binB (op : BinOp) (b c : Bool) (G : Prop) (K : D → Prop) : Prop :=
 match op with
 | .eql => K (.raw (.bool (b == c)))
 | .neq => K (.raw (.bool (b != c)))
 | _ => G
def binX (T : TypeId → TyI) (A : Prop) (op : BinOp) (t : TypeId) (x y : Option D) (G : Prop) (K : D → Prop) : Prop :=
 match x, y with
 | some (.raw (.int k n)), some (.raw (.int k' m)) => bif decide (k = k') then binI A op k n m G K else G
 | some (.str s), some (.str r) => binS A op s r G K
 | some (.raw (.bool b)), some (.raw (.bool c)) => match (T t).u with
  | some .bool => binB op b c G K
  | _ => G
 | _, _ => G
def unX (op : UnOp) (A : Prop) (x : Option D) (G : Prop) (K : D → Prop) : Prop :=
 match op, x with
 | .not, some (.raw (.bool b)) => K (.raw (.bool (!b)))
 | .neg, some (.raw (.int k n)) => Sd A (k.wrap (0 - n) = -n) (K (.raw (.int k (-n))))
 | _, _ => G
def convX (T : TypeId → TyI) (A : Prop) (s t : TypeId) (x : Option D) (G : Prop) (K : D → Prop) : Prop :=
 match x, (T s).u, (T t).u with
 | some (.raw (.int _ n)), some _, some (.int k') => Sd A (k'.wrap n = n) (K (.raw (.int k' n)))
 | some (.str b), some _, some .string => K (.str b)
 | _, _, _ => G
def loadX (T : TypeId → TyI) (t : TypeId) (x : Option D) (obs : Obs) (G : Prop) (K : Kind → D → Prop) : Prop :=
 match x with
 | some (.iptr cs) => match (T t).agg, (T t).sz with
  | some false, _ => match cs with
   | d :: _ => K .p d
   | [] => G
  | some true, some n => bif lenB cs n then K .p (.agg cs) else takeK cs n fun r => K .p (.agg r)
  | _, _ => G
 | some (.box id off) => match obs.get id with
  | some (.cells ds) => match (T t).agg, (T t).sz with
   | some false, _ => match lget ds off with
    | some d => K .r d
    | none => G
   | some true, some n => bif Nat.beq off 0 && lenB ds n then K .r (.agg ds) else dropK ds off fun r => takeK r n fun r => K .r (.agg r)
   | _, _ => G
  | _ => G
 | _ => G
def storeX (T : TypeId → TyI) (t : TypeId) (x y : Option D) (obs : Obs) (G : Prop) (K : D → Obs → Prop) : Prop :=
 match x, y with
 | some (.box id off), some d => match obs.get id with
  | some (.cells ds) => match (T t).sz with
   | some n => bif lenB d.cellsL n && d.okc && !Nat.beq n 0 then setLK ds off d.cellsL fun ds' => obsSetK obs id (.cells ds') fun obs' => K (.raw undef) obs' else G
   | none => G
  | _ => G
 | _, _ => G
def fieldX (T : TypeId → TyI) (t : TypeId) (x : Option D) (f : Nat) (G : Prop) (K : D → Prop) : Prop :=
 match x, (T t).u with
 | some (.agg cs), some (.struct fs) => match lget fs.toList f with
  | some fl => match (T fl.type).agg, (T fl.type).sz with
   | some false, _ => match lget cs fl.offset with
    | some d => K d
    | none => G
   | some true, some n => dropK cs fl.offset fun r => takeK r n fun r => K (.agg r)
   | _, _ => G
  | none => G
 | _, _ => G
def fieldAX (T : TypeId → TyI) (t : TypeId) (x : Option D) (f : Nat) (G : Prop) (K : D → Prop) : Prop :=
 match x, (T t).u with
 | some (.box id off), some (.struct fs) => match lget fs.toList f with
  | some fl => match (T fl.type).sz with
   | some (_ + 1) => K (.box id (off + fl.offset))
   | _ => G
  | none => G
 | some (.iptr cs), some (.struct fs) => match lget fs.toList f with
  | some fl => match (T fl.type).sz with
   | some (_ + 1) => dropK cs fl.offset fun r => K (.iptr r)
   | _ => G
  | none => G
 | _, _ => G
def lenX (T : TypeId → TyI) (t : TypeId) (x : Option D) (G : Prop) (K : D → Prop) : Prop :=
 match x, (T t).u with
 | some (.str s), some .string => K (.raw (.int .i64 s.length))
 | some (.snap _ _ rows), some (.slice _) => K (.raw (.int .i64 rows.length))
 | some (.gs _ n), some (.slice _) => K (.raw (.int .i64 n))
 | some (.raw (.slice _ n _)), some (.slice _) => K (.raw (.int .i64 n))
 | _, _ => G
def mmX (mx : Bool) (x y : Option D) (G : Prop) (K : D → Prop) : Prop :=
 match x, y with
 | some (.raw (.int k n)), some (.raw (.int k' m)) => bif decide (k = k') then (match mx with
  | true => K (.raw (.int k (max n m)))
  | false => K (.raw (.int k (min n m)))) else G
 | _, _ => G
def indexX (T : TypeId → TyI) (A : Prop) (t : TypeId) (x i : Option D) (G : Prop) (K : D → Prop) : Prop :=
 match x, i, (T t).u with
 | some (.snap sz _ rows), some (.raw (.int _ n)), some (.slice e) => match (T e).sz with
  | some m => bif Nat.beq m sz then IxX A n rows fun r => K (.iptr r) else G
  | none => G
 | _, _, _ => G
def indexSX (T : TypeId → TyI) (A : Prop) (t : TypeId) (x i : Option D) (G : Prop) (K : D → Prop) : Prop :=
 match x, i, (T t).u with
 | some (.str s), some (.raw (.int _ n)), some .string => IxS A n s fun c => K (.raw (.int .u8 c.toNat))
 | _, _, _ => G
def nilX (x : Option D) (G : Prop) (K : D → Prop) : Prop :=
 match x with
 | some (.fn (.func f) as bs) => K (.fn (.func f) as bs)
 | some (.box i o) => K (.box i o)
 | some (.iptr cs) => K (.iptr cs)
 | _ => G
def boxX (x : Option D) (obs : Obs) (G : Prop) (K : D → Obs → Prop) : Prop :=
 match x with
 | some (.agg cs) => freshK ids obs fun id => K (.box id 0) ((id, .cells cs) :: obs)
 | some d => bif d.one then freshK ids obs fun id => K (.box id 0) ((id, .cells [d]) :: obs) else G
 | none => G
def fillAK (sz : Nat) : List D → List (Nat × D) → (List D → Prop) → Prop
 | ds, [], k => k ds
 | ds, (i, d) :: r, k => bif lenB d.cellsL sz && d.okc then setLK ds (i * sz) d.cellsL fun ds' => fillAK sz ds' r k else False
theorem fillAK_eq (sz : Nat) (h0 : sz ≠ 0) : ∀ (pds : List (Nat × D)) (ds : List D) (k : List D → Prop), fillAK sz ds pds k → ∃ cs, fillD (fun i => some (i * sz, sz)) ds pds = some cs ∧ k cs
 | [], ds, k, h => ⟨ds, rfl, h⟩
 | (i, d) :: r, ds, k, h => by
  simp only [fillAK] at h
  cases hb : (lenB d.cellsL sz && d.okc) with
  | false => simp only [hb, cond_false] at h
  | true =>
   simp only [hb, cond_true] at h
   simp only [Bool.and_eq_true] at hb
   obtain ⟨h1, h2⟩ := setLK_eq _ _ _ _ h
   have hlen := lenB_eq _ _ hb.1
   have hle := h1 (okc_ne hlen h0)
   obtain ⟨cs, h3, h4⟩ := fillAK_eq sz h0 r _ k h2
   refine ⟨cs, ?_, h4⟩
   have hc : (Nat.beq d.cellsL.length sz && Nat.ble (i * sz + sz) ds.length && d.okc) = true := by
    simp only [Bool.and_eq_true, Nat.beq_eq, Nat.ble_eq]
    exact ⟨⟨hlen, by omega⟩, hb.2⟩
   simp only [fillD, hc, cond_true]
   exact h3
def buildX (T : TypeId → TyI) (t : TypeId) (ps : List (Nat × Operand)) (e : Env) (G : Prop) (K : D → Prop) : Prop :=
 match (T t).u, (T t).zc, (T t).pl with
 | some (.struct _), some ds, some pl => bif pl.all (fun x => !Nat.beq x.2 0) then partsK e ps fun pds => fillK pl ds pds fun cs => K (.agg cs) else G
 | some (.array _ el), some ds, _ => match (T el).sz with
  | some sz => bif Nat.beq sz 0 then G else partsK e ps fun pds => fillAK sz ds pds fun cs => K (.agg cs)
  | none => G
 | _, _, _ => G
structure GE where
 g : Nat
 b : Bool
 t : Nat
 c : Bool
 env : Env
 ws : Env
def eqB : Bool → Bool → Bool
 | true, true => true
 | false, false => true
 | _, _ => false
theorem eqB_eq {a b : Bool} (h : eqB a b = true) : a = b := by cases a <;> cases b <;> simp_all [eqB]
def findT : List GE → Nat → Bool → Option GE
 | [], _, _ => none
 | x :: r, t, b => bif Nat.beq x.t t && eqB x.b b then some x else findT r t b
def pickX (gs : List GE) (c x y : Operand) (e : Env) (G : Prop) (K : D → Prop) : Prop :=
 match e.op c, c with
 | some (.raw (.bool b)), .tmp tc => match x, y with
  | .tmp tx, .const (.bool false) => match findT gs tc true with
   | some z => match z.ws.get tx with
    | some (.raw (.bool q)) => K (.raw (.bool (b && q)))
    | _ => G
   | none => G
  | .const (.bool true), .tmp ty => match findT gs tc false with
   | some z => match z.ws.get ty with
    | some (.raw (.bool q)) => K (.raw (.bool (b || q)))
    | _ => G
   | none => G
  | _, _ => G
 | _, _ => G
def callX (T : TypeId → TyI) (b : Builtin) (args : List Operand) (tys : List TypeId) (e : Env) (G : Prop) (K : D → Prop) : Prop :=
 match b, args, tys with
 | .len, [x], [t] => lenX T t (e.op x) G K
 | .max, [x, y], _ => mmX true (e.op x) (e.op y) G K
 | .min, [x, y], _ => mmX false (e.op x) (e.op y) G K
 | _, _, _ => G
def opX (T : TypeId → TyI) (P : Program) (A : Prop) (gs : List GE) (o : Oper) (e : Env) (obs : Obs) (K : KK) : Prop :=
 match o.op with
 | .move x => match e.op x with
  | some d => K .p d obs
  | none => K .p .any obs
 | .assign x => match e.op x with
  | some d => K .p d obs
  | none => Gen P A o e obs K
 | .binOp op t x y _ => binX T A op t (e.op x) (e.op y) (Gen P A o e obs K) fun d => K .p d obs
 | .unOp op _ x => unX op A (e.op x) (Gen P A o e obs K) fun d => K .p d obs
 | .convert s t x => convX T A s t (e.op x) (Gen P A o e obs K) fun d => K .p d obs
 | .extract x i => match e.op x with
  | some (.tup ds) => match lget ds i with
   | some d => K .p d obs
   | none => Gen P A o e obs K
  | _ => Gen P A o e obs K
 | .makeFunc fn xs ys => opsK e xs.toList fun as => opsK e ys.toList fun bs => K .p (.fn fn as bs) obs
 | .nilCheck x => nilX (e.op x) (Gen P A o e obs K) fun d => K .p d obs
 | .load t x => loadX T t (e.op x) obs (Gen P A o e obs K) fun k d => K k d obs
 | .store t x y => storeX T t (e.op x) (e.op y) obs (Gen P A o e obs K) fun d obs' => K .w d obs'
 | .field t x f => fieldX T t (e.op x) f (Gen P A o e obs K) fun d => K .p d obs
 | .fieldAddr t x f => fieldAX T t (e.op x) f (Gen P A o e obs K) fun d => K .p d obs
 | .indexAddr t x i => indexX T A t (e.op x) (e.op i) (Gen P A o e obs K) fun d => K .p d obs
 | .index t x i => indexSX T A t (e.op x) (e.op i) (Gen P A o e obs K) fun d => K .p d obs
 | .alloc t => match (T t).zc with
  | some ds => freshK ids obs fun id => K .w (.box id 0) ((id, .cells ds) :: obs)
  | none => Gen P A o e obs K
 | .box _ x => boxX (e.op x) obs (Gen P A o e obs K) fun d obs' => K .w d obs'
 | .build t ps => buildX T t ps.toList e (Gen P A o e obs K) fun d => K .p d obs
 | .pick c x y => pickX gs c x y e (Gen P A o e obs K) fun d => K .p d obs
 | .call ⟨.builtin b, args, tys⟩ => callX T b args.toList tys.toList e (Gen P A o e obs K) fun d => K .p d obs
 | _ => Gen P A o e obs K
end Go.T
