/-
  Contracts of the functions that the statement reaches, and the logic in which they are proved (no condition): parts Core26, Core27, Spec15, Spec16, Spec17, Spec18, Spec19, Spec20, Spec21, Core28, W18, W19, W20, W21.
-/
import Derived.Test.YtlhemheagekhaaaGreatDoorA08
import Derived.Maps.RangeRun
set_option linter.all false
namespace Go.T
open Go
variable [Noise]
abbrev SM := List (Str × Str)
@[reducible] def encSM (m : SM) : List (D × D) := m.map fun p => (.str p.1, .str p.2)
def getSM : SM → Str → Str
  | [], _ => []
  | (a, v) :: r, k => if k = a then v else getSM r k
def hasSM (m : SM) (k : Str) : Bool := m.any fun p => decide (k = p.1)
def setSM : SM → Str → Str → SM
  | [], k, v => [(k, v)]
  | (a, u) :: r, k, v => if k = a then (k, v) :: r else (a, u) :: setSM r k v
/-- What the entries of a map hold. -/
def EsOK (es : List MapEntry) (m : SM) (n : Nat) : Prop := es.length = m.length ∧ ∀ i k v, m[i]? = some (k, v) → ∃ e, es[i]? = some e ∧ e.born = n + i ∧ e.key = .string ⟨k.toArray⟩ ∧ e.val = .string ⟨v.toArray⟩
theorem str_beq (a b : Str) : ((⟨a.toArray⟩ : ByteArray) == ⟨b.toArray⟩) = decide (a = b) := by
  have e : ((⟨a.toArray⟩ : ByteArray) == ⟨b.toArray⟩) = (a.toArray == b.toArray) := rfl
  rw [e, Bool.eq_iff_iff]; simp
theorem findNow_SM (k : Str) : ∀ (es : List MapEntry) (m : SM) (n i : Nat), EsOK es m n → ∃ r, Instr.findNow .string (.string ⟨k.toArray⟩) es i = some r ∧
    ((r = none ∧ hasSM m k = false ∧ getSM m k = [] ∧ ∀ v, setSM m k v = m ++ [(k, v)]) ∨
     (∃ j, j < m.length ∧ r = some (i + j, .string ⟨(getSM m k).toArray⟩) ∧ (∃ u, m[j]? = some (k, u)) ∧ ∀ v, setSM m k v = m.set j (k, v)))
  | [], m, n, i, h => by
    have : m = [] := List.length_eq_zero_iff.1 (by have := h.1; simpa using this.symm)
    subst this
    exact ⟨none, rfl, .inl ⟨rfl, rfl, rfl, fun _ => rfl⟩⟩
  | e :: es, [], n, i, h => by simp [EsOK] at h
  | e :: es, (a, u) :: m, n, i, h => by
    obtain ⟨e', h1, h2, h3, h4⟩ := h.2 0 a u rfl
    simp only [List.getElem?_cons_zero, Option.some.injEq] at h1
    subst h1
    have htl : EsOK es m (n + 1) := ⟨by simpa using h.1, fun i k v hi => by
      obtain ⟨x, g1, g2, g3, g4⟩ := h.2 (i + 1) k v (by simpa using hi)
      exact ⟨x, by simpa using g1, by omega, g3, g4⟩⟩
    simp only [Instr.findNow, h3, Instr.sameNow, str_beq]
    by_cases hk : k = a
    · subst hk
      refine ⟨some (i, e.val), by simp, .inr ⟨0, by simp, by simp [getSM, h4], ⟨u, rfl⟩, fun v => by simp [setSM]⟩⟩
    · simp only [hk, decide_false]
      obtain ⟨r, g1, g2⟩ := findNow_SM k es m (n + 1) (i + 1) htl
      refine ⟨r, g1, ?_⟩
      rcases g2 with ⟨rfl, g3, g4, g5⟩ | ⟨j, g3, g4, ⟨u', g5⟩, g6⟩
      · exact .inl ⟨rfl, by simpa [hasSM, hk] using g3, by simp [getSM, hk, g4], fun v => by simp [setSM, hk, g5]⟩
      · exact .inr ⟨j + 1, by simp; omega, by rw [g4]; simp [getSM, hk]; omega, ⟨u', by simpa using g5⟩, fun v => by simp [setSM, hk, g6]⟩
theorem own_SM {w : World} {O : Nat → Prop} {ρ : Rho} {l : Loc} {m : SM} (h : Own w O ρ l (.mp (encSM m))) : ∃ es, w.heap[l.b]? = some (.map es m.length) ∧ EsOK es.toList m 0 ∧ ∀ p ∈ m, p.1.length ≤ big ∧ p.2.length ≤ big := by
  obtain ⟨es, h1, h2, h3⟩ := h
  simp only [encSM, List.length_map] at h1 h2
  have key : ∀ i k v, m[i]? = some (k, v) → ∃ e, es.toList[i]? = some e ∧ e.born = 0 + i ∧ e.key = .string ⟨k.toArray⟩ ∧ e.val = .string ⟨v.toArray⟩ ∧ k.length ≤ big ∧ v.length ≤ big := by
    intro i k v hi
    obtain ⟨e, g1, g2, g3, g4⟩ := h3 i (.str k) (.str v) (by simp [encSM, hi])
    simp only [V] at g3 g4
    exact ⟨e, by simpa using g1, by omega, g3.1, g4.1, g3.2, g4.2⟩
  refine ⟨es, h1, ⟨by simpa using h2, fun i k v hi => ?_⟩, fun p hp => ?_⟩
  · obtain ⟨e, g1, g2, g3, g4, _⟩ := key i k v hi; exact ⟨e, g1, g2, g3, g4⟩
  · obtain ⟨i, hi⟩ := List.getElem?_of_mem hp
    obtain ⟨e, _, _, _, _, g5, g6⟩ := key i p.1 p.2 hi
    exact ⟨g5, g6⟩
theorem own_SM' {w : World} {O : Nat → Prop} {ρ : Rho} {l : Loc} {m : SM} {es : Array MapEntry} (h1 : w.heap[l.b]? = some (.map es m.length)) (h2 : EsOK es.toList m 0) (h3 : ∀ p ∈ m, p.1.length ≤ big ∧ p.2.length ≤ big) : Own w O ρ l (.mp (encSM m)) := by
  refine ⟨es, by simpa [encSM] using h1, by simpa [encSM] using h2.1, fun i kd vd hi => ?_⟩
  simp only [encSM, List.getElem?_map, Option.map_eq_some_iff] at hi
  obtain ⟨⟨k, v⟩, g1, g2⟩ := hi
  cases g2
  obtain ⟨e, g3, g4, g5, g6⟩ := h2.2 i k v g1
  have := h3 _ (List.mem_of_getElem? g1)
  exact ⟨e, by simpa using g3, by omega, by simp only [V]; exact ⟨g5, this.1⟩, by simp only [V]; exact ⟨g6, this.2⟩⟩
section
variable {P : Program} {env : Env} {dst : Option Tmp} {ty : TypeId} {pos : String} {aft : Array Edge} {g : Option (Nat × Bool)}
theorem q_makeMapS {t : TypeId} {obs : Obs} (id : Nat) (hid : obs.get id = none) : QStep P ⟨dst, .makeMap t none, ty, pos, aft, g⟩ env obs (.mapr id) ((id, .mp (encSM [])) :: obs) :=
  .step fun O ρ a w hok hv => by
    refine ⟨.map (some w.heap.size), _, T.upd ρ id ⟨w.heap.size, 0, 0⟩, .inl ?_, Tr.born hok hid (.map #[] 0) rfl (fun i x h _ => h) (fun i h => h) ?_, ?_⟩
    · simp only [execOp, Option.map_none]
      rw [Sem.run_bind]
      rfl
    · intro hk
      exact own_SM' (m := []) (es := #[]) (by simp) ⟨rfl, fun i k v h => by simp at h⟩ (by simp)
    · simp only [V]; exact ⟨⟨w.heap.size, 0, 0⟩, by simp [T.upd], rfl⟩
theorem q_lookupS {t kt et : TypeId} {x y : Operand} {id : Nat} {m : SM} {k : Str} {obs : Obs} (hu : P.underlying t = some (.map kt et)) (hk : P.underlying kt = some .string) (hz : ∀ w, (zeroValue et).run P w = .ok (.string ⟨#[]⟩) w)
    (hx : env.op x = some (.mapr id)) (hy : env.op y = some (.str k)) (ho : obs.get id = some (.mp (encSM m))) :
    QStep P ⟨dst, .lookup t x y false, ty, pos, aft, g⟩ env obs (.str (getSM m k)) obs :=
  .val fun O ρ a w hok hv => by
    have hvx := hv x (by simp [Op.operands]) _ hx
    have hvy := hv y (by simp [Op.operands]) _ hy
    simp only [V] at hvx hvy
    obtain ⟨l, h2, e1⟩ := hvx
    obtain ⟨l', h3, _, hown⟩ := hok.own id _ ho rfl
    rw [h2] at h3; cases h3
    obtain ⟨es, h4, h5, h6⟩ := own_SM hown
    obtain ⟨r, h7, h8⟩ := findNow_SM k es.toList m 0 0 h5
    have hck : ∀ b, (Instr.checkKey b 10000 kt (.string ⟨k.toArray⟩)).run P w = .ok () w := fun b => by
      show (Instr.checkKey b (9999 + 1) kt _).run P w = _
      rw [Instr.checkKey]; simp [run_und hk]
    have hbig : (getSM m k).length ≤ big := by
      have : ∀ m : SM, (∀ p ∈ m, p.1.length ≤ big ∧ p.2.length ≤ big) → (getSM m k).length ≤ big := by
        intro m
        induction m with
        | nil => intro _; simp [getSM, big]
        | cons p r ih =>
          intro h
          obtain ⟨a, v⟩ := p
          simp only [getSM]
          split
          · exact (h (a, v) (by simp)).2
          · exact ih (fun p hp => h p (by simp [hp]))
      exact this m h6
    refine ⟨.string ⟨(getSM m k).toArray⟩, ?_, by simp only [V]; exact ⟨trivial, hbig⟩⟩
    have hfk : (Instr.findKey kt (.string ⟨k.toArray⟩) es.toList).run P w = .ok r w := by simp [Instr.findKey, run_und hk, h7]
    rcases h8 with ⟨rfl, _, g4, _⟩ | ⟨j, _, rfl, _⟩
    · simp [execOp, Instr.lookup, run_und hu, e1, hvy.1, MapKept.run_getObj_map h4, hck, hfk, hz, g4]
    · simp [execOp, Instr.lookup, run_und hu, e1, hvy.1, MapKept.run_getObj_map h4, hck, hfk]
theorem EsOK.push {es : Array MapEntry} {m : SM} {k v : Str} (h : EsOK es.toList m 0) : EsOK (es.push { key := .string ⟨k.toArray⟩, val := .string ⟨v.toArray⟩, born := m.length }).toList (m ++ [(k, v)]) 0 := by
  have hl := h.1
  refine ⟨by simp at hl ⊢; exact hl, fun i k' v' hi => ?_⟩
  simp only [Array.toList_push]
  rcases Nat.lt_trichotomy i m.length with g | g | g
  · rw [List.getElem?_append_left g] at hi
    obtain ⟨e, g1, g2⟩ := h.2 i k' v' hi
    exact ⟨e, by rw [List.getElem?_append_left (by omega)]; exact g1, g2⟩
  · subst g
    rw [List.getElem?_append_right (Nat.le_refl _)] at hi
    simp at hi
    obtain ⟨rfl, rfl⟩ := hi
    exact ⟨{ key := .string ⟨k.toArray⟩, val := .string ⟨v.toArray⟩, born := m.length }, by rw [List.getElem?_append_right (by omega)]; simp [hl], by simp, rfl, rfl⟩
  · rw [List.getElem?_eq_none (by simp; omega)] at hi; cases hi
theorem EsOK.modify {es : Array MapEntry} {m : SM} {k v : Str} {j : Nat} (h : EsOK es.toList m 0) (hj : j < m.length) : EsOK (es.modify j fun e => { e with key := .string ⟨k.toArray⟩, val := .string ⟨v.toArray⟩ }).toList (m.set j (k, v)) 0 := by
  have hl := h.1
  refine ⟨by simpa using hl, fun i k' v' hi => ?_⟩
  rw [Array.toList_modify, List.getElem?_modify]
  rw [List.getElem?_set] at hi
  by_cases e : j = i
  · subst e
    rw [if_pos rfl, if_pos hj] at hi
    cases hi
    obtain ⟨x, g1, g2, _⟩ := h.2 j (m[j]).1 (m[j]).2 (by simp [hj])
    exact ⟨{ x with key := .string ⟨k.toArray⟩, val := .string ⟨v.toArray⟩ }, by rw [g1]; simp, g2, rfl, rfl⟩
  · rw [if_neg e] at hi
    obtain ⟨x, g1, g2⟩ := h.2 i k' v' hi
    exact ⟨x, by rw [g1]; simp [e], g2⟩
theorem q_mapUpdateS {t kt et : TypeId} {x y z : Operand} {id : Nat} {m : SM} {k v : Str} {obs : Obs} (hu : P.underlying t = some (.map kt et)) (hk : P.underlying kt = some .string)
    (hx : env.op x = some (.mapr id)) (hy : env.op y = some (.str k)) (hz : env.op z = some (.str v)) (ho : obs.get id = some (.mp (encSM m))) :
    QStep P ⟨dst, .mapUpdate t x y z, ty, pos, aft, g⟩ env obs (.raw undef) (obs.set id (.mp (encSM (setSM m k v)))) :=
  .step fun O ρ a w hok hv => by
    have hvx := hv x (by simp [Op.operands]) _ hx
    have hvy := hv y (by simp [Op.operands]) _ hy
    have hvz := hv z (by simp [Op.operands]) _ hz
    simp only [V] at hvx hvy hvz
    obtain ⟨l, h2, e1⟩ := hvx
    obtain ⟨l', h3, _, hown⟩ := hok.own id _ ho rfl
    rw [h2] at h3; cases h3
    obtain ⟨es, h4, h5, h6⟩ := own_SM hown
    obtain ⟨r, h7, h8⟩ := findNow_SM k es.toList m 0 0 h5
    have hck : ∀ b, (Instr.checkKey b 10000 kt (.string ⟨k.toArray⟩)).run P w = .ok () w := fun b => by
      show (Instr.checkKey b (9999 + 1) kt _).run P w = _
      rw [Instr.checkKey]; simp [run_und hk]
    have hfk : (Instr.findKey kt (.string ⟨k.toArray⟩) es.toList).run P w = .ok r w := by simp [Instr.findKey, run_und hk, h7]
    have hset : ∀ o', (setObj l.b o').run P w = .ok () { w with heap := w.heap.setIfInBounds l.b o' } := fun o' => by simp [setObj, Sem.run, h4]
    rcases h8 with ⟨rfl, _, _, g5⟩ | ⟨j, hj, rfl, ⟨u, hju⟩, g6⟩
    · refine ⟨undef, _, ρ, .inr ⟨?_, rfl⟩, Tr.upd (o' := .mp (encSM (setSM m k v))) hok ho rfl h2 (.map (es.push { key := .string ⟨k.toArray⟩, val := .string ⟨v.toArray⟩, born := m.length }) (m.length + 1)) ?_, by simp [V]⟩
      · simp [execOp, Instr.mapUpdate, run_und hu, e1, hvy.1, hvz.1, MapKept.run_getObj_map h4, hck, hfk, hset]
      · intro _
        rw [g5]
        refine own_SM' (es := es.push { key := .string ⟨k.toArray⟩, val := .string ⟨v.toArray⟩, born := m.length }) (by simp [(Array.getElem?_eq_some_iff.1 h4).1]) h5.push ?_
        intro p hp
        rcases List.mem_append.1 hp with hp | hp
        · exact h6 p hp
        · simp at hp; subst hp; exact ⟨hvy.2, hvz.2⟩
    · obtain ⟨e, g1, _, g3, _⟩ := h5.2 j k u hju
      have g1' : es[j]? = some e := by simpa using g1
      have hst : (Instr.keyThatStays (.string ⟨k.toArray⟩) (.string ⟨k.toArray⟩)).run P w = .ok (.string ⟨k.toArray⟩) w := by simp [Instr.keyThatStays, Instr.sameBits, str_beq]
      refine ⟨undef, _, ρ, .inr ⟨?_, rfl⟩, Tr.upd (o' := .mp (encSM (setSM m k v))) hok ho rfl h2 (.map (es.modify j fun e => { e with key := .string ⟨k.toArray⟩, val := .string ⟨v.toArray⟩ }) m.length) ?_, by simp [V]⟩
      · simp [execOp, Instr.mapUpdate, run_und hu, e1, hvy.1, hvz.1, MapKept.run_getObj_map h4, hck, hfk, hset, g1', g3, hst]
      · intro _
        rw [g6]
        refine own_SM' (es := es.modify j fun e => { e with key := .string ⟨k.toArray⟩, val := .string ⟨v.toArray⟩ }) (by simp [(Array.getElem?_eq_some_iff.1 h4).1]) (h5.modify hj) ?_
        intro p hp
        rcases List.mem_or_eq_of_mem_set hp with hp | rfl
        · exact h6 p hp
        · exact ⟨hvy.2, hvz.2⟩
end
end Go.T
namespace Go.T
open Go
variable [Noise]
open Go.ChangeMaps (setBlock)
def kAt (m : SM) (j : Nat) : Str := (m[j]?.getD ([], [])).1
def vAt (m : SM) (j : Nat) : Str := (m[j]?.getD ([], [])).2
theorem EsOK.at_ {es : List MapEntry} {m : SM} (h : EsOK es m 0) {e : MapEntry} (he : e ∈ es) : e.born < m.length ∧ es[e.born]? = some e ∧ e.key = .string ⟨(kAt m e.born).toArray⟩ ∧ e.val = .string ⟨(vAt m e.born).toArray⟩ := by
  obtain ⟨j, hj⟩ := List.getElem?_of_mem he
  have hlt : j < m.length := by rw [← h.1]; exact (List.getElem?_eq_some_iff.1 hj).1
  obtain ⟨e', g1, g2, g3, g4⟩ := h.2 j (m[j]).1 (m[j]).2 (by simp [hlt])
  rw [hj] at g1; cases g1
  have : e.born = j := by omega
  rw [this]
  refine ⟨hlt, hj, ?_, ?_⟩
  · rw [g3]; simp [kAt, hlt]
  · rw [g4]; simp [vAt, hlt]
theorem EsOK.borns {es : List MapEntry} {m : SM} (h : EsOK es m 0) : es.map (·.born) = List.range m.length := by
  apply List.ext_getElem?
  intro i
  rw [List.getElem?_map]
  rcases Nat.lt_or_ge i m.length with g | g
  · obtain ⟨e, g1, g2, _⟩ := h.2 i (m[i]).1 (m[i]).2 (by simp [g])
    rw [g1, List.getElem?_range g]; simp [g2]
  · rw [List.getElem?_eq_none (by rw [h.1]; exact g), List.getElem?_eq_none (by simpa using g)]; rfl
section
variable {P : Program} {env : Env} {dst : Option Tmp} {ty : TypeId} {pos : String} {aft : Array Edge} {g : Option (Nat × Bool)}
theorem q_rangeS {t kt et : TypeId} {x : Operand} {id : Nat} {m : SM} {obs : Obs} (idI : Nat) (hu : P.underlying t = some (.map kt et)) (hx : env.op x = some (.mapr id)) (ho : obs.get id = some (.mp (encSM m))) (hid : obs.get idI = none) :
    QStep P ⟨dst, .range t x, ty, pos, aft, g⟩ env obs (.box idI 0) ((idI, .mi id m.length []) :: obs) :=
  .step fun O ρ a w hok hv => by
    have hvx := hv x (by simp [Op.operands]) _ hx
    simp only [V] at hvx
    obtain ⟨l, h2, e1⟩ := hvx
    obtain ⟨l', h3, _, hown⟩ := hok.own id _ ho rfl
    rw [h2] at h3; cases h3
    obtain ⟨es, h4, h5, h6⟩ := own_SM hown
    have hr := run_range_map (P := P) w t kt et l.b es m.length hu h4
    refine ⟨.pointer (some ⟨w.heap.size, 0, none⟩), _, T.upd ρ idI ⟨w.heap.size, 0, 0⟩, .inl ?_, Tr.born hok hid (.mapIter (some l.b) m.length #[] m.length) rfl (fun i x h _ => h) (fun i h => h) ?_, ?_⟩
    · simp only [execOp, e1]
      rw [Sem.run_bind, hr]
      rfl
    · intro hk
      have hne : idI ≠ id := by rintro rfl; rw [ho] at hid; cases hid
      exact ⟨l, by simp [T.upd, hne.symm, h2], by simp⟩
    · simp only [V]; exact ⟨⟨w.heap.size, 0, 0⟩, by simp [T.upd], rfl⟩
def nextA (m : SM) (seen : List Nat) : Option Nat → Prop
  | none => ∀ j, j < m.length → j ∈ seen
  | some j => j < m.length ∧ j ∉ seen
@[reducible] def nextD (m : SM) : Option Nat → D
  | none => .tup [.b false]
  | some j => .tup [.b true, .str (kAt m j), .str (vAt m j)]
@[reducible] def nextO (obs : Obs) (idI id : Nat) (m : SM) (seen : List Nat) : Option Nat → Obs
  | none => obs
  | some j => obs.set idI (.mi id m.length (seen ++ [j]))
theorem at_big {m : SM} {j : Nat} (h6 : ∀ p ∈ m, p.1.length ≤ big ∧ p.2.length ≤ big) (hj : j < m.length) : (kAt m j).length ≤ big ∧ (vAt m j).length ≤ big := by
  have := h6 _ (List.getElem_mem hj)
  simpa [kAt, vAt, hj] using this
theorem q_nextS {x : Operand} {id idI : Nat} {m : SM} {seen : List Nat} {obs : Obs} (hx : env.op x = some (.box idI 0)) (hi : obs.get idI = some (.mi id m.length seen)) (ho : obs.get id = some (.mp (encSM m))) :
    QStepN P ⟨dst, .next x false, ty, pos, aft, g⟩ env obs (nextA m seen) (nextD m) (nextO obs idI id m seen) := by
  intro O ρ a w hok hgl hv
  have hvx := hv x (by simp [Op.operands]) _ hx
  simp only [V] at hvx
  obtain ⟨r, hr1, e1⟩ := hvx
  obtain ⟨r', hr2, _, lm, hm, hit⟩ := hok.own idI _ hi rfl
  rw [hr1] at hr2; cases hr2
  obtain ⟨l', h3, _, hown⟩ := hok.own id _ ho rfl
  rw [hm] at h3; cases h3
  obtain ⟨es, h4, h5, h6⟩ := own_SM hown
  have hold : ∀ x ∈ es.toList, x.born < m.length := fun x hx => (h5.at_ hx).1
  unfold Oper.wp
  have hex : (execOp a.eval ⟨dst, .next x false, ty, pos, aft, g⟩).run P w = ((Instr.next (.pointer (some ⟨r.b, 0, none⟩)) false ty).bind fun v => Sem.pure (Next.value v)).run P w := by
    simp only [execOp, e1]; rfl
  rw [hex]
  rcases run_next_at (P := P) w ty r.b lm.b m.length m.length seen.toArray es m.length hit h4 hold (Nat.le_refl _) with ⟨hz, hrun⟩ | ⟨e, he, w1, hw1, hrun⟩
  · have : ((Instr.next (.pointer (some ⟨r.b, 0, none⟩)) false ty).bind fun v => Sem.pure (Next.value v)).run P w = .ok (.value (.tuple #[.bool false])) w := by
      show (Sem.bind _ _).run P w = _
      rw [Sem.run_bind', hrun]; rfl
    rw [this]
    refine ⟨none, ρ, _, ?_, rfl, Tr.refl hok, by simp [V, Vs, D.b]⟩
    intro j hj
    have hz' : leftOf es seen.toArray = #[] := Array.eq_empty_of_size_eq_zero hz
    obtain ⟨e, g1, g2, _⟩ := h5.2 j (m[j]).1 (m[j]).2 (by simp [hj])
    unfold leftOf at hz'
    rw [Array.filter_eq_empty_iff] at hz'
    have hmem : e ∈ es := by simpa using List.mem_of_getElem? g1
    have := hz' e hmem
    simp at this
    rw [show e.born = j by omega] at this
    exact this
  · have hee : e ∈ es.toList ∧ e.born ∉ seen := by
      unfold leftOf at he
      simp at he
      exact ⟨by simpa using he.1, by simpa using he.2⟩
    obtain ⟨g1, g2, g3, g4⟩ := h5.at_ hee.1
    have : ((Instr.next (.pointer (some ⟨r.b, 0, none⟩)) false ty).bind fun v => Sem.pure (Next.value v)).run P w = .ok (.value (.tuple #[.bool true, e.key, e.val])) (setBlock w1 r.b (.mapIter (some lm.b) m.length (seen.toArray.push e.born) m.length)) := by
      show (Sem.bind _ _).run P w = _
      rw [Sem.run_bind', hrun]; rfl
    rw [this]
    have hb := at_big h6 g1
    have htr1 : Tr O w ρ obs w1 ρ obs := by
      rcases hw1 with rfl | rfl
      · exact Tr.refl hok
      · exact Tr.drawn hok _ (by first | exact Nat.le_succ _ | omega)
    have hit1 : w1.heap[r.b]? = some (.mapIter (some lm.b) m.length seen.toArray m.length) := by rcases hw1 with rfl | rfl <;> exact hit
    have htr2 := Tr.upd (o' := .mi id m.length (seen ++ [e.born])) htr1.ok hi rfl hr1 (.mapIter (some lm.b) m.length (seen.toArray.push e.born) m.length) (fun _ => ⟨lm, hm, by simp [(Array.getElem?_eq_some_iff.1 hit1).1]⟩)
    refine ⟨some e.born, ρ, _, ⟨g1, hee.2⟩, rfl, htr1.trans htr2, ?_⟩
    simp only [V, Vs, D.b]
    refine ⟨_, rfl, _, _, rfl, rfl, _, _, rfl, ⟨g3, hb.1⟩, _, _, rfl, ⟨g4, hb.2⟩, rfl⟩
theorem q_entryS {x : Operand} {id idI j : Nat} {m : SM} {seen : List Nat} {obs : Obs} (hx : env.op x = some (.box idI 0)) (hi : obs.get idI = some (.mi id m.length (seen ++ [j]))) (ho : obs.get id = some (.mp (encSM m))) (hj : j < m.length) :
    QStep P ⟨dst, .entry x, ty, pos, aft, g⟩ env obs (.tup [.str (kAt m j), .str (vAt m j)]) obs :=
  .val fun O ρ a w hok hv => by
    have hvx := hv x (by simp [Op.operands]) _ hx
    simp only [V] at hvx
    obtain ⟨r, hr1, e1⟩ := hvx
    obtain ⟨r', hr2, _, lm, hm, hit⟩ := hok.own idI _ hi rfl
    rw [hr1] at hr2; cases hr2
    obtain ⟨l', h3, _, hown⟩ := hok.own id _ ho rfl
    rw [hm] at h3; cases h3
    obtain ⟨es, h4, h5, h6⟩ := own_SM hown
    obtain ⟨e, g1, g2, g3, g4⟩ := h5.2 j (m[j]).1 (m[j]).2 (by simp [hj])
    have hbj : e.born = j := by omega
    have hit' : w.heap[r.b]? = some (.mapIter (some lm.b) m.length (seen.toArray.push e.born) m.length) := by rw [hit, hbj]; simp
    have hnd : (es.toList.map (·.born)).Nodup := by rw [h5.borns]; exact List.nodup_range
    have hrun := run_entry_at (P := P) w r.b lm.b m.length seen.toArray es m.length e hit' h4 (List.mem_of_getElem? g1) hnd
    have hb := at_big h6 hj
    refine ⟨.tuple #[e.key, e.val], ?_, ?_⟩
    · simp only [execOp, e1]
      rw [Sem.run_bind, hrun]
      rfl
    · simp only [V, Vs]
      refine ⟨_, rfl, _, _, rfl, ⟨by rw [g3]; simp [kAt, hj], hb.1⟩, _, _, rfl, ⟨by rw [g4]; simp [vAt, hj], hb.2⟩, rfl⟩
end
end Go.T
namespace Go.T
open Go
theorem okB_SM (f : Nat → Bool) (m : SM) : Ob.okB f (.mp (encSM m)) = true := by
  have h : ∀ l : List Str, D.okB.okL f (l.map .str) = true := by
    intro l
    induction l with
    | nil => rfl
    | cons a l ih => simp only [List.map_cons, D.okB.okL, D.okB, ih]; rfl
  have e1 : (encSM m).map (·.1) = (m.map (·.1)).map .str := by simp [encSM]
  have e2 : (encSM m).map (·.2) = (m.map (·.2)).map .str := by simp [encSM]
  simp only [Ob.okB]
  rw [e1, e2, h, h]; rfl
theorem val_bd (s : Str) : -((10 ^ s.length : Nat) : Int) < val s ∧ val s < ((10 ^ s.length : Nat) : Int) := by
  have h1 := natVal_lt _ (digits_dig s)
  have h2 : 10 ^ (digits s).1.length ≤ 10 ^ s.length := Nat.pow_le_pow_right (by omega) (digits_len s)
  unfold val
  split <;> omega
theorem ofInt_len {n : Int} {k : Nat} (h1 : -((10 ^ k : Nat) : Int) < n) (h2 : n < ((10 ^ k : Nat) : Int)) : (ofInt n).length ≤ k + 1 := by
  have := natDig_len k n.natAbs (by omega)
  unfold ofInt
  split
  · simp; omega
  · omega
theorem addS_len (a b : Str) : (addS a b).length ≤ a.length + b.length + 2 := by
  have h1 := val_bd a
  have h2 := val_bd b
  have h3 : 10 ^ a.length ≤ 10 ^ (a.length + b.length) := Nat.pow_le_pow_right (by omega) (by omega)
  have h4 : 10 ^ b.length ≤ 10 ^ (a.length + b.length) := Nat.pow_le_pow_right (by omega) (by omega)
  have h5 : 10 ^ (a.length + b.length + 1) = 10 ^ (a.length + b.length) * 10 := Nat.pow_succ ..
  unfold addS
  exact ofInt_len (k := a.length + b.length + 1) (by omega) (by omega)
def balStep (m : SM) (l : Line) : SM := setSM m l.currency (addS (getSM m l.currency) l.amount)
def balM (ls : List Line) : SM := ls.foldl balStep []
theorem balM_snoc (ls : List Line) (l : Line) : balM (ls ++ [l]) = setSM (balM ls) l.currency (addS (getSM (balM ls) l.currency) l.amount) := by simp [balM, balStep]
theorem get_set (m : SM) (k c v : Str) : getSM (setSM m k v) c = if c = k then v else getSM m c := by
  induction m with
  | nil => simp [setSM, getSM]
  | cons p r ih =>
    obtain ⟨a, u⟩ := p
    simp only [setSM]
    by_cases h : k = a
    · subst h
      simp only [if_true, getSM]
      by_cases hc : c = k <;> simp [hc]
    · simp only [if_neg h, getSM, ih]
      by_cases hc : c = a
      · subst hc; simp [Ne.symm h]
      · simp [hc]
theorem balM_len (ls : List Line) (h : ∀ l ∈ ls, l.amount.length ≤ 14) (c : Str) : (getSM (balM ls) c).length ≤ 16 * ls.length := by
  induction ls using rev_ind generalizing c with
  | h0 => simp [balM, getSM]
  | h1 ls l ih =>
    have ih := fun c : Str => ih (fun x hx => h x (by simp [hx])) c
    rw [balM_snoc, get_set]
    have hl := h l (by simp)
    by_cases hc : c = l.currency
    · subst hc
      rw [if_pos rfl]
      have := addS_len (getSM (balM ls) l.currency) l.amount
      have := ih l.currency
      simp; omega
    · rw [if_neg hc]
      have := ih c
      simp; omega
def allNil (m : SM) : Bool := m.all fun p => decide (p.2 = [])
theorem allNil_F {m : SM} {j : Nat} (hj : j < m.length) (h : vAt m j ≠ []) : allNil m = false := by
  unfold allNil
  rw [List.all_eq_false]
  exact ⟨m[j], List.getElem_mem hj, by simpa [vAt, hj] using h⟩
theorem allNil_T {m : SM} (h : ∀ j, j < m.length → vAt m j = []) : allNil m = true := by
  unfold allNil
  rw [List.all_eq_true]
  intro p hp
  obtain ⟨j, hj, rfl⟩ := List.getElem_of_mem hp
  have := h j hj
  simpa [vAt, hj] using this
def unseen (n : Nat) (seen : List Nat) : Nat := ((List.range n).filter fun j => !seen.contains j).length
theorem unseen_lt {n j : Nat} {seen : List Nat} (hj : j < n) (hs : j ∉ seen) : unseen n (seen ++ [j]) < unseen n seen := by
  unfold unseen
  have key : ∀ l : List Nat, ((l.filter fun i => !(seen ++ [j]).contains i).length ≤ (l.filter fun i => !seen.contains i).length) ∧ (j ∈ l → (l.filter fun i => !(seen ++ [j]).contains i).length < (l.filter fun i => !seen.contains i).length) := by
    intro l
    induction l with
    | nil => simp
    | cons a l ih =>
      by_cases ha : a = j
      · subst ha
        simp [List.filter_cons, hs]
        have := ih.1
        simp at this
        omega
      · by_cases hb : a ∈ seen
        · simp [List.filter_cons, hb, Ne.symm ha]
          simpa using ih
        · simp [List.filter_cons, hb, ha, Ne.symm ha]
          simpa using ih
  exact (key _).2 (by simpa using hj)
end Go.T
namespace Go.T
open Go
theorem ofInt_nil_iff {n : Int} : ofInt n = [] ↔ n = 0 := by
  constructor
  · intro h
    have := val_ofInt n
    rw [h] at this
    rw [← this]; rfl
  · rintro rfl; simp [ofInt, natDig_zero]
theorem balM_get (ls : List Line) (c : Str) : getSM (balM ls) c = ofInt (sumV c ls) := by
  induction ls using rev_ind generalizing c with
  | h0 => simp [balM, getSM, sumV, ofInt, natDig_zero]
  | h1 ls l ih =>
    rw [balM_snoc, get_set, sumV_append]
    simp only [sumV, Int.add_zero]
    by_cases h : c = l.currency
    · subst h
      rw [if_pos rfl, if_pos rfl, ih]
      unfold addS
      rw [val_ofInt]
    · rw [if_neg h, if_neg (Ne.symm h), ih, Int.add_zero]
def keysN (m : SM) : Prop := (m.map (·.1)).Nodup
theorem set_keys (m : SM) (k v : Str) : ∀ x, x ∈ (setSM m k v).map (·.1) ↔ x = k ∨ x ∈ m.map (·.1) := by
  induction m with
  | nil => intro x; simp [setSM]
  | cons p r ih =>
    intro x
    obtain ⟨a, u⟩ := p
    simp only [setSM]
    by_cases h : k = a
    · subst h; simp
    · simp only [if_neg h, List.map_cons, List.mem_cons, ih x]
      constructor
      · rintro (h | h | h) <;> simp [h]
      · rintro (h | h | h) <;> simp [h]
theorem set_nodup {m : SM} (k v : Str) (h : keysN m) : keysN (setSM m k v) := by
  unfold keysN at *
  induction m with
  | nil => simp [setSM]
  | cons p r ih =>
    obtain ⟨a, u⟩ := p
    simp only [List.map_cons, List.nodup_cons] at h
    simp only [setSM]
    by_cases hk : k = a
    · subst hk; simpa using h
    · simp only [if_neg hk, List.map_cons, List.nodup_cons]
      refine ⟨fun hm => ?_, ih h.2⟩
      rcases (set_keys r k v a).1 hm with e | e
      · exact hk e.symm
      · exact h.1 e
theorem balM_nodup (ls : List Line) : keysN (balM ls) := by
  induction ls using rev_ind with
  | h0 => simp [balM, keysN]
  | h1 ls l ih => rw [balM_snoc]; exact set_nodup _ _ ih
theorem allNil_get {m : SM} (h : keysN m) : allNil m = true ↔ ∀ k, getSM m k = [] := by
  induction m with
  | nil => simp [allNil, getSM]
  | cons p r ih =>
    obtain ⟨a, u⟩ := p
    simp only [keysN, List.map_cons, List.nodup_cons] at h
    have ih := ih h.2
    simp only [allNil, List.all_cons, Bool.and_eq_true, decide_eq_true_eq] at ih ⊢
    rw [ih]
    constructor
    · rintro ⟨h1, h2⟩ k
      simp only [getSM]
      split
      · exact h1
      · exact h2 k
    · intro hk
      refine ⟨by simpa [getSM] using hk a, fun k => ?_⟩
      by_cases e : k = a
      · subst e
        have : ∀ r : SM, k ∉ r.map (·.1) → getSM r k = [] := by
          intro r
          induction r with
          | nil => intro _; rfl
          | cons q r ih => intro hn; obtain ⟨b, w⟩ := q; simp at hn; simp only [getSM]; rw [if_neg hn.1]; exact ih (by simpa using hn.2)
        exact this r h.1
      · simpa [getSM, e] using hk k
theorem sumV_zero {c : Str} {ls : List Line} (h : ∀ l ∈ ls, l.currency ≠ c) : sumV c ls = 0 := by
  induction ls with
  | nil => rfl
  | cons l ls ih => simp only [sumV]; rw [if_neg (h l (by simp)), ih (fun x hx => h x (by simp [hx]))]; rfl
theorem allNil_bal (ls : List Line) : allNil (balM ls) = balanced ls := by
  rw [Bool.eq_iff_iff, allNil_get (balM_nodup ls)]
  simp only [balM_get, ofInt_nil_iff, balanced, List.all_eq_true, decide_eq_true_eq]
  constructor
  · intro h x _; exact h x.currency
  · intro h c
    by_cases hc : ∃ l ∈ ls, l.currency = c
    · obtain ⟨l, hl, rfl⟩ := hc; exact h l hl
    · exact sumV_zero (fun l hl e => hc ⟨l, hl, e⟩)
end Go.T
namespace Go.T
open Go
theorem find_T {α : Type} {l pre rest : List α} {x : α} {p : α → Bool} (hx : l = pre ++ x :: rest) (hp : pre.any p = false) (h : p x = true) : (pre.length : Int) = if l.any p = true then (l.findIdx p : Int) else -1 := by
  subst hx
  have : (pre ++ x :: rest).any p = true := by simp [h]
  rw [if_pos this, List.findIdx_append]
  have hn : ¬ List.findIdx p pre < pre.length := by
    rw [List.findIdx_lt_length]
    rintro ⟨y, hy, hpy⟩
    rw [List.any_eq_false] at hp
    exact hp y hy hpy
  rw [if_neg hn]
  simp [List.findIdx_cons, h]
theorem find_F {α : Type} {l pre : List α} {p : α → Bool} (hx : l = pre ++ []) (hp : pre.any p = false) : -1 = if l.any p = true then (l.findIdx p : Int) else -1 := by
  rw [hx, List.append_nil, hp]; rfl
theorem valid_close (l : List Entry) : decide ((0 : Int) ≤ if l.any (fun e => decide (checkE e ≠ 0)) = true then (l.findIdx (fun e => decide (checkE e ≠ 0)) : Int) else -1) = !validE l := by
  have e : validE l = !(l.any fun e => decide (checkE e ≠ 0)) := by
    unfold validE
    induction l with
    | nil => rfl
    | cons a l ih => simp only [List.all_cons, List.any_cons, ih]; by_cases h : checkE a = 0 <;> simp [h]
  rw [e]
  cases l.any (fun e => decide (checkE e ≠ 0)) <;> simp <;> omega
end Go.T
namespace Go.T
open Go
theorem tw_pre {α : Type} {p : α → Bool} {l pre rest : List α} {x : α} (hx : l = pre ++ x :: rest) (hp : pre.all p = true) (h : p x = true) : pre ++ [x] <+: l.takeWhile p := by
  subst hx
  rw [List.takeWhile_append_of_pos (by simpa using hp), List.takeWhile_cons, if_pos h]
  exact ⟨rest.takeWhile p, by simp⟩
theorem tw_stop {α : Type} {p : α → Bool} {l pre rest : List α} {x : α} (hx : l = pre ++ x :: rest) (hp : pre.all p = true) (h : p x = false) : pre = l.takeWhile p := by
  subst hx
  rw [List.takeWhile_append_of_pos (by simpa using hp), List.takeWhile_cons, if_neg (by simp [h])]; simp
theorem tw_end {α : Type} {p : α → Bool} {l pre : List α} (hx : l = pre ++ []) (hp : pre.all p = true) : pre = l.takeWhile p := by
  subst hx
  rw [List.takeWhile_append_of_pos (by simpa using hp)]; simp
end Go.T
namespace Go.T
open Go
theorem dropZ_of_head {s : Str} (h : s.head? ≠ some 48) : dropZ s = s := by
  cases s with
  | nil => rfl
  | cons c r =>
    have : c ≠ 48 := by simpa using h
    exact dropZ_F (by intro ⟨_, e⟩; exact this (UInt8.toNat_inj.1 (by simpa using e)))
theorem digits_nat (s : Str) : (digits s).1 = natDig (natVal (digits s).1) := natDig_unique (digits_dig s) (dropZ_of_head (digits_head s))
theorem neg_textM (s : Str) : textM (!(digits s).2) (groupsOf (digits s).1) = negS s := by
  rw [textM_ofInt _ (numOK_digits s).ok, (groupsOf_spec _ (digits_dig s)).2]
  have hd := digits_nat s
  unfold negS
  cases hn : (digits s).2 with
  | true =>
    simp only [Bool.not_true, Bool.false_eq_true, if_false, true_or, if_true]
    unfold ofInt
    rw [if_neg (by omega)]
    simpa using hd.symm
  | false =>
    simp only [Bool.not_false, if_true, Bool.false_eq_true, false_or]
    by_cases h0 : (digits s).1 = []
    · rw [if_pos h0, h0]; simp [natVal, ofInt, natDig_zero]
    · rw [if_neg h0]
      have : natVal (digits s).1 ≠ 0 := by
        intro e; rw [e, natDig_zero] at hd; exact h0 hd
      unfold ofInt
      rw [if_pos (by omega)]
      conv => rhs; rw [hd]
      simp
end Go.T
namespace Go.T
open Go
def mergeC (c : Entry → Entry → Int) : Nat → List Entry → List Entry → List Entry × List Entry
  | 0, a, b => (a, b)
  | _ + 1, [], b => ([], b)
  | _ + 1, a, [] => (a, [])
  | n + 1, x :: a, y :: b => if c x y < 0 then (x :: (mergeC c n a (y :: b)).1, (mergeC c n a (y :: b)).2) else if 0 < c x y then ((mergeC c n (x :: a) b).1, y :: (mergeC c n (x :: a) b).2) else mergeC c n a b
theorem mergeC_nil1 (c : Entry → Entry → Int) (n : Nat) (b : List Entry) : mergeC c n [] b = ([], b) := by cases n <;> rfl
theorem mergeC_nil2 (c : Entry → Entry → Int) (n : Nat) (a : List Entry) : mergeC c n a [] = (a, []) := by cases n <;> cases a <;> rfl
theorem mergeC_fuel (c : Entry → Entry → Int) : ∀ (n m : Nat) (a b : List Entry), a.length + b.length ≤ n → a.length + b.length ≤ m → mergeC c n a b = mergeC c m a b
  | 0, m, a, b, h, _ => by
    have e1 : a = [] := List.length_eq_zero_iff.1 (by omega)
    have e2 : b = [] := List.length_eq_zero_iff.1 (by omega)
    subst e1; subst e2; rw [mergeC_nil1, mergeC_nil1]
  | n + 1, 0, a, b, _, h => by
    have e1 : a = [] := List.length_eq_zero_iff.1 (by omega)
    have e2 : b = [] := List.length_eq_zero_iff.1 (by omega)
    subst e1; subst e2; rw [mergeC_nil1, mergeC_nil1]
  | n + 1, m + 1, [], b, _, _ => by rw [mergeC_nil1, mergeC_nil1]
  | n + 1, m + 1, x :: a, [], _, _ => by rw [mergeC_nil2, mergeC_nil2]
  | n + 1, m + 1, x :: a, y :: b, h, h' => by
    simp only [List.length_cons] at h h'
    simp only [mergeC]
    rw [mergeC_fuel c n m a (y :: b) (by simp; omega) (by simp; omega), mergeC_fuel c n m (x :: a) b (by simp; omega) (by simp; omega), mergeC_fuel c n m a b (by omega) (by omega)]
def mergeE (c : Entry → Entry → Int) (a b : List Entry) : List Entry × List Entry := mergeC c (a.length + b.length) a b
theorem mergeE_nil1 (c : Entry → Entry → Int) (b : List Entry) : mergeE c [] b = ([], b) := mergeC_nil1 ..
theorem mergeE_nil2 (c : Entry → Entry → Int) (a : List Entry) : mergeE c a [] = (a, []) := mergeC_nil2 ..
theorem mergeE_step (c : Entry → Entry → Int) (x y : Entry) (a b : List Entry) : mergeE c (x :: a) (y :: b) = if c x y < 0 then (x :: (mergeE c a (y :: b)).1, (mergeE c a (y :: b)).2) else if 0 < c x y then ((mergeE c (x :: a) b).1, y :: (mergeE c (x :: a) b).2) else mergeE c a b := by
  unfold mergeE
  rw [mergeC_fuel c _ (a.length + b.length + 1 + 1) (x :: a) (y :: b) (Nat.le_refl _) (by simp; omega)]
  simp only [mergeC]
  rw [mergeC_fuel c (a.length + b.length + 1) (a.length + (y :: b).length) a (y :: b) (by simp; omega) (by simp),
    mergeC_fuel c (a.length + b.length + 1) ((x :: a).length + b.length) (x :: a) b (by simp; omega) (by simp),
    mergeC_fuel c (a.length + b.length + 1) (a.length + b.length) a b (by omega) (by omega)]
end Go.T
namespace Go.T
open Go
def insI (c : Entry → Entry → Int) : List Entry → Entry → List Entry
  | [], x => [x]
  | y :: r, x => if c x y < 0 then y :: insI c r x else x :: y :: r
def sortI (c : Entry → Entry → Int) (l : List Entry) : List Entry := (l.foldl (insI c) []).reverse
theorem insI_len (c : Entry → Entry → Int) (r : List Entry) (x : Entry) : (insI c r x).length = r.length + 1 := by
  induction r with
  | nil => rfl
  | cons y r ih => simp only [insI]; split <;> simp [ih]
theorem insI_mem (c : Entry → Entry → Int) (r : List Entry) (x e : Entry) : e ∈ insI c r x ↔ e = x ∨ e ∈ r := by
  induction r with
  | nil => simp [insI]
  | cons y r ih =>
    simp only [insI]
    split
    · simp only [List.mem_cons, ih]; constructor
      · rintro (h | h | h) <;> simp [h]
      · rintro (h | h | h) <;> simp [h]
    · simp
theorem ins_done1 {c : Entry → Entry → Int} {q R : List Entry} {x : Entry} (hr : q.reverse ++ insI c ([] : List Entry).reverse x = R) : ([] ++ x :: q).reverse = R := by rw [← hr]; simp [insI]
theorem ins_done2 {c : Entry → Entry → Int} {p q R : List Entry} {x y : Entry} (hr : q.reverse ++ insI c (p ++ [y]).reverse x = R) (h : ¬ c x y < 0) : ((p ++ [y]) ++ x :: q).reverse = R := by rw [← hr]; simp [insI, h]
theorem rowX (p : List Entry) (y x : Entry) (r : List Entry) : (((p ++ [y]) ++ x :: r).map encEntry)[(p ++ [y]).length]? = some (encEntry x) := by simp
theorem rowY (p : List Entry) (y x : Entry) (r : List Entry) : (((p ++ [y]) ++ x :: r).map encEntry)[p.length]? = some (encEntry y) := by simp
theorem swap_rows (p : List Entry) (y x : Entry) (r : List Entry) : ((((p ++ [y]) ++ x :: r).map encEntry).set (p ++ [y]).length (encEntry y)).set p.length (encEntry x) = (p ++ x :: (y :: r)).map encEntry := by
  simp [List.set_append]
end Go.T
namespace Go.T
open Go
variable [Noise]
section
variable {P : Program} {env : Env} {dst : Option Tmp} {ty : TypeId} {pos : String} {aft : Array Edge} {g : Option (Nat × Bool)}
theorem q_capNil {t e : TypeId} {x : Operand} (hu : P.underlying t = some (.slice e)) (hx : env.op x = some (.raw (.slice none 0 0))) (obs : Obs) : QStep P ⟨dst, .call ⟨.builtin .cap, #[x], #[t]⟩, ty, pos, aft, g⟩ env obs (.raw (.int .i64 0)) obs :=
  .val fun _ _ a w _ hv => ⟨.int .i64 0, by
    have h1 := hv x (by simp [Op.operands, Call.operands]) _ hx
    simp only [V] at h1
    simp [execOp, resolve, invoke, builtin, Builtin.cap_, h1, run_und hu, goInt], by simp [V]⟩
theorem q_sliceNil {t e : TypeId} {x y : Operand} {sz : Nat} {k : IntKind} (hu : P.underlying t = some (.slice e)) (hs : ∀ w, (sizeOf e).run P w = .ok sz w) (hx : env.op x = some (.raw (.slice none 0 0))) (hy : env.op y = some (.raw (.int k 0))) (obs : Obs) :
    QStep P ⟨dst, .slice t x none (some y) none, ty, pos, aft, g⟩ env obs (.raw (.slice none 0 0)) obs :=
  .val fun _ _ a w _ hv => ⟨.slice none 0 0, by
    have h1 := hv x (by simp [Op.operands]) _ hx
    have h2 := hv y (by simp [Op.operands]) _ hy
    simp only [V] at h1 h2
    simp [execOp, Instr.sliceAt, Instr.slice, run_und hu, h1, h2, Instr.sliceBounds, Instr.sliceBound, asIntOf, hs], by simp [V]⟩
theorem q_sliceGr {t e : TypeId} {x y : Operand} {sz id n : Nat} {k : IntKind} (hu : P.underlying t = some (.slice e)) (hs : ∀ w, (sizeOf e).run P w = .ok sz w) (hx : env.op x = some (.gr id n)) (hy : env.op y = some (.raw (.int k 0))) (obs : Obs) :
    QStep P ⟨dst, .slice t x none (some y) none, ty, pos, aft, g⟩ env obs (.gr id 0) obs :=
  .val fun _ ρ a w _ hv => by
    have h1 := hv x (by simp [Op.operands]) _ hx
    have h2 := hv y (by simp [Op.operands]) _ hy
    simp only [V] at h1 h2
    obtain ⟨l, h3, h4, e1⟩ := h1
    refine ⟨.slice (some ⟨l.b, l.off, none⟩) 0 l.cap, ?_, by simp only [V]; exact ⟨l, h3, Nat.zero_le _, rfl⟩⟩
    simp [execOp, Instr.sliceAt, Instr.slice, run_und hu, e1, h2, Instr.sliceBounds, Instr.sliceBound, asIntOf, hs, addr_add]
/-- As many zeros behind nothing. -/
theorem q_appendMake {st xt e : TypeId} {ti : TypeInfo} {z : Value} {k : IntKind} {sz n bt : Nat} {nx : Int} {x y : Operand} {obs : Obs} (id : Nat) (hu : P.underlying st = some (.slice e)) (hxu : P.underlying xt = some (.int k)) (hs : ∀ w, (sizeOf e).run P w = .ok sz w)
    (hti : ∀ w, (typeInfo e).run P w = .ok ti w) (hz : ∀ w, (zeroValue e).run P w = .ok z w) (hzs : z.cells.size = sz) (hsz : sz ≠ 0) (hbt : ti.bytes = bt) (hx : env.op x = some (.raw (.slice none 0 0))) (hy : env.op y = some (.raw (.int .i64 nx))) (hn : nx = (n : Int)) (h0 : n ≠ 0) (hb : n * bt ≤ 140737488355328) (hbig : n ≤ 1000000000000) (hid : obs.get id = none) :
    QStep P ⟨dst, .call ⟨.builtin .append, #[x, y], #[st, xt]⟩, ty, pos, aft, g⟩ env obs (.gr id n) ((id, .res sz) :: obs) :=
  .step fun O ρ a w hok hv => by
    have h1 := hv x (by simp [Op.operands, Call.operands]) _ hx
    have h2 := hv y (by simp [Op.operands, Call.operands]) _ hy
    simp only [V] at h1 h2
    subst hn
    have hw : IntKind.i64.wrap (n : Int) = n := by rw [IntKind.wrap_i64]; omega
    have hb1 : ¬ (281474976710656 : Int) < (n : Int) * (ti.bytes : Int) := by rw [hbt, ← Int.natCast_mul]; omega
    have hcap := nextslicecap_le n 0 (by omega)
    have hb2 : ¬ Builtin.nextslicecap n 0 * ti.bytes > 281474976710656 := by
      have := Nat.mul_le_mul_right ti.bytes hcap
      rw [Nat.mul_assoc] at this
      rw [hbt] at this ⊢
      omega
    have hns : ¬ n * sz = 0 := by
      intro h; rcases Nat.mul_eq_zero.1 h with h | h <;> contradiction
    let nc := n + (w.tape w.drawn (.appendCap n 0 e)) % (2 ^ 63 - n)
    have hnc : n ≤ nc := Nat.le_add_right ..
    have hrun : (Builtin.append_ #[st, xt] ty #[.slice none 0 0, .int .i64 n]).run P w = .ok (.slice (some ⟨w.heap.size, 0, none⟩) n nc) { w with drawn := w.drawn + 1, heap := w.heap.push (.cells (Builtin.zeroCells z.cells n ++ Builtin.zeroCells z.cells (nc - n)) e (0, 0)) } := by
      have hneg : ¬ (n : Int) < 0 := by omega
      have hmx : IntKind.i64.max = 9223372036854775807 := by decide
      have hmax : ¬ (IntKind.i64.max < (n : Int)) := by omega
      have hmax2 : ¬ ((9223372036854775807 : Int) < (n : Int)) := by omega
      simp [Builtin.append_, run_und hu, hs, run_und hxu, asInt, asIntOf, hw, hneg, hti, hb1, h0, hmax, hmax2, hb2, Question.forced, Question.cut, Builtin.firstCells, hz, hns, newRow, nc]
      rfl
    have htr := Tr.drawn hok (w.drawn + 1) (Nat.le_succ _)
    refine ⟨.slice (some ⟨w.heap.size, 0, none⟩) n nc, _, T.upd ρ id ⟨w.heap.size, 0, nc⟩, .inl (by simp [execOp, resolve, invoke, builtin, h1, h2, hrun]), htr.trans (Tr.born (w := { w with drawn := w.drawn + 1 }) htr.ok hid (.cells (Builtin.zeroCells z.cells n ++ Builtin.zeroCells z.cells (nc - n)) e (0, 0)) rfl (fun i x h _ => h) (fun i h => h) ?_), ?_⟩
    · intro _
      refine ⟨Builtin.zeroCells z.cells n ++ Builtin.zeroCells z.cells (nc - n), e, by simp, ?_⟩
      simp only [Array.size_append, zeroCells_size, hzs, Nat.zero_add]
      rw [← Nat.add_mul, Nat.add_sub_cancel' hnc]
      exact Nat.le_refl _
    · simp only [V]; exact ⟨⟨w.heap.size, 0, nc⟩, by simp [T.upd], hnc, rfl⟩
theorem q_appendGr {st xt e e' : TypeId} {ti : TypeInfo} {z : Value} {sz id bt : Nat} {x y : Operand} {full : Bool} {new : List (List D)} {obs : Obs} (id' : Nat) (hu : P.underlying st = some (.slice e)) (hxu : P.underlying xt = some (.slice e')) (hs : ∀ w, (sizeOf e).run P w = .ok sz w)
    (hti : ∀ w, (typeInfo e).run P w = .ok ti w) (hz : ∀ w, (zeroValue e).run P w = .ok z w) (hzs : z.cells.size = sz) (hbt : ti.bytes = bt) (hb00 : Nat.beq bt 0 = false) (hx : env.op x = some (.gr id 0)) (ho : obs.get id = some (.res sz)) (hy : env.op y = some (.snap sz full new)) (hne : new ≠ []) (hid : obs.get id' = none)
    (hbb : new.length * bt ≤ 140737488355328) :
    QStep P ⟨dst, .call ⟨.builtin .append, #[x, y], #[st, xt]⟩, ty, pos, aft, g⟩ env obs (.gs id' new.length) ((id', .arr sz new) :: obs.set id .dead) :=
  .step fun O ρ a w hok hv => by
    have hb : (0 + new.length) * ti.bytes ≤ 140737488355328 := by rw [hbt, Nat.zero_add]; exact hbb
    have hb0 : ti.bytes ≠ 0 := by
      rw [hbt]; intro h; subst h; simp at hb00
    have hn0 : new.length ≠ 0 := fun h => hne (List.length_eq_zero_iff.1 h)
    have hvx := hv x (by simp [Op.operands, Call.operands]) _ hx
    have hvy := hv y (by simp [Op.operands, Call.operands]) _ hy
    have hrun : ∀ v w', (Builtin.append_ #[st, xt] ty #[a.eval x, a.eval y]).run P w = .ok v w' → (execOp a.eval ⟨dst, .call ⟨.builtin .append, #[x, y], #[st, xt]⟩, ty, pos, aft, g⟩).run P w = .ok (.value v) w' := by
      intro v w' h
      simp [execOp, resolve, invoke, builtin, h]
    obtain ⟨hlen, us, hfu, hus, hone, hul, hrl⟩ := run_firstSnap (P := P) hvy
    have hbig : new.length ≤ big := by
      have : (0 + new.length) * 1 ≤ (0 + new.length) * ti.bytes := Nat.mul_le_mul_left _ (by omega)
      unfold big; omega
    simp only [V] at hvx
    obtain ⟨l, h2, _, e1⟩ := hvx
    obtain ⟨l', h3, _, c, T, h4, h5⟩ := hok.own id _ ho rfl
    rw [h2] at h3; cases h3
    have hlive' : (Ob.arr sz new).live = true := by
      cases new with
      | nil => exact absurd rfl hne
      | cons r rs => rfl
    by_cases hc : 0 + new.length ≤ l.cap
    · have hbd : l.off + us.length ≤ c.size := by
        rw [hul]
        have : new.length * sz ≤ l.cap * sz := Nat.mul_le_mul_right sz (by omega)
        omega
      have hst := run_storeCells (P := P) (b := l.b) (T := T) us w c l.off 0 h4 (by omega) hone
      have hrm := run_append_room (T := ty) (n := 0) (a := ⟨l.b, l.off, none⟩) (w := w) hu hs hxu (by simp) (hlen w) (hfu w rfl) hc (by rw [addr_add]; simpa using hst)
      have htr := Tr.upd (o' := .arr sz new) hok ho rfl h2 (.cells (setMany c (l.off + 0) us) T (0, 0)) ?_
      · have hid2 : (obs.set id (.arr sz new)).get id' = none := by
          rw [Obs.get_set]
          by_cases e : id = id'
          · subst e; rw [ho] at hid; cases hid
          · rw [if_neg e]; exact hid
        have htr2 := Tr.rename (id := id) (id' := id') htr.ok (by rw [Obs.get_set]; simp) hlive' hid2 h2
        rw [Obs.set_set] at htr2
        refine ⟨_, _, Go.T.upd ρ id' l, .inl (hrun _ _ (by rw [e1]; exact hrm)), htr.trans htr2, ?_⟩
        simp only [V]
        exact .inr ⟨hn0, l, upd_same .., by rw [Nat.zero_add]⟩
      · intro hk
        refine ⟨setMany c l.off us, T, by simp [(Array.getElem?_eq_some_iff.1 h4).1], by rw [setMany_size]; exact h5, ⟨by omega, hbig⟩, ?_⟩
        have hseg : ((setMany c l.off us).toList.drop l.off).take new.flatten.length = us := by
          rw [hus.length.symm, setMany_toList us c l.off (by omega), List.append_assoc, List.drop_append_of_le_length (by simp; omega), List.drop_of_length_le (by simp; omega)]; simp
        refine Vr.of_blk (c := setMany c l.off us) (T := T) (fr := (0, 0)) (by simp [(Array.getElem?_eq_some_iff.1 h4).1]) new l.off hrl ?_ ?_
        · rw [hseg]; exact Vs.mono hk (RhoLe.refl _) _ _ hus
        · rw [hseg]; exact hone
    · obtain ⟨nc, h6, h7⟩ := run_append_grow (T := ty) (w := w) (n := 0) (cap := l.cap) (base := some ⟨l.b, l.off, none⟩) (vs := []) hu hs hxu (by simp) hti hz (fun w' _ => hlen w') hfu (fun w' _ => by simp [Builtin.firstCells, loadCells, loadCellsFrom]) hc hb hb0
      rw [← e1] at h7
      have htr := Tr.drawn hok (w.drawn + 1) (Nat.le_succ _)
      refine ⟨_, _, Go.T.upd ρ id' ⟨w.heap.size, 0, nc⟩, .inl (hrun _ _ h7), htr.trans (Tr.born (w := { w with drawn := w.drawn + 1 }) htr.ok hid _ rfl dead_sub dead_dom ?_), ?_⟩
      · intro hk
        refine Own.grown (w := { w with drawn := w.drawn + 1 }) (T := e) (vs := us) (zs := Builtin.zeroCells z.cells (nc - (0 + new.length))) (by simp) hul (by rw [zeroCells_size, hzs, Nat.zero_add]) (by omega) hbig hrl ?_ hone hk
        exact Vs.mono htr.kept (RhoLe.refl _) _ _ hus
      · simp only [V]
        exact .inr ⟨hn0, _, upd_same .., by rw [Nat.zero_add]⟩
theorem q_appendGr0 {st xt e e' : TypeId} {sz id : Nat} {x y : Operand} {full : Bool} (hu : P.underlying st = some (.slice e)) (hxu : P.underlying xt = some (.slice e')) (hs : ∀ w, (sizeOf e).run P w = .ok sz w)
    (hx : env.op x = some (.gr id 0)) (hy : env.op y = some (.snap sz full [])) (obs : Obs) :
    QStep P ⟨dst, .call ⟨.builtin .append, #[x, y], #[st, xt]⟩, ty, pos, aft, g⟩ env obs (.gr id 0) obs :=
  .val fun O ρ a w hok hv => by
    have hvx := hv x (by simp [Op.operands, Call.operands]) _ hx
    have hvy := hv y (by simp [Op.operands, Call.operands]) _ hy
    obtain ⟨hlen, us, hfu, hus, hone, hul, hrl⟩ := run_firstSnap (P := P) hvy
    have hus0 : us = [] := List.length_eq_zero_iff.1 (by simpa using hul)
    subst hus0
    simp only [V] at hvx
    obtain ⟨l, h2, _, e1⟩ := hvx
    have hrm := run_append_room (T := ty) (n := 0) (cap := l.cap) (a := ⟨l.b, l.off, none⟩) (w := w) (w' := w) hu hs hxu (by simp) (hlen w) (hfu w rfl) (by simp) (by simp [storeCells])
    refine ⟨.slice (some ⟨l.b, l.off, none⟩) 0 l.cap, ?_, by simp only [V]; exact ⟨l, h2, Nat.zero_le _, rfl⟩⟩
    rw [← e1] at hrm
    simp [execOp, resolve, invoke, builtin]
    simp at hrm
    rw [hrm]
    rfl
end
end Go.T
namespace Go.T
open Go Go.Proofs
set_option maxRecDepth 20000
theorem bldWriteString_ok (s t : Str) (hl : s.length + t.length ≤ 140737488355328) : FcO Tryz.prog 133 [.box 7000 0, .str t] [(7000, .bld 7001 s.length), (7001, .ba s)] (.tup [.i t.length, .raw .nilIface]) [(7000, .bld 7002 (s ++ t).length), (7002, .ba (s ++ t)), (7001, .dead)] := by
 refine FcO.mk' [4, 5] Tryz.func133 rfl Tryz.ntmps133 rfl rfl rfl (fun t w => results_tmp2 Tryz.results133 t _ w) ?_
 refine Run.seq (Run.reg [.p, .p] ?_)
 refine .ag rfl rfl <| .ag rfl rfl <| .nil ?_
 refine Run.seq (Run.reg [.p, .w] ?_)
 refine .mv rfl rfl <| .W rfl (q_callO Tryz.call179 rfl (copyCheck_ok 7000 7001 _ _) (.cons rfl rfl (.cons rfl rfl .nil)) rfl rfl) <| .nil ?_
 refine Run.seq (Run.reg [.p, .p, .p, .p, .r, .p, .w, .p, .p, .w] ?_)
 refine .mv rfl rfl <| .mv rfl rfl <| .P rfl (q_nilCheckBox rfl) <| .P rfl (q_fieldB (n := 0) 140 1 Tryz.underlying179 Tryz.sizeOf140 rfl rfl) <| .R rfl (q_loadBld (e := 0) Tryz.isAgg140 rfl rfl rfl rfl) <| .mv rfl rfl <| .W rfl (q_appendB 7002 Tryz.underlying140 Tryz.underlying9 (by simp) Tryz.sizeOf5 Tryz.typeInfo5 rfl Tryz.zeroValue5 rfl rfl rfl rfl (.inl rfl) rfl hl) <| .P rfl (q_nilCheckBox rfl) <| .P rfl (q_fieldB (n := 0) 140 1 Tryz.underlying179 Tryz.sizeOf140 rfl rfl) <| .W rfl (q_storeBld Tryz.sizeOf140 rfl rfl rfl rfl (by simp)) <| .nil ?_
 refine Run.seq (Run.reg [.p, .p, .p, .p] ?_)
 refine .mv rfl rfl <| .P rfl (q_lenS Tryz.underlying9 rfl) <| .ag rfl rfl <| .ag rfl rfl <| .nil ?_
 refine Run.ret (?_)
 exact retO2 rfl rfl (Sub.int (by rfl)) (by exact Sub.refl _) (.eq rfl (by simp) rfl (.cons rfl rfl (.cons rfl rfl .nil)))
theorem bldWriteByte_ok (s : Str) (c : UInt8) (hl : s.length + 1 ≤ 140737488355328) : FcO Tryz.prog 132 [.box 7000 0, .raw (.int .u8 c.toNat)] [(7000, .bld 7001 s.length), (7001, .ba s)] (.raw .nilIface) [(7000, .bld 7002 (s ++ [c]).length), (7002, .ba (s ++ [c])), (7001, .dead)] := by
 refine FcO.mk' [4] Tryz.func132 rfl Tryz.ntmps132 rfl rfl rfl (fun t w => results_tmp Tryz.results132 t _ w) ?_
 refine Run.seq (Run.reg [.p] ?_)
 refine .ag rfl rfl <| .nil ?_
 refine Run.seq (Run.reg [.p, .w] ?_)
 refine .mv rfl rfl <| .W rfl (q_callO Tryz.call179 rfl (copyCheck_ok 7000 7001 _ _) (.cons rfl rfl (.cons rfl rfl .nil)) rfl rfl) <| .nil ?_
 refine Run.seq (Run.reg [.p, .p, .p, .p, .r, .p, .p, .w, .p, .p, .w] ?_)
 refine .mv rfl rfl <| .mv rfl rfl <| .P rfl (q_nilCheckBox rfl) <| .P rfl (q_fieldB (n := 0) 140 1 Tryz.underlying179 Tryz.sizeOf140 rfl rfl) <| .R rfl (q_loadBld (e := 0) Tryz.isAgg140 rfl rfl rfl rfl) <| .mv rfl rfl <| .P rfl (q_buildSlice' (n := 1) (rows := byteRows [c]) Tryz.underlying140 Tryz.sizeOf5 rfl rfl rfl Tryz.zeroValue5 rfl rfl rfl rfl rfl rfl rfl) <| .W rfl (q_appendB 7002 Tryz.underlying140 Tryz.underlying140 (by simp) Tryz.sizeOf5 Tryz.typeInfo5 rfl Tryz.zeroValue5 rfl rfl rfl rfl (.inr ⟨_, rfl⟩) rfl hl) <| .P rfl (q_nilCheckBox rfl) <| .P rfl (q_fieldB (n := 0) 140 1 Tryz.underlying179 Tryz.sizeOf140 rfl rfl) <| .W rfl (q_storeBld Tryz.sizeOf140 rfl rfl rfl rfl (by simp)) <| .nil ?_
 refine Run.seq (Run.reg [.p] ?_)
 refine .ag rfl rfl <| .nil ?_
 refine Run.ret (?_)
 exact retO1 rfl (by exact Sub.refl _) (.eq rfl (by simp) rfl (.cons rfl rfl (.cons rfl rfl .nil)))
theorem bldWriteString_ok2 (s t : Str) (hl : s.length + t.length ≤ 140737488355328) : FcO Tryz.prog 133 [.box 7000 0, .str t] [(7000, .bld 7002 s.length), (7002, .ba s)] (.tup [.i t.length, .raw .nilIface]) [(7000, .bld 7001 (s ++ t).length), (7001, .ba (s ++ t)), (7002, .dead)] := by
 refine FcO.mk' [4, 5] Tryz.func133 rfl Tryz.ntmps133 rfl rfl rfl (fun t w => results_tmp2 Tryz.results133 t _ w) ?_
 refine Run.seq (Run.reg [.p, .p] ?_)
 refine .ag rfl rfl <| .ag rfl rfl <| .nil ?_
 refine Run.seq (Run.reg [.p, .w] ?_)
 refine .mv rfl rfl <| .W rfl (q_callO Tryz.call179 rfl (copyCheck_ok 7000 7002 _ _) (.cons rfl rfl (.cons rfl rfl .nil)) rfl rfl) <| .nil ?_
 refine Run.seq (Run.reg [.p, .p, .p, .p, .r, .p, .w, .p, .p, .w] ?_)
 refine .mv rfl rfl <| .mv rfl rfl <| .P rfl (q_nilCheckBox rfl) <| .P rfl (q_fieldB (n := 0) 140 1 Tryz.underlying179 Tryz.sizeOf140 rfl rfl) <| .R rfl (q_loadBld (e := 0) Tryz.isAgg140 rfl rfl rfl rfl) <| .mv rfl rfl <| .W rfl (q_appendB 7001 Tryz.underlying140 Tryz.underlying9 (by simp) Tryz.sizeOf5 Tryz.typeInfo5 rfl Tryz.zeroValue5 rfl rfl rfl rfl (.inl rfl) rfl hl) <| .P rfl (q_nilCheckBox rfl) <| .P rfl (q_fieldB (n := 0) 140 1 Tryz.underlying179 Tryz.sizeOf140 rfl rfl) <| .W rfl (q_storeBld Tryz.sizeOf140 rfl rfl rfl rfl (by simp)) <| .nil ?_
 refine Run.seq (Run.reg [.p, .p, .p, .p] ?_)
 refine .mv rfl rfl <| .P rfl (q_lenS Tryz.underlying9 rfl) <| .ag rfl rfl <| .ag rfl rfl <| .nil ?_
 refine Run.ret (?_)
 exact retO2 rfl rfl (Sub.int (by rfl)) (by exact Sub.refl _) (.eq rfl (by simp) rfl (.cons rfl rfl (.cons rfl rfl .nil)))
end Go.T
namespace Go.T
open Go Go.Proofs
set_option maxRecDepth 20000
theorem formatUint_ok (u : Nat) (hu : u < 18446744073709551616) : Fc Tryz.prog 134 [.raw (.int .u64 u), .i 10] (.str (Lib.decDigits u)) := by
 refine Fc.mk' [4] Tryz.func134 rfl Tryz.ntmps134 rfl rfl rfl (fun t w => results_tmp Tryz.results134 t _ w) ?_
 refine Run.seq (Run.reg [.p] ?_)
 refine .ag rfl rfl <| .nil ?_
 refine Run.seq (Run.reg [.p, .p, .p, .p] ?_)
 refine .mv rfl rfl <| .mv rfl rfl <| .P rfl (q_call Tryz.call180 rfl (formatUint180_ok _ (by first | assumption | omega | (simp at *; omega)))) <| .ag rfl rfl <| .nil ?_
 refine Run.ret (?_)
 exact ret1 rfl (Sub.str (by rfl))
structure cut_ok_L0 (m : List Nat) where
 cur : List Nat
 hx : cutM cur = cutM m
 hl : cur.length ≤ m.length
theorem cut_ok (m : List Nat) : Fc Tryz.prog 131 [sMag m] (sMag (cutM m)) := by
 refine Fc.mk' [2] Tryz.func131 rfl Tryz.ntmps131 rfl rfl rfl (fun t w => results_tmp Tryz.results131 t _ w) ?_
 refine Run.bSnap 0 rfl (fun hb => ?_)
 simp only [List.length_map, big] at hb
 refine Run.seq (Run.reg [.p] ?_)
 refine .ag rfl rfl <| .nil ?_
 refine Run.seq ?_
 refine Run.block ?_
 refine Run.loop (ι := cut_ok_L0 m) (fun sx => [(0, sMag sx.cur)]) (fun sx => []) (fun sx => sx.cur.length) ⟨m, rfl, by omega⟩ ?_ ?_
 ·exact Le.mk rfl (.same rfl rfl .nil) .nil
 ·rintro ⟨cur, hx, hl⟩
  show Run _ _ _ _ [(0, sMag cur)] []
  rcases snoc_cases cur with rfl | ⟨i, x, rfl⟩
  ·skip
   refine Run.seq (Run.seq (Run.reg [.p, .p, .p, .p, .p, .p, .p, .p, .p, .p, .p, .p] ?_))
   refine .mv rfl rfl <| .P rfl (q_lenI Tryz.underlying114 rfl) <| .P rfl (q_gtr rfl rfl) <| .mv rfl rfl ?_
   refine .off rfl (off_of rfl rfl rfl (by first | (simp; done) | (simp; omega) | (simp at *; omega))) ?_
   refine .off rfl (off_of rfl rfl rfl (by first | (simp; done) | (simp; omega) | (simp at *; omega))) ?_
   refine .off rfl (off_of rfl rfl rfl (by first | (simp; done) | (simp; omega) | (simp at *; omega))) ?_
   refine .off rfl (off_of rfl rfl rfl (by first | (simp; done) | (simp; omega) | (simp at *; omega))) ?_
   refine .off rfl (off_of rfl rfl rfl (by first | (simp; done) | (simp; omega) | (simp at *; omega))) ?_
   refine .off rfl (off_of rfl rfl rfl (by first | (simp; done) | (simp; omega) | (simp at *; omega))) ?_
   refine .off rfl (off_of rfl rfl rfl (by first | (simp; done) | (simp; omega) | (simp at *; omega))) ?_
   refine .P rfl (q_pickF rfl (by first | (simp; done) | (simp; omega) | (simp at *; omega)) rfl) <| .nil ?_
   refine Run.condF rfl rfl ?_
   refine Run.exit (tq_exit (bq_exit ?_))
   refine Run.seq (Run.reg [.p, .p] ?_)
   refine .mv rfl rfl <| .ag rfl rfl <| .nil ?_
   refine Run.ret (?_)
   exact ret1 rfl (Sub.snap (by first | (rw [← hx]; rfl) | (rw [← hx, cutM_pos i (by omega)])))
  ·skip
   refine Run.seq (Run.seq (Run.reg [.p, .p, .p, .p, .p, .p, .p, .p, .p, .p, .p, .p] ?_))
   refine .mv rfl rfl <| .P rfl (q_lenI Tryz.underlying114 rfl) <| .P rfl (q_gtr rfl rfl) <| .mv rfl rfl <| .p rfl (on_of rfl rfl rfl (by first | (simp; done) | (simp; omega) | (simp at *; omega))) (fun _ => q_move rfl _) <| .p rfl (on_of rfl rfl rfl (by first | (simp; done) | (simp; omega) | (simp at *; omega))) (fun _ => q_move rfl _) <| .p rfl (on_of rfl rfl rfl (by first | (simp; done) | (simp; omega) | (simp at *; omega))) (fun _ => q_lenI Tryz.underlying114 rfl _) <| .p rfl (on_of rfl rfl rfl (by first | (simp; done) | (simp; omega) | (simp at *; omega))) (fun _ => q_sub rfl rfl (wrap64_ok (by first | omega | (simp; done) | (simp; omega) | (simp at *; omega)) (by first | omega | (simp; done) | (simp; omega) | (simp at *; omega))) _) <| .p rfl (on_of rfl rfl rfl (by first | (simp; done) | (simp; omega) | (simp at *; omega))) (fun _ => q_indexI Tryz.underlying114 Tryz.sizeOf171 rfl rfl (by simp) (idx_end (fun (n : Nat) => [D.raw (.int .u64 (n : Int))]) i x rfl) _) <| .p rfl (on_of rfl rfl rfl (by first | (simp; done) | (simp; omega) | (simp at *; omega))) (fun _ => q_loadI Tryz.isAgg171 rfl _) <| .p rfl (on_of rfl rfl rfl (by first | (simp; done) | (simp; omega) | (simp at *; omega))) (fun _ => q_eql rfl rfl _) <| .P rfl (q_pickT rfl (by first | (simp; done) | (simp; omega) | (simp at *; omega)) rfl) <| .nil ?_
   refine Run.cond rfl (fun h1 => ?_) (fun h1 => ?_)
   ·have ph1 := h1
    try simp only [bs, bne_iff_ne, ne_eq, List.length_map] at ph1
    refine Run.skip ?_
    refine Run.block ?_
    refine Run.reg [.p, .p, .p, .p, .p, .p] ?_
    refine .mv rfl rfl <| .mv rfl rfl <| .P rfl (q_lenI Tryz.underlying114 rfl) <| .P rfl (q_sub rfl rfl (wrap64_ok (by first | omega | (simp; done) | (simp; omega) | (simp at *; omega)) (by first | omega | (simp; done) | (simp; omega) | (simp at *; omega)))) <| .P rfl (q_sliceI Tryz.underlying114 Tryz.sizeOf171 rfl (h := i.length) (r := encMag i) (.inl ⟨rfl, rfl⟩) (.inr ⟨_, _, rfl, (opI rfl (by simp))⟩) (by omega) (by simp) (by simp)) <| .ag rfl rfl <| .nil ?_
    refine Run.nil (bq_norm ?_)
    refine Run.nil (tq_norm ?_)
    exact ⟨⟨i, by rw [← hx, show x = 0 by omega, cutM_zero], by simp at hl; omega⟩, by simp, Le.mk rfl (.same rfl rfl .nil) .nil⟩
   ·have ph1 := h1
    try simp only [bs, bne_iff_ne, ne_eq, List.length_map] at ph1
    refine Run.exit (tq_exit (bq_exit ?_))
    refine Run.seq (Run.reg [.p, .p] ?_)
    refine .mv rfl rfl <| .ag rfl rfl <| .nil ?_
    refine Run.ret (?_)
    exact ret1 rfl (Sub.snap (by first | (rw [← hx]; rfl) | (rw [← hx, cutM_pos i (by omega)])))
end Go.T
namespace Go.T
open Go Go.Proofs
set_option maxRecDepth 20000
theorem digits_ok (s : Str) : Fc Tryz.prog 129 [.str s] (.tup [.str (digits s).1, .b (digits s).2]) := by
 refine Fc.mk' [2, 3] Tryz.func129 rfl Tryz.ntmps129 rfl rfl rfl (fun t w => results_tmp2 Tryz.results129 t _ w) ?_
 refine Run.seq (Run.reg [.p, .p] ?_)
 refine .ag rfl rfl <| .ag rfl rfl <| .nil ?_
 refine Run.seq (Run.reg [.p, .p, .p, .p, .p, .p, .p] ?_)
 refine .mv rfl rfl <| .P rfl (q_call Tryz.call174 rfl (cutPrefix_ok _)) <| .mv rfl rfl <| .P rfl (q_extract rfl rfl) <| .P rfl (q_extract rfl rfl) <| .ag rfl rfl <| .ag rfl rfl <| .nil ?_
 refine Run.seq (Run.seq (Run.reg [.p, .p, .p] ?_))
 refine .mv rfl rfl <| .P rfl (q_call Tryz.call175 rfl (trimDigits_ok _)) <| .P rfl (q_neqS rfl rfl) <| .nil ?_
 refine Run.cond rfl (fun h1 => ?_) (fun h1 => ?_)
 ·have ph1 := h1
  try simp only [bs, bne_iff_ne, ne_eq, List.length_map] at ph1
  refine Run.seq (Run.reg [.p, .p] ?_)
  refine .ag rfl rfl <| .ag rfl rfl <| .nil ?_
  refine Run.ret (?_)
  exact ret2 rfl rfl (Sub.str (by grind [digits, trimD_nil])) (Sub.bool (by grind [digits, trimD_nil]))
 ·have ph1 := h1
  try simp only [bs, bne_iff_ne, ne_eq, List.length_map] at ph1
  refine Run.skip ?_
  refine Run.seq (Run.reg [.p, .p, .p] ?_)
  refine .mv rfl rfl <| .P rfl (q_call Tryz.call176 rfl (trimLeft0_ok _)) <| .ag rfl rfl <| .nil ?_
  refine Run.seq (Run.reg [.p, .p, .p, .p, .p, .p, .p, .p] ?_)
  refine .mv rfl rfl <| .mv rfl rfl <| .mv rfl rfl <| .gT rfl (.inl rfl) rfl rfl rfl (fun hg => pk (fun _ => q_move rfl _)) <| .gT rfl (.inl rfl) rfl rfl rfl (fun hg => pk (fun _ => q_neqS (opT rfl hg) rfl _)) <| .P rfl (q_and rfl rfl) <| .ag rfl rfl <| .ag rfl rfl <| .nil ?_
  refine Run.ret (?_)
  exact ret2 rfl rfl (Sub.str (by grind [digits, trimD_nil])) (Sub.bool (by grind [digits, trimD_nil]))
theorem canonical_ok (s : Str) : Fc Tryz.prog 168 [.str s] (.str (canon s)) := by
 refine Fc.mk' [2] Tryz.func168 rfl Tryz.ntmps168 rfl rfl rfl (fun t w => results_tmp Tryz.results168 t _ w) ?_
 refine Run.bStr 0 rfl (fun hb => ?_)
 simp only [big] at hb
 have hdl := digits_len s
 refine Run.seq (Run.reg [.p] ?_)
 refine .ag rfl rfl <| .nil ?_
 refine Run.seq (Run.reg [.p, .p, .p, .p, .p, .p, .p] ?_)
 refine .mv rfl rfl <| .P rfl (q_call Tryz.call129 rfl (digits_ok _)) <| .mv rfl rfl <| .P rfl (q_extract rfl rfl) <| .P rfl (q_extract rfl rfl) <| .ag rfl rfl <| .ag rfl rfl <| .nil ?_
 refine Run.seq (Run.seq (Run.reg [.p] ?_))
 refine .mv rfl rfl <| .nil ?_
 refine Run.cond rfl (fun h1 => ?_) (fun h1 => ?_)
 ·have ph1 := h1
  try simp only [bs, bne_iff_ne, ne_eq, List.length_map] at ph1
  refine Run.reg [.p, .p, .p] ?_
  refine .mv rfl rfl <| .P rfl (q_addS rfl rfl (by have := digits_len1 s (by assumption); simp [big]; omega) rfl) <| .ag rfl rfl <| .nil ?_
  refine Run.seq (Run.reg [.p, .p] ?_)
  refine .mv rfl rfl <| .ag rfl rfl <| .nil ?_
  refine Run.ret (?_)
  exact ret1 rfl (Sub.str (by grind [canon]))
 ·have ph1 := h1
  try simp only [bs, bne_iff_ne, ne_eq, List.length_map] at ph1
  refine Run.skip ?_
  refine Run.seq (Run.reg [.p, .p] ?_)
  refine .mv rfl rfl <| .ag rfl rfl <| .nil ?_
  refine Run.ret (?_)
  exact ret1 rfl (Sub.str (by grind [canon]))
theorem intCheck_ok (s : Str) : Fc Tryz.prog 117 [.str s] (.i (checkNum s)) := by
 refine Fc.mk' [2] Tryz.func117 rfl Tryz.ntmps117 rfl rfl rfl (fun t w => results_tmp Tryz.results117 t _ w) ?_
 refine Run.seq (Run.reg [.p] ?_)
 refine .ag rfl rfl <| .nil ?_
 refine Run.seq (Run.seq (Run.reg [.p, .p, .p, .p] ?_))
 refine .mv rfl rfl <| .mv rfl rfl <| .P rfl (q_call Tryz.call168 rfl (canonical_ok _)) <| .P rfl (q_neqS rfl rfl) <| .nil ?_
 refine Run.cond rfl (fun h1 => ?_) (fun h1 => ?_)
 ·have ph1 := h1
  try simp only [bs, bne_iff_ne, ne_eq, List.length_map] at ph1
  refine Run.seq (Run.reg [.p] ?_)
  refine .ag rfl rfl <| .nil ?_
  refine Run.ret (?_)
  exact ret1 rfl (Sub.int (by grind [checkNum]))
 ·have ph1 := h1
  try simp only [bs, bne_iff_ne, ne_eq, List.length_map] at ph1
  refine Run.skip ?_
  refine Run.seq (Run.reg [.p] ?_)
  refine .ag rfl rfl <| .nil ?_
  refine Run.ret (?_)
  exact ret1 rfl (Sub.int (by grind [checkNum]))
structure read_ok_L0 (s : Str) where
 rest : Str
 tl : Str
 e : Int
 done : List Nat
 hr : (digits s).1 = rest ++ tl
 he : (0 < e → e = rest.length) ∧ (e ≤ 0 → rest = [])
 hx : done ++ groupsOf rest = groupsOf (digits s).1
theorem read_ok (s : Str) (hs : s.length ≤ 100000) : Fc Tryz.prog 79 [.str s] (.agg (encNum (digits s).2 (groupsOf (digits s).1))) := by
 refine Fc.mkR Tryz.func79 rfl Tryz.ntmps79 rfl rfl rfl ?_
 have hdl := digits_len s
 have hdd := digits_dig s
 have hgl := groupsOf_len (digits s).1
 refine Run.seq (Run.reg [.w] ?_)
 refine .W rfl (q_alloc 0 Tryz.zeroValue116 rfl) <| .nil ?_
 refine Run.seq (Run.reg [.p, .p, .p, .p, .p, .p, .p] ?_)
 refine .mv rfl rfl <| .P rfl (q_call Tryz.call129 rfl (digits_ok _)) <| .mv rfl rfl <| .P rfl (q_extract rfl rfl) <| .P rfl (q_extract rfl rfl) <| .ag rfl rfl <| .ag rfl rfl <| .nil ?_
 refine Run.seq (Run.reg [.p] ?_)
 refine .ag rfl rfl <| .nil ?_
 refine Run.seq (Run.seq (Run.reg [.p, .p, .p] ?_))
 refine .mv rfl rfl <| .P rfl (q_lenS Tryz.underlying9 rfl) <| .ag rfl rfl <| .nil ?_
 refine Run.block ?_
 refine Run.loop (ι := read_ok_L0 s) (fun sx => [(2, .box 0 0), (3, .str (digits s).1), (4, .b (digits s).2), (5, .gs 1 sx.done.length), (6, .i sx.e)]) (fun sx => [(0, .cells [.b false, .raw (.slice none 0 0)]), (1, .arr 1 (encMag sx.done))]) (fun sx => sx.rest.length) ⟨(digits s).1, [], (digits s).1.length, [], by simp, ⟨fun _ => rfl, fun h => List.length_eq_zero_iff.1 (by omega)⟩, rfl⟩ ?_ ?_
 ·exact (Le.own0 1 1).trans <| Le.mk rfl (.same rfl rfl (.cons rfl Sub.strA rfl (.cons rfl Sub.boolA rfl (.cons rfl (Sub.gsNil _) rfl (.cons rfl Sub.intA rfl .nil))))) (.cons rfl rfl (.arr rfl (by simp) .nil))
 ·rintro ⟨rest, tl, e, done, hr, he, hx⟩
  show Run _ _ _ _ [(2, .box 0 0), (3, .str (digits s).1), (4, .b (digits s).2), (5, .gs 1 done.length), (6, .i e)] [(0, .cells [.b false, .raw (.slice none 0 0)]), (1, .arr 1 (encMag done))]
  have hrl := congrArg List.length hr
  simp only [List.length_append] at hrl
  have hxl := congrArg List.length hx
  simp only [List.length_append] at hxl
  refine Run.seq (Run.seq (Run.reg [.p, .p] ?_))
  refine .mv rfl rfl <| .P rfl (q_gtr rfl rfl) <| .nil ?_
  refine Run.cond rfl (fun h1 => ?_) (fun h1 => ?_)
  ·have ph1 := h1
   try simp only [bs, bne_iff_ne, ne_eq, List.length_map] at ph1
   refine Run.skip ?_
   refine Run.seq ?_
   refine Run.block ?_
   refine Run.seq (Run.reg [.p, .p, .p, .p, .p, .p, .p, .p, .p, .p, .p, .p] ?_)
   refine .mv rfl rfl <| .mv rfl rfl <| .P rfl (q_sub rfl rfl (wrap64_ok (by first | omega | (simp; done) | (simp; omega) | (simp at *; omega)) (by first | omega | (simp; done) | (simp; omega) | (simp at *; omega)))) <| .P rfl (q_max rfl rfl rfl) <| .mv rfl rfl <| .P rfl (q_sliceS Tryz.underlying9 rfl (l := rest.length - 9) (h := rest.length) (r := rest.drop (rest.length - 9)) (.inr ⟨_, _, rfl, opI rfl (by omega)⟩) (.inr ⟨_, _, rfl, opI rfl (by omega)⟩) (by omega) (by rw [hr]; simp) (by rw [hr]; simp [List.drop_append, List.take_append] <;> omega)) <| .P rfl (q_call Tryz.call130 rfl (parseUint_ok _ (by intro e; have := congrArg List.length e; simp at this; omega) (by rw [hr, List.all_append, Bool.and_eq_true] at hdd; have := hdd.1; rw [← List.take_append_drop (rest.length - 9) rest, List.all_append, Bool.and_eq_true] at this; exact this.2) (by simp; omega))) <| .mv rfl rfl <| .P rfl (q_extract rfl rfl) <| .P rfl (q_extract rfl rfl) <| .ag rfl rfl <| .ag rfl rfl <| .nil ?_
   refine Run.reg [.p, .p, .p, .w, .p] ?_
   refine .mv rfl rfl <| .mv rfl rfl <| .P rfl (q_buildSlice' (n := 1) (rows := encMag [natVal (rest.drop (rest.length - 9))]) Tryz.underlying114 Tryz.sizeOf171 rfl rfl rfl Tryz.zeroValue171 rfl rfl rfl rfl rfl rfl rfl) <| .W rfl (q_append 2 Tryz.underlying114 Tryz.underlying114 Tryz.sizeOf171 Tryz.typeInfo171 Tryz.zeroValue171 rfl (bt := 8) rfl rfl rfl rfl (by simp) rfl rfl (by simp; omega)) <| .ag rfl rfl <| .nil ?_
   refine Run.nil (bq_norm ?_)
   refine Run.reg [.p, .p, .p] ?_
   refine .mv rfl rfl <| .P rfl (q_sub rfl rfl (wrap64_ok (by first | omega | (simp; done) | (simp; omega) | (simp at *; omega)) (by first | omega | (simp; done) | (simp; omega) | (simp at *; omega)))) <| .ag rfl rfl <| .nil ?_
   refine Run.nil (tq_norm ?_)
   exact ⟨⟨rest.take (rest.length - 9), rest.drop (rest.length - 9) ++ tl, e - 9, done ++ [natVal (rest.drop (rest.length - 9))], by rw [hr, ← List.append_assoc, List.take_append_drop], ⟨fun h => by simp; omega, fun h => List.length_eq_zero_iff.1 (by simp; omega)⟩, by rw [← hx, groupsOf_step (s := rest) (by omega)]; simp⟩, by simp; omega, (Le.mk (obs' := [(0, _), (2, _)]) rfl (show EnvLe _ _ [(2, _), (3, _), (4, _), (5, _), (6, _)] from (.same rfl rfl (.same rfl rfl (.same rfl rfl (.same rfl rfl (.same rfl rfl .nil)))))) (.cons (i := 0) rfl rfl (.cons (i := 2) rfl rfl .nil))).trans <| (Le.ren 5 2 1 rfl rfl (by simp) rfl).trans <| Le.mk rfl (.same rfl rfl (.cons rfl Sub.strA rfl (.cons rfl Sub.boolA rfl (.cons rfl (Sub.gs (by simp)) rfl (.cons rfl Sub.intA rfl .nil))))) (.cons rfl rfl (.arr rfl (by simp) .nil))⟩
  ·have ph1 := h1
   try simp only [bs, bne_iff_ne, ne_eq, List.length_map] at ph1
   refine Run.exit (tq_exit (bq_exit ?_))
   refine Run.seq (Run.reg [.p, .p, .p, .w] ?_)
   refine .mv rfl rfl <| .mv rfl rfl <| .P rfl (q_build (pl := #[(0, 1), (1, 1)]) Tryz.underlying116 Tryz.zeroValue116 (fun w => by kernel_rfl) rfl rfl) <| .W rfl (q_storeW Tryz.sizeOf116 rfl rfl rfl rfl rfl rfl) <| .nil ?_
   refine Run.weak (Le.freezeO 0 1 1 rfl rfl rfl (by simp)) ?_
   refine Run.ret (?_)
   exact Rd.cA Tryz.results79 Tryz.isAgg116 Tryz.sizeOf116 rfl rfl rfl (Sub.agg (.cons (Sub.bool (by rfl)) (.cons (Sub.snap (by rw [← hx, he.2 (by omega), groupsOf_nil, List.append_nil])) .nil)))
end Go.T
namespace Go.T
open Go Go.Proofs
set_option maxRecDepth 20000
structure text_ok_L0 (neg : Bool) (m : List Nat) where
 lo : List Nat
 hi : List Nat
 st : Str
 hx : cutM m = lo ++ hi
 ht : st ++ padAll lo = textM neg m
 hne : st ≠ []
 hst : st.length ≤ 21 + 9 * hi.length
theorem text_ok (neg : Bool) (m : List Nat) (hm : magOK m) (hs : m.length ≤ 20000) : Fc Tryz.prog 80 [.agg (encNum neg m)] (.str (textM neg m)) := by
 refine Fc.mk' [2] Tryz.func80 rfl Tryz.ntmps80 rfl rfl rfl (fun t w => results_tmp Tryz.results80 t _ w) ?_
 have hcl := cutM_len m
 have hcm := cutM_ok hm
 have hd0 : (cutM m).length ≠ 0 → (Lib.decDigits (lastN (cutM m))).length ≤ 9 := fun h => dec9 (hcm _ (last_mem h))
 refine Run.seq (Run.reg [.w, .p] ?_)
 refine .W rfl (q_boxA 0 rfl rfl) <| .ag rfl rfl <| .nil ?_
 refine Run.seq (Run.reg [.p, .r, .p, .p] ?_)
 refine .P rfl (q_fieldB (n := 0) 114 1 Tryz.underlying116 Tryz.sizeOf114 rfl rfl) <| .R rfl (q_load1 Tryz.isAgg114 rfl rfl rfl) <| .P rfl (q_call Tryz.call131 rfl (cut_ok _)) <| .ag rfl rfl <| .nil ?_
 refine Run.seq (Run.seq (Run.reg [.p, .p, .p] ?_))
 refine .mv rfl rfl <| .P rfl (q_lenI Tryz.underlying114 rfl) <| .P rfl (q_eql rfl rfl) <| .nil ?_
 refine Run.cond rfl (fun h1 => ?_) (fun h1 => ?_)
 ·have ph1 := h1
  try simp only [bs, bne_iff_ne, ne_eq, List.length_map] at ph1
  refine Run.seq (Run.reg [.p] ?_)
  refine .ag rfl rfl <| .nil ?_
  refine Run.ret (?_)
  exact ret1 rfl (Sub.str (by first | (have e : lo = [] := List.length_eq_zero_iff.mp (by omega); rw [e] at ht; rw [← ht]; simp [padAll_nil]; done) | (simp [← ht, padAll_nil]; done) | grind [textM]))
 ·have ph1 := h1
  try simp only [bs, bne_iff_ne, ne_eq, List.length_map] at ph1
  refine Run.skip ?_
  refine Run.seq (Run.reg [.w] ?_)
  refine .W rfl (q_allocBld 7000 7001 Tryz.zeroValue179 rfl) <| .nil ?_
  refine Run.seq (Run.seq (Run.reg [.p, .r] ?_))
  refine .P rfl (q_fieldB (n := 0) 4 0 Tryz.underlying116 Tryz.sizeOf4 rfl rfl) <| .R rfl (q_load1 Tryz.isAgg4 rfl rfl rfl) <| .nil ?_
  refine Run.cond rfl (fun h2 => ?_) (fun h2 => ?_)
  ·have ph2 := h2
   try simp only [bs, bne_iff_ne, ne_eq, List.length_map] at ph2
   refine Run.reg [.w] ?_
   refine .W rfl (q_callO Tryz.call132 rfl (bldWriteByte_ok _ 45 (by first | (simp; done) | (simp; omega))) (.cons rfl rfl (.cons rfl rfl .nil)) rfl rfl) <| .nil ?_
   refine Run.weak (Le.mk (obs' := [(0, _), (7000, _), (7002, _)]) rfl (show EnvLe _ _ [(0, _), (1, _), (2, _), (7, _), (8, _), (9, _), (3, _), (10, _), (11, _), (12, _), (4, _), (13, _), (14, _)] from (.same rfl rfl (.same rfl rfl (.same rfl rfl (.same rfl rfl (.same rfl rfl (.same rfl rfl (.same rfl rfl (.same rfl rfl (.same rfl rfl (.same rfl rfl (.same rfl rfl (.same rfl rfl (.same rfl rfl .nil)))))))))))))) (.cons (i := 0) rfl rfl (.cons (i := 7000) rfl rfl (.cons (i := 7002) rfl rfl .nil)))) ?_
   refine Run.seq (Run.reg [.p, .p, .p, .p, .p, .p, .p, .w] ?_)
   refine .mv rfl rfl <| .mv rfl rfl <| .P rfl (q_lenI Tryz.underlying114 rfl) <| .P rfl (q_sub rfl rfl (wrap64_ok (by first | omega | (simp; done) | (simp; omega) | (simp at *; omega)) (by first | omega | (simp; done) | (simp; omega) | (simp at *; omega)))) <| .P rfl (q_indexI Tryz.underlying114 Tryz.sizeOf171 rfl rfl (by simp; omega) (idx_lastN (pre := cutM m) (rest := []) (by simp) (by omega) (by simp))) <| .P rfl (q_loadI Tryz.isAgg171 rfl) <| .P rfl (q_call Tryz.call134 rfl (formatUint_ok _ (by have := hcm _ (last_mem (l := cutM m) (by omega)); unfold gB at this; omega))) <| .W rfl (q_callO Tryz.call133 rfl (bldWriteString_ok2 _ _ (by first | (simp; done) | (simp; omega))) (.cons rfl rfl (.cons rfl rfl .nil)) rfl rfl) <| .nil ?_
   refine Run.weak (Le.mk (obs' := [(0, _), (7000, _), (7001, _)]) rfl (show EnvLe _ _ [(0, _), (1, _), (2, _), (7, _), (8, _), (9, _), (3, _), (10, _), (11, _), (12, _), (4, _), (13, _), (14, _), (16, _), (17, _), (18, _), (19, _), (20, _), (21, _), (22, _)] from (.same rfl rfl (.same rfl rfl (.same rfl rfl (.same rfl rfl (.same rfl rfl (.same rfl rfl (.same rfl rfl (.same rfl rfl (.same rfl rfl (.same rfl rfl (.same rfl rfl (.same rfl rfl (.same rfl rfl (.same rfl rfl (.same rfl rfl (.same rfl rfl (.same rfl rfl (.same rfl rfl (.same rfl rfl (.same rfl rfl .nil))))))))))))))))))))) (.cons (i := 0) rfl rfl (.cons (i := 7000) rfl rfl (.cons (i := 7001) rfl rfl .nil)))) ?_
   refine Run.seq (Run.seq (Run.reg [.p, .p, .p, .p] ?_))
   refine .mv rfl rfl <| .P rfl (q_lenI Tryz.underlying114 rfl) <| .P rfl (q_sub rfl rfl (wrap64_ok (by first | omega | (simp; done) | (simp; omega) | (simp at *; omega)) (by first | omega | (simp; done) | (simp; omega) | (simp at *; omega)))) <| .ag rfl rfl <| .nil ?_
   refine Run.block ?_
   refine Run.loop (ι := text_ok_L0 neg m) (fun sx => [(1, .box 0 0), (3, sMag (cutM m)), (4, .box 7000 0), (5, .i ((sx.lo.length : Int) - 1))]) (fun sx => [(0, .cells (encNum neg m)), (7000, .bld 7001 sx.st.length), (7001, .ba sx.st)]) (fun sx => sx.lo.length) ⟨(cutM m).dropLast, [lastN (cutM m)], ([] ++ [45]) ++ Lib.decDigits (lastN (cutM m)), dropLast_eq (by omega), by unfold textM; rw [if_neg (by omega)]; simp at *; simp [*], by simp [dec_ne], by have := dec9 (hcm _ (last_mem (l := cutM m) (by omega))); simp; omega⟩ ?_ ?_
   ·exact Le.mk rfl (.same rfl rfl (.same rfl rfl (.same rfl rfl (.cons rfl Sub.intA rfl .nil)))) (.cons rfl rfl (.eq rfl (by first | rfl | (simp; done) | (simp; omega)) rfl (.eq rfl (by first | rfl | (simp; done) | (simp; omega)) rfl .nil)))
   ·rintro ⟨lo, hi, st, hx, ht, hne, hst⟩
    show Run _ _ _ _ [(1, .box 0 0), (3, sMag (cutM m)), (4, .box 7000 0), (5, .i ((lo.length : Int) - 1))] [(0, .cells (encNum neg m)), (7000, .bld 7001 st.length), (7001, .ba st)]
    have hxl := congrArg List.length hx
    simp only [List.length_append] at hxl
    have hy : lo.length ≠ 0 → lastN lo < gB := fun h => hcm _ (by rw [hx]; exact List.mem_append_left _ (last_mem h))
    have hd9 : lo.length ≠ 0 → (Lib.decDigits (lastN lo)).length ≤ 9 := fun h => dec9 (hy h)
    refine Run.seq (Run.seq (Run.reg [.p, .p] ?_))
    refine .mv rfl rfl <| .P rfl (q_geq rfl rfl) <| .nil ?_
    refine Run.cond rfl (fun h3 => ?_) (fun h3 => ?_)
    ·have ph3 := h3
     try simp only [bs, bne_iff_ne, ne_eq, List.length_map] at ph3
     refine Run.skip ?_
     refine Run.seq ?_
     refine Run.block ?_
     refine Run.seq (Run.reg [.p, .p, .p, .p, .p, .p] ?_)
     refine .mv rfl rfl <| .mv rfl rfl <| .P rfl (q_indexI Tryz.underlying114 Tryz.sizeOf171 rfl rfl (by omega) (idx_lastN hx (by omega) rfl)) <| .P rfl (q_loadI Tryz.isAgg171 rfl) <| .P rfl (q_call Tryz.call134 rfl (formatUint_ok _ (by unfold gB at hy; omega))) <| .ag rfl rfl <| .nil ?_
     refine Run.reg [.p, .p, .p, .p, .p, .p, .w] ?_
     refine .mv rfl rfl <| .P rfl (q_lenS Tryz.underlying9 rfl) <| .P rfl (q_sub rfl rfl (wrap64_ok (by first | omega | (simp; done) | (simp; omega) | (simp at *; omega)) (by first | omega | (simp; done) | (simp; omega) | (simp at *; omega)))) <| .P rfl (q_call Tryz.call135 rfl (repeat0_ok _ (by first | assumption | omega | (simp at *; omega)) (by first | assumption | omega | (simp at *; omega)))) <| .mv rfl rfl <| .P rfl (q_addS rfl rfl (by unfold big; simp; omega) rfl) <| .W rfl (q_callO Tryz.call133 rfl (bldWriteString_ok _ _ (by first | (simp; done) | (simp; omega))) (.cons rfl rfl (.cons rfl rfl .nil)) rfl rfl) <| .nil ?_
     refine Run.nil (bq_norm ?_)
     refine Run.weak (Le.mk (obs' := [(0, _), (7000, _), (7002, _)]) rfl (show EnvLe _ _ [(1, _), (3, _), (4, _), (5, _), (27, _), (28, _), (31, _), (32, _), (33, _), (34, _), (35, _), (6, _), (36, _), (37, _), (38, _), (39, _), (40, _), (41, _)] from (.same rfl rfl (.same rfl rfl (.same rfl rfl (.same rfl rfl (.same rfl rfl (.same rfl rfl (.same rfl rfl (.same rfl rfl (.same rfl rfl (.same rfl rfl (.same rfl rfl (.same rfl rfl (.same rfl rfl (.same rfl rfl (.same rfl rfl (.same rfl rfl (.same rfl rfl (.same rfl rfl .nil))))))))))))))))))) (.cons (i := 0) rfl rfl (.cons (i := 7000) rfl rfl (.cons (i := 7002) rfl rfl .nil)))) ?_
     refine Run.reg [.p, .p, .p] ?_
     refine .mv rfl rfl <| .P rfl (q_sub rfl rfl (wrap64_ok (by first | omega | (simp; done) | (simp; omega) | (simp at *; omega)) (by first | omega | (simp; done) | (simp; omega) | (simp at *; omega)))) <| .ag rfl rfl <| .nil ?_
     refine Run.nil (tq_norm ?_)
     exact ⟨⟨lo.dropLast, lastN lo :: hi, st ++ (List.replicate (9 - (Lib.decDigits (lastN lo)).length) 48 ++ Lib.decDigits (lastN lo)), by rw [hx]; conv => { lhs; rw [dropLast_eq (l := lo) (by omega)] }; simp, by rw [← ht, padAll_step (lo := lo) (by omega)]; simp [pad9], by simp [hne], by simp; omega⟩, by simp; omega, (Le.mk (obs' := [(0, _), (7000, _), (7002, _)]) rfl (show EnvLe _ _ [(1, _), (3, _), (4, _), (5, _)] from (.same rfl rfl (.same rfl rfl (.same rfl rfl (.same rfl rfl .nil))))) (.cons (i := 0) rfl rfl (.cons (i := 7000) rfl rfl (.cons (i := 7002) rfl rfl .nil)))).trans <| (Le.renB 7000 7002 7001 rfl rfl (by simp) rfl).trans <| Le.mk rfl (.same rfl rfl (.same rfl rfl (.same rfl rfl (.cons rfl Sub.intA rfl .nil)))) (.cons rfl rfl (.eq rfl (by first | rfl | (simp; done) | (simp; omega)) rfl (.eq rfl (by first | rfl | (simp; done) | (simp; omega)) rfl .nil)))⟩
    ·have ph3 := h3
     try simp only [bs, bne_iff_ne, ne_eq, List.length_map] at ph3
     refine Run.exit (tq_exit (bq_exit ?_))
     refine Run.seq (Run.reg [.w, .p] ?_)
     refine .W rfl (q_callO Tryz.call136 rfl (bldString_ok 7000 7001 _ _ hne rfl (by unfold big; omega) rfl) (.cons rfl rfl (.cons rfl rfl .nil)) rfl rfl) <| .ag rfl rfl <| .nil ?_
     refine Run.ret (?_)
     exact ret1 rfl (Sub.str (by first | (have e : lo = [] := List.length_eq_zero_iff.mp (by omega); rw [e] at ht; rw [← ht]; simp [padAll_nil]; done) | (simp [← ht, padAll_nil]; done) | grind [textM]))
  ·have ph2 := h2
   try simp only [bs, bne_iff_ne, ne_eq, List.length_map] at ph2
   refine Run.skip ?_
   refine Run.seq (Run.reg [.p, .p, .p, .p, .p, .p, .p, .w] ?_)
   refine .mv rfl rfl <| .mv rfl rfl <| .P rfl (q_lenI Tryz.underlying114 rfl) <| .P rfl (q_sub rfl rfl (wrap64_ok (by first | omega | (simp; done) | (simp; omega) | (simp at *; omega)) (by first | omega | (simp; done) | (simp; omega) | (simp at *; omega)))) <| .P rfl (q_indexI Tryz.underlying114 Tryz.sizeOf171 rfl rfl (by simp; omega) (idx_lastN (pre := cutM m) (rest := []) (by simp) (by omega) (by simp))) <| .P rfl (q_loadI Tryz.isAgg171 rfl) <| .P rfl (q_call Tryz.call134 rfl (formatUint_ok _ (by have := hcm _ (last_mem (l := cutM m) (by omega)); unfold gB at this; omega))) <| .W rfl (q_callO Tryz.call133 rfl (bldWriteString_ok _ _ (by first | (simp; done) | (simp; omega))) (.cons rfl rfl (.cons rfl rfl .nil)) rfl rfl) <| .nil ?_
   refine Run.weak (Le.mk (obs' := [(0, _), (7000, _), (7002, _)]) rfl (show EnvLe _ _ [(0, _), (1, _), (2, _), (7, _), (8, _), (9, _), (3, _), (10, _), (11, _), (12, _), (4, _), (13, _), (14, _), (16, _), (17, _), (18, _), (19, _), (20, _), (21, _), (22, _)] from (.same rfl rfl (.same rfl rfl (.same rfl rfl (.same rfl rfl (.same rfl rfl (.same rfl rfl (.same rfl rfl (.same rfl rfl (.same rfl rfl (.same rfl rfl (.same rfl rfl (.same rfl rfl (.same rfl rfl (.same rfl rfl (.same rfl rfl (.same rfl rfl (.same rfl rfl (.same rfl rfl (.same rfl rfl (.same rfl rfl .nil))))))))))))))))))))) (.cons (i := 0) rfl rfl (.cons (i := 7000) rfl rfl (.cons (i := 7002) rfl rfl .nil)))) ?_
   refine Run.seq (Run.seq (Run.reg [.p, .p, .p, .p] ?_))
   refine .mv rfl rfl <| .P rfl (q_lenI Tryz.underlying114 rfl) <| .P rfl (q_sub rfl rfl (wrap64_ok (by first | omega | (simp; done) | (simp; omega) | (simp at *; omega)) (by first | omega | (simp; done) | (simp; omega) | (simp at *; omega)))) <| .ag rfl rfl <| .nil ?_
   refine Run.block ?_
   refine Run.loop (ι := text_ok_L0 neg m) (fun sx => [(1, .box 0 0), (3, sMag (cutM m)), (4, .box 7000 0), (5, .i ((sx.lo.length : Int) - 1))]) (fun sx => [(0, .cells (encNum neg m)), (7000, .bld 7001 sx.st.length), (7001, .ba sx.st)]) (fun sx => sx.lo.length) ⟨(cutM m).dropLast, [lastN (cutM m)], [] ++ Lib.decDigits (lastN (cutM m)), dropLast_eq (by omega), by unfold textM; rw [if_neg (by omega)]; simp at *; simp [*], by simp [dec_ne], by have := dec9 (hcm _ (last_mem (l := cutM m) (by omega))); simp; omega⟩ ?_ ?_
   ·exact (Le.mk (obs' := [(0, _), (7000, _), (7002, _)]) rfl (show EnvLe _ _ [(1, _), (3, _), (4, _), (5, _)] from (.same rfl rfl (.same rfl rfl (.same rfl rfl (.same rfl rfl .nil))))) (.cons (i := 0) rfl rfl (.cons (i := 7000) rfl rfl (.cons (i := 7002) rfl rfl .nil)))).trans <| (Le.renB 7000 7002 7001 rfl rfl (by simp) rfl).trans <| Le.mk rfl (.same rfl rfl (.same rfl rfl (.same rfl rfl (.cons rfl Sub.intA rfl .nil)))) (.cons rfl rfl (.eq rfl (by first | rfl | (simp; done) | (simp; omega)) rfl (.eq rfl (by first | rfl | (simp; done) | (simp; omega)) rfl .nil)))
   ·rintro ⟨lo, hi, st, hx, ht, hne, hst⟩
    show Run _ _ _ _ [(1, .box 0 0), (3, sMag (cutM m)), (4, .box 7000 0), (5, .i ((lo.length : Int) - 1))] [(0, .cells (encNum neg m)), (7000, .bld 7001 st.length), (7001, .ba st)]
    have hxl := congrArg List.length hx
    simp only [List.length_append] at hxl
    have hy : lo.length ≠ 0 → lastN lo < gB := fun h => hcm _ (by rw [hx]; exact List.mem_append_left _ (last_mem h))
    have hd9 : lo.length ≠ 0 → (Lib.decDigits (lastN lo)).length ≤ 9 := fun h => dec9 (hy h)
    refine Run.seq (Run.seq (Run.reg [.p, .p] ?_))
    refine .mv rfl rfl <| .P rfl (q_geq rfl rfl) <| .nil ?_
    refine Run.cond rfl (fun h4 => ?_) (fun h4 => ?_)
    ·have ph4 := h4
     try simp only [bs, bne_iff_ne, ne_eq, List.length_map] at ph4
     refine Run.skip ?_
     refine Run.seq ?_
     refine Run.block ?_
     refine Run.seq (Run.reg [.p, .p, .p, .p, .p, .p] ?_)
     refine .mv rfl rfl <| .mv rfl rfl <| .P rfl (q_indexI Tryz.underlying114 Tryz.sizeOf171 rfl rfl (by omega) (idx_lastN hx (by omega) rfl)) <| .P rfl (q_loadI Tryz.isAgg171 rfl) <| .P rfl (q_call Tryz.call134 rfl (formatUint_ok _ (by unfold gB at hy; omega))) <| .ag rfl rfl <| .nil ?_
     refine Run.reg [.p, .p, .p, .p, .p, .p, .w] ?_
     refine .mv rfl rfl <| .P rfl (q_lenS Tryz.underlying9 rfl) <| .P rfl (q_sub rfl rfl (wrap64_ok (by first | omega | (simp; done) | (simp; omega) | (simp at *; omega)) (by first | omega | (simp; done) | (simp; omega) | (simp at *; omega)))) <| .P rfl (q_call Tryz.call135 rfl (repeat0_ok _ (by first | assumption | omega | (simp at *; omega)) (by first | assumption | omega | (simp at *; omega)))) <| .mv rfl rfl <| .P rfl (q_addS rfl rfl (by unfold big; simp; omega) rfl) <| .W rfl (q_callO Tryz.call133 rfl (bldWriteString_ok _ _ (by first | (simp; done) | (simp; omega))) (.cons rfl rfl (.cons rfl rfl .nil)) rfl rfl) <| .nil ?_
     refine Run.nil (bq_norm ?_)
     refine Run.weak (Le.mk (obs' := [(0, _), (7000, _), (7002, _)]) rfl (show EnvLe _ _ [(1, _), (3, _), (4, _), (5, _), (27, _), (28, _), (31, _), (32, _), (33, _), (34, _), (35, _), (6, _), (36, _), (37, _), (38, _), (39, _), (40, _), (41, _)] from (.same rfl rfl (.same rfl rfl (.same rfl rfl (.same rfl rfl (.same rfl rfl (.same rfl rfl (.same rfl rfl (.same rfl rfl (.same rfl rfl (.same rfl rfl (.same rfl rfl (.same rfl rfl (.same rfl rfl (.same rfl rfl (.same rfl rfl (.same rfl rfl (.same rfl rfl (.same rfl rfl .nil))))))))))))))))))) (.cons (i := 0) rfl rfl (.cons (i := 7000) rfl rfl (.cons (i := 7002) rfl rfl .nil)))) ?_
     refine Run.reg [.p, .p, .p] ?_
     refine .mv rfl rfl <| .P rfl (q_sub rfl rfl (wrap64_ok (by first | omega | (simp; done) | (simp; omega) | (simp at *; omega)) (by first | omega | (simp; done) | (simp; omega) | (simp at *; omega)))) <| .ag rfl rfl <| .nil ?_
     refine Run.nil (tq_norm ?_)
     exact ⟨⟨lo.dropLast, lastN lo :: hi, st ++ (List.replicate (9 - (Lib.decDigits (lastN lo)).length) 48 ++ Lib.decDigits (lastN lo)), by rw [hx]; conv => { lhs; rw [dropLast_eq (l := lo) (by omega)] }; simp, by rw [← ht, padAll_step (lo := lo) (by omega)]; simp [pad9], by simp [hne], by simp; omega⟩, by simp; omega, (Le.mk (obs' := [(0, _), (7000, _), (7002, _)]) rfl (show EnvLe _ _ [(1, _), (3, _), (4, _), (5, _)] from (.same rfl rfl (.same rfl rfl (.same rfl rfl (.same rfl rfl .nil))))) (.cons (i := 0) rfl rfl (.cons (i := 7000) rfl rfl (.cons (i := 7002) rfl rfl .nil)))).trans <| (Le.renB 7000 7002 7001 rfl rfl (by simp) rfl).trans <| Le.mk rfl (.same rfl rfl (.same rfl rfl (.same rfl rfl (.cons rfl Sub.intA rfl .nil)))) (.cons rfl rfl (.eq rfl (by first | rfl | (simp; done) | (simp; omega)) rfl (.eq rfl (by first | rfl | (simp; done) | (simp; omega)) rfl .nil)))⟩
    ·have ph4 := h4
     try simp only [bs, bne_iff_ne, ne_eq, List.length_map] at ph4
     refine Run.exit (tq_exit (bq_exit ?_))
     refine Run.seq (Run.reg [.w, .p] ?_)
     refine .W rfl (q_callO Tryz.call136 rfl (bldString_ok 7000 7001 _ _ hne rfl (by unfold big; omega) rfl) (.cons rfl rfl (.cons rfl rfl .nil)) rfl rfl) <| .ag rfl rfl <| .nil ?_
     refine Run.ret (?_)
     exact ret1 rfl (Sub.str (by first | (have e : lo = [] := List.length_eq_zero_iff.mp (by omega); rw [e] at ht; rw [← ht]; simp [padAll_nil]; done) | (simp [← ht, padAll_nil]; done) | grind [textM]))
end Go.T
