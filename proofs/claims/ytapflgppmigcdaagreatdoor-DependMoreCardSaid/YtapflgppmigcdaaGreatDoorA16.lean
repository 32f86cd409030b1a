/-
  Contracts of the functions that the statement reaches, and the logic in which they are proved (no condition): parts Core56, SpecD15, SpecD16, SpecD17, Core57, SpecD18, Core60, SpecD19, W99, Core58, Core59, W100, W101, W102, W103, W104.
-/
import Derived.Test.YtapflgppmigcdaaGreatDoorA15
set_option linter.all false
namespace Go.T
open Go
variable [Noise]
variable {P : Program} {env : Env} {dst : Option Tmp} {ty : TypeId} {pos : String} {aft : Array Edge} {g : Option (Nat × Bool)}
theorem fam_hid {own : Obs} {f : Fam} {i : Nat} (h : own.get i = none) (hi : Nat.blt i 1000 = true) : Obs.get (own ++ famO f) i = none := by
 rw [Obs.get_append, h]; exact fam_free f i (by simpa [Nat.blt_eq] using hi)
theorem rest_append (pre : Obs) : ∀ (a b : Obs), Obs.rest (a ++ b) pre = Obs.rest a pre ++ Obs.rest b pre
 | [], b => rfl
 | (t, d) :: a, b => by
  rw [List.cons_append]
  simp only [Obs.rest]
  cases pre.has t with
  | true => rw [cond_true, cond_true]; exact rest_append pre a b
  | false => rw [cond_false, cond_false, rest_append pre a b]; rfl
theorem rest_none {pre : Obs} : ∀ {b : Obs}, (∀ p ∈ b, pre.has p.1 = false) → Obs.rest b pre = b
 | [], _ => rfl
 | (t, d) :: b, h => by
  simp only [Obs.rest]
  rw [h (t, d) List.mem_cons_self, cond_false, rest_none fun p hp => h p (List.mem_cons_of_mem _ hp)]
theorem lo_has {pre : Obs} (hin : inLo 0 pre = true) {i : Nat} (hi : 100 ≤ i) : pre.has i = false := by
 cases h : pre.has i with
 | false => rfl
 | true => have := inLo_has hin i h; omega
theorem fam_ids {f : Fam} {p : Nat × Ob} (h : p ∈ famO f) : 1000 ≤ p.1 := by
 obtain ⟨e, he, rfl⟩ := List.mem_map.1 h
 exact (f.lo e he).1
theorem q_callOF {fn : FuncId} {xs : List Operand} {tys : Array TypeId} {ds : List D} {r : D} {pre post own : Obs} {f : Fam}
  (hcall : ∀ (args : Array Value) (w : World), (callFunc fn args).run P w = .ok (.enter fn args) w) (hx : env.opsD xs = some ds) (hf : FcO P fn ds pre r post) (hin : inLo 0 pre = true) (hip : inLo 0 post = true) (hle : ObsLe pre (own ++ famO f) pre) (hds : D.okB.okL pre.has ds = true) (hdis : disjB post (own.rest pre) = true) :
  QStep P ⟨dst, .call ⟨.value (.func fn), xs.toArray, tys⟩, ty, pos, aft, g⟩ env (own ++ famO f) r (post ++ (own.rest pre ++ famO f)) := by
 have e1 : Obs.rest (own ++ famO f) pre = own.rest pre ++ famO f := by
  rw [rest_append, rest_none (b := famO f) fun p hp => lo_has hin (by have := fam_ids hp; omega)]
 have e2 : disjB post (own.rest pre ++ famO f) = true := by
  unfold disjB at hdis ⊢
  rw [List.all_eq_true] at hdis ⊢
  intro p hp
  have h1 := hdis p hp
  have h2 := inLo_has hip p.1 (has_mem (List.mem_map.2 ⟨p, hp, rfl⟩))
  simp only [Bool.not_eq_true', Obs.has, Obs.get_append] at h1 ⊢
  cases h3 : Obs.get (own.rest pre) p.1 with
  | some o => rw [h3] at h1; simp at h1
  | none => simp [fam_free f p.1 (by omega)]
 have := q_callO (dst := dst) (ty := ty) (pos := pos) (aft := aft) (g := g) (tys := tys) (obs := own ++ famO f) hcall hx hf hle hds (by rw [e1]; exact e2)
 rw [e1] at this
 exact this
theorem q_callOE1 {fn : FuncId} {xs : List Operand} {tys : Array TypeId} {ds : List D} {r : D} {own : Obs} {f : Fam} {e : FE} {o' : Ob} (he : e ∈ f.ents) (hin : inLo 0 own = true)
  (hcall : ∀ (args : Array Value) (w : World), (callFunc fn args).run P w = .ok (.enter fn args) w) (hx : env.opsD xs = some ds) (hf : FcO P fn ds [(e.id, e.ob)] r [(e.id, o')]) (hds : D.okB.okL (Obs.has [(e.id, e.ob)]) ds = true) :
  QStep P ⟨dst, .call ⟨.value (.func fn), xs.toArray, tys⟩, ty, pos, aft, g⟩ env (own ++ famO f) r ((e.id, o') :: Obs.rest (own ++ famO f) [(e.id, e.ob)]) :=
 q_callO hcall hx hf (.cons (fam_tail (own' := own) f hin _ _ (famO_get f he)).1 (by unfold FE.ob; split <;> rfl) .nil) hds (by
  simp only [disjB, List.all_cons, List.all_nil, Bool.and_true, Bool.not_eq_true']
  cases h : Obs.has (Obs.rest (own ++ famO f) [(e.id, e.ob)]) e.id with
  | false => rfl
  | true =>
   obtain ⟨x, hx⟩ := Obs.has_iff.1 h
   rw [Obs.get_rest] at hx
   simp [Obs.has, Obs.get_cons] at hx)
def killE : List FE → Nat → List FE
 | [], _ => []
 | e :: l, 0 => { e with live := false } :: l
 | e :: l, j + 1 => e :: killE l j
theorem killE_ids : ∀ (l : List FE) (j : Nat), (killE l j).map (·.id) = l.map (·.id)
 | [], _ => rfl
 | _ :: _, 0 => rfl
 | e :: l, j + 1 => by rw [killE, List.map_cons, killE_ids l j, List.map_cons]
theorem killE_m : ∀ (l : List FE) (j : Nat), (killE l j).map (fun e => (e.key, (e.id, e.rows.length))) = l.map (fun e => (e.key, (e.id, e.rows.length)))
 | [], _ => rfl
 | _ :: _, 0 => rfl
 | e :: l, j + 1 => by rw [killE, List.map_cons, killE_m l j, List.map_cons]
theorem killE_get : ∀ (l : List FE) (j i : Nat), (killE l j)[i]? = if i = j then (l[i]?).map (fun e => { e with live := false }) else l[i]?
 | [], _, i => by simp [killE]
 | e :: l, 0, 0 => by simp [killE]
 | e :: l, 0, i + 1 => by simp [killE]
 | e :: l, j + 1, 0 => by simp [killE]
 | e :: l, j + 1, i + 1 => by
  simp only [killE, List.getElem?_cons_succ, killE_get l j i, Nat.add_right_cancel_iff]
def Fam.kill (f : Fam) (j : Nat) : Fam := ⟨f.next, killE f.ents j, fun e h => by
 obtain ⟨e', h1, h2⟩ := List.mem_map.1 ((killE_ids f.ents j) ▸ List.mem_map.2 ⟨e, h, rfl⟩ : e.id ∈ f.ents.map (·.id))
 rw [← h2]; exact f.lo e' h1, by rw [killE_ids]; exact f.nd, f.hn⟩
theorem famM_kill (f : Fam) (j : Nat) : famM (f.kill j) = famM f := killE_m f.ents j
theorem kill_get (f : Fam) (j i : Nat) : (f.kill j).ents[i]? = if i = j then (f.ents[i]?).map (fun e => { e with live := false }) else f.ents[i]? := killE_get ..
theorem fam_kill {obs own' : Obs} {f : Fam} {j : Nat} {e : FE} (hj : f.ents[j]? = some e) (hd : obs.get e.id = some .dead) (ho : ∀ i x, i ≠ e.id → (famO f).get i = some x → obs.get i = some x) : ∀ i x, (famO (f.kill j)).get i = some x → obs.get i = some x ∧ x.okB (Obs.has (own' ++ famO (f.kill j))) = true := by
 intro i x h
 refine ⟨?_, fam_okb _ _ i x h⟩
 obtain ⟨e', he, rfl, rfl⟩ := famO_mem _ h
 obtain ⟨i', hi'⟩ := List.getElem?_of_mem he
 rw [kill_get] at hi'
 by_cases c : i' = j
 ·subst c
  rw [if_pos rfl, hj] at hi'
  cases hi'
  exact hd
 ·rw [if_neg c] at hi'
  have hm := List.mem_of_getElem? hi'
  refine ho _ _ (fun c2 => c ?_) (famO_get f hm)
  -- ids are distinct
  have h1 : (f.ents.map (·.id))[i']? = some e.id := by rw [List.getElem?_map, hi']; simp [c2]
  have h2 : (f.ents.map (·.id))[j]? = some e.id := by rw [List.getElem?_map, hj]; rfl
  obtain ⟨a1, b1⟩ := List.getElem?_eq_some_iff.1 h1
  obtain ⟨a2, b2⟩ := List.getElem?_eq_some_iff.1 h2
  have hp := List.pairwise_iff_getElem.1 f.nd
  rcases Nat.lt_trichotomy i' j with h3 | h3 | h3
  ·exact absurd (b1.trans b2.symm) (hp _ _ a1 a2 h3)
  ·exact h3
  ·exact absurd (b2.trans b1.symm) (hp _ _ a2 a1 h3)
end Go.T
namespace Go.T
open Go
theorem says_add {u : UM} {Ls : List (List Str)} (h : SaysU u Ls) (x : Str) : SaysU (addU u x) ([x] :: Ls) := by
 obtain ⟨a1, a2, a3, a4⟩ := addU_ok h.good x
 have kE : ∀ y, named ([x] :: Ls) y ↔ y = x ∨ named Ls y := fun y => by
  constructor
  ·rintro ⟨l, hl, hy⟩
   rcases List.mem_cons.1 hl with rfl | hl
   ·exact .inl (List.mem_singleton.1 hy)
   ·exact .inr ⟨l, hl, hy⟩
  ·rintro (rfl | ⟨l, hl, hy⟩)
   ·exact ⟨_, List.mem_cons_self, List.mem_singleton.2 rfl⟩
   ·exact ⟨l, List.mem_cons_of_mem _ hl, hy⟩
 have cE : ∀ {y z : Str}, Conn ([x] :: Ls) y z → Conn Ls y z := fun hc => by
  induction hc with
  | refl x => exact .refl x
  | symm _ ih => exact .symm ih
  | trans _ _ ih ih' => exact .trans ih ih'
  | one hl hx hy =>
   rcases List.mem_cons.1 hl with rfl | hl
   ·rw [List.mem_singleton.1 hx, List.mem_singleton.1 hy]; exact .refl _
   ·exact .one hl hx hy
 have cU : ∀ {y z : Str}, Conn Ls y z → Conn ([x] :: Ls) y z := fun hc => hc.mono fun l hl => ⟨l, List.mem_cons_of_mem _ hl, fun _ => id⟩
 refine ⟨a1, fun y => (a2 y).trans ((or_congr Iff.rfl (h.keys y)).trans (kE y).symm), fun y z hy hz => ?_, addU_nd x h.nd⟩
 by_cases hyu : y ∈ keysU u <;> by_cases hzu : z ∈ keysU u
 ·rw [a3 y hyu, a3 z hzu]
  exact (h.conn y z hyu hzu).trans ⟨cU, cE⟩
 ·obtain rfl : z = x := ((a2 z).1 hz).resolve_right hzu
  rw [a3 y hyu, a4 hzu]
  obtain ⟨rk, hf⟩ := h.good.forest
  refine ⟨fun e => absurd ((hf.rep_key _ y rfl hyu).1) (by rw [e]; exact hzu), fun hc => ?_⟩
  rcases (cE hc).named with rfl | ⟨_, h2⟩
  ·exact absurd hyu hzu
  ·exact absurd ((h.keys _).2 h2) hzu
 ·obtain rfl : y = x := ((a2 y).1 hy).resolve_right hyu
  rw [a3 z hzu, a4 hyu]
  obtain ⟨rk, hf⟩ := h.good.forest
  refine ⟨fun e => absurd ((hf.rep_key _ z rfl hzu).1) (by rw [← e]; exact hyu), fun hc => ?_⟩
  rcases (cE hc).named with rfl | ⟨h2, _⟩
  ·exact absurd hzu hyu
  ·exact absurd ((h.keys _).2 h2) hyu
 ·obtain rfl : y = x := ((a2 y).1 hy).resolve_right hyu
  obtain rfl : z = y := ((a2 z).1 hz).resolve_right hzu
  exact ⟨fun _ => .refl _, fun _ => rfl⟩
def dayNames (l : List Fact) (k : Str) : List Str := ((l.filter fun f => decide (f.key = k)).map instrsS).flatten
theorem dayNames_snoc (l : List Fact) (x : Fact) (k : Str) : dayNames (l ++ [x]) k = dayNames l k ++ if x.key = k then instrsS x else [] := by
 unfold dayNames
 by_cases h : x.key = k
 ·simp [List.filter_append, h]
 ·simp [List.filter_append, h]
structure FamIs (fm : Fam) (l : List Fact) : Prop where
 live : ∀ e ∈ fm.ents, e.live = true
 rows : ∀ k, famR fm k = dayNames l k
 keys : ∀ k, k ∈ fm.ents.map (·.key) ↔ k ∈ l.map (·.key)
 nd : (fm.ents.map (·.key)).Nodup
theorem famIs_nil : FamIs Fam.empty [] := ⟨by simp [Fam.empty], fun k => rfl, by simp [Fam.empty], by simp [Fam.empty]⟩
theorem setE_keys {k : Str} {i : Nat} {r : List Str} : ∀ (l : List FE) (y : Str), y ∈ (setE l k i r).map (·.key) ↔ y = k ∨ y ∈ l.map (·.key)
 | [], y => by simp [setE]
 | e :: l, y => by
  simp only [setE]
  split
  ·rename_i c; subst c; simp
  ·simp only [List.map_cons, List.mem_cons, setE_keys l y]
   constructor
   ·rintro (h | h | h)
    ·exact .inr (.inl h)
    ·exact .inl h
    ·exact .inr (.inr h)
   ·rintro (h | h | h)
    ·exact .inr (.inl h)
    ·exact .inl h
    ·exact .inr (.inr h)
theorem setE_nd {k : Str} {i : Nat} {r : List Str} : ∀ (l : List FE), (l.map (·.key)).Nodup → ((setE l k i r).map (·.key)).Nodup
 | [], _ => by simp [setE]
 | e :: l, h => by
  rw [List.map_cons, List.nodup_cons] at h
  simp only [setE]
  split
  ·rename_i c; subst c; rw [List.map_cons, List.nodup_cons]; exact h
  ·rename_i c
   rw [List.map_cons, List.nodup_cons]
   refine ⟨fun h2 => ?_, setE_nd l h.2⟩
   rcases (setE_keys l _).1 h2 with h3 | h3
   ·exact c h3.symm
   ·exact h.1 h3
theorem famF_add (f : Fam) (k : Str) (new : List Str) (y : Str) : famR (f.add k new) y = if y = k then famR f k ++ new else famR f y := by
 have key : ∀ (r : List Str) (i : Nat) (l : List FE), ((((setE l k i r).find? fun e => decide (y = e.key)).map (·.rows)).getD []) = if y = k then r else (((l.find? fun e => decide (y = e.key)).map (·.rows)).getD []) := by
  intro r i l
  induction l with
  | nil =>
   simp only [setE, List.find?_cons]
   by_cases c : y = k <;> simp [c]
  | cons e l ih =>
   simp only [setE]
   by_cases c : k = e.key
   ·rw [if_pos c]
    by_cases d : y = k
    ·rw [List.find?_cons_of_pos (by simpa using d)]; simp [d]
    ·rw [List.find?_cons_of_neg (by simpa using d), List.find?_cons_of_neg (by simpa [← c] using d), if_neg d]
   ·rw [if_neg c]
    by_cases d : y = e.key
    ·rw [List.find?_cons_of_pos (by simpa using d), List.find?_cons_of_pos (by simpa using d), if_neg (fun (e2 : y = k) => c (e2.symm.trans d))]
    ·rw [List.find?_cons_of_neg (by simpa using d), List.find?_cons_of_neg (by simpa using d), ih]
 exact key _ _ _
theorem FamIs.add {fm : Fam} {l : List Fact} (h : FamIs fm l) (x : Fact) : FamIs (fm.add x.key (instrsS x)) (l ++ [x]) := by
 refine ⟨fun e he => ?_, fun k => ?_, fun k => ?_, setE_nd _ h.nd⟩
 ·rcases setE_mem he with he | rfl
  ·exact h.live e he
  ·rfl
 ·rw [famF_add, dayNames_snoc, h.rows k, h.rows x.key]
  by_cases c : k = x.key
  ·rw [if_pos c, if_pos c.symm, c]
  ·rw [if_neg c, if_neg (fun e => c e.symm), List.append_nil]
 ·have := setE_keys (k := x.key) (i := fm.next) (r := famR fm x.key ++ instrsS x) fm.ents k
  show k ∈ (setE _ _ _ _).map (·.key) ↔ _
  rw [this, h.keys k]
  simp [or_comm]
theorem okB_fam (own : Obs) (f : Fam) : (Ob.mp (encGM D.str gsD (famM f))).okB (Obs.has (own ++ famO f)) = true := by
 have hid : ∀ e ∈ f.ents, Obs.has (own ++ famO f) e.id = true := fun e he => by
  have h1 := famO_get f he
  simp only [Obs.has, Obs.get_append]
  cases own.get e.id <;> simp [h1]
 have key : ∀ (l : List FE), (∀ e ∈ l, Obs.has (own ++ famO f) e.id = true) → (Ob.mp (encGM D.str gsD (l.map fun e => (e.key, (e.id, e.rows.length))))).okB (Obs.has (own ++ famO f)) = true := by
  intro l hl
  induction l with
  | nil => rfl
  | cons e l ih =>
   have h1 := ih fun e he => hl e (List.mem_cons_of_mem _ he)
   have h2 := hl e List.mem_cons_self
   simp only [Ob.okB, encGM, List.map_cons, D.okB.okL, D.okB, Bool.and_eq_true, Bool.true_and] at h1 ⊢
   exact ⟨h1.1, h2, h1.2⟩
 exact key f.ents hid
def killAll (f : Fam) (seen : List Nat) : Fam := seen.foldl Fam.kill f
theorem killAll_snoc (f : Fam) (seen : List Nat) (j : Nat) : killAll f (seen ++ [j]) = (killAll f seen).kill j := by simp [killAll]
theorem famM_killAll (seen : List Nat) : ∀ f : Fam, famM (killAll f seen) = famM f := by
 induction seen with
 | nil => intro f; rfl
 | cons j seen ih => intro f; show famM (killAll (f.kill j) seen) = _; rw [ih, famM_kill]
theorem killAll_get (seen : List Nat) : ∀ (f : Fam) (j : Nat), j ∉ seen → (killAll f seen).ents[j]? = f.ents[j]? := by
 induction seen with
 | nil => intro f j _; rfl
 | cons i seen ih =>
  intro f j hj
  show (killAll (f.kill i) seen).ents[j]? = _
  rw [ih _ _ (fun h => hj (List.mem_cons_of_mem _ h)), kill_get, if_neg (fun (h : j = i) => hj (h ▸ List.mem_cons_self))]
theorem famM_at {f : Fam} {j : Nat} {k : Str} {v : Nat × Nat} (h : (famM f)[j]? = some (k, v)) : ∃ e, f.ents[j]? = some e ∧ e.key = k ∧ v = (e.id, e.rows.length) := by
 unfold famM at h
 rw [List.getElem?_map, Option.map_eq_some_iff] at h
 obtain ⟨e, h1, h2⟩ := h
 cases h2
 exact ⟨e, h1, rfl, rfl⟩
def rowsAt (f : Fam) (j : Nat) : Option (List Str) := (f.ents[j]?).map (·.rows)
theorem rowsAt_snoc {f : Fam} {seen : List Nat} {j : Nat} {e : FE} (h : f.ents[j]? = some e) : (seen ++ [j]).filterMap (rowsAt f) = seen.filterMap (rowsAt f) ++ [e.rows] := by
 simp [List.filterMap_append, rowsAt, h]
theorem SaysU.perm {u : UM} {Ls Ls' : List (List Str)} (h : SaysU u Ls) (hp : ∀ l, l ∈ Ls ↔ l ∈ Ls') : SaysU u Ls' :=
 h.mono (fun l hl => ⟨l, (hp l).1 hl, fun _ => id⟩) (fun l hl => ⟨l, (hp l).2 hl, fun _ => id⟩)
theorem SaysU.join {u : UM} {Ls : List (List Str)} (h : SaysU u Ls) (l : List Str) : SaysU (joinU u l) (Ls ++ [l]) := (says_join h l).perm fun x => by simp [or_comm]
theorem SaysU.add {u : UM} {Ls : List (List Str)} (h : SaysU u Ls) (x : Str) : SaysU (addU u x) (Ls ++ [[x]]) := (says_add h x).perm fun y => by simp [or_comm]
def divLists (s : Setup) (l : List Fact) : List (List Str) := (s.insts.map fun x => [x.id]) ++ l.map instrsS ++ l.map fun f => dayNames l f.key
theorem ent_rows {fm : Fam} {l : List Fact} (h : FamIs fm l) {j : Nat} {e : FE} (hj : fm.ents[j]? = some e) : e.rows = dayNames l e.key := by
 have he := List.mem_of_getElem? hj
 rw [← h.rows e.key]
 unfold famR famF
 have : fm.ents.find? (fun x => decide (e.key = x.key)) = some e := by
  have hn := h.nd
  revert he hn
  induction fm.ents with
  | nil => intro he; cases he
  | cons a r ih =>
   intro he hn
   rw [List.map_cons, List.nodup_cons] at hn
   rcases List.mem_cons.1 he with rfl | he
   ·rw [List.find?_cons_of_pos (by simp)]
   ·rw [List.find?_cons_of_neg, ih he hn.2]
    simp only [decide_eq_true_eq]
    intro c
    exact hn.1 (c ▸ List.mem_map.2 ⟨e, he, rfl⟩)
 rw [this]; rfl
theorem divLists_end {s : Setup} {l : List Fact} {fm : Fam} {u : UM} {seen : List Nat} (h : FamIs fm l) (hall : ∀ j, j < (famM fm).length → j ∈ seen)
  (hu : SaysU u ((s.insts.map fun x => [x.id]) ++ l.map instrsS ++ seen.filterMap (rowsAt fm))) : SaysU u (divLists s l) := by
 refine hu.perm fun x => ?_
 unfold divLists
 rw [List.mem_append, List.mem_append (s := _ ++ _)]
 refine or_congr Iff.rfl ?_
 rw [List.mem_filterMap, List.mem_map]
 constructor
 ·rintro ⟨j, _, hj⟩
  unfold rowsAt at hj
  obtain ⟨e, h1, rfl⟩ := Option.map_eq_some_iff.1 hj
  have hk := (h.keys e.key).1 (List.mem_map.2 ⟨e, List.mem_of_getElem? h1, rfl⟩)
  obtain ⟨f, hf, e2⟩ := List.mem_map.1 hk
  exact ⟨f, hf, by rw [e2, ent_rows h h1]⟩
 ·rintro ⟨f, hf, rfl⟩
  obtain ⟨e, he, e2⟩ := List.mem_map.1 ((h.keys f.key).2 (List.mem_map.2 ⟨f, hf, rfl⟩))
  obtain ⟨j, hj⟩ := List.getElem?_of_mem he
  refine ⟨j, hall j (by unfold famM; rw [List.length_map]; exact (List.getElem?_eq_some_iff.1 hj).1), ?_⟩
  unfold rowsAt
  rw [hj]
  show some e.rows = _
  rw [ent_rows h hj, e2]
theorem day_len {l : List Fact} {n : Nat} (h : ∀ f ∈ l, f.opts.length ≤ n) (k : Str) : (dayNames l k).length ≤ l.length * (2 + n) := by
 induction l with
 | nil => simp [dayNames]
 | cons f r ih =>
  have h1 := ih fun g hg => h g (List.mem_cons_of_mem _ hg)
  have h2 := instrs_len f
  have h3 := h f List.mem_cons_self
  have e : dayNames (f :: r) k = (if f.key = k then instrsS f else []) ++ dayNames r k := by
   unfold dayNames
   by_cases c : f.key = k <;> simp [c]
  rw [e, List.length_append, List.length_cons, Nat.add_mul, Nat.one_mul]
  split
  ·omega
  ·simp; omega
theorem leS_trans (a b c : Str) : decide (a ≤ b) = true → decide (b ≤ c) = true → decide (a ≤ c) = true := by
 simp only [decide_eq_true_eq]; exact List.le_trans
theorem leS_total (a b : Str) : (decide (a ≤ b) || decide (b ≤ a)) = true := by
 simp only [Bool.or_eq_true, decide_eq_true_eq]; exact List.le_total a b
theorem sortN_pw (l : List Str) : (sortN l).Pairwise fun a b => a ≤ b := (List.pairwise_mergeSort leS_trans leS_total l).imp fun h => of_decide_eq_true h
theorem sorted_eq {a b : List Str} (h : a.Perm b) (ha : a.Pairwise fun x y => x ≤ y) (hb : b.Pairwise fun x y => x ≤ y) : a = b :=
 List.Perm.eq_of_pairwise (fun _ _ _ _ h1 h2 => List.le_antisymm h1 h2) ha hb h
theorem sortN_perm_eq {a b : List Str} (h : a.Perm b) : sortN a = sortN b :=
 sorted_eq ((sortN_perm a).trans (h.trans (sortN_perm b).symm)) (sortN_pw a) (sortN_pw b)
theorem perm_of_mem {a b : List Str} (ha : a.Nodup) (hb : b.Nodup) (h : ∀ x, x ∈ a ↔ x ∈ b) : a.Perm b := (List.perm_ext_iff_of_nodup ha hb).2 h
noncomputable def classU (u : UM) (x : Str) : List Str := sortN ((keysU u).filter fun y => decide (rootU u y = rootU u x))
noncomputable def leadU (u : UM) (x : Str) : Bool := (keysU u).all fun y => decide (rootU u y = rootU u x → x ≤ y)
noncomputable def groupsU (u : UM) : List (List Str) := (sortN ((keysU u).filter (leadU u))).map (classU u)
theorem says_same {u u' : UM} {Ls : List (List Str)} (h : SaysU u Ls) (h' : SaysU u' Ls) : groupsU u = groupsU u' := by
 have hp : (keysU u).Perm (keysU u') := perm_of_mem h.nd h'.nd fun x => (h.keys x).trans (h'.keys x).symm
 have hm : ∀ x, x ∈ keysU u ↔ x ∈ keysU u' := fun x => hp.mem_iff
 have hr : ∀ x ∈ keysU u, ∀ y ∈ keysU u, (rootU u y = rootU u x ↔ rootU u' y = rootU u' x) := fun x hx y hy => (h.conn y x hy hx).trans (h'.conn y x ((hm y).1 hy) ((hm x).1 hx)).symm
 have hl : ∀ x ∈ keysU u, leadU u x = leadU u' x := fun x hx => by
  rw [Bool.eq_iff_iff]
  unfold leadU
  simp only [List.all_eq_true, decide_eq_true_eq]
  constructor
  ·intro g y hy e; exact g y ((hm y).2 hy) ((hr x hx y ((hm y).2 hy)).2 e)
  ·intro g y hy e; exact g y ((hm y).1 hy) ((hr x hx y hy).1 e)
 have e1 : sortN ((keysU u).filter (leadU u)) = sortN ((keysU u').filter (leadU u')) := by
  refine sortN_perm_eq ?_
  rw [List.filter_congr hl]
  exact hp.filter _
 unfold groupsU
 rw [← e1]
 refine List.map_congr_left fun x hx => ?_
 have hx' : x ∈ keysU u := (List.mem_filter.1 ((sortN_perm _).mem_iff.1 hx)).1
 unfold classU
 refine sortN_perm_eq ?_
 rw [List.filter_congr (q := fun y => decide (rootU u' y = rootU u' x)) fun y hy => by rw [decide_eq_decide]; exact hr x hx' y hy]
 exact hp.filter _
open Classical in
noncomputable def groupsL (Ls : List (List Str)) : List (List Str) := if h : ∃ u, SaysU u Ls then groupsU (Classical.choose h) else []
theorem groups_eq {u : UM} {Ls : List (List Str)} (h : SaysU u Ls) : groupsU u = groupsL Ls := by
 have hx : ∃ u, SaysU u Ls := ⟨u, h⟩
 unfold groupsL
 rw [dif_pos hx]
 exact says_same h (Classical.choose_spec hx)
abbrev encGroups (l : List (List Str)) : D := .snap 1 false ([.raw (.slice none 0 0)] :: l.map fun r => [D.snap 1 false (rowsS r)])
end Go.T
namespace Go.T
open Go
theorem famA_get' {own : Obs} {f : Fam} {k : Str} {new : List Str} {o' o : Ob} (i : Nat) (h : own.get i = some o) (h1 : Nat.beq i 61 = false) (h2 : Nat.blt i 99 = true) : Obs.get ((99, .arr 1 []) :: (famA own f k new).set 61 o') i = some o := by
 have h1 : i ≠ 61 := fun e => by subst e; simp at h1
 have h2 : i < 99 := by simpa [Nat.blt_eq] using h2
 rw [Obs.get_cons, if_neg (by omega), Obs.get_set, if_neg (by omega), famA_get h2]
 exact own_fam h
theorem famA_get61 {own : Obs} {f : Fam} {k : Str} {new : List Str} {o' : Ob} : Obs.get ((99, .arr 1 []) :: (famA own f k new).set 61 o') 61 = some o' := by
 rw [Obs.get_cons, if_neg (by omega), Obs.get_set, if_pos rfl]
theorem okB_famK {f : Fam} (own : Obs) (seen : List Nat) : (Ob.mp (encGM D.str gsD (famM f))).okB (Obs.has (own ++ famO (killAll f seen))) = true := by
 have := okB_fam own (killAll f seen)
 rw [famM_killAll] at this
 exact this
theorem fam_at {own : Obs} {f : Fam} {j : Nat} {e : FE} (hin : inLo 0 own = true) (hj : f.ents[j]? = some e) (hl : e.live = true) : Obs.get (own ++ famO f) e.id = some (.arr 1 (rowsS e.rows)) := by
 have h1 := famO_get f (List.mem_of_getElem? hj)
 have := own_get hin (fam_free' f) _ _ h1
 rw [this]; unfold FE.ob; rw [if_pos hl]
theorem fam_set {own : Obs} {f : Fam} {j : Nat} {e : FE} {o : Ob} (i : Nat) (hj : f.ents[j]? = some e) (h : own.get i = some o) (hi : Nat.blt i 1000 = true) : Obs.get ((own ++ famO f).set e.id .dead) i = some o := by
 have := (f.lo e (List.mem_of_getElem? hj)).1
 have hi : i < 1000 := by simpa [Nat.blt_eq] using hi
 rw [Obs.get_set, if_neg (by omega)]
 exact own_fam h
theorem fam_kill2 {own own' : Obs} {f : Fam} {j : Nat} {e : FE} (hin : inLo 0 own = true) (hj : f.ents[j]? = some e) : ∀ i x, (famO (f.kill j)).get i = some x → Obs.get ((own ++ famO f).set e.id .dead) i = some x ∧ x.okB (Obs.has (own' ++ famO (f.kill j))) = true :=
 fam_kill hj (by rw [Obs.get_set, if_pos rfl]) fun i x hi h => by
  rw [Obs.get_set, if_neg (fun c => hi c.symm)]
  exact own_get hin (fam_free' f) _ _ h
structure GrpIs (fm : Fam) (u : UM) (ks : List Str) : Prop where
 live : ∀ e ∈ fm.ents, e.live = true
 rows : ∀ r, famR fm r = ks.filter fun k => decide (rootU u k = r)
 keys : ∀ r, r ∈ fm.ents.map (·.key) ↔ ∃ k ∈ ks, rootU u k = r
 nd : (fm.ents.map (·.key)).Nodup
theorem grpIs_nil (u : UM) : GrpIs Fam.empty u [] := ⟨by simp [Fam.empty], fun k => rfl, by simp [Fam.empty], by simp [Fam.empty]⟩
theorem GrpIs.add {fm : Fam} {u : UM} {ks : List Str} (h : GrpIs fm u ks) (x : Str) : GrpIs (fm.add (rootU u x) [x]) u (ks ++ [x]) := by
 refine ⟨fun e he => ?_, fun r => ?_, fun r => ?_, setE_nd _ h.nd⟩
 ·rcases setE_mem he with he | rfl
  ·exact h.live e he
  ·rfl
 ·rw [famF_add, h.rows, h.rows, List.filter_append]
  by_cases c : r = rootU u x
  ·rw [if_pos c, ← c]; congr 1; simp [c]
  ·rw [if_neg c]
   have : ¬ rootU u x = r := fun e => c e.symm
   simp [this]
 ·show r ∈ (setE _ _ _ _).map (·.key) ↔ _
  rw [setE_keys, h.keys r]
  constructor
  ·rintro (rfl | ⟨k, hk, e⟩)
   ·exact ⟨x, by simp, rfl⟩
   ·exact ⟨k, by simp [hk], e⟩
  ·rintro ⟨k, hk, e⟩
   rcases List.mem_append.1 hk with hk | hk
   ·exact .inr ⟨k, hk, e⟩
   ·left; rw [List.mem_singleton.1 hk] at e; exact e.symm
theorem grp_rows {fm : Fam} {u : UM} {ks : List Str} (h : GrpIs fm u ks) {j : Nat} {e : FE} (hj : fm.ents[j]? = some e) : e.rows = ks.filter fun k => decide (rootU u k = e.key) := by
 have he := List.mem_of_getElem? hj
 rw [← h.rows e.key]
 unfold famR famF
 have : fm.ents.find? (fun x => decide (e.key = x.key)) = some e := by
  have hn := h.nd
  revert he hn
  induction fm.ents with
  | nil => intro he; cases he
  | cons a r ih =>
   intro he hn
   rw [List.map_cons, List.nodup_cons] at hn
   rcases List.mem_cons.1 he with rfl | he
   ·rw [List.find?_cons_of_pos (by simp)]
   ·rw [List.find?_cons_of_neg, ih he hn.2]
    simp only [decide_eq_true_eq]
    intro c
    exact hn.1 (c ▸ List.mem_map.2 ⟨e, he, rfl⟩)
 rw [this]; rfl
theorem sortN_head {l : List Str} (h : l ≠ []) : (sortN l).headD [] ∈ l ∧ ∀ y ∈ l, (sortN l).headD [] ≤ y := by
 have hp := sortN_perm l
 have hw := sortN_pw l
 cases e : sortN l with
 | nil =>
  rw [e] at hp
  exact absurd (List.length_eq_zero_iff.1 hp.length_eq.symm) h
 | cons a r =>
  rw [e] at hp hw
  refine ⟨hp.mem_iff.1 List.mem_cons_self, fun y hy => ?_⟩
  rcases List.mem_cons.1 (hp.mem_iff.2 hy) with rfl | hy
  ·exact List.le_refl _
  ·exact (List.pairwise_cons.1 hw).1 y hy
theorem class_mem {u : UM} {x : Str} (hx : x ∈ keysU u) : x ∈ (keysU u).filter fun y => decide (rootU u y = rootU u x) := List.mem_filter.2 ⟨hx, by simp⟩
theorem class_head {u : UM} {x : Str} (hx : x ∈ keysU u) (hl : leadU u x = true) : (classU u x).headD [] = x := by
 have hne : ((keysU u).filter fun y => decide (rootU u y = rootU u x)) ≠ [] := List.ne_nil_of_mem (class_mem hx)
 obtain ⟨h1, h2⟩ := sortN_head hne
 obtain ⟨h3, h4⟩ := List.mem_filter.1 h1
 unfold leadU at hl
 simp only [List.all_eq_true, decide_eq_true_eq] at hl
 exact List.le_antisymm (h2 x (class_mem hx)) (hl _ h3 (of_decide_eq_true h4))
theorem mem_leads {u : UM} {x : Str} : x ∈ sortN ((keysU u).filter (leadU u)) ↔ x ∈ keysU u ∧ leadU u x = true := by
 rw [mem_sortN, List.mem_filter]
theorem groups_heads (u : UM) : (groupsU u).map (·.headD []) = sortN ((keysU u).filter (leadU u)) := by
 unfold groupsU
 rw [List.map_map]
 conv => rhs; rw [← List.map_id (sortN ((keysU u).filter (leadU u)))]
 refine List.map_congr_left fun x hx => ?_
 have := mem_leads.1 hx
 exact class_head this.1 this.2
def gathered (fm : Fam) (seen : List Nat) : List (List Str) := seen.filterMap fun j => (fm.ents[j]?).map fun e => sortN e.rows
theorem gathered_snoc {fm : Fam} {seen : List Nat} {j : Nat} {e : FE} (h : fm.ents[j]? = some e) : gathered fm (seen ++ [j]) = gathered fm seen ++ [sortN e.rows] := by
 simp [gathered, List.filterMap_append, h]
theorem grp_filter {u : UM} {ks : List Str} (hp : ks.Perm (keysU u)) (r : Str) : sortN (ks.filter fun k => decide (rootU u k = r)) = sortN ((keysU u).filter fun k => decide (rootU u k = r)) := sortN_perm_eq (hp.filter _)
theorem mem_gathered {fm : Fam} {u : UM} {ks : List Str} {seen : List Nat} (h : GrpIs fm u ks) (hp : ks.Perm (keysU u)) {l : List Str} (hl : l ∈ gathered fm seen) : ∃ x ∈ keysU u, leadU u x = true ∧ l = classU u x := by
 unfold gathered at hl
 obtain ⟨j, _, hj⟩ := List.mem_filterMap.1 hl
 obtain ⟨e, he, rfl⟩ := Option.map_eq_some_iff.1 hj
 obtain ⟨k, hk, hr⟩ := (h.keys e.key).1 (List.mem_map.2 ⟨e, List.mem_of_getElem? he, rfl⟩)
 rw [grp_rows h he, grp_filter hp, ← hr]
 have hk' : k ∈ keysU u := hp.mem_iff.1 hk
 have hne : ((keysU u).filter fun y => decide (rootU u y = rootU u k)) ≠ [] := List.ne_nil_of_mem (class_mem hk')
 obtain ⟨h1, h2⟩ := sortN_head hne
 generalize (sortN ((keysU u).filter fun y => decide (rootU u y = rootU u k))).headD [] = x at h1 h2
 obtain ⟨h3, h4⟩ := List.mem_filter.1 h1
 have h4 : rootU u x = rootU u k := by simpa using h4
 refine ⟨x, h3, ?_, by unfold classU; rw [h4]⟩
 unfold leadU
 simp only [List.all_eq_true, decide_eq_true_eq]
 exact fun y hy e => h2 y (List.mem_filter.2 ⟨hy, by simpa [h4] using e⟩)
theorem gathered_mem {fm : Fam} {u : UM} {ks : List Str} {seen : List Nat} (h : GrpIs fm u ks) (hp : ks.Perm (keysU u)) (hall : ∀ j, j < (famM fm).length → j ∈ seen) {x : Str} (hx : x ∈ keysU u) : classU u x ∈ gathered fm seen := by
 obtain ⟨e, he, hk⟩ := List.mem_map.1 ((h.keys (rootU u x)).2 ⟨x, hp.mem_iff.2 hx, rfl⟩)
 obtain ⟨j, hj⟩ := List.getElem?_of_mem he
 unfold gathered
 refine List.mem_filterMap.2 ⟨j, hall j (by unfold famM; rw [List.length_map]; exact (List.getElem?_eq_some_iff.1 hj).1), ?_⟩
 rw [hj]
 show some (sortN e.rows) = _
 rw [grp_rows h hj, grp_filter hp, hk]
 rfl
theorem head_root {u : UM} {x : Str} (hx : x ∈ keysU u) : rootU u ((classU u x).headD []) = rootU u x := by
 have hne : ((keysU u).filter fun y => decide (rootU u y = rootU u x)) ≠ [] := List.ne_nil_of_mem (class_mem hx)
 exact of_decide_eq_true (List.mem_filter.1 (sortN_head hne).1).2
theorem gathered_roots {fm : Fam} {u : UM} {ks : List Str} (h : GrpIs fm u ks) (hp : ks.Perm (keysU u)) (seen : List Nat) : (gathered fm seen).map (fun l => rootU u (l.headD [])) = seen.filterMap fun j => (fm.ents[j]?).map (·.key) := by
 unfold gathered
 rw [List.map_filterMap]
 congr 1
 funext j
 cases hj : fm.ents[j]? with
 | none => rfl
 | some e =>
  simp only [Option.map_some, Option.some.injEq]
  obtain ⟨k, hk, hr⟩ := (h.keys e.key).1 (List.mem_map.2 ⟨e, List.mem_of_getElem? hj, rfl⟩)
  rw [grp_rows h hj, grp_filter hp, ← hr]
  exact head_root (hp.mem_iff.1 hk)
theorem gathered_nd {fm : Fam} {u : UM} {ks : List Str} (h : GrpIs fm u ks) (hp : ks.Perm (keysU u)) {seen : List Nat} (hs : seen.Nodup) : ((gathered fm seen).map (·.headD [])).Nodup := by
 have h1 : ((gathered fm seen).map (fun l => rootU u (l.headD []))).Nodup := by
  rw [gathered_roots h hp]
  refine List.Pairwise.filterMap _ (fun i j hij a ha b hb e => hij ?_) hs
  obtain ⟨x, hx, rfl⟩ := Option.map_eq_some_iff.1 ha
  obtain ⟨y, hy, rfl⟩ := Option.map_eq_some_iff.1 hb
  have h1 : (fm.ents.map (·.key))[i]? = some x.key := by rw [List.getElem?_map, hx]; rfl
  have h2 : (fm.ents.map (·.key))[j]? = some x.key := by rw [List.getElem?_map, hy]; exact congrArg some e.symm
  obtain ⟨a1, b1⟩ := List.getElem?_eq_some_iff.1 h1
  obtain ⟨a2, b2⟩ := List.getElem?_eq_some_iff.1 h2
  have hq := List.pairwise_iff_getElem.1 h.nd
  rcases Nat.lt_trichotomy i j with h3 | h3 | h3
  ·exact absurd (b1.trans b2.symm) (hq _ _ a1 a2 h3)
  ·exact h3
  ·exact absurd (b2.trans b1.symm) (hq _ _ a2 a1 h3)
 have h2 : (((gathered fm seen).map (·.headD [])).map (rootU u)).Nodup := by rw [List.map_map]; exact h1
 exact (List.pairwise_map.1 h2).imp fun hne e => hne (congrArg _ e)
theorem gathered_perm {fm : Fam} {u : UM} {ks : List Str} {seen : List Nat} (h : GrpIs fm u ks) (hp : ks.Perm (keysU u)) (hn : (keysU u).Nodup) (hs : seen.Nodup) (hall : ∀ j, j < (famM fm).length → j ∈ seen) : (groupsU u).Perm (gathered fm seen) := by
 have n1 : (groupsU u).Nodup := by
  have : ((groupsU u).map (·.headD [])).Nodup := by
   rw [groups_heads]
   exact (sortN_perm _).nodup_iff.2 (hn.filter _)
  exact (List.pairwise_map.1 this).imp fun hne e => hne (by rw [e])
 have n2 : (gathered fm seen).Nodup := (List.pairwise_map.1 (gathered_nd h hp hs)).imp fun hne e => hne (by rw [e])
 refine (List.perm_ext_iff_of_nodup n1 n2).2 fun l => ?_
 constructor
 ·intro hl
  unfold groupsU at hl
  obtain ⟨x, hx, rfl⟩ := List.mem_map.1 hl
  exact gathered_mem h hp hall (mem_leads.1 hx).1
 ·intro hl
  obtain ⟨x, hx, h1, rfl⟩ := mem_gathered h hp hl
  unfold groupsU
  exact List.mem_map.2 ⟨x, mem_leads.2 ⟨hx, h1⟩, rfl⟩
theorem gathered_ne {fm : Fam} {u : UM} {ks : List Str} {seen : List Nat} (h : GrpIs fm u ks) (hp : ks.Perm (keysU u)) : ∀ l ∈ gathered fm seen, l ≠ [] := fun l hl => by
 obtain ⟨x, hx, _, rfl⟩ := mem_gathered h hp hl
 have : x ∈ classU u x := by unfold classU; rw [mem_sortN]; exact class_mem hx
 exact List.ne_nil_of_mem this
theorem groups_sorted (u : UM) : ((groupsU u).map (·.headD [])).Pairwise fun a b => a ≤ b := by rw [groups_heads]; exact sortN_pw _
theorem has_one {i j : Nat} {o : Ob} (h : i ≠ j) : Obs.has [(i, o)] j = false := by
 show (Obs.get [(i, o)] j).isSome = false
 rw [Obs.get_cons, if_neg h]; rfl
theorem get_self {i : Nat} {o : Ob} {r : Obs} : Obs.get ((i, o) :: r) i = some o := by rw [Obs.get_cons, if_pos rfl]
abbrev famE (own : Obs) (f : Fam) (e : FE) (o' : Ob) : Obs := (e.id, o') :: Obs.rest (own ++ famO f) [(e.id, e.ob)]
theorem fam_sk_get {own : Obs} {f : Fam} {j : Nat} {e : FE} {o' o : Ob} (i : Nat) (hj : f.ents[j]? = some e) (h : own.get i = some o) (hi : Nat.blt i 1000 = true) : Obs.get ((famE own f e o').set e.id .dead) i = some o := by
 have := (f.lo e (List.mem_of_getElem? hj)).1
 have hi : i < 1000 := by simpa [Nat.blt_eq] using hi
 rw [Obs.get_set, if_neg (by omega), Obs.get_cons, if_neg (by omega), Obs.get_rest]
 have : Obs.has [(e.id, e.ob)] i = false := has_one (by omega)
 rw [this]; exact own_fam h
theorem fam_sk_kill {own own' : Obs} {f : Fam} {j : Nat} {e : FE} {o' : Ob} (hin : inLo 0 own = true) (hj : f.ents[j]? = some e) : ∀ i x, (famO (f.kill j)).get i = some x → Obs.get ((famE own f e o').set e.id .dead) i = some x ∧ x.okB (Obs.has (own' ++ famO (f.kill j))) = true :=
 fam_kill hj (by rw [Obs.get_set, if_pos rfl]) fun i x hi h => by
  rw [Obs.get_set, if_neg (fun c => hi c.symm), Obs.get_cons, if_neg (fun c => hi c.symm), Obs.get_rest]
  have : Obs.has [(e.id, e.ob)] i = false := has_one fun c => hi c.symm
  rw [this]; exact own_get hin (fam_free' f) _ _ h
def keyAtU (u : UM) (j : Nat) : Option Str := (u[j]?).map (·.1)
theorem keyAtU_snoc {u : UM} {seen : List Nat} {j : Nat} {k v : Str} (h : u[j]? = some (k, v)) : (seen ++ [j]).filterMap (keyAtU u) = seen.filterMap (keyAtU u) ++ [k] := by
 simp [List.filterMap_append, keyAtU, h]
theorem keyAtU_mem {u : UM} {j : Nat} {k v : Str} (h : u[j]? = some (k, v)) : k ∈ keysU u := List.mem_map.2 ⟨(k, v), List.mem_of_getElem? h, rfl⟩
theorem keysU_perm {u : UM} {seen : List Nat} (hn : (keysU u).Nodup) (hs : seen.Nodup) (hall : ∀ j, j < u.length → j ∈ seen) : (seen.filterMap (keyAtU u)).Perm (keysU u) := by
 have n1 : (seen.filterMap (keyAtU u)).Nodup := by
  refine List.Pairwise.filterMap _ (fun i j hij a ha b hb e => hij ?_) hs
  have h1 : (keysU u)[i]? = some a := by unfold keysU; rw [List.getElem?_map]; exact ha
  have h2 : (keysU u)[j]? = some a := by unfold keysU; rw [List.getElem?_map, e]; exact hb
  obtain ⟨a1, b1⟩ := List.getElem?_eq_some_iff.1 h1
  obtain ⟨a2, b2⟩ := List.getElem?_eq_some_iff.1 h2
  have hq := List.pairwise_iff_getElem.1 hn
  rcases Nat.lt_trichotomy i j with h3 | h3 | h3
  ·exact absurd (b1.trans b2.symm) (hq _ _ a1 a2 h3)
  ·exact h3
  ·exact absurd (b2.trans b1.symm) (hq _ _ a2 a1 h3)
 refine (List.perm_ext_iff_of_nodup n1 hn).2 fun k => ?_
 constructor
 ·intro h
  obtain ⟨j, _, hj⟩ := List.mem_filterMap.1 h
  obtain ⟨p, hp, rfl⟩ := Option.map_eq_some_iff.1 hj
  exact List.mem_map.2 ⟨p, List.mem_of_getElem? hp, rfl⟩
 ·intro h
  obtain ⟨p, hp, rfl⟩ := List.mem_map.1 h
  obtain ⟨j, hj⟩ := List.getElem?_of_mem hp
  exact List.mem_filterMap.2 ⟨j, hall j (List.getElem?_eq_some_iff.1 hj).1, by unfold keyAtU; rw [hj]; rfl⟩
theorem keyAtU_len (u : UM) (seen : List Nat) : (seen.filterMap (keyAtU u)).length ≤ seen.length := List.length_filterMap_le _ _
theorem mem_dayNames {l : List Fact} {k x : Str} (h : x ∈ dayNames l k) : ∃ f ∈ l, x ∈ instrsS f := by
 unfold dayNames at h
 obtain ⟨r, hr, hx⟩ := List.mem_flatten.1 h
 obtain ⟨f, hf, rfl⟩ := List.mem_map.1 hr
 exact ⟨f, (List.mem_filter.1 hf).1, hx⟩
theorem div_named {s : Setup} {l : List Fact} {x : Str} (h : named (divLists s l) x) : x ∈ (s.insts.map (·.id)) ++ (l.map instrsS).flatten := by
 obtain ⟨r, hr, hx⟩ := h
 unfold divLists at hr
 rw [List.mem_append, List.mem_append] at hr
 rw [List.mem_append]
 rcases hr with (hr | hr) | hr
 ·obtain ⟨i, hi, rfl⟩ := List.mem_map.1 hr
  left; rw [List.mem_singleton.1 hx]; exact List.mem_map.2 ⟨i, hi, rfl⟩
 ·exact .inr (List.mem_flatten.2 ⟨r, hr, hx⟩)
 ·obtain ⟨f, hf, rfl⟩ := List.mem_map.1 hr
  obtain ⟨f', hf', hx'⟩ := mem_dayNames hx
  exact .inr (List.mem_flatten.2 ⟨_, List.mem_map.2 ⟨f', hf', rfl⟩, hx'⟩)
theorem flatI_len {l : List Fact} {n : Nat} (h : ∀ f ∈ l, f.opts.length ≤ n) : (l.map instrsS).flatten.length ≤ l.length * (2 + n) := by
 induction l with
 | nil => simp
 | cons f r ih =>
  have h1 := ih fun g hg => h g (List.mem_cons_of_mem _ hg)
  have h2 := instrs_len f
  have h3 := h f List.mem_cons_self
  rw [List.map_cons, List.flatten_cons, List.length_append, List.length_cons, Nat.add_mul, Nat.one_mul]
  omega
theorem div_len {s : Setup} {l : List Fact} {u : UM} (hu : SaysU u (divLists s l)) (hi : s.insts.length ≤ 1000) (hl : l.length ≤ 500) (ho : ∀ f ∈ l, f.opts.length ≤ 1000) : u.length ≤ 1000000 := by
 have h1 := List.Nodup.length_le_of_subset hu.nd (l₂ := (s.insts.map (·.id)) ++ (l.map instrsS).flatten) (fun x hx => div_named ((hu.keys x).1 hx))
 have h2 := flatI_len ho
 have h3 : l.length * (2 + 1000) ≤ 500 * 1002 := Nat.mul_le_mul_right _ hl
 simp only [keysU, List.length_map, List.length_append] at h1
 omega
theorem div_okS {s : Setup} {l : List Fact} {u : UM} (hu : SaysU u (divLists s l)) (hi : ∀ x ∈ s.insts, okStr x.id) (ho : ∀ f ∈ l, ∀ n ∈ instrNames f, okStr n) : ∀ k ∈ keysU u, okStr k := fun k hk => by
 have := div_named ((hu.keys k).1 hk)
 rcases List.mem_append.1 this with h | h
 ·obtain ⟨x, hx, rfl⟩ := List.mem_map.1 h
  exact hi x hx
 ·obtain ⟨r, hr, hx⟩ := List.mem_flatten.1 h
  obtain ⟨f, hf, rfl⟩ := List.mem_map.1 hr
  exact ho f hf k (mem_instrs.1 hx).1
open Go.Proofs Go.Proofs.Tryz
set_option maxRecDepth 20000
structure divide_ok_L0 (s : Setup) (l : List Fact) where
 pre : List Inst
 rest : List Inst
 u : UM
 hx : s.insts = pre ++ rest
 hu : SaysU u (pre.map fun x => [x.id])
structure divide_ok_L1 (s : Setup) (l : List Fact) where
 pre : List Fact
 rest : List Fact
 u : UM
 fm : Fam
 hx : l = pre ++ rest
 hu : SaysU u ((s.insts.map fun x => [x.id]) ++ pre.map instrsS)
 hfm : FamIs fm pre
structure divide_ok_L2 (s : Setup) (l : List Fact) (fm : Fam) where
 seen : List Nat
 u3 : UM
 hnd : seen.Nodup
 hu3 : SaysU u3 (((s.insts.map fun x => [x.id]) ++ l.map instrsS) ++ seen.filterMap (rowsAt fm))
theorem divide_ok (s : Setup) (l : List Fact) (hi6 : s.insts.length ≤ 1000) (hio : ∀ x ∈ s.insts, okStr x.id) (hl6 : l.length ≤ 500) (hfo : ∀ f ∈ l, f.opts.length ≤ 1000 ∧ ∀ s ∈ instrNames f, okStr s) (hgr : ∀ u, GoodU u → (keysU u).Nodup → (∀ k ∈ keysU u, okStr k) → u.length ≤ 1000000 → FcO Tryz.prog 92 [.mapr 60] [(60, .mp (encGM D.str D.str u))] (encGroups (groupsU u)) [(60, .mp (encGM D.str D.str u))]) : Fc Tryz.prog 45 [.agg (encSetup s), sFacts l] (encGroups (groupsL (divLists s l))) := by
 refine Fc.mk' [4] func45 rfl ntmps45 rfl rfl rfl (fun t w => results_tmp results45 t _ w) ?_
 refine Run.seq (Run.reg [.w, .p] ?_)
 refine .W rfl (q_boxA 0 rfl rfl) <| .ag rfl rfl <| .nil ?_
 refine Run.weak (Le.freezeB 2 0 rfl rfl rfl rfl) ?_
 refine Run.seq (Run.reg [.w, .w, .p, .p] ?_)
 refine .W rfl (q_makeMapG 60 D.str (D.str) rfl) <| .W rfl (q_makeMapG 61 D.str (gsD) rfl) <| .ag rfl rfl <| .ag rfl rfl <| .nil ?_
 refine Run.seq (Run.seq (Run.reg [.p, .p, .p, .p] ?_))
 refine .P rfl (q_fieldI (n := 0) 23 1 underlying30 sizeOf23 rfl rfl rfl) <| .P rfl (qLo isAgg23 rfl) <| .P rfl (qLe underlying23 rfl) <| .mv rfl rfl <| .nil ?_
 refine Run.block ?_
 refine Run.loop (ι := divide_ok_L0 s l) (fun sx => [(1, sFacts l), (5, .mapr 60), (6, .mapr 61), (17, sInsts s.insts), (18, .i s.insts.length), (19, .i sx.pre.length)]) (fun sx => [(60, .mp (encGM D.str D.str sx.u)), (61, .mp (encGM D.str gsD (famM Fam.empty)))]) (fun sx => sx.rest.length) ⟨[], _, [], rfl, says_nil⟩ ?_ ?_
 ·exact Le.mk rfl (.s rfl rfl (.s rfl rfl (.s rfl rfl (.s rfl rfl (.cons rfl (Sub.int (by simp)) rfl (.s rfl rfl .nil)))))) (.eq rfl (by rfl) (okB_SM _ _) (.cons rfl rfl .nil))
 ·rintro ⟨pre, rest, u, hx, hu⟩
  show Run _ _ _ _ [(1, sFacts l), (5, .mapr 60), (6, .mapr 61), (17, sInsts s.insts), (18, .i s.insts.length), (19, .i pre.length)] [(60, .mp (encGM D.str D.str u)), (61, .mp (encGM D.str gsD (famM Fam.empty)))]
  have hl := congrArg List.length hx
  simp only [List.length_append] at hl
  rcases rest with _ | ⟨x, rest⟩
  ·skip
   refine Run.seq (Run.reg [.p] ?_)
   refine .P rfl (q_lss rfl rfl) <| .nil ?_
   refine Run.seq ?_
   refine Run.condF rfl (by simp at hl ⊢; omega) ?_
   refine Run.exit (tX0 (bX0 ?_))
   refine Run.seq (Run.seq (Run.reg [.p, .p, .p] ?_))
   refine .mv rfl rfl <| .P rfl (qLe underlying31 rfl) <| .mv rfl rfl <| .nil ?_
   refine Run.block ?_
   refine Run.loop (ι := divide_ok_L1 s l) (fun sx => [(1, sFacts l), (5, .mapr 60), (6, .mapr 61), (28, sFacts l), (29, .i l.length), (30, .i sx.pre.length)]) (fun sx => ([(60, .mp (encGM D.str D.str sx.u)), (61, .mp (encGM D.str gsD (famM sx.fm))), (99, .arr 1 [])] ++ famO sx.fm)) (fun sx => sx.rest.length) ⟨[], _, u, Fam.empty, rfl, (by have e : pre = s.insts := (by simp [hx]); rw [← e]; simpa using hu), famIs_nil⟩ ?_ ?_
   ·exact (Le.own0 99 1).trans <| Le.mk rfl (.s rfl rfl (.s rfl rfl (.s rfl rfl (.s rfl rfl (.cons rfl (Sub.int (by simp)) rfl (.s rfl rfl .nil)))))) (.eq rfl (by rfl) (okB_SM _ _) (.eq rfl (by rfl) (okB_fam _ _) (.arr rfl (by simp) (.tail (fun _ _ h => nomatch (show (none : Option Ob) = some _ from h))))))
   ·rintro ⟨pre, rest, u, fm, hx, hu, hfm⟩
    show Run _ _ _ _ [(1, sFacts l), (5, .mapr 60), (6, .mapr 61), (28, sFacts l), (29, .i l.length), (30, .i pre.length)] ([(60, .mp (encGM D.str D.str u)), (61, .mp (encGM D.str gsD (famM fm))), (99, .arr 1 [])] ++ famO fm)
    have hl := congrArg List.length hx
    simp only [List.length_append] at hl
    rcases rest with _ | ⟨x, rest⟩
    ·obtain rfl : l = pre := by simpa using hx
     refine Run.seq (Run.reg [.p] ?_)
     refine .P rfl (q_lss rfl rfl) <| .nil ?_
     refine Run.seq ?_
     refine Run.condF rfl (by simp) ?_
     refine Run.exit (tX0 (bX0 ?_))
     refine Run.seq (Run.seq (Run.reg [.p, .w] ?_))
     refine .mv rfl rfl <| .W rfl (q_rangeG unKey (vD := gsD) 62 underlying129 rfl rfl (fam_hid (own := [(60, _), (61, _), (99, _)]) rfl rfl)) <| .nil ?_
     refine Run.block ?_
     refine Run.loop (ι := divide_ok_L2 s l fm) (fun sx => [(5, .mapr 60), (50, .box 62 0)]) (fun sx => ([(62, .mi 61 (famM fm).length sx.seen), (60, .mp (encGM D.str D.str sx.u3)), (61, .mp (encGM D.str gsD (famM fm))), (99, .arr 1 [])] ++ famO (killAll fm sx.seen))) (fun sx => unseen (famM fm).length sx.seen) ⟨[], u, List.nodup_nil, (by simpa using hu)⟩ ?_ ?_
     ·exact Le.mk rfl (.s rfl rfl (.s rfl rfl .nil)) (.cons rfl rfl (.eq rfl (by rfl) (okB_SM _ _) (.eq rfl (by rfl) (okB_famK _ _) (.arr rfl (by simp) (.tail (fam_tail (own := [(62, _), (60, _), (61, _), (99, _)]) (own' := [(62, _), (60, _), (61, _), (99, _)]) _ rfl))))))
     ·rintro ⟨seen, u3, hnd, hu3⟩
      show Run _ _ _ _ [(5, .mapr 60), (50, .box 62 0)] ([(62, .mi 61 (famM fm).length seen), (60, .mp (encGM D.str D.str u3)), (61, .mp (encGM D.str gsD (famM fm))), (99, .arr 1 [])] ++ famO (killAll fm seen))
      refine Run.seq (Run.regT ?_)
      refine Tx.n rfl trivial (q_nextG unKey (vD := gsD) rfl rfl rfl) (fun nb hnb => ?_)
      rcases nb with _ | ⟨nj, nk, nv⟩
      ·dsimp only [nextGD, nextIO, nextGO]
       refine Tx.q rfl trivial (qEx rfl rfl _) ?_
       refine Tx.nil ?_
       refine Run.seq ?_
       refine Run.condF rfl rfl ?_
       refine Run.exit (tX0 (bX0 ?_))
       have hD := divLists_end hfm hnb hu3
       refine Run.seq (Run.reg [.p, .w, .p] ?_)
       refine .mv rfl rfl <| .W rfl (q_callOF (own := [(62, _), (60, _), (61, _), (99, _)]) call92 rfl (hgr _ hD.good hD.nd (div_okS hD hio (fun f hf => (hfo f hf).2)) (div_len hD hi6 hl6 (fun f hf => (hfo f hf).1))) rfl rfl (.cons rfl (okB_SM _ _) .nil) rfl rfl) <| .ag rfl rfl <| .nil ?_
       refine Run.ret (?_)
       exact ret1 rfl (Sub.snap (by (rw [groups_eq (divLists_end hfm hnb hu3)])))
      ·dsimp only [nextGD, nextIO, nextGO]
       refine Tx.q rfl trivial (qEx rfl rfl _) ?_
       refine Tx.nil ?_
       refine Run.seq ?_
       refine Run.condT rfl rfl ?_
       refine Run.skip ?_
       refine Run.block ?_
       obtain ⟨e, he, rfl, rfl⟩ := famM_at (And.left hnb)
       have hek : (killAll fm seen).ents[nj]? = some e := (killAll_get _ _ _ (And.right hnb)).trans he
       have hlv : e.live = true := hfm.live e (List.mem_of_getElem? he)
       refine Run.seq (Run.reg [.r, .p, .p] ?_)
       refine .R rfl (q_entryG unKey (vD := gsD) rfl rfl rfl (And.left hnb)) <| .P rfl (qEx rfl rfl) <| .ag rfl rfl <| .nil ?_
       refine Run.weak ((Le.freeze 13 e.id rfl (fam_at (own := [(62, _), (60, _), (61, _), (99, _)]) rfl hek hlv) (by simp)).trans (Le.mk (env' := [(5, _), (13, _), (50, _)]) (obs' := [(62, _), (60, _), (61, _), (99, _)] ++ famO ((killAll fm seen).kill nj)) rfl ((.s rfl rfl (.s rfl rfl (.s rfl rfl .nil)))) (.cons (fam_set (own := [(62, _), (60, _), (61, _), (99, _)]) 62 hek rfl rfl) rfl (.cons (fam_set (own := [(62, _), (60, _), (61, _), (99, _)]) 60 hek rfl rfl) (okB_SM _ _) (.cons (fam_set (own := [(62, _), (60, _), (61, _), (99, _)]) 61 hek rfl rfl) (by rw [← killAll_snoc]; exact okB_famK _ (seen ++ [nj])) (.cons (fam_set (own := [(62, _), (60, _), (61, _), (99, _)]) 99 hek rfl rfl) rfl (.tail (fam_kill2 (own := [(62, _), (60, _), (61, _), (99, _)]) rfl hek)))))))) ?_
       rw [← killAll_snoc]
       refine Run.reg [.p, .p, .w] ?_
       refine .mv rfl rfl <| .mv rfl rfl <| .W rfl (q_callOF (own := [(62, _), (60, _), (61, _), (99, _)]) call91 rfl (join_ok _ (by exact hu3.good) _) rfl rfl (.cons rfl (okB_SM _ _) .nil) rfl rfl) <| .nil ?_
       refine Run.nil (bN0 ?_)
       refine Run.nil (tN0 ?_)
       exact ⟨⟨seen ++ [nj], joinU u3 e.rows, snoc_nd hnd (And.right hnb), by rw [rowsAt_snoc he, ← List.append_assoc]; exact hu3.join e.rows⟩, by exact unseen_lt ((List.getElem?_eq_some_iff.1 (And.left hnb)).1) (And.right hnb), Le.mk rfl (.s rfl rfl (.s rfl rfl .nil)) (.cons rfl rfl (.eq rfl (by rfl) (okB_SM _ _) (.eq rfl (by rfl) (okB_famK _ _) (.arr rfl (by simp) (.tail (fam_tail (own := [(60, _), (62, _), (61, _), (99, _)]) (own' := [(62, _), (60, _), (61, _), (99, _)]) _ rfl))))))⟩
    ·simp only [List.length_cons] at hl
     have hx1 := hfo x (by rw [hx]; simp)
     have hpr : ∀ f ∈ pre, f.opts.length ≤ 1000 := fun f hf => (hfo f (by rw [hx]; simp [hf])).1
     refine Run.seq (Run.reg [.p] ?_)
     refine .P rfl (q_lss rfl rfl) <| .nil ?_
     refine Run.seq ?_
     refine Run.condT rfl (by simp; omega) ?_
     refine Run.skip ?_
     refine Run.seq ?_
     refine Run.block ?_
     refine Run.seq (Run.reg [.p, .p, .w, .w] ?_)
     refine .P rfl (qIi underlying31 sizeOf39 rfl rfl (by omega) (iMd encFact hx rfl)) <| .P rfl (q_loadIA isAgg39 sizeOf39 rfl rfl) <| .W rfl (q_alloc 71 zeroValue39 (fam_hid (own := [(60, _), (61, _), (99, _)]) rfl rfl)) <| .W rfl (q_storeW sizeOf39 rfl rfl rfl rfl rfl rfl) <| .nil ?_
     refine Run.seq (Run.reg [.r, .p, .p] ?_)
     refine .R rfl (q_loadW isAgg39 sizeOf39 rfl rfl rfl) <| .P rfl (qCa call25 rfl (instrs_ok x (Nat.le_trans (hfo x (by rw [hx]; simp)).1 (by decide)) (hfo x (by rw [hx]; simp)).2)) <| .ag rfl rfl <| .nil ?_
     refine Run.seq (Run.reg [.p, .p, .w] ?_)
     refine .mv rfl rfl <| .mv rfl rfl <| .W rfl (q_callOF (own := [(71, _), (60, _), (61, _), (99, _)]) call91 rfl (join_ok _ (by exact hu.good) _) rfl rfl (.cons rfl (okB_SM _ _) .nil) rfl rfl) <| .nil ?_
     refine Run.weak (Le.freezeB 10 71 rfl rfl rfl rfl) ?_
     refine Run.regD [.p, .p, .p, .p, .p, .p, .r, .p, .w, .w] Tryz_mixed (by decide +kernel) ?_
     refine .mv rfl rfl <| .P rfl (q_fieldI (n := 0) 9 0 underlying39 sizeOf9 rfl rfl rfl) <| .P rfl (qLo isAgg9 rfl) <| .mv rfl rfl <| .P rfl (q_fieldI (n := 0) 9 0 underlying39 sizeOf9 rfl rfl rfl) <| .P rfl (qLo isAgg9 rfl) <| .R rfl (q_lookupFam unKey (f := fm) (k := x.key) underlying129 zeroValue48 rfl rfl rfl rfl) <| .mv rfl rfl <| .W rfl (q_appendFam (own := [(60, _), (71, _), (61, _), (99, _)]) (f := fm) (k := x.key) (new := instrsS x) (bt := 16) underlying48 underlying48 sizeOf9 typeInfo9 zeroValue9 rfl rfl rfl rfl rfl hfm.live rfl rfl (by have := instrs_len x; have := hx1.1; have := day_len hpr x.key; rw [hfm.rows]; omega)) <| .W rfl (qMu unKey (vD := gsD) (m := famM fm) (k := x.key) (v := (fm.next, (famR fm x.key).length + (instrsS x).length)) underlying129 rfl rfl rfl rfl rfl ((famA_get (own := [(60, _), (71, _), (61, _), (99, _)]) (by decide)).trans (own_fam (own := [(60, _), (71, _), (61, _), (99, _)]) rfl))) <| .nil ?_
     refine Run.nil (bN0 ?_)
     rw [famM_add]
     refine Run.weak (Le.own0 99 1) ?_
     refine Run.weak (Le.mk (env' := [(1, _), (5, _), (6, _), (28, _), (29, _), (30, _)]) (obs' := [(60, _), (61, _), (99, .arr 1 [])] ++ famO (fm.add x.key (instrsS x))) rfl (show EnvLe _ _ [(1, _), (5, _), (6, _), (28, _), (29, _), (30, _)] from (.s rfl rfl (.s rfl rfl (.s rfl rfl (.s rfl rfl (.s rfl rfl (.s rfl rfl .nil))))))) (.eq (famA_get' (own := [(60, _), (71, _), (61, _), (99, _)]) 60 rfl rfl rfl) rfl (okB_SM _ _) (.eq famA_get61 rfl (okB_fam _ _) (.cons rfl rfl (.tail (fam_step (own := [(60, _), (71, _), (61, _), (99, _)]) (by decide) rfl)))))) ?_
     refine Run.reg [.p, .p] ?_
     refine .P rfl (q_add rfl rfl (w64 (by omega))) <| .mv rfl rfl <| .nil ?_
     refine Run.nil (tN0 ?_)
     exact ⟨⟨pre ++ [x], rest, joinU u (instrsS x), fm.add x.key (instrsS x), by simp [hx], by have := hu.join (instrsS x); simpa using this, hfm.add x⟩, by simp, Le.mk rfl (.s rfl rfl (.s rfl rfl (.s rfl rfl (.s rfl rfl (.s rfl rfl (.cons rfl (Sub.int (by simp)) rfl .nil)))))) (.eq rfl (by rfl) (okB_SM _ _) (.eq rfl (by rfl) (okB_fam _ _) (.arr rfl (by simp) (.tail (fam_tail (own := [(60, _), (61, _), (99, _)]) (own' := [(60, _), (61, _), (99, _)]) _ rfl)))))⟩
  ·simp only [List.length_cons] at hl
   refine Run.seq (Run.reg [.p] ?_)
   refine .P rfl (q_lss rfl rfl) <| .nil ?_
   refine Run.seq ?_
   refine Run.condT rfl (by simp; omega) ?_
   refine Run.skip ?_
   refine Run.seq ?_
   refine Run.block ?_
   refine Run.seq (Run.reg [.p, .p, .w, .w] ?_)
   refine .P rfl (qIi underlying23 sizeOf65 rfl rfl (by omega) (iMd encInst hx rfl)) <| .P rfl (q_loadIA isAgg65 sizeOf65 rfl rfl) <| .W rfl (q_alloc 70 zeroValue65 rfl) <| .W rfl (q_storeW sizeOf65 rfl rfl rfl rfl rfl rfl) <| .nil ?_
   refine Run.reg [.p, .p, .r, .w] ?_
   refine .mv rfl rfl <| .P rfl (q_fieldB (n := 0) 9 0 underlying65 sizeOf9 rfl rfl) <| .R rfl (q_load1 isAgg9 rfl rfl rfl) <| .W rfl (q_callO call90 rfl (addU_walk _ _) (.cons rfl (okB_SM _ _) .nil) rfl rfl) <| .nil ?_
   refine Run.nil (bN0 ?_)
   refine Run.reg [.p, .p] ?_
   refine .P rfl (q_add rfl rfl (w64 (by omega))) <| .mv rfl rfl <| .nil ?_
   refine Run.nil (tN0 ?_)
   exact ⟨⟨pre ++ [x], rest, addU u x.id, by simp [hx], by have := hu.add x.id; simpa using this⟩, by simp, Le.mk rfl (.s rfl rfl (.s rfl rfl (.s rfl rfl (.s rfl rfl (.s rfl rfl (.cons rfl (Sub.int (by simp)) rfl .nil)))))) (.eq rfl (by rfl) (okB_SM _ _) (.cons rfl rfl .nil))⟩
end Go.T
namespace Go.T
open Go Go.Proofs Go.Shelf Go.RowKit Go.Lib Go.Sort
theorem Vr1_get {w : World} {O : Nat → Prop} {b : Nat} : ∀ (rows : List (List D)) (off : Nat), Vr w O b off 1 rows → ∀ (i : Nat) (d : D), rows[i]? = some [d] → ∃ u, w.cell? ⟨b, off + i, none⟩ = some u ∧ u.oneCell' = true ∧ V w O rho0 d u
 | [], _, _, i, d, h => by simp at h
 | r :: rows, off, hv, 0, d, h => by
  simp only [Vr] at hv
  simp only [List.getElem?_cons_zero, Option.some.injEq] at h
  subst h
  obtain ⟨⟨_, h1⟩, _⟩ := hv
  simp only [Vc] at h1
  obtain ⟨⟨u, ⟨h2, h3⟩, h4⟩, _⟩ := h1
  exact ⟨u, h2, h3, h4⟩
 | r :: rows, off, hv, i + 1, d, h => by
  simp only [Vr] at hv
  have := Vr1_get rows (off + 1) hv.2 i d (by simpa using h)
  rwa [show off + 1 + i = off + (i + 1) by omega] at this
theorem Vr1_mk {w : World} {O : Nat → Prop} {b : Nat} : ∀ (rows : List (List D)) (off : Nat), (∀ (i : Nat) (r : List D), rows[i]? = some r → ∃ d u, r = [d] ∧ w.cell? ⟨b, off + i, none⟩ = some u ∧ u.oneCell' = true ∧ V w O rho0 d u) → Vr w O b off 1 rows
 | [], _, _ => by simp [Vr]
 | r :: rows, off, h => by
  simp only [Vr]
  obtain ⟨d, u, rfl, h1, h2, h3⟩ := h 0 r rfl
  refine ⟨⟨rfl, ?_⟩, Vr1_mk rows (off + 1) fun i r hr => ?_⟩
  ·simp only [Vc]
   exact ⟨⟨u, ⟨by simpa using h1, h2⟩, h3⟩, trivial⟩
  ·have := h (i + 1) r (by simpa using hr)
   rwa [show off + (i + 1) = off + 1 + i by omega] at this
theorem ltN_cons (c d : UInt8) (r s : Str) : Str.lt (c :: r) (d :: s) = (decide (c.toNat < d.toNat) || (decide (c = d) && Str.lt r s)) := by
 show (decide (c < d) || (c == d && Op.bytesLess r s)) = _
 have h1 : decide (c < d) = decide (c.toNat < d.toNat) := by simp [UInt8.lt_iff_toNat_lt]
 have h2 : (c == d) = decide (c = d) := by rw [Bool.eq_iff_iff]; simp
 rw [h1, h2]; rfl
theorem ltN_iff : ∀ a b : Str, Str.lt a b = true ↔ a < b
 | [], [] => by simp [Str.lt, Op.bytesLess]
 | [], _ :: _ => by simp [Str.lt, Op.bytesLess]
 | _ :: _, [] => by simp [Str.lt, Op.bytesLess]
 | x :: a, y :: b => by
  rw [ltN_cons, List.cons_lt_cons_iff]
  have ih := ltN_iff a b
  simp only [Bool.or_eq_true, Bool.and_eq_true, decide_eq_true_eq, ih]
  rfl
theorem cmpT_neg (a b : Str) : (cmpT a b < 0) ↔ a < b := by
 unfold cmpT
 by_cases h : Str.lt a b = true
 ·rw [if_pos h]; exact ⟨fun _ => (ltN_iff a b).1 h, fun _ => by decide⟩
 ·rw [if_neg h]
  constructor
  ·intro h2
   split at h2 <;> simp at h2
  ·intro h2; exact absurd ((ltN_iff a b).2 h2) h
theorem heap_sortW {α : Type} [Inhabited α] {enc : α → Value} {w : World} {blk off m : Nat} {dk : Array α} {os : Array Obj} {b : Nat} (hb : b < w.heap.size) (hne : b ≠ blk) : (sortWorld enc w blk off m dk os).heap[b]? = w.heap[b]? := by
 unfold sortWorld putRow mapBlock Sort.grow Sort.ahead
 simp only
 rw [Array.getElem?_append_left (by simpa using hb), Array.getElem?_modify, if_neg (Ne.symm hne)]
theorem heap_sortB {α : Type} [Inhabited α] {enc : α → Value} {w : World} {blk off m : Nat} {dk : Array α} {os : Array Obj} {c : Array Value} {T : TypeId} {fr : Nat × Nat} (hb : w.heap[blk]? = some (.cells c T fr)) : (sortWorld enc w blk off m dk os).heap[blk]? = some (.cells (putCells enc off dk c) T fr) := by
 have hblk : blk < w.heap.size := (Array.getElem?_eq_some_iff.1 hb).1
 unfold sortWorld putRow mapBlock Sort.grow Sort.ahead
 simp only
 rw [Array.getElem?_append_left (by simpa using hblk), Array.getElem?_modify, if_pos rfl, hb]; rfl
theorem size_sortW {α : Type} [Inhabited α] (enc : α → Value) (w : World) (blk off m : Nat) (dk : Array α) (os : Array Obj) : w.heap.size ≤ (sortWorld enc w blk off m dk os).heap.size := by
 unfold sortWorld putRow mapBlock Sort.grow Sort.ahead
 simp
theorem sortD_FcO {P : Program} {f g : Nat}
  (total : ∀ {α : Type} [Inhabited α] (enc : α → Value) (_ : OneCell enc) (cf : α → α → Int) (_ : SWO (ltOf cf)) (blk off cap : Nat) (d : Array α) (w : World) (_ : CmpLays1 P g #[] enc cf blk off d.size w) (_ : Holds enc w blk off d) (_ : blk < w.heap.size) (_ : d.size < 4611686018427387904) (_ : ∀ x y, (ltOf cf) x y = false → (ltOf cf) y x = false → x = y),
   Calls P f #[.slice (some ⟨blk, off, none⟩) d.size cap, .func (.func g) #[] #[]] w fun e w' => e = .returned (.tuple #[]) ∧ ∃ n os, w' = sortWorld enc w blk off n (d.toList.mergeSort fun x y => !(ltOf cf) y x).toArray os)
  (none_ : ∀ (p : Option Addr) (cap : Nat) (fv : Value) (w : World), Calls P f #[.slice p 0 cap, fv] w fun e w' => e = .returned (.tuple #[]) ∧ w' = w)
  {β : Type} (dD : β → D) (key : β → Str) (id : Nat) (r0 : D) (l l2 : List β) (hl : l.length < 4611686018427387904) (hc : ∀ x ∈ l, ∀ y ∈ l, @Fc calm P g [dD x, dD y] (.i (cmpT (key x) (key y))))
  (hk : (l.map key).Nodup) (hp : l2.Perm l) (hs : (l2.map key).Pairwise fun a b => a ≤ b) :
  FcO P f [.osl id 1 l.length, .fn (.func g) [] []] [(id, .arr 1 ([r0] :: l.map fun x => [dD x]))] (.tup []) [(id, .arr 1 ([r0] :: l2.map fun x => [dD x]))] := ⟨fun w O ρ vals hok hgl hv => by
 simp only [Vs, V] at hv
 obtain ⟨v1, us, rfl, ⟨loc, cap, hloc, rfl, hcap⟩, v2, us', rfl, ⟨xs, ys, rfl, hxs, hys⟩, rfl⟩ := hv
 obtain rfl : xs = #[] := by rw [← Array.toArray_toList (xs := xs), hxs]
 obtain rfl : ys = #[] := by rw [← Array.toArray_toList (xs := ys), hys]
 have hlen2 : l2.length = l.length := hp.length_eq
 have hget : Obs.get [(id, Ob.arr 1 ([r0] :: l.map fun x => [dD x]))] id = some (.arr 1 ([r0] :: l.map fun x => [dD x])) := by simp [Obs.get]
 obtain ⟨l', h3, hnO, c, T, hb, hsz, hln, hvr⟩ := hok.own id _ hget rfl
 rw [hloc] at h3; cases h3
 have hblk : loc.b < w.heap.size := (Array.getElem?_eq_some_iff.1 hb).1
 have hown : Ot O ρ [(id, Ob.arr 1 ([r0] :: l.map fun x => [dD x]))] loc.b := .inr ⟨id, _, loc, hget, rfl, hloc, rfl⟩
 by_cases hn : l.length = 0
 ·have e1 : l = [] := List.length_eq_zero_iff.1 hn
  have e2 : l2 = [] := List.length_eq_zero_iff.1 (hlen2.trans hn)
  subst e1; subst e2
  refine Calls.mono (none_ (some ⟨loc.b, loc.off + 1, none⟩) cap (.func (.func g) #[] #[]) w) ?_
  rintro e w' ⟨rfl, rfl⟩
  exact ⟨_, ρ, rfl, Tr.refl hok, by simp [V, Vs]⟩
 have cells : ∀ i : Fin l.length, ∃ u, w.cell? ⟨loc.b, loc.off + 1 + i.1, none⟩ = some u ∧ u.oneCell' = true ∧ V w (Ot O ρ [(id, Ob.arr 1 ([r0] :: l.map fun x => [dD x]))]) rho0 (dD l[i.1]) u := fun i => by
  have := Vr1_get _ _ hvr (i.1 + 1) (dD l[i.1]) (by simp)
  rwa [show loc.off + (i.1 + 1) = loc.off + 1 + i.1 by omega] at this
 let enc : Fin l.length → Value := fun i => Classical.choose (cells i)
 have henc : ∀ i, w.cell? ⟨loc.b, loc.off + 1 + i.1, none⟩ = some (enc i) ∧ (enc i).oneCell' = true ∧ V w (Ot O ρ [(id, Ob.arr 1 ([r0] :: l.map fun x => [dD x]))]) rho0 (dD l[i.1]) (enc i) := fun i => Classical.choose_spec (cells i)
 clear_value enc
 haveI : Inhabited (Fin l.length) := ⟨⟨0, by omega⟩⟩
 let cf : Fin l.length → Fin l.length → Int := fun i j => cmpT (key l[i.1]) (key l[j.1])
 have hlt : ∀ i j, ltOf cf i j = decide (key l[i.1] < key l[j.1]) := fun i j => by
  unfold ltOf; rw [decide_eq_decide]; exact cmpT_neg _ _
 have hd : (Array.ofFn (fun i : Fin l.length => i)).size = l.length := Array.size_ofFn ..
 have hdj : ∀ j (h : j < l.length), (Array.ofFn (fun i : Fin l.length => i))[j]! = ⟨j, h⟩ := fun j h => by
  rw [getElem!_pos _ j (by rw [hd]; exact h)]; simp
 have hcmp : CmpLays1 P g #[] enc cf loc.b (loc.off + 1) (Array.ofFn fun i : Fin l.length => i).size w := by
  intro m os dk _ x y
  have hkW : Kept w (Ot O ρ [(id, Ob.arr 1 ([r0] :: l.map fun x => [dD x]))]) (sortWorld enc w loc.b (loc.off + 1) m dk os) (fun _ => False) := ⟨size_sortW .., fun b hb2 ho => ⟨fun o e _ => heap_sortW hb2 (fun e => ho (e ▸ hown)), fun h => h⟩⟩
  have := @Fc.out calm _ _ _ _ (hc _ (List.getElem_mem (h := x.2)) _ (List.getElem_mem (h := y.2))) (sortWorld enc w loc.b (loc.off + 1) m dk os) (fun _ => False) rho0 [enc x, enc y] (fun _ h => h.elim) (Gl.mono hkW hgl) (by
   simp only [Vs]
   exact ⟨_, _, rfl, V.mono hkW (RhoLe.refl _) _ _ (henc x).2.2, _, _, rfl, V.mono hkW (RhoLe.refl _) _ _ (henc y).2.2, rfl⟩)
  refine Calls.mono (by simpa using this) ?_
  rintro e w' ⟨v, rfl, hv, hk⟩
  simp only [D.i, V] at hv
  subst hv
  exact ⟨rfl, grown_of_keep hk⟩
 have key1 := total enc (fun x => (henc x).2.1) cf
  ⟨fun x => by rw [hlt]; simp [List.lt_irrefl], fun x y z h1 h2 => by rw [hlt] at *; simp only [decide_eq_true_eq] at *; exact List.lt_trans h1 h2, fun x y z h1 h2 => by
   rw [hlt] at *; simp only [decide_eq_false_iff_not, List.not_lt] at *; exact List.le_trans h2 h1⟩
  loc.b (loc.off + 1) cap (Array.ofFn fun i : Fin l.length => i) w
  hcmp (by
   intro j hj
   rw [hd] at hj
   rw [hdj j hj]
   exact ⟨(henc ⟨j, hj⟩).1, by simp [World.frozen?, hb]⟩) hblk (by rw [hd]; exact hl)
  (fun x y h1 h2 => by
   rw [hlt] at h1 h2
   simp only [decide_eq_false_iff_not, List.not_lt] at h1 h2
   have e := List.le_antisymm h2 h1
   have h3 : (l.map key)[x.1]'(by simp) = (l.map key)[y.1]'(by simp) := by simpa using e
   have hp := List.pairwise_iff_getElem.1 hk
   rcases Nat.lt_trichotomy x.1 y.1 with h4 | h4 | h4
   ·exact absurd h3 (hp _ _ _ _ h4)
   ·exact Fin.ext h4
   ·exact absurd h3.symm (hp _ _ _ _ h4))
 rw [hd] at key1
 refine Calls.mono key1 ?_
 rintro e w' ⟨rfl, n, os, rfl⟩
 generalize hsr : (Array.ofFn fun i : Fin l.length => i).toList.mergeSort (fun x y => !(ltOf cf) y x) = sr
 have hperm : sr.Perm (Array.ofFn fun i : Fin l.length => i).toList := by rw [← hsr]; exact List.mergeSort_perm _ _
 have hsl : sr.length = l.length := by rw [hperm.length_eq]; simp
 have hall : ((Array.ofFn fun i : Fin l.length => i).toList.map fun i => l[i.1]) = l := by
  apply List.ext_getElem
  ·simp
  ·intro i h1 h2; simp
 have hpw : sr.Pairwise fun i j => key l[i.1] ≤ key l[j.1] := by
  have hpw0 := List.pairwise_mergeSort (le := fun x y => !(ltOf cf) y x) (by
   intro a b c h1 h2
   rw [hlt] at *; simp only [Bool.not_eq_true', decide_eq_false_iff_not, List.not_lt] at *; exact List.le_trans h1 h2) (by
   intro a b
   rw [hlt, hlt]; simp only [Bool.or_eq_true, Bool.not_eq_true', decide_eq_false_iff_not, List.not_lt]; exact List.le_total _ _) (Array.ofFn fun i : Fin l.length => i).toList
  rw [hsr] at hpw0
  refine hpw0.imp ?_
  intro a b h
  rw [hlt] at h; simpa only [Bool.not_eq_true', decide_eq_false_iff_not, List.not_lt] using h
 have hmap : (sr.map fun i => l[i.1]) = l2 := by
  have hp2 : (sr.map fun i => l[i.1]).Perm l2 := by
   have := hperm.map fun i : Fin l.length => l[i.1]
   rw [hall] at this
   exact this.trans hp.symm
  refine List.Perm.eq_of_pairwise (le := fun x y => key x ≤ key y) (fun a b ha hb2 h1 h2 => ?_) (List.pairwise_map.2 hpw) (List.pairwise_map.1 hs) hp2
  have e := List.le_antisymm h1 h2
  have ha' : a ∈ l := hp.mem_iff.1 (hp2.mem_iff.1 ha)
  have hb' : b ∈ l := hp.mem_iff.1 hb2
  obtain ⟨i, hi, rfl⟩ := List.getElem_of_mem ha'
  obtain ⟨j, hj, rfl⟩ := List.getElem_of_mem hb'
  have h3 : (l.map key)[i]'(by simpa using hi) = (l.map key)[j]'(by simpa using hj) := by simpa using e
  have hpq := List.pairwise_iff_getElem.1 hk
  rcases Nat.lt_trichotomy i j with h4 | h4 | h4
  ·exact absurd h3 (hpq _ _ _ _ h4)
  ·subst h4; rfl
  ·exact absurd h3.symm (hpq _ _ _ _ h4)
 have hheap := heap_sortB (enc := enc) (off := loc.off + 1) (m := n) (dk := sr.toArray) (os := os) hb
 have hsize : w.heap.size ≤ (sortWorld enc w loc.b (loc.off + 1) n sr.toArray os).heap.size := size_sortW ..
 have hown2 : ∀ b, Owned ρ [(id, Ob.arr 1 ([r0] :: l2.map fun x => [dD x]))] b → Owned ρ [(id, Ob.arr 1 ([r0] :: l.map fun x => [dD x]))] b := by
  rintro b ⟨i, o, q, g1, g2, g3, g4⟩
  obtain ⟨rfl, _⟩ := get_one g1
  exact ⟨_, _, q, hget, rfl, g3, g4⟩
 have hkW : Kept w (Ot O ρ [(id, Ob.arr 1 ([r0] :: l.map fun x => [dD x]))]) (sortWorld enc w loc.b (loc.off + 1) n sr.toArray os) (Ot O ρ [(id, Ob.arr 1 ([r0] :: l2.map fun x => [dD x]))]) :=
  ⟨hsize, fun b hb2 ho => ⟨fun o e _ => heap_sortW hb2 (fun e => ho (e ▸ hown)), fun g => ho (g.imp _root_.id (hown2 b))⟩⟩
 refine ⟨_, ρ, rfl, ⟨RhoLe.refl _, hsize, fun b hb1 hb2 => ?_, fun b hb1 => .inl (hown2 b hb1), ⟨fun b hb1 => Nat.lt_of_lt_of_le (hok.lt b hb1) hsize, fun i hi => ?_, fun i o g1 g2 => ?_, fun i j o o' q q' g1 g2 _ _ _ _ _ => ?_⟩, rfl, rfl, .inl ⟨rfl, Nat.le_add_right _ _⟩⟩, by simp [V, Vs]⟩
 ·refine heap_sortW hb1 fun e => hb2 ?_
  exact ⟨id, _, loc, hget, rfl, hloc, e.symm⟩
 ·exact hok.fresh i (get_none1 hi)
 ·obtain ⟨rfl, rfl⟩ := get_one g1
  refine ⟨loc, hloc, hnO, _, T, hheap, by simpa [putCells] using hsz, by simpa [hlen2] using hln, Vr1_mk _ _ fun i r hr => ?_⟩
  have hcs : loc.off + l.length < c.size := by
   simp only [List.length_cons, List.length_map] at hln
   omega
  have cellW : ∀ o, (sortWorld enc w loc.b (loc.off + 1) n sr.toArray os).cell? ⟨loc.b, o, none⟩ = (putCells enc (loc.off + 1) sr.toArray c)[o]? := fun o => by simp [World.cell?, hheap]
  have cellw : ∀ o, w.cell? ⟨loc.b, o, none⟩ = c[o]? := fun o => by simp [World.cell?, hb]
  cases i with
  | zero =>
   simp only [List.getElem?_cons_zero, Option.some.injEq] at hr
   subst hr
   obtain ⟨u, h1, h2, h3⟩ := Vr1_get _ _ hvr 0 r0 rfl
   refine ⟨r0, u, rfl, ?_, h2, V.mono hkW (RhoLe.refl _) _ _ h3⟩
   rw [cellW, ← h1, cellw]
   simp only [putCells, Array.getElem?_mapIdx, Nat.add_zero]
   have hno : ¬ (loc.off + 1 ≤ loc.off) := by omega
   simp [hno]
  | succ i =>
   simp only [List.getElem?_cons_succ, List.getElem?_map, Option.map_eq_some_iff] at hr
   obtain ⟨x, hx, rfl⟩ := hr
   have hi : i < sr.length := by
    have := (List.getElem?_eq_some_iff.1 hx).1
    omega
   rw [← hmap, List.getElem?_map, List.getElem?_eq_getElem hi] at hx
   simp only [Option.map_some, Option.some.injEq] at hx
   subst hx
   refine ⟨_, enc sr[i], rfl, ?_, (henc _).2.1, V.mono hkW (RhoLe.refl _) _ _ (henc _).2.2⟩
   rw [cellW]
   simp only [putCells, Array.getElem?_mapIdx]
   rw [Array.getElem?_eq_getElem (show loc.off + (i + 1) < c.size by omega)]
   simp only [Option.map_some, Option.some.injEq]
   rw [if_pos (by simp; omega), show loc.off + (i + 1) - (loc.off + 1) = i by omega, getElem!_pos _ i (by simpa using hi)]
   simp
 ·exact (get_one g1).1.trans (get_one g2).1.symm⟩
end Go.T
namespace Go.T
open Go
variable {P : Program} {env : Env} {dst : Option Tmp} {ty : TypeId} {pos : String} {aft : Array Edge} {g : Option (Nat × Bool)}
theorem q_sliceTail {obs : Obs} {t e : TypeId} {x y : Operand} {k : IntKind} {id n m : Nat} {rows : List (List D)} (hu : P.underlying t = some (.slice e)) (hs : ∀ w, (sizeOf e).run P w = .ok 1 w) (hx : env.op x = some (.gs id n))
  (hy : env.op y = some (.raw (.int k 1))) (ho : obs.get id = some (.arr 1 rows)) (hn : rows.length = n) (hm : n = m + 1) (hm0 : m ≠ 0) :
  QStep P ⟨dst, .slice t x (some y) none none, ty, pos, aft, g⟩ env obs (.osl id 1 m) obs :=
 .val fun O ρ a w hok hv => by
  have h1 := hv x (by simp [Op.operands]) _ hx
  have h2 := hv y (by simp [Op.operands]) _ hy
  simp only [V] at h1 h2
  rcases h1 with ⟨h1, _⟩ | ⟨_, l, h3, e1⟩
  ·omega
  ·have hlv : (Ob.arr 1 rows).live = true := by
    cases rows
    ·simp at hn; omega
    ·rfl
   obtain ⟨l', g3, g4, c, T, g5, g6, g7, g8⟩ := hok.own id _ ho hlv
   rw [h3] at g3; cases g3
   have hcap : n ≤ l.cap := by omega
   have hb : (Instr.sliceBounds true n l.cap (some (.int k 1)) none none).run P w = .ok (1, n, l.cap) w := by
    have h1 : 1 ≤ n := by omega
    have e1 : (1 : Int) = ((1 : Nat) : Int) := rfl
    rw [e1]
    simp only [Instr.sliceBounds, Sem.run_bind, Sem.run_pure, Result.andThen_ok, sliceBound_ok, h1]
   refine ⟨.slice (some ⟨l.b, l.off + 1, none⟩) m (l.cap - 1), ?_, ?_⟩
   ·simp [execOp, Instr.sliceAt, Instr.slice, run_und hu, e1, h2, hb, hs, addr_add]
    omega
   ·simp only [V]; exact ⟨l, l.cap - 1, h3, rfl, by omega⟩
theorem q_sliceTail0 {obs : Obs} {t e : TypeId} {x y : Operand} {k : IntKind} {id n : Nat} {rows : List (List D)} (hu : P.underlying t = some (.slice e)) (hs : ∀ w, (sizeOf e).run P w = .ok 1 w) (hx : env.op x = some (.gs id n))
  (hy : env.op y = some (.raw (.int k 1))) (ho : obs.get id = some (.arr 1 rows)) (hn : rows.length = n) (hm : n = 1) :
  QStep P ⟨dst, .slice t x (some y) none none, ty, pos, aft, g⟩ env obs (.snap 1 false []) obs :=
 .val fun O ρ a w hok hv => by
  have h1 := hv x (by simp [Op.operands]) _ hx
  have h2 := hv y (by simp [Op.operands]) _ hy
  simp only [V] at h1 h2
  rcases h1 with ⟨h1, _⟩ | ⟨_, l, h3, e1⟩
  ·omega
  ·have hlv : (Ob.arr 1 rows).live = true := by
    cases rows
    ·simp at hn; omega
    ·rfl
   obtain ⟨l', g3, g4, c, T, g5, g6, g7, g8⟩ := hok.own id _ ho hlv
   rw [h3] at g3; cases g3
   have hcap : n ≤ l.cap := by omega
   have hb : (Instr.sliceBounds true n l.cap (some (.int k 1)) none none).run P w = .ok (1, n, l.cap) w := by
    have h1 : 1 ≤ n := by omega
    have e1 : (1 : Int) = ((1 : Nat) : Int) := rfl
    rw [e1]
    simp only [Instr.sliceBounds, Sem.run_bind, Sem.run_pure, Result.andThen_ok, sliceBound_ok, h1]
   subst hm
   refine ⟨.slice (if l.cap = 1 then some ⟨l.b, l.off, none⟩ else some ⟨l.b, l.off + 1, none⟩) 0 (l.cap - 1), ?_, ?_⟩
   ·by_cases hc : l.cap = 1
    ·rw [hc] at hb; simp [execOp, Instr.sliceAt, Instr.slice, run_und hu, e1, h2, hb, hs, addr_add, hc]
    ·simp [execOp, Instr.sliceAt, Instr.slice, run_und hu, e1, h2, hb, hs, addr_add, hc]
   ·simp only [V]; exact ⟨_, _, rfl, ⟨by simp, by simp⟩, by simp, by simp⟩
end Go.T
namespace Go.T
open Go Go.Proofs Go.Proofs.Tryz
set_option maxRecDepth 20000
variable [Noise]
theorem headN_get {l : List Str} (h : l ≠ []) : (l.map fun s => [D.str s])[(0 : Int).toNat]? = some [.str (l.headD [])] := by
 cases l with
 | nil => exact absurd rfl h
 | cons a l => rfl
theorem cmpHead_ok (a b : List Str) (ha : a ≠ []) (hb : b ≠ []) : Fc Tryz.prog 131 [sStrs a, sStrs b] (.i (cmpT (a.headD []) (b.headD []))) := by
 refine Fc.mk' [4] func131 rfl ntmps131 rfl rfl rfl (fun t w => results_tmp results131 t _ w) ?_
 refine go [] ?_
 refine ix (by decide) (headN_get ha) ?_
 refine ix (by decide) (headN_get hb) ?_
 refine oP (qCa call132 rfl (cmpS_ok _ _)) ?_
 refine ord ?_
 exact rx1 rfl (Sub.refl _)
end Go.T
namespace Go.T
open Go Go.Proofs Go.Proofs.Tryz
set_option maxRecDepth 20000
open Go.Shelf Go.RowKit Go.Lib Go.Sort
theorem egCmp : ∀ args w, (callFunc 131 args).run Tryz.prog w = .ok (.enter 131 args) w := enters_of func131 (by kernel_rfl) rfl
theorem sortG_ok (id : Nat) (r0 : D) (l l2 : List (List Str)) (hl : l.length < 4611686018427387904) (hne : ∀ x ∈ l, x ≠ []) (hk : (l.map (·.headD [])).Nodup) (hp : l2.Perm l) (hs : (l2.map (·.headD [])).Pairwise fun a b => a ≤ b) :
  FcO Tryz.prog 130 [.osl id 1 l.length, .fn (.func 131) [] []] [(id, .arr 1 ([r0] :: l.map fun x => [sStrs x]))] (.tup []) [(id, .arr 1 ([r0] :: l2.map fun x => [sStrs x]))] :=
 sortD_FcO (fun enc h1 cf hO blk off cap d w hc hH hb hsz hT => Tryz.slices_SortFunc_total enc h1 cf hO 131 #[] blk off cap d w egCmp hc hH hb hsz hT) (fun p cap fv w => Tryz.slices_SortFunc_none (α := Nat) p cap fv w)
  (fun x => sStrs x) (·.headD []) id r0 l l2 hl (fun x hx y hy => @cmpHead_ok calm x y (hne x hx) (hne y hy)) hk hp hs
theorem sortG0_ok : Fc Tryz.prog 130 [.snap 1 false [], .fn (.func 131) [] []] (.tup []) := .of_calls fun w O ρ vals hg hv => by
 simp only [Vs, V] at hv
 obtain ⟨_, _, rfl, ⟨a, cap, rfl, _⟩, v2, _, rfl, _, rfl⟩ := hv
 refine (Tryz.slices_SortFunc_none (α := Nat) a cap v2 w).mono ?_
 rintro e w' ⟨rfl, rfl⟩
 exact ⟨_, rfl, by simp [V, Vs], .refl _⟩
end Go.T
namespace Go.T
open Go Go.Proofs Go.Proofs.Tryz
set_option maxRecDepth 20000
theorem seenU_len {n : Nat} {seen : List Nat} (hn : seen.Nodup) (hlt : ∀ j ∈ seen, j < n) : seen.length ≤ n := by
 have := List.Nodup.length_le_of_subset hn (l₂ := List.range n) (fun j hj => List.mem_range.2 (hlt j hj))
 simpa using this
theorem ltU_snoc {u : UM} {seen : List Nat} {j : Nat} {kv : Str × Str} (h : u[j]? = some kv) (hlt : ∀ j ∈ seen, j < u.length) : ∀ i ∈ seen ++ [j], i < u.length := by
 intro i hi
 rcases List.mem_append.1 hi with hi | hi
 ·exact hlt i hi
 ·simp at hi; subst hi; exact (List.getElem?_eq_some_iff.1 h).1
theorem gathered_len {fm : Fam} {u : UM} {ks : List Str} (h : GrpIs fm u ks) (hp : ks.Perm (keysU u)) {seen : List Nat} (hs : seen.Nodup) : (gathered fm seen).length ≤ u.length := by
 have h1 := List.Nodup.length_le_of_subset (gathered_nd h hp hs) (l₂ := keysU u) (fun x hx => by
  obtain ⟨l, hl, rfl⟩ := List.mem_map.1 hx
  obtain ⟨y, hy, h2, rfl⟩ := mem_gathered h hp hl
  rw [class_head hy h2]; exact hy)
 simpa [keysU] using h1
structure groups_ok_L0 (u : UM) where
 seen : List Nat
 fm : Fam
 ks : List Str
 hnd : seen.Nodup
 hlt : ∀ j ∈ seen, j < u.length
 hks : ks = seen.filterMap (keyAtU u)
 hfm : GrpIs fm u ks
structure groups_ok_L1 (u : UM) (fm : Fam) where
 seen : List Nat
 hnd : seen.Nodup
theorem groups_ok (u : UM) (hg : GoodU u) (hn : (keysU u).Nodup) (hok : ∀ k ∈ keysU u, okStr k) (hul : u.length ≤ 1000000) : FcO Tryz.prog 92 [.mapr 60] [(60, .mp (encGM D.str D.str u))] (encGroups (groupsU u)) [(60, .mp (encGM D.str D.str u))] := by
 refine FcO.mk' [2] func92 rfl ntmps92 rfl rfl rfl (fun t w => results_tmp results92 t _ w) ?_
 refine Run.seq (Run.reg [.p] ?_)
 refine .ag rfl rfl <| .nil ?_
 refine Run.seq (Run.reg [.w, .p] ?_)
 refine .W rfl (q_makeMapG 61 D.str (gsD) rfl) <| .ag rfl rfl <| .nil ?_
 refine Run.seq (Run.seq (Run.reg [.p, .w] ?_))
 refine .mv rfl rfl <| .W rfl (q_rangeG unKey (vD := D.str) 62 underlying128 rfl rfl rfl) <| .nil ?_
 refine Run.block ?_
 refine Run.loop (ι := groups_ok_L0 u) (fun sx => [(0, .mapr 60), (3, .mapr 61), (11, .box 62 0)]) (fun sx => ([(62, .mi 60 u.length sx.seen), (60, .mp (encGM D.str D.str u)), (61, .mp (encGM D.str gsD (famM sx.fm))), (99, .arr 1 [])] ++ famO sx.fm)) (fun sx => unseen u.length sx.seen) ⟨[], Fam.empty, [], List.nodup_nil, by simp, rfl, grpIs_nil u⟩ ?_ ?_
 ·exact (Le.own0 99 1).trans <| Le.mk rfl (.s rfl rfl (.s rfl rfl (.s rfl rfl .nil))) (.cons rfl rfl (.eq rfl (by rfl) (okB_SM _ _) (.eq rfl (by rfl) (okB_fam _ _) (.arr rfl (by simp) (.tail (fun _ _ h => nomatch (show (none : Option Ob) = some _ from h)))))))
 ·rintro ⟨seen, fm, ks, hnd, hlt, hks, hfm⟩
  show Run _ _ _ _ [(0, .mapr 60), (3, .mapr 61), (11, .box 62 0)] ([(62, .mi 60 u.length seen), (60, .mp (encGM D.str D.str u)), (61, .mp (encGM D.str gsD (famM fm))), (99, .arr 1 [])] ++ famO fm)
  have hrl : ∀ r, (famR fm r).length ≤ 1000000 := fun r => by
    rw [hfm.rows r]
    have h1 := List.length_filter_le (fun k => decide (rootU u k = r)) ks
    have h2 := keyAtU_len u seen
    have h3 := seenU_len hnd hlt
    rw [hks] at h1 ⊢
    omega
  refine Run.seq (Run.regT ?_)
  refine Tx.n rfl trivial (q_nextG unKey (vD := D.str) rfl rfl rfl) (fun nb hnb => ?_)
  rcases nb with _ | ⟨nj, nk, nv⟩
  ·dsimp only [nextGD, nextIO, nextGO]
   refine Tx.q rfl trivial (qEx rfl rfl _) ?_
   refine Tx.nil ?_
   refine Run.seq ?_
   refine Run.condF rfl rfl ?_
   refine Run.exit (tX0 (bX0 ?_))
   have hpm : ks.Perm (keysU u) := by rw [hks]; exact keysU_perm hn hnd hnb
   have hrw : ∀ (j : Nat) (e : FE), fm.ents[j]? = some e → (∀ s ∈ e.rows, okStr s) ∧ e.rows.length ≤ 1000000 := fun j e he => by
    rw [grp_rows hfm he]
    exact ⟨fun s hs => hok s (hpm.mem_iff.1 (List.mem_filter.1 hs).1), by have h1 := List.length_filter_le (fun k => decide (rootU u k = e.key)) ks; have h2 := hpm.length_eq; simp only [keysU, List.length_map] at h2; omega⟩
   have hgl : ∀ sn : List Nat, sn.Nodup → (gathered fm sn).length ≤ 1000000 := fun sn hsn => Nat.le_trans (gathered_len hfm hpm hsn) hul
   refine Run.seq (Run.reg [.w, .p] ?_)
   refine .W rfl (q_buildOwn (n := 1) (rows := [[.raw (.slice none 0 0)]]) 64 underlying43 sizeOf48 rfl rfl rfl zeroValue48 rfl rfl rfl rfl rfl rfl rfl (fam_hid (own := [(62, _), (60, _), (61, _), (99, _)]) rfl rfl)) <| .ag rfl rfl <| .nil ?_
   refine Run.seq (Run.seq (Run.reg [.p, .w] ?_))
   refine .mv rfl rfl <| .W rfl (q_rangeG unKey (vD := gsD) 63 underlying129 rfl rfl (fam_hid (own := [(64, _), (62, _), (60, _), (61, _), (99, _)]) rfl rfl)) <| .nil ?_
   refine Run.block ?_
   refine Run.loop (ι := groups_ok_L1 u fm) (fun sx => [(0, .mapr 60), (6, .gs 64 (1 + (gathered fm sx.seen).length)), (29, .box 63 0)]) (fun sx => ([(63, .mi 61 (famM fm).length sx.seen), (60, .mp (encGM D.str D.str u)), (61, .mp (encGM D.str gsD (famM fm))), (64, .arr 1 ([.raw (.slice none 0 0)] :: (gathered fm sx.seen).map fun x => [sStrs x])), (99, .arr 1 [])] ++ famO (killAll fm sx.seen))) (fun sx => unseen (famM fm).length sx.seen) ⟨[], List.nodup_nil⟩ ?_ ?_
   ·exact Le.mk rfl (.s rfl rfl (.cons rfl (Sub.gs (by simp [gathered])) rfl (.s rfl rfl .nil))) (.cons rfl rfl (.eq rfl (by rfl) (okB_SM _ _) (.eq rfl (by rfl) (okB_famK _ _) (.arr rfl (by simp [gathered]) (.arr rfl (by simp) (.tail (fam_tail (own := [(63, _), (64, _), (62, _), (60, _), (61, _), (99, _)]) (own' := [(63, _), (60, _), (61, _), (64, _), (99, _)]) _ rfl)))))))
   ·rintro ⟨seen, hnd⟩
    show Run _ _ _ _ [(0, .mapr 60), (6, .gs 64 (1 + (gathered fm seen).length)), (29, .box 63 0)] ([(63, .mi 61 (famM fm).length seen), (60, .mp (encGM D.str D.str u)), (61, .mp (encGM D.str gsD (famM fm))), (64, .arr 1 ([.raw (.slice none 0 0)] :: (gathered fm seen).map fun x => [sStrs x])), (99, .arr 1 [])] ++ famO (killAll fm seen))
    refine Run.seq (Run.regT ?_)
    refine Tx.n rfl trivial (q_nextG unKey (vD := gsD) rfl rfl rfl) (fun nb hnb => ?_)
    rcases nb with _ | ⟨nj, nk, nv⟩
    ·dsimp only [nextGD, nextIO, nextGO]
     refine Tx.q rfl trivial (qEx rfl rfl _) ?_
     refine Tx.nil ?_
     refine Run.seq ?_
     refine Run.condF rfl rfl ?_
     refine Run.exit (tX0 (bX0 ?_))
     have hgp := gathered_perm hfm hpm hn hnd hnb
     by_cases hz : (gathered fm seen).length = 0
     ·have hz1 : gathered fm seen = [] := List.length_eq_zero_iff.1 hz
      have hz2 : groupsU u = [] := List.length_eq_zero_iff.1 (hgp.length_eq.trans hz)
      refine Run.seq (Run.reg [.p, .r, .p] ?_)
      refine .mv rfl rfl <| .R rfl (q_sliceTail0 (id := 64) underlying43 sizeOf48 rfl rfl rfl (by simp; omega) (by omega)) <| .P rfl (qCa call130 rfl sortG0_ok) <| .nil ?_
      refine Run.seq (Run.reg [.p, .p] ?_)
      refine .mv rfl rfl <| .ag rfl rfl <| .nil ?_
      refine Run.weak (Le.freeze 2 64 rfl rfl (by simp; omega)) ?_
      refine Run.ret (?_)
      exact retO1 rfl (Sub.snap (by rw [hz1, hz2])) (.eq rfl (by rfl) (okB_SM _ _) .nil)
     ·refine Run.seq (Run.reg [.p, .r, .w] ?_)
      refine .mv rfl rfl <| .R rfl (q_sliceTail (id := 64) (m := (gathered fm seen).length) underlying43 sizeOf48 rfl rfl rfl (by simp; omega) (by omega) hz) <| .W rfl (q_callOF (own := [(63, _), (60, _), (61, _), (64, _), (99, _)]) call130 rfl (sortG_ok 64 (.raw (.slice none 0 0)) (gathered fm seen) (groupsU u) (by have := hgl seen hnd; omega) (gathered_ne hfm hpm) (gathered_nd hfm hpm hnd) hgp (groups_sorted u)) rfl rfl (.cons rfl rfl .nil) rfl rfl) <| .nil ?_
      refine Run.seq (Run.reg [.p, .p] ?_)
      refine .mv rfl rfl <| .ag rfl rfl <| .nil ?_
      refine Run.weak (Le.freeze 2 64 rfl rfl (by have := hgp.length_eq; simp; omega)) ?_
      refine Run.ret (?_)
      exact retO1 rfl (Sub.refl _) (.eq rfl (by rfl) (okB_SM _ _) .nil)
    ·dsimp only [nextGD, nextIO, nextGO]
     refine Tx.q rfl trivial (qEx rfl rfl _) ?_
     refine Tx.nil ?_
     refine Run.seq ?_
     refine Run.condT rfl rfl ?_
     refine Run.skip ?_
     refine Run.block ?_
     obtain ⟨e, he, rfl, rfl⟩ := famM_at (And.left hnb)
     have hek : (killAll fm seen).ents[nj]? = some e := (killAll_get _ _ _ (And.right hnb)).trans he
     have hob : e.ob = .arr 1 (rowsS e.rows) := by unfold FE.ob; rw [if_pos (hfm.live e (List.mem_of_getElem? he))]
     have her := hrw nj e he
     refine Run.seq (Run.reg [.r, .p, .p] ?_)
     refine .R rfl (q_entryG unKey (vD := gsD) rfl rfl rfl (And.left hnb)) <| .P rfl (qEx rfl rfl) <| .ag rfl rfl <| .nil ?_
     refine Run.seq (Run.reg [.p, .w] ?_)
     refine .mv rfl rfl <| .W rfl (q_callOE1 (own := [(63, _), (60, _), (61, _), (64, _), (99, _)]) (f := killAll fm seen) (e := e) (List.mem_of_getElem? hek) rfl call63 rfl (by rw [hob]; exact sortN_ok e.id e.rows her.1 (by have := her.2; omega)) (by simp [D.okB.okL, D.okB, Obs.has, Obs.get_cons])) <| .nil ?_
     refine Run.weak (Le.freeze 8 e.id rfl get_self (by simp [(sortN_perm e.rows).length_eq])) ?_
     refine Run.weak (Le.mk (env' := [(0, _), (6, _), (8, _), (29, _)]) (obs' := [(63, _), (60, _), (61, _), (64, _), (99, _)] ++ famO ((killAll fm seen).kill nj)) rfl (show EnvLe _ _ [(0, _), (6, _), (8, _), (29, _)] from (.s rfl rfl (.s rfl rfl (.s rfl rfl (.s rfl rfl .nil))))) (.cons (fam_sk_get (own := [(63, _), (60, _), (61, _), (64, _), (99, _)]) 63 hek rfl rfl) rfl (.cons (fam_sk_get (own := [(63, _), (60, _), (61, _), (64, _), (99, _)]) 60 hek rfl rfl) (okB_SM _ _) (.cons (fam_sk_get (own := [(63, _), (60, _), (61, _), (64, _), (99, _)]) 61 hek rfl rfl) (by rw [← killAll_snoc]; exact okB_famK _ (seen ++ [nj])) (.cons (fam_sk_get (own := [(63, _), (60, _), (61, _), (64, _), (99, _)]) 64 hek rfl rfl) rfl (.cons (fam_sk_get (own := [(63, _), (60, _), (61, _), (64, _), (99, _)]) 99 hek rfl rfl) rfl (.tail (fam_sk_kill (own := [(63, _), (60, _), (61, _), (64, _), (99, _)]) rfl hek)))))))) ?_
     rw [← killAll_snoc]
     refine Run.reg [.p, .p, .p, .w, .p] ?_
     refine .mv rfl rfl <| .mv rfl rfl <| .P rfl (qBu (n := 1) (rows := [[sStrs (sortN e.rows)]]) underlying43 sizeOf48 rfl rfl rfl zeroValue48 rfl rfl rfl rfl rfl rfl rfl) <| .W rfl (q_append 65 underlying43 underlying43 sizeOf48 typeInfo48 zeroValue48 rfl (bt := 24) rfl rfl rfl rfl (by simp; omega) rfl (fam_hid (own := [(63, _), (60, _), (61, _), (64, _), (99, _)]) rfl rfl) (by have := hgl seen hnd; simp; omega)) <| .ag rfl rfl <| .nil ?_
     refine Run.nil (bN0 ?_)
     refine Run.nil (tN0 ?_)
     exact ⟨⟨seen ++ [nj], snoc_nd hnd (And.right hnb)⟩, by exact unseen_lt ((List.getElem?_eq_some_iff.1 (And.left hnb)).1) (And.right hnb), (Le.mk (obs' := [(63, _), (60, _), (61, _), (65, _), (99, _)] ++ famO (killAll fm (seen ++ [nj]))) rfl (show EnvLe _ _ [(0, _), (6, _), (29, _)] from (.s rfl rfl (.s rfl rfl (.s rfl rfl .nil)))) (.cons (i := 63) rfl rfl (.cons (i := 60) rfl (okB_SM _ _) (.cons (i := 61) rfl (okB_famK _ _) (.cons (i := 65) rfl rfl (.cons (i := 99) rfl rfl (.tail (fam_tail (own := [(65, _), (63, _), (60, _), (61, _), (64, _), (99, _)]) (own' := [(63, _), (60, _), (61, _), (65, _), (99, _)]) _ rfl)))))))).trans <| (Le.ren 6 65 64 rfl rfl (by simp; omega) (fam_hid (own := [(63, _), (60, _), (61, _), (65, _), (99, _)]) rfl rfl)).trans <| Le.mk rfl (.s rfl rfl (.cons rfl (Sub.gs (by rw [gathered_snoc he]; simp; omega)) rfl (.s rfl rfl .nil))) (.cons rfl rfl (.eq rfl (by rfl) (okB_SM _ _) (.eq rfl (by rfl) (okB_famK _ _) (.arr rfl (by rw [gathered_snoc he]; simp) (.arr rfl (by simp) (.tail (fam_tail (own := [(64, _), (63, _), (60, _), (61, _), (65, _), (99, _)]) (own' := [(63, _), (60, _), (61, _), (64, _), (99, _)]) _ rfl)))))))⟩
  ·dsimp only [nextGD, nextIO, nextGO]
   refine Tx.q rfl trivial (qEx rfl rfl _) ?_
   refine Tx.nil ?_
   refine Run.seq ?_
   refine Run.condT rfl rfl ?_
   refine Run.skip ?_
   refine Run.block ?_
   refine Run.seq (Run.reg [.r, .p, .p] ?_)
   refine .R rfl (q_entryG unKey (vD := D.str) rfl rfl rfl (And.left hnb)) <| .P rfl (qEx rfl rfl) <| .ag rfl rfl <| .nil ?_
   refine Run.seq (Run.reg [.p, .p, .w, .p] ?_)
   refine .mv rfl rfl <| .mv rfl rfl <| .W rfl (q_callOF (own := [(62, _), (60, _), (61, _), (99, _)]) call129 rfl (root_ok u hg nk (keyAtU_mem (And.left hnb))) rfl rfl (.cons rfl (okB_SM _ _) .nil) rfl rfl) <| .ag rfl rfl <| .nil ?_
   refine Run.reg [.p, .p, .p, .p, .r, .p, .p, .w, .w] ?_
   refine .mv rfl rfl <| .mv rfl rfl <| .mv rfl rfl <| .mv rfl rfl <| .R rfl (q_lookupFam unKey (f := fm) (k := rootU u nk) underlying129 zeroValue48 rfl rfl rfl rfl) <| .mv rfl rfl <| .P rfl (qBu (n := 1) (rows := [[.str nk]]) underlying48 sizeOf9 rfl rfl rfl zeroValue9 rfl rfl rfl rfl rfl rfl rfl) <| .W rfl (q_appendFam (own := [(60, _), (62, _), (61, _), (99, _)]) (f := fm) (k := rootU u nk) (new := [nk]) (bt := 16) underlying48 underlying48 sizeOf9 typeInfo9 zeroValue9 rfl rfl rfl rfl rfl hfm.live rfl rfl (by have := hrl (rootU u nk); simp only [List.length_singleton]; omega)) <| .W rfl (qMu unKey (vD := gsD) (m := famM fm) (k := rootU u nk) (v := (fm.next, (famR fm (rootU u nk)).length + [nk].length)) underlying129 rfl rfl rfl rfl rfl ((famA_get (own := [(60, _), (62, _), (61, _), (99, _)]) (by decide)).trans (own_fam (own := [(60, _), (62, _), (61, _), (99, _)]) rfl))) <| .nil ?_
   refine Run.nil (bN0 ?_)
   refine Run.nil (tN0 ?_)
   exact ⟨⟨seen ++ [nj], fm.add (rootU u nk) [nk], ks ++ [nk], snoc_nd hnd (And.right hnb), ltU_snoc (And.left hnb) hlt, by rw [hks, keyAtU_snoc (And.left hnb)], hfm.add nk⟩, by exact unseen_lt ((List.getElem?_eq_some_iff.1 (And.left hnb)).1) (And.right hnb), (Le.own0 99 1).trans <| Le.mk rfl (.s rfl rfl (.s rfl rfl (.s rfl rfl .nil))) (.eq (famA_get' (own := [(60, _), (62, _), (61, _), (99, _)]) 62 rfl rfl rfl) rfl rfl (.eq (famA_get' (own := [(60, _), (62, _), (61, _), (99, _)]) 60 rfl rfl rfl) rfl (okB_SM _ _) (.eq famA_get61 (by rw [← famM_add]) (okB_fam _ _) (.cons rfl rfl (.tail (fam_step (own := [(60, _), (62, _), (61, _), (99, _)]) (by decide) rfl))))))⟩
theorem divideAll_ok (s : Setup) (l : List Fact) (hi6 : s.insts.length ≤ 1000) (hio : ∀ x ∈ s.insts, okStr x.id) (hl6 : l.length ≤ 500) (hfo : ∀ f ∈ l, f.opts.length ≤ 1000 ∧ ∀ s ∈ instrNames f, okStr s) : Fc Tryz.prog 45 [.agg (encSetup s), sFacts l] (encGroups (groupsL (divLists s l))) :=
 divide_ok s l hi6 hio hl6 hfo fun u hg hn hok hul => groups_ok u hg hn hok hul
structure indexFact_ok_L0 (l : List Fact) (P : Fact → Bool) where
 pre : List Fact
 rest : List Fact
 hx : l = pre ++ rest
 hp : pre.any P = false
theorem indexFact_ok (l : List Fact) (f : FuncId) (caps : List D) (hcap : D.pureB.pureL caps = true) (P : Fact → Bool) (hcall : ∀ (args : Array Value) (w : World), (callFunc f args).run Tryz.prog w = .ok (.enter f args) w) (hP : ∀ x ∈ l, Fc Tryz.prog f (.agg (encFact x) :: caps) (.b (P x))) : Fc Tryz.prog 67 [sFacts l, .fn (.func f) [] caps] (.i (findI P l)) := by
 refine Fc.mk' [4] func67 rfl ntmps67 rfl (by simp [D.pureB, D.pureB.pureL, hcap]) rfl (fun t w => results_tmp results67 t _ w) ?_
 refine Run.bSnap 0 rfl (fun hb => ?_)
 simp only [List.length_map, big] at hb
 refine go [] ?_
 refine Run.loop (ι := indexFact_ok_L0 l P) (fun sx => [(0, sFacts l), (1, .fn (.func f) [] caps), (6, sFacts l), (7, .i l.length), (8, .i sx.pre.length)]) (fun sx => []) (fun sx => sx.rest.length) ⟨[], l, rfl, rfl⟩ ?_ ?_
 ·exact Le.mk rfl (.s rfl rfl (.cons rfl (Sub.refl _) (okB_fn hcap) (.s rfl rfl (.cons rfl (Sub.int (by simp)) rfl (.s rfl rfl .nil))))) .nil
 ·rintro ⟨pre, rest, hx, hp⟩
  show Run _ _ _ _ [(0, sFacts l), (1, .fn (.func f) [] caps), (6, sFacts l), (7, .i l.length), (8, .i pre.length)] []
  have hl := congrArg List.length hx
  simp only [List.length_append] at hl
  rcases rest with _ | ⟨x, rest⟩
  ·skip
   refine go [] ?_
   refine brF (by simp at hl ⊢; omega) ?_
   refine go [] ?_
   exact rx1 rfl (Sub.int (by exact find_F hx hp))
  ·simp only [List.length_cons] at hl
   refine go [] ?_
   refine brT (by simp; omega) ?_
   refine ix (by omega) (iMd encFact hx rfl) ?_
   refine oP (qCf hcall rfl rfl (hP x (by rw [hx]; simp))) ?_
   refine br (fun h1 => ?_) (fun h1 => ?_)
   ·exact rx1 rfl (Sub.int (by exact find_T hx hp h1))
   ·refine sd (w64 (by omega)) ?_
    exact nx ⟨pre ++ [x], rest, by simp [hx], any_S hp h1⟩ (by simp) (Le.mk rfl (.s rfl rfl (.cons rfl (Sub.refl _) (okB_fn hcap) (.s rfl rfl (.s rfl rfl (.cons rfl (Sub.int (by simp)) rfl .nil))))) .nil)
theorem containsFact_ok (l : List Fact) (f : FuncId) (caps : List D) (hcap : D.pureB.pureL caps = true) (P : Fact → Bool) (hcall : ∀ (args : Array Value) (w : World), (callFunc f args).run Tryz.prog w = .ok (.enter f args) w) (hP : ∀ x ∈ l, Fc Tryz.prog f (.agg (encFact x) :: caps) (.b (P x))) : Fc Tryz.prog 42 [sFacts l, .fn (.func f) [] caps] (.b (l.any P)) := by
 refine Fc.mk' [4] func42 rfl ntmps42 rfl (by simp [D.pureB, D.pureB.pureL, hcap]) rfl (fun t w => results_tmp results42 t _ w) ?_
 refine go [] ?_
 refine oP (qCa call67 rfl (indexFact_ok l f caps hcap P hcall hP)) ?_
 exact rx1 rfl (Sub.bool (by exact findI_ge P l))
structure indexStrP_ok_L0 (l : List Str) (P : Str → Bool) where
 pre : List Str
 rest : List Str
 hx : l = pre ++ rest
 hp : pre.any P = false
theorem indexStrP_ok (l : List Str) (f : FuncId) (caps : List D) (hcap : D.pureB.pureL caps = true) (P : Str → Bool) (hcall : ∀ (args : Array Value) (w : World), (callFunc f args).run Tryz.prog w = .ok (.enter f args) w) (hP : ∀ x ∈ l, Fc Tryz.prog f (.str x :: caps) (.b (P x))) : Fc Tryz.prog 46 [sStrs l, .fn (.func f) [] caps] (.i (findI P l)) := by
 refine Fc.mk' [4] func46 rfl ntmps46 rfl (by simp [D.pureB, D.pureB.pureL, hcap]) rfl (fun t w => results_tmp results46 t _ w) ?_
 refine Run.bSnap 0 rfl (fun hb => ?_)
 simp only [List.length_map, big] at hb
 refine go [] ?_
 refine Run.loop (ι := indexStrP_ok_L0 l P) (fun sx => [(0, sStrs l), (1, .fn (.func f) [] caps), (6, sStrs l), (7, .i l.length), (8, .i sx.pre.length)]) (fun sx => []) (fun sx => sx.rest.length) ⟨[], l, rfl, rfl⟩ ?_ ?_
 ·exact Le.mk rfl (.s rfl rfl (.cons rfl (Sub.refl _) (okB_fn hcap) (.s rfl rfl (.cons rfl (Sub.int (by simp)) rfl (.s rfl rfl .nil))))) .nil
 ·rintro ⟨pre, rest, hx, hp⟩
  show Run _ _ _ _ [(0, sStrs l), (1, .fn (.func f) [] caps), (6, sStrs l), (7, .i l.length), (8, .i pre.length)] []
  have hl := congrArg List.length hx
  simp only [List.length_append] at hl
  rcases rest with _ | ⟨x, rest⟩
  ·skip
   refine go [] ?_
   refine brF (by simp at hl ⊢; omega) ?_
   refine go [] ?_
   exact rx1 rfl (Sub.int (by exact find_F hx hp))
  ·simp only [List.length_cons] at hl
   refine go [] ?_
   refine brT (by simp; omega) ?_
   refine ix (by omega) (iMd (fun s => [D.str s]) hx rfl) ?_
   refine oP (qCf hcall rfl rfl (hP x (by rw [hx]; simp))) ?_
   refine br (fun h1 => ?_) (fun h1 => ?_)
   ·exact rx1 rfl (Sub.int (by exact find_T hx hp h1))
   ·refine sd (w64 (by omega)) ?_
    exact nx ⟨pre ++ [x], rest, by simp [hx], any_S hp h1⟩ (by simp) (Le.mk rfl (.s rfl rfl (.cons rfl (Sub.refl _) (okB_fn hcap) (.s rfl rfl (.s rfl rfl (.cons rfl (Sub.int (by simp)) rfl .nil))))) .nil)
theorem containsStrP_ok (l : List Str) (f : FuncId) (caps : List D) (hcap : D.pureB.pureL caps = true) (P : Str → Bool) (hcall : ∀ (args : Array Value) (w : World), (callFunc f args).run Tryz.prog w = .ok (.enter f args) w) (hP : ∀ x ∈ l, Fc Tryz.prog f (.str x :: caps) (.b (P x))) : Fc Tryz.prog 13 [sStrs l, .fn (.func f) [] caps] (.b (l.any P)) := by
 refine Fc.mk' [4] func13 rfl ntmps13 rfl (by simp [D.pureB, D.pureB.pureL, hcap]) rfl (fun t w => results_tmp results13 t _ w) ?_
 refine go [] ?_
 refine oP (qCa call46 rfl (indexStrP_ok l f caps hcap P hcall hP)) ?_
 exact rx1 rfl (Sub.bool (by exact findI_ge P l))
end Go.T
