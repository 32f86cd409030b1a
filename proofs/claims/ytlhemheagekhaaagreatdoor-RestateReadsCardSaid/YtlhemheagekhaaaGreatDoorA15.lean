/-
  Contracts of the functions that the statement reaches, and the logic in which they are proved (no condition): parts Bal1, Bal2, Ord1, Law8, Bal3, W57, W58, W59, Bal4, W60, Law9, W61, Bal5, Bal6.
-/
import Derived.Test.YtlhemheagekhaaaGreatDoorA14
set_option linter.all false
namespace Go.T
open Go
theorem lt_irrefl (a : Str) : Str.lt a a = false := by
 cases h : Str.lt a a with
 | false => rfl
 | true => have := lt_asymm a a h; rw [h] at this; cases this
theorem lt_trans' : ∀ a b c : Str, Str.lt a b = true → Str.lt b c = true → Str.lt a c = true
 | _, [], _, h, _ => by simp [Str.lt, Op.bytesLess] at h
 | _, _ :: _, [], _, h => by simp [Str.lt, Op.bytesLess] at h
 | [], _ :: _, _ :: _, _, _ => by simp [Str.lt, Op.bytesLess]
 | x :: a, y :: b, z :: c, h1, h2 => by
  rw [lt_cons] at *
  simp only [Bool.or_eq_true, Bool.and_eq_true, decide_eq_true_eq] at *
  rcases h1 with h1 | ⟨rfl, h1⟩
  ·rcases h2 with h2 | ⟨rfl, h2⟩
   ·exact .inl (by omega)
   ·exact .inl h1
  ·rcases h2 with h2 | ⟨rfl, h2⟩
   ·exact .inl h2
   ·exact .inr ⟨rfl, lt_trans' a b c h1 h2⟩
theorem lt_total : ∀ a b : Str, Str.lt a b = false → Str.lt b a = false → a = b
 | [], [], _, _ => rfl
 | [], _ :: _, h, _ => by simp [Str.lt, Op.bytesLess] at h
 | _ :: _, [], _, h => by simp [Str.lt, Op.bytesLess] at h
 | x :: a, y :: b, h1, h2 => by
  rw [lt_cons] at *
  simp only [Bool.or_eq_false_iff, Bool.and_eq_false_iff, decide_eq_false_iff_not] at *
  have e : x = y := UInt8.toNat_inj.1 (by omega)
  subst e
  have := lt_total a b (by rcases h1.2 with h | h; exact absurd rfl h; exact h) (by rcases h2.2 with h | h; exact absurd rfl h; exact h)
  rw [this]
/-! Keys. -/
abbrev Key := Str × Str
def klt (p q : Key) : Bool := Str.lt p.1 q.1 || (decide (p.1 = q.1) && Str.lt p.2 q.2)
theorem klt_iff {p q : Key} : klt p q = true ↔ Str.lt p.1 q.1 = true ∨ (p.1 = q.1 ∧ Str.lt p.2 q.2 = true) := by simp [klt]
theorem klt_irrefl (p : Key) : klt p p = false := by simp [klt, lt_irrefl]
theorem klt_trans {p q r : Key} (h1 : klt p q = true) (h2 : klt q r = true) : klt p r = true := by
 rw [klt_iff] at *
 rcases h1 with h1 | ⟨e1, h1⟩
 ·rcases h2 with h2 | ⟨e2, h2⟩
  ·exact .inl (lt_trans' _ _ _ h1 h2)
  ·exact .inl (e2 ▸ h1)
 ·rcases h2 with h2 | ⟨e2, h2⟩
  ·exact .inl (e1 ▸ h2)
  ·exact .inr ⟨e1.trans e2, lt_trans' _ _ _ h1 h2⟩
theorem klt_asymm {p q : Key} (h : klt p q = true) : klt q p = false := by
 cases h2 : klt q p with
 | false => rfl
 | true => have := klt_trans h h2; rw [klt_irrefl] at this; cases this
theorem klt_total {p q : Key} (h1 : klt p q = false) (h2 : klt q p = false) : p = q := by
 simp only [klt, Bool.or_eq_false_iff, Bool.and_eq_false_iff, decide_eq_false_iff_not] at h1 h2
 have e := lt_total p.1 q.1 h1.1 h2.1
 have e2 : p.2 = q.2 := lt_total p.2 q.2 (by rcases h1.2 with h | h; exact absurd e h; exact h) (by rcases h2.2 with h | h; exact absurd e.symm h; exact h)
 exact Prod.ext e e2
/-! Balances. -/
def bkey (b : Balance) : Key := (b.account, b.currency)
def lkey (l : Line) : Key := (l.account, l.currency)
def balK (k : Key) : List Balance → Int
 | [] => 0
 | b :: l => (if bkey b = k then val b.amount else 0) + balK k l
def sumK (k : Key) : List Line → Int
 | [] => 0
 | x :: l => (if lkey x = k then val x.amount else 0) + sumK k l
theorem balK_append (k : Key) (a b : List Balance) : balK k (a ++ b) = balK k a + balK k b := by
 induction a with
 | nil => simp [balK]
 | cons x a ih => simp only [List.cons_append, balK, ih]; omega
theorem sumK_append (k : Key) (a b : List Line) : sumK k (a ++ b) = sumK k a + sumK k b := by
 induction a with
 | nil => simp [sumK]
 | cons x a ih => simp only [List.cons_append, sumK, ih]; omega
/-- An amount as it is written, not 0. -/
def canon0 (s : Str) : Prop := s = ofInt (val s) ∧ val s ≠ 0
structure IsBal (l : List Balance) : Prop where
 sorted : l.Pairwise fun a b => klt (bkey a) (bkey b) = true
 amt : ∀ b ∈ l, canon0 b.amount
theorem IsBal.nil : IsBal [] := ⟨.nil, by simp⟩
theorem IsBal.tail {b : Balance} {l : List Balance} (h : IsBal (b :: l)) : IsBal l := ⟨(List.pairwise_cons.1 h.sorted).2, fun x hx => h.amt x (List.mem_cons_of_mem _ hx)⟩
theorem IsBal.cons {b : Balance} {l : List Balance} (h : IsBal l) (hb : canon0 b.amount) (hlt : ∀ x ∈ l, klt (bkey b) (bkey x) = true) : IsBal (b :: l) := ⟨List.pairwise_cons.2 ⟨hlt, h.sorted⟩, fun x hx => by
 rcases List.mem_cons.1 hx with rfl | hx
 ·exact hb
 ·exact h.amt x hx⟩
theorem balK_none {k : Key} {l : List Balance} (h : ∀ x ∈ l, bkey x ≠ k) : balK k l = 0 := by
 induction l with
 | nil => rfl
 | cons x l ih =>
  simp only [balK, if_neg (h x List.mem_cons_self), ih (fun y hy => h y (List.mem_cons_of_mem _ hy))]; rfl
theorem balK_lt {k : Key} {l : List Balance} (h : ∀ x ∈ l, klt k (bkey x) = true) : balK k l = 0 := balK_none fun x hx e => by
 have := h x hx; rw [e, klt_irrefl] at this; cases this
theorem IsBal.head_lt {b : Balance} {l : List Balance} (h : IsBal (b :: l)) : ∀ x ∈ l, klt (bkey b) (bkey x) = true := (List.pairwise_cons.1 h.sorted).1
theorem IsBal.head_val {b : Balance} {l : List Balance} (h : IsBal (b :: l)) : balK (bkey b) (b :: l) = val b.amount := by
 simp [balK, balK_lt h.head_lt]
theorem IsBal.ext : ∀ {a b : List Balance}, IsBal a → IsBal b → (∀ k, balK k a = balK k b) → a = b
 | [], [], _, _, _ => rfl
 | [], y :: b, _, hb, h => by
  have := h (bkey y); rw [hb.head_val] at this
  exact absurd this.symm (hb.amt y List.mem_cons_self).2
 | x :: a, [], ha, _, h => by
  have := h (bkey x); rw [ha.head_val] at this
  exact absurd this (ha.amt x List.mem_cons_self).2
 | x :: a, y :: b, ha, hb, h => by
  have hx := (ha.amt x List.mem_cons_self)
  have hy := (hb.amt y List.mem_cons_self)
  have e : bkey x = bkey y := by
   apply klt_total
   ·cases hc : klt (bkey x) (bkey y) with
    | false => rfl
    | true =>
     have h1 := h (bkey x)
     rw [ha.head_val, balK_lt (l := y :: b) (fun z hz => by
      rcases List.mem_cons.1 hz with rfl | hz
      ·exact hc
      ·exact klt_trans hc (hb.head_lt z hz))] at h1
     exact absurd h1 hx.2
   ·cases hc : klt (bkey y) (bkey x) with
    | false => rfl
    | true =>
     have h1 := h (bkey y)
     rw [hb.head_val, balK_lt (l := x :: a) (fun z hz => by
      rcases List.mem_cons.1 hz with rfl | hz
      ·exact hc
      ·exact klt_trans hc (ha.head_lt z hz))] at h1
     exact absurd h1.symm hy.2
  have hv : val x.amount = val y.amount := by
   have := h (bkey x); rw [ha.head_val] at this; rw [e, hb.head_val] at this; exact this
  have hxy : x = y := by
   have h1 : x.account = y.account := congrArg Prod.fst e
   have h2 : x.currency = y.currency := congrArg Prod.snd e
   have h3 : x.amount = y.amount := by rw [hx.1, hy.1, hv]
   cases x; cases y; simp only at *; subst h1; subst h2; subst h3; rfl
  subst hxy
  rw [IsBal.ext ha.tail hb.tail (fun k => by have := h k; simp only [balK] at this; omega)]
theorem canon0_ofInt {n : Int} (h : n ≠ 0) : canon0 (ofInt n) := ⟨by rw [val_ofInt], by rw [val_ofInt]; exact h⟩
/-! The reference's list of balances: one more is put. -/
def putB (l : List Balance) (x : Balance) : List Balance :=
 match l with
 | [] => if val x.amount = 0 then [] else [x]
 | y :: r => if klt (bkey y) (bkey x) then y :: putB r x else if klt (bkey x) (bkey y) then (if val x.amount = 0 then y :: r else x :: y :: r) else (if val x.amount + val y.amount = 0 then r else { x with amount := ofInt (val x.amount + val y.amount) } :: r)
theorem putB_lt {k : Key} {x : Balance} (hx : klt k (bkey x) = true) : ∀ {l : List Balance}, (∀ y ∈ l, klt k (bkey y) = true) → ∀ y ∈ putB l x, klt k (bkey y) = true
 | [], _ => by
  unfold putB; split
  ·simp
  ·intro y hy; simp at hy; subst hy; exact hx
 | y :: r, h => by
  have hr := putB_lt hx (l := r) (fun z hz => h z (List.mem_cons_of_mem _ hz))
  have hy := h y List.mem_cons_self
  have hrr : ∀ z ∈ r, klt k (bkey z) = true := fun z hz => h z (List.mem_cons_of_mem _ hz)
  unfold putB
  intro z hz
  split at hz
  ·rcases List.mem_cons.1 hz with rfl | hz
   ·exact hy
   ·exact hr z hz
  ·split at hz
   ·split at hz
    ·exact h z hz
    ·rcases List.mem_cons.1 hz with rfl | hz
     ·exact hx
     ·exact h z hz
   ·split at hz
    ·exact hrr z hz
    ·rcases List.mem_cons.1 hz with rfl | hz
     ·exact hx
     ·exact hrr z hz
theorem putB_bal {x : Balance} (hx : x.amount = ofInt (val x.amount)) : ∀ {l : List Balance}, IsBal l → IsBal (putB l x) ∧ ∀ k, balK k (putB l x) = balK k l + (if bkey x = k then val x.amount else 0)
 | [], h => by
  unfold putB
  split
  ·rename_i e; exact ⟨h, fun k => by simp [e]⟩
  ·rename_i e; exact ⟨IsBal.nil.cons ⟨hx, e⟩ (by simp), fun k => by simp [balK]⟩
 | y :: r, h => by
  have ih := putB_bal hx h.tail
  have hy := h.amt y List.mem_cons_self
  unfold putB
  split
  ·rename_i c
   exact ⟨ih.1.cons hy (putB_lt c h.head_lt), fun k => by simp only [balK, ih.2]; omega⟩
  ·rename_i c
   split
   ·rename_i c2
    split
    ·rename_i e; exact ⟨h, fun k => by simp [e]⟩
    ·rename_i e
     refine ⟨h.cons ⟨hx, e⟩ (fun z hz => ?_), fun k => by simp only [balK]; omega⟩
     rcases List.mem_cons.1 hz with rfl | hz
     ·exact c2
     ·exact klt_trans c2 (h.head_lt z hz)
   ·rename_i c2
    have e : bkey y = bkey x := klt_total (by simpa using c) (by simpa using c2)
    split
    ·rename_i e0
     refine ⟨h.tail, fun k => ?_⟩
     simp only [balK, e]
     split <;> omega
    ·rename_i e0
     have e1 : bkey { x with amount := ofInt (val x.amount + val y.amount) } = bkey x := rfl
     refine ⟨h.tail.cons (canon0_ofInt e0) (fun z hz => by rw [e1, ← e]; exact h.head_lt z hz), fun k => ?_⟩
     simp only [balK, e1, e, val_ofInt]
     split <;> omega
/-! The program's map of sums. -/
def listK (ks : List Key) (f : Key → Str) : List Balance := ks.filterMap fun k => if f k ≠ [] then some ⟨k.1, k.2, f k⟩ else none
theorem listK_bal {ks : List Key} (hs : ks.Pairwise fun a b => klt a b = true) (f : Key → Int) (g : Key → Str) (hg : ∀ k, g k = ofInt (f k)) (h0 : ∀ k, k ∉ ks → f k = 0) : IsBal (listK ks g) ∧ ∀ k, balK k (listK ks g) = f k := by
 have key : ∀ ks : List Key, (ks.Pairwise fun a b => klt a b = true) → IsBal (listK ks g) ∧ (∀ b ∈ listK ks g, bkey b ∈ ks) ∧ ∀ k, balK k (listK ks g) = if k ∈ ks then f k else 0 := by
  intro ks
  induction ks with
  | nil => intro _; exact ⟨IsBal.nil, by simp [listK], by simp [listK, balK]⟩
  | cons q ks ih =>
   intro hs
   obtain ⟨h1, h2⟩ := List.pairwise_cons.1 hs
   obtain ⟨i1, i2, i3⟩ := ih h2
   have hq : q ∉ ks := fun hm => by have := h1 q hm; rw [klt_irrefl] at this; cases this
   by_cases e : f q = 0
   ·have e1 : listK (q :: ks) g = listK ks g := by
     have hz : g q = [] := by rw [hg, e, ofInt_zero]
     simp [listK, List.filterMap_cons, hz]
    rw [e1]
    refine ⟨i1, fun b hb => List.mem_cons_of_mem _ (i2 b hb), fun k => ?_⟩
    rw [i3 k]
    by_cases ek : k = q
    ·subst ek; simp [hq, e]
    ·simp [ek]
   ·have hne : g q ≠ [] := by rw [hg, ne_eq, ofInt_nil]; exact e
    have e1 : listK (q :: ks) g = ⟨q.1, q.2, g q⟩ :: listK ks g := by simp [listK, List.filterMap_cons, hne]
    rw [e1]
    refine ⟨i1.cons (by rw [hg]; exact canon0_ofInt e) (fun b hb => h1 _ (i2 b hb)), fun b hb => ?_, fun k => ?_⟩
    ·rcases List.mem_cons.1 hb with rfl | hb
     ·exact List.mem_cons_self
     ·exact List.mem_cons_of_mem _ (i2 b hb)
    ·simp only [balK]
     rw [i3 k]
     have eb : bkey ⟨q.1, q.2, g q⟩ = q := rfl
     rw [eb, hg, val_ofInt]
     by_cases ek : q = k
     ·subst ek; simp [hq]
     ·have : k ≠ q := fun h => ek h.symm
      simp [ek, this]
 obtain ⟨h1, _, h3⟩ := key ks hs
 refine ⟨h1, fun k => ?_⟩
 rw [h3 k]
 split
 ·rfl
 ·rename_i hk; exact (h0 k hk).symm
end Go.T
namespace Go.T
open Go
variable {κ β : Type} [DecidableEq κ]
theorem getG_setG (d : β) (k : κ) (v : β) (q : κ) : ∀ m : List (κ × β), getG d (setG m k v) q = if q = k then v else getG d m q
 | [] => by by_cases h : q = k <;> simp [setG, getG, h]
 | (a, u) :: r => by
  have ih := getG_setG d k v q r
  by_cases h : k = a
  ·subst h
   by_cases h2 : q = k <;> simp [setG, getG, h2]
  ·simp only [setG, if_neg h, getG, ih]
   by_cases h2 : q = a
   ·subst h2
    have : q ≠ k := fun e => h e.symm
    simp [this]
   ·simp [h2]
theorem keys_setG (k : κ) (v : β) : ∀ m : List (κ × β), (setG m k v).map (·.1) = if k ∈ m.map (·.1) then m.map (·.1) else m.map (·.1) ++ [k]
 | [] => by simp [setG]
 | (a, u) :: r => by
  have ih := keys_setG k v r
  by_cases h : k = a
  ·subst h; simp [setG]
  ·have e : setG ((a, u) :: r) k v = (a, u) :: setG r k v := by simp [setG, h]
   rw [e, List.map_cons, ih]
   by_cases hm : k ∈ r.map (·.1)
   ·rw [if_pos hm, if_pos (by simp only [List.map_cons]; exact List.mem_cons_of_mem _ hm), List.map_cons]
   ·rw [if_neg hm, if_neg (by simp only [List.map_cons, List.mem_cons, not_or]; exact ⟨h, hm⟩)]; rfl
theorem getG_none (d : β) {k : κ} : ∀ {m : List (κ × β)}, k ∉ m.map (·.1) → getG d m k = d
 | [], _ => rfl
 | (a, u) :: r, h => by
  simp only [List.map_cons, List.mem_cons, not_or] at h
  simp only [getG, if_neg h.1, getG_none d h.2]
theorem nodup_setG {k : κ} {v : β} {m : List (κ × β)} (h : (m.map (·.1)).Nodup) : ((setG m k v).map (·.1)).Nodup := by
 rw [keys_setG]
 split
 ·exact h
 ·rename_i hk
  rw [List.nodup_append]
  exact ⟨h, by simp, by simp; intro a b ha e; subst e; exact hk (List.mem_map.2 ⟨_, ha, rfl⟩)⟩
/-! Sums by keys. -/
structure MapV (m : List (κ × Str)) (f : κ → Int) : Prop where
 nodup : (m.map (·.1)).Nodup
 val : ∀ k, getG [] m k = ofInt (f k)
theorem MapV.nil : MapV ([] : List (κ × Str)) (fun _ => 0) := ⟨List.nodup_nil, fun k => by simp [getG, ofInt_zero]⟩
theorem MapV.out {m : List (κ × Str)} {f : κ → Int} (h : MapV m f) {k : κ} (hk : k ∉ m.map (·.1)) : f k = 0 := by
 have := h.val k
 rw [getG_none [] hk] at this
 exact ofInt_nil.1 this.symm
def addG (m : List (κ × Str)) (k : κ) (a : Str) : List (κ × Str) := setG m k (addS (getG [] m k) a)
theorem MapV.add {m : List (κ × Str)} {f : κ → Int} (h : MapV m f) (k : κ) (a : Str) : MapV (addG m k a) (fun q => f q + if k = q then Go.T.val a else 0) := ⟨nodup_setG h.nodup, fun q => by
 rw [addG, getG_setG]
 by_cases e : q = k
 ·subst e; simp [h.val q, addS_ofInt]
 ·have : k ≠ q := fun e' => e e'.symm
  simp [e, this, h.val q]⟩
theorem ofInt_len30 {n : Int} (h : -1000000000000000000000000000000 < n ∧ n < 1000000000000000000000000000000) : (ofInt n).length ≤ 31 := by
 have h3 := natDig_len 30 n.natAbs (by omega)
 unfold ofInt
 split <;> simp <;> omega
theorem MapV.len {m : List (κ × Str)} {f : κ → Int} (h : MapV m f) {k : κ} (hf : -1000000000000000000000000000000 < f k ∧ f k < 1000000000000000000000000000000) : (getG [] m k).length ≤ 31 := by
 rw [h.val k]; exact ofInt_len30 hf
end Go.T
namespace Go.T
open Go Go.Proofs Go.Sort
def kcmp (p q : Key) : Int := orI [cmpT p.1 q.1, cmpT p.2 q.2]
theorem kcmp_lt (p q : Key) : decide (kcmp p q < 0) = klt p q := by
 have a1 := lt_asymm p.1 q.1
 have a2 := lt_asymm p.2 q.2
 have t1 := lt_total p.1 q.1
 have i1 := lt_irrefl p.1
 unfold kcmp klt orI cmpT
 simp only [orI]
 by_cases e : p.1 = q.1
 ·rw [← e, i1]
  cases h : Str.lt p.2 q.2 <;> cases h' : Str.lt q.2 p.2 <;> simp_all
 ·cases h : Str.lt p.1 q.1 <;> cases h' : Str.lt q.1 p.1 <;> simp_all
abbrev KeyS := {p : Key // okPair p}
instance : Inhabited KeyS := ⟨⟨([], []), by simp [okPair, big]⟩⟩
def kcmpS (x y : KeyS) : Int := kcmp x.1 y.1
theorem ltOf_kcmpS (x y : KeyS) : ltOf kcmpS x y = klt x.1 y.1 := kcmp_lt x.1 y.1
theorem klt_ntrans {x y z : Key} (h1 : klt x y = false) (h2 : klt y z = false) : klt x z = false := by
 cases h : klt x z with
 | false => rfl
 | true =>
  cases h3 : klt y x with
  | true => have := klt_trans h3 h; rw [h2] at this; cases this
  | false => have := klt_total h1 h3; subst this; rw [h2] at h; cases h
theorem swo_kcmpS : SWO (ltOf kcmpS) := ⟨fun x => by rw [ltOf_kcmpS, klt_irrefl], fun x y z h1 h2 => by rw [ltOf_kcmpS] at *; exact klt_trans h1 h2, fun x y z h1 h2 => by rw [ltOf_kcmpS] at *; exact klt_ntrans h1 h2⟩
theorem tot_kcmpS (x y : KeyS) (h1 : ltOf kcmpS x y = false) (h2 : ltOf kcmpS y x = false) : x = y := by
 rw [ltOf_kcmpS] at *
 exact Subtype.ext (klt_total h1 h2)
theorem elemKey : Elem 2 (fun x : KeyS => [D.str x.1.1, D.str x.1.2]) (fun x => [vStr x.1.1, vStr x.1.2]) := by
 refine ⟨fun _ => rfl, fun _ => rfl, fun x v hv => ?_, fun x w O ρ vs h => ?_, fun x w O ρ => ?_⟩
 ·simp only [List.mem_cons, List.not_mem_nil, or_false] at hv
  rcases hv with rfl | rfl <;> rfl
 ·simp only [Vs, V] at h
  obtain ⟨_, _, rfl, h1, _, _, rfl, h2, rfl⟩ := h
  rw [h1.1, h2.1]
 ·simp only [Vs, V]
  exact ⟨_, _, rfl, ⟨rfl, x.2.1⟩, _, _, rfl, ⟨rfl, x.2.2⟩, rfl⟩
theorem attach_val {α : Type} {P : α → Prop} {l : List α} (h : ∀ k ∈ l, P k) : (l.attachWith P h).map Subtype.val = l := by
 apply List.ext_getElem
 ·simp
 ·intro i h1 h2; simp
def sortK (l : List Key) : List Key := l.mergeSort (fun x y => !klt y x)
theorem kle_trans (a b c : Key) (h1 : (!klt b a) = true) (h2 : (!klt c b) = true) : (!klt c a) = true := by
 simp only [Bool.not_eq_true'] at *
 exact klt_ntrans h2 h1
theorem kle_total (a b : Key) : ((!klt b a) || (!klt a b)) = true := by
 cases h : klt b a with
 | false => rfl
 | true => simp [klt_asymm h]
theorem sortK_perm0 (l : List Key) : (sortK l).Perm l := List.mergeSort_perm l _
theorem sortK_sorted {l : List Key} (h : l.Nodup) : (sortK l).Pairwise fun a b => klt a b = true := by
 have h1 := List.pairwise_mergeSort (le := fun x y : Key => !klt y x) kle_trans kle_total l
 have h2 : (sortK l).Nodup := (sortK_perm0 l).nodup_iff.2 h
 refine (h1.and h2).imp ?_
 rintro a b ⟨g1, g2⟩
 cases h3 : klt a b with
 | true => rfl
 | false => exact absurd (klt_total h3 (by simpa using g1)) g2
theorem sorted_ext : ∀ {a b : List Key}, (a.Pairwise fun a b => klt a b = true) → (b.Pairwise fun a b => klt a b = true) → a.Perm b → a = b
 | [], b, _, _, h => (List.nil_perm.1 h).symm ▸ rfl
 | x :: a, [], _, _, h => by have := h.length_eq; simp at this
 | x :: a, y :: b, ha, hb, h => by
  obtain ⟨h1, h2⟩ := List.pairwise_cons.1 ha
  obtain ⟨g1, g2⟩ := List.pairwise_cons.1 hb
  have e : x = y := by
   have hx : x ∈ y :: b := h.subset List.mem_cons_self
   have hy : y ∈ x :: a := h.symm.subset List.mem_cons_self
   rcases List.mem_cons.1 hx with e | hx
   ·exact e
   ·rcases List.mem_cons.1 hy with e | hy
    ·exact e.symm
    ·have := klt_asymm (h1 y hy); rw [g1 x hx] at this; cases this
  subst e
  rw [sorted_ext h2 g2 (List.Perm.cons_inv h)]
theorem sortK_perm {a b : List Key} (h : a.Perm b) (hb : b.Nodup) : sortK a = sortK b :=
 sorted_ext (sortK_sorted (h.nodup_iff.2 hb)) (sortK_sorted hb) ((sortK_perm0 a).trans (h.trans (sortK_perm0 b).symm))
theorem sortK_attach {l : List Key} (h : ∀ k ∈ l, okPair k) : ((l.attachWith okPair h).mergeSort fun x y => !(ltOf kcmpS) y x).map (fun x : KeyS => [D.str x.1.1, D.str x.1.2]) = (sortK l).map fun k => [D.str k.1, D.str k.2] := by
 have e : ((l.attachWith okPair h).mergeSort fun x y => !(ltOf kcmpS) y x).map Subtype.val = sortK l := by
  unfold sortK
  rw [List.map_mergeSort (r := fun x y => !(ltOf kcmpS) y x) (s := fun x y => !klt y x) (fun a _ b _ => by rw [ltOf_kcmpS]), attach_val]
 rw [← e, List.map_map]; rfl
theorem attach_enc {l : List Key} (h : ∀ k ∈ l, okPair k) : (l.attachWith okPair h).map (fun x : KeyS => [D.str x.1.1, D.str x.1.2]) = l.map fun k => [D.str k.1, D.str k.2] := by
 have e := attach_val h
 conv => { rhs; rw [← e, List.map_map] }
 rfl
/-! The list of a map. -/
def listM (m : List (Key × Str)) : List Balance := listK (sortK (m.map (·.1))) (getG [] m)
theorem listM_bal {m : List (Key × Str)} {f : Key → Int} (h : MapV m f) : IsBal (listM m) ∧ ∀ k, balK k (listM m) = f k :=
 listK_bal (sortK_sorted h.nodup) f _ h.val (fun k hk => h.out (fun hm => hk ((sortK_perm0 _).symm.subset hm)))
end Go.T
namespace Go.T
open Go Go.Proofs
/-- The sum of a key over entries. -/
def sumE (k : Key) : List Entry → Int
 | [] => 0
 | e :: l => sumK k e.lines + sumE k l
theorem sumE_append (k : Key) (a b : List Entry) : sumE k (a ++ b) = sumE k a + sumE k b := by
 induction a with
 | nil => simp [sumE]
 | cons x a ih => simp only [List.cons_append, sumE, ih]; omega
end Go.T
namespace Go.T
open Go Go.Proofs
@[reducible] def encKey (k : Key) : List D := [.str k.1, .str k.2]
@[reducible] def sKeys (l : List Key) : D := .snap 2 false (l.map encKey)
@[reducible] def sBals (l : List Balance) : D := .snap 3 false (l.map encBalance)
def linesM (m : List (Key × Str)) (ls : List Line) : List (Key × Str) := ls.foldl (fun m l => addG m (lkey l) l.amount) m
theorem linesM_snoc (m : List (Key × Str)) (ls : List Line) (x : Line) : linesM m (ls ++ [x]) = addG (linesM m ls) (lkey x) x.amount := by simp [linesM]
theorem MapV.eqf {m : List (Key × Str)} {f g : Key → Int} (h : MapV m f) (e : ∀ k, f k = g k) : MapV m g := ⟨h.nodup, fun k => by rw [h.val, e]⟩
theorem MapV.lines {m : List (Key × Str)} {f : Key → Int} (h : MapV m f) (ls : List Line) : MapV (linesM m ls) (fun k => f k + sumK k ls) := by
 induction ls using rev_ind with
 | h0 => exact h.eqf (fun k => by simp [sumK])
 | h1 ls x ih =>
  rw [linesM_snoc]
  refine (ih.add _ _).eqf fun k => ?_
  rw [sumK_append]
  simp only [sumK]
  omega
def trM (d : Int) (es : List Entry) : List (Key × Str) := es.foldl (fun m e => if decide (e.day ≤ d) then linesM m e.lines else m) []
theorem trM_T {d : Int} {es : List Entry} {x : Entry} (h : x.day ≤ d) : trM d (es ++ [x]) = linesM (trM d es) x.lines := by simp [trM, h]
theorem trM_F {d : Int} {es : List Entry} {x : Entry} (h : ¬ x.day ≤ d) : trM d (es ++ [x]) = trM d es := by simp only [trM, List.foldl_append, List.foldl_cons, List.foldl_nil, h, decide_false]; rfl
theorem trM_val (d : Int) (es : List Entry) : MapV (trM d es) (fun k => sumE k (es.filter fun e => decide (e.day ≤ d))) := by
 induction es using rev_ind with
 | h0 => exact MapV.nil.eqf (fun k => by simp [sumE])
 | h1 es x ih =>
  by_cases h : x.day ≤ d
  ·rw [trM_T h]
   refine (ih.lines _).eqf fun k => ?_
   simp [List.filter_append, h, sumE_append, sumE]
  ·rw [trM_F h]
   refine ih.eqf fun k => ?_
   simp [List.filter_append, h]
theorem sumK_bound {k : Key} {ls : List Line} (h : ∀ l ∈ ls, l.amount.length ≤ 14) : -(ls.length * 100000000000000 : Int) ≤ sumK k ls ∧ sumK k ls ≤ ls.length * 100000000000000 := by
 induction ls with
 | nil => simp [sumK]
 | cons x ls ih =>
  have h1 := ih (fun l hl => h l (List.mem_cons_of_mem _ hl))
  have h2 := val_13 (h x List.mem_cons_self)
  simp only [sumK, List.length_cons]
  split <;> omega
theorem sumE_bound {k : Key} {es : List Entry} (h : ∀ e ∈ es, smallE e) : -(es.length * 6600000000000000 : Int) ≤ sumE k es ∧ sumE k es ≤ es.length * 6600000000000000 := by
 induction es with
 | nil => simp [sumE]
 | cons x es ih =>
  have h1 := ih (fun l hl => h l (List.mem_cons_of_mem _ hl))
  obtain ⟨_, g2, g3⟩ := h x List.mem_cons_self
  have h2 := sumK_bound (k := k) (ls := x.lines) (fun l hl => (g3 l hl).2.2)
  simp only [sumE, List.length_cons]
  omega
theorem trM_get {d : Int} {es : List Entry} {ls : List Line} (k : Key) (h : ∀ e ∈ es, smallE e) (hn : es.length ≤ 100000) (hl : ls.length ≤ 66) (h2 : ∀ l ∈ ls, l.amount.length ≤ 14) : (getG [] (linesM (trM d es) ls) k).length ≤ 31 := by
 refine ((trM_val d es).lines ls).len ?_
 have b1 := sumE_bound (k := k) (es := es.filter fun e => decide (e.day ≤ d)) (fun e he => h e ((List.mem_filter.1 he).1))
 have b2 := sumK_bound (k := k) h2
 have b3 := List.length_filter_le (fun e : Entry => decide (e.day ≤ d)) es
 constructor <;> omega
/-! Keys of maps that are short. -/
def okM (m : List (Key × Str)) (n : Nat) : Prop := (∀ k ∈ m.map (·.1), okPair k) ∧ m.length ≤ n
theorem okM.nil : okM [] 0 := ⟨by simp, by simp⟩
theorem okM.add {m : List (Key × Str)} {n : Nat} (h : okM m n) {k : Key} (hk : okPair k) (a : Str) : okM (addG m k a) (n + 1) := by
 refine ⟨fun q hq => ?_, ?_⟩
 ·rw [addG, keys_setG] at hq
  split at hq
  ·exact h.1 q hq
  ·rcases List.mem_append.1 hq with hq | hq
   ·exact h.1 q hq
   ·simp at hq; subst hq; exact hk
 ·have := setG_len ([] : Str) m k (addS (getG [] m k) a)
  have := h.2
  rw [addG]
  split at * <;> omega
theorem okPair_60 {k : Key} (h : k.1.length ≤ 60 ∧ k.2.length ≤ 60) : okPair k := by simp only [okPair, big]; omega
theorem okM.lines {m : List (Key × Str)} {n : Nat} (h : okM m n) {ls : List Line} (hl : ∀ l ∈ ls, smallLine l) : okM (linesM m ls) (n + ls.length) := by
 induction ls using rev_ind with
 | h0 => exact h
 | h1 ls x ih =>
  rw [linesM_snoc, List.length_append]
  have hx := hl x (by simp)
  exact (ih fun l hl' => hl l (by simp [hl'])).add (okPair_60 ⟨hx.1, hx.2.1⟩) _
theorem okM.le {m : List (Key × Str)} {n n' : Nat} (h : okM m n) (hn : n ≤ n') : okM m n' := ⟨h.1, Nat.le_trans h.2 hn⟩
theorem trM_ok {d : Int} {es : List Entry} (h : ∀ e ∈ es, smallE e) : okM (trM d es) (66 * es.length) := by
 induction es using rev_ind with
 | h0 => exact okM.nil
 | h1 es x ih =>
  have ih := ih fun e he => h e (by simp [he])
  have hx := h x (by simp)
  rw [List.length_append]
  by_cases hd : x.day ≤ d
  ·rw [trM_T hd]; exact (ih.lines hx.2.2).le (by have := hx.2.1; simp; omega)
  ·rw [trM_F hd]; exact ih.le (by simp; omega)
/-- The balances of entries up to a day. -/
def trialB (d : Int) (es : List Entry) : List Balance := listM (trM d es)
theorem trialB_bal (d : Int) (es : List Entry) : IsBal (trialB d es) ∧ ∀ k, balK k (trialB d es) = sumE k (es.filter fun e => decide (e.day ≤ d)) := listM_bal (trM_val d es)
theorem listK_snoc (ks : List Key) (f : Key → Str) (k : Key) : listK (ks ++ [k]) f = listK ks f ++ (if f k ≠ [] then [⟨k.1, k.2, f k⟩] else []) := by
 simp only [listK, List.filterMap_append, List.filterMap_cons, List.filterMap_nil]
 split <;> simp_all
theorem listK_len (ks : List Key) (f : Key → Str) : (listK ks f).length ≤ ks.length := List.length_filterMap_le _ _
end Go.T
namespace Go.T
open Go Go.Proofs
set_option maxRecDepth 20000
theorem sortKeys_ok (l : List Key) (h : ∀ k ∈ l, okPair k) (hl : l.length < 4611686018427387904) : FcO Tryz.prog 171 [.gs 7800 l.length, .fn (.func 124) [] []] [(7800, .arr 2 (l.map encKey))] (.tup []) [(7800, .arr 2 ((sortK l).map encKey))] := by
 have := sort_FcO (r := Tryz.sortKey_ren) Tryz.sortKey Tryz.isAgg110 Tryz.sizeOf110 elemKey (g := 124) (cf := kcmpS) Tryz.call124 (fun x y => @ledgerCmp_ok calm _ _ _ _) swo_kcmpS tot_kcmpS 7800 (l.attachWith okPair h) (by simpa using hl)
 rw [sortK_attach, attach_enc, List.length_attachWith] at this
 exact this
theorem appendKeys_ok (m : KM) (hm : m.length ≤ 1000000) : FcOE (ι := List Key) Tryz.prog 210 [.raw (.slice none 0 0), .fn (.func 172) [] [.iptr [imapG kPair D.str m]]] [] (fun p => p.Perm (m.map (·.1))) (fun p => .gs 7800 p.length) (fun p => [(7800, .arr 2 (p.map encKey))]) := by
 refine FcOE.mk' [4] Tryz.func210 rfl Tryz.ntmps210 rfl (fun _ => rfl) (fun _ => rfl) (fun t w => results_tmp Tryz.results210 t _ w) ?_
 refine Run.seq (Run.reg [.w, .p] ?_)
 refine .W rfl (q_box1 0 rfl rfl rfl) <| .ag rfl rfl <| .nil ?_
 refine Run.seq (Run.seq (Run.reg [.p] ?_))
 refine .mv rfl rfl <| .nil ?_
 refine Run.block ?_
 refine Run.rangeF (α := Key) 7900 [0] [(0, _), (1, _), (2, _), (4, _), (6, _)] (fun (pre : List (Key)) => [(0, .cells [.gs 7800 pre.length]), (7800, .arr 2 (pre.map encKey))]) (fun _ _ => False) rfl Tryz.call172 (keysY_ok m) (env1 := [(0, _), (1, _), (2, _), (4, _), (6, _)]) ((Le.own0 7800 2).trans <| (Le.subO 0 0 rfl rfl (Sub.gsNil 7800)).trans <| Le.mk (obs' := [] ++ (fun (pre : List (Key)) => [(0, .cells [.gs 7800 pre.length]), (7800, .arr 2 (pre.map encKey))]) []) rfl (show EnvLe _ _ [(0, _), (1, _), (2, _), (4, _), (6, _)] from (.same rfl rfl (.same rfl rfl (.same rfl rfl (.same rfl rfl (.same rfl rfl .nil)))))) (.eqA rfl rfl (.eqA rfl rfl .nil))) rfl rfl (fun _ => rfl) (.cons rfl rfl (.cons rfl rfl (.cons rfl rfl (.cons rfl rfl (.cons rfl rfl .nil))))) rfl (fun _ => rfl) (by rintro j o h; exact h.elim) (fun _ => Obs.okB_get rfl) (by rintro j o h; exact h.elim) (fun _ => freeB_get rfl) (by rintro j o h; exact h.elim) (by decide) rfl (fun pre x hok => ?_) (fun xs hfin => ?_) (fun _ _ h => h.elim)
 ·skip
  simp only [List.length_append, List.length_singleton] at hok
  refine Run.reg [.w, .w] ?_
  refine .W rfl (q_alloc 1 Tryz.zeroValue110 rfl) <| .W rfl (q_storeW Tryz.sizeOf110 rfl rfl rfl rfl rfl rfl) <| .nil ?_
  refine Run.nil ⟨rfl, ?_⟩
  refine Run.block ?_
  refine Run.reg [.r, .r, .p, .w, .w] ?_
  refine .R rfl (q_load1 Tryz.isAgg163 rfl rfl rfl) <| .R rfl (q_loadW Tryz.isAgg110 Tryz.sizeOf110 rfl rfl rfl) <| .P rfl (q_buildSlice' (n := 1) (rows := [encKey x]) Tryz.underlying163 Tryz.sizeOf110 rfl rfl rfl Tryz.zeroValue110 rfl rfl rfl rfl rfl rfl rfl) <| .W rfl (q_append 2 Tryz.underlying163 Tryz.underlying163 Tryz.sizeOf110 Tryz.typeInfo110 Tryz.zeroValue110 rfl (bt := 32) rfl rfl rfl rfl (by simp) rfl rfl (by simp; omega)) <| .W rfl (q_store1 Tryz.sizeOf163 rfl rfl rfl rfl (by first | (simp; done) | decide)) <| .nil ?_
  refine Run.nil (bq_norm ?_)
  refine Run.nil ?_
  exact ⟨rfl, (Le.mk (env' := []) (obs' := [(7900, _), (0, _), (2, _)]) rfl .nil (.cons (i := 7900) rfl rfl (.cons (i := 0) rfl rfl (.cons (i := 2) rfl rfl .nil)))).trans <| (Le.renO 0 0 2 7800 rfl rfl rfl (by simp) rfl).trans <| Le.mk rfl .nil (.cons rfl rfl (.eq rfl (by first | rfl | (simp; done) | (simp; omega)) rfl (.eq rfl (by first | rfl | (simp; done) | (simp; omega)) rfl .nil)))⟩
 ·skip
  refine Run.nil (bq_norm ?_)
  refine Run.seq (Run.reg [.r, .p] ?_)
  refine .R rfl (q_load1 Tryz.isAgg163 rfl rfl rfl) <| .ag rfl rfl <| .nil ?_
  refine Run.ret (?_)
  exact retOE1 (xs) (hfin) rfl (by exact Sub.gs (by simp)) (.eq rfl (by rfl) rfl .nil)
theorem collectKeys_ok (m : KM) (hm : m.length ≤ 1000000) : FcOE (ι := List Key) Tryz.prog 170 [.fn (.func 172) [] [.iptr [imapG kPair D.str m]]] [] (fun p => p.Perm (m.map (·.1))) (fun p => .gs 7800 p.length) (fun p => [(7800, .arr 2 (p.map encKey))]) := by
 refine FcOE.mk' [2] Tryz.func170 rfl Tryz.ntmps170 rfl (fun _ => rfl) (fun _ => rfl) (fun t w => results_tmp Tryz.results170 t _ w) ?_
 refine Run.seq (Run.reg [.p] ?_)
 refine .ag rfl rfl <| .nil ?_
 refine Run.seq (Run.regT ?_)
 refine Tx.q rfl trivial (q_move rfl _) ?_
 refine Tx.n rfl trivial (q_callOE Tryz.call210 rfl (appendKeys_ok m hm) .nil rfl (fun _ => rfl)) (fun nb hnb => ?_)
 dsimp only
 refine Tx.q rfl trivial (q_assign rfl _) ?_
 refine Tx.nil ?_
 refine Run.ret (?_)
 exact retOE1 (nb) (hnb) rfl (by exact Sub.gs (by simp)) (.eq rfl (by rfl) rfl .nil)
theorem sortedKeys_ok (m : KM) (hm : m.length ≤ 1000000) (hk : ∀ k ∈ m.map (·.1), okPair k) (hn : (m.map (·.1)).Nodup) : Fc Tryz.prog 125 [.fn (.func 172) [] [.iptr [imapG kPair D.str m]], .fn (.func 124) [] []] (sKeys (sortK (m.map (·.1)))) := by
 refine Fc.mk' [4] Tryz.func125 rfl Tryz.ntmps125 rfl rfl rfl (fun t w => results_tmp Tryz.results125 t _ w) ?_
 refine Run.seq (Run.reg [.p] ?_)
 refine .ag rfl rfl <| .nil ?_
 refine Run.seq (Run.regT ?_)
 refine Tx.q rfl trivial (q_move rfl _) ?_
 refine Tx.n rfl trivial (q_callOE Tryz.call170 rfl (collectKeys_ok m hm) .nil rfl (fun _ => rfl)) (fun nb hnb => ?_)
 dsimp only
 refine Tx.q rfl trivial (q_assign rfl _) ?_
 refine Tx.nil ?_
 refine Run.seq (Run.reg [.p, .p, .w] ?_)
 refine .mv rfl rfl <| .mv rfl rfl <| .W rfl (q_callO Tryz.call171 rfl (sortKeys_ok nb (fun k hk' => hk k (hnb.subset hk')) (by have := hnb.length_eq; simp at this; omega)) (.cons rfl rfl .nil) rfl rfl) <| .nil ?_
 refine Run.seq (Run.reg [.p, .p] ?_)
 refine .mv rfl rfl <| .ag rfl rfl <| .nil ?_
 refine Run.weak (Le.freeze 4 7800 rfl rfl (by have := (sortK_perm0 nb).length_eq; simp [this])) ?_
 refine Run.ret (?_)
 exact ret1 rfl (Sub.snap (by rw [sortK_perm hnb hn]))
structure list_ok_L0 (m : KM) where
 pre : List Key
 rest : List Key
 hx : sortK (m.map (·.1)) = pre ++ rest
theorem list_ok (m : KM) (hm : m.length ≤ 1000000) (hk : ∀ k ∈ m.map (·.1), okPair k) (hn : (m.map (·.1)).Nodup) : Fc Tryz.prog 76 [imapG kPair D.str m] (sBals (listM m)) := by
 refine Fc.mk' [2] Tryz.func76 rfl Tryz.ntmps76 rfl rfl rfl (fun t w => results_tmp Tryz.results76 t _ w) ?_
 have hsl : (sortK (m.map (·.1))).length = m.length := by rw [(sortK_perm0 _).length_eq]; simp
 refine Run.seq (Run.reg [.p] ?_)
 refine .ag rfl rfl <| .nil ?_
 refine Run.seq (Run.reg [.p] ?_)
 refine .ag rfl rfl <| .nil ?_
 refine Run.seq (Run.seq (Run.reg [.p, .p, .p, .p, .p] ?_))
 refine .mv rfl rfl <| .P rfl (q_call Tryz.call126 rfl (mapsKeys_ok _)) <| .P rfl (q_call Tryz.call125 rfl (sortedKeys_ok m hm hk hn)) <| .P rfl (q_lenI Tryz.underlying163 rfl) <| .mv rfl rfl <| .nil ?_
 refine Run.block ?_
 refine Run.loop (ι := list_ok_L0 m) (fun sx => [(0, imapG kPair D.str m), (3, .gs 0 (listK sx.pre (getG [] m)).length), (8, sKeys (sortK (m.map (·.1)))), (9, .i (sortK (m.map (·.1))).length), (10, .i sx.pre.length)]) (fun sx => [(0, .arr 3 ((listK sx.pre (getG [] m)).map encBalance))]) (fun sx => sx.rest.length) ⟨[], _, rfl⟩ ?_ ?_
 ·exact (Le.own0 0 3).trans <| Le.mk rfl (.same rfl rfl (.cons rfl (Sub.gsNil _) rfl (.same rfl rfl (.cons rfl Sub.intA rfl (.cons rfl Sub.intA rfl .nil))))) (.arr rfl (by first | rfl | (rw [listK_snoc, if_pos (by simpa using ph1)]; simp) | (rw [listK_snoc, if_neg (by simpa using ph1)]; simp)) .nil)
 ·rintro ⟨pre, rest, hx⟩
  show Run _ _ _ _ [(0, imapG kPair D.str m), (3, .gs 0 (listK pre (getG [] m)).length), (8, sKeys (sortK (m.map (·.1)))), (9, .i (sortK (m.map (·.1))).length), (10, .i pre.length)] [(0, .arr 3 ((listK pre (getG [] m)).map encBalance))]
  have hl := congrArg List.length hx
  simp only [List.length_append] at hl
  rcases rest with _ | ⟨x, rest⟩
  ·skip
   refine Run.seq (Run.reg [.p] ?_)
   refine .P rfl (q_lss rfl rfl) <| .nil ?_
   refine Run.seq ?_
   refine Run.condF rfl (by simp at hl ⊢; omega) ?_
   refine Run.exit (tq_exit (bq_exit ?_))
   refine Run.seq (Run.reg [.p, .p] ?_)
   refine .mv rfl rfl <| .ag rfl rfl <| .nil ?_
   refine Run.weak (Le.freeze 2 0 rfl rfl (by simp)) ?_
   refine Run.ret (?_)
   exact ret1 rfl (Sub.snap (by unfold listM; rw [hx, List.append_nil]))
  ·simp only [List.length_cons] at hl
   refine Run.seq (Run.reg [.p] ?_)
   refine .P rfl (q_lss rfl rfl) <| .nil ?_
   refine Run.seq ?_
   refine Run.condT rfl (by simp; omega) ?_
   refine Run.skip ?_
   refine Run.seq ?_
   refine Run.block ?_
   refine Run.seq (Run.reg [.p, .p, .w, .w] ?_)
   refine .P rfl (q_indexI Tryz.underlying163 Tryz.sizeOf110 rfl rfl (by omega) (idx_mid encKey hx rfl)) <| .P rfl (q_loadIA Tryz.isAgg110 Tryz.sizeOf110 rfl rfl) <| .W rfl (q_alloc 1 Tryz.zeroValue110 rfl) <| .W rfl (q_storeW Tryz.sizeOf110 rfl rfl rfl rfl rfl rfl) <| .nil ?_
   refine Run.seq (Run.reg [.p, .r, .p, .p] ?_)
   refine .mv rfl rfl <| .R rfl (q_loadW Tryz.isAgg110 Tryz.sizeOf110 rfl rfl rfl) <| .P rfl (fun _ => q_lookupI tzKey (vD := D.str) (m := m) (k := x) (d := []) Tryz.underlying107 Tryz.zeroValue54 vstr0 rfl rfl rfl rfl) <| .P rfl (q_neqS rfl rfl) <| .nil ?_
   refine Run.cond rfl (fun h1 => ?_) (fun h1 => ?_)
   ·have ph1 := h1; try simp only [bs] at ph1
    refine Run.regD [.p, .p, .r, .p, .r, .p, .r, .p, .p, .p, .w, .p] Tryz_mixed (by decide +kernel) ?_
    refine .mv rfl rfl <| .P rfl (q_fieldB (n := 0) 9 0 Tryz.underlying110 Tryz.sizeOf9 rfl rfl) <| .R rfl (q_load1 Tryz.isAgg9 rfl rfl rfl) <| .P rfl (q_fieldB (n := 0) 9 1 Tryz.underlying110 Tryz.sizeOf9 rfl rfl) <| .R rfl (q_load1 Tryz.isAgg9 rfl rfl rfl) <| .mv rfl rfl <| .R rfl (q_loadW Tryz.isAgg110 Tryz.sizeOf110 rfl rfl rfl) <| .P rfl (fun _ => q_lookupI tzKey (vD := D.str) (m := m) (k := x) (d := []) Tryz.underlying107 Tryz.zeroValue54 vstr0 rfl rfl rfl rfl) <| .P rfl (q_build (pl := #[(0, 1), (1, 1), (2, 1)]) Tryz.underlying56 Tryz.zeroValue56 (fun w => by kernel_rfl) rfl rfl) <| .P rfl (q_buildSlice' (n := 1) (rows := [encBalance ⟨x.1, x.2, getG [] m x⟩]) Tryz.underlying45 Tryz.sizeOf56 rfl rfl rfl Tryz.zeroValue56 rfl rfl rfl rfl rfl rfl rfl) <| .W rfl (q_append 2 Tryz.underlying45 Tryz.underlying45 Tryz.sizeOf56 Tryz.typeInfo56 Tryz.zeroValue56 rfl (bt := 48) rfl rfl rfl rfl (by simp) rfl rfl (by have := listK_len pre (getG [] m); simp; omega)) <| .ag rfl rfl <| .nil ?_
    refine Run.nil (bq_norm ?_)
    refine Run.reg [.p, .p] ?_
    refine .P rfl (q_add rfl rfl (wrap64_ok (by omega) (by omega))) <| .mv rfl rfl <| .nil ?_
    refine Run.nil (tq_norm ?_)
    exact ⟨⟨pre ++ [x], rest, by simp [hx]⟩, by simp, (Le.mk (obs' := [(2, _)]) rfl (show EnvLe _ _ [(0, _), (3, _), (8, _), (9, _), (10, _)] from (.same rfl rfl (.same rfl rfl (.same rfl rfl (.same rfl rfl (.same rfl rfl .nil)))))) (.cons (i := 2) rfl rfl .nil)).trans <| (Le.ren 3 2 0 rfl rfl (by simp) rfl).trans <| Le.mk rfl (.same rfl rfl (.cons rfl (Sub.gs (by first | rfl | (rw [listK_snoc, if_pos (by simpa using ph1)]; simp; done) | (rw [listK_snoc, if_neg (by simpa using ph1)]; simp))) rfl (.same rfl rfl (.cons rfl Sub.intA rfl (.cons rfl Sub.intA rfl .nil))))) (.arr rfl (by first | rfl | (rw [listK_snoc, if_pos (by simpa using ph1)]; simp) | (rw [listK_snoc, if_neg (by simpa using ph1)]; simp)) .nil)⟩
   ·have ph1 := h1; try simp only [bs] at ph1
    refine Run.skip ?_
    refine Run.nil (bq_norm ?_)
    refine Run.reg [.p, .p] ?_
    refine .P rfl (q_add rfl rfl (wrap64_ok (by omega) (by omega))) <| .mv rfl rfl <| .nil ?_
    refine Run.nil (tq_norm ?_)
    exact ⟨⟨pre ++ [x], rest, by simp [hx]⟩, by simp, Le.mk rfl (.same rfl rfl (.cons rfl (Sub.gs (by first | rfl | (rw [listK_snoc, if_pos (by simpa using ph1)]; simp; done) | (rw [listK_snoc, if_neg (by simpa using ph1)]; simp))) rfl (.same rfl rfl (.cons rfl Sub.intA rfl (.cons rfl Sub.intA rfl .nil))))) (.arr rfl (by first | rfl | (rw [listK_snoc, if_pos (by simpa using ph1)]; simp) | (rw [listK_snoc, if_neg (by simpa using ph1)]; simp)) .nil)⟩
end Go.T
namespace Go.T
open Go Go.Proofs
set_option maxRecDepth 20000
theorem okB_KM (f : Nat → Bool) (m : KM) : Ob.okB f (.mp (encGM kPair D.str m)) = true := by
 have h1 : ∀ l : List Key, D.okB.okL f (l.map kPair) = true := by
  intro l
  induction l with
  | nil => rfl
  | cons a l ih => simp only [List.map_cons, D.okB.okL, D.okB, ih]; rfl
 have h2 : ∀ l : List Str, D.okB.okL f (l.map .str) = true := by
  intro l
  induction l with
  | nil => rfl
  | cons a l ih => simp only [List.map_cons, D.okB.okL, D.okB, ih]; rfl
 have e1 : (encGM kPair D.str m).map (·.1) = (m.map (·.1)).map kPair := by simp [encGM]
 have e2 : (encGM kPair D.str m).map (·.2) = (m.map (·.2)).map .str := by simp [encGM]
 simp only [Ob.okB]
 rw [e1, e2, h1, h2]; rfl
theorem addKey_ok (m : KM) (k : Key) (a : Str) (h1 : (getG [] m k).length ≤ 4000) (h2 : a.length ≤ 4000) : FcO Tryz.prog 74 [.mapr 0, kPair k, .str a] [(0, .mp (encGM kPair D.str m))] (.tup []) [(0, .mp (encGM kPair D.str (addG m k a)))] := by
 refine FcO.mk' [] Tryz.func74 rfl Tryz.ntmps74 rfl rfl rfl (fun t w => results_none Tryz.results74 t _ w) ?_
 refine Run.seq (Run.reg [.w] ?_)
 refine .W rfl (q_boxA 1 rfl rfl) <| .nil ?_
 refine Run.regD [.p, .r, .p, .r, .r, .p, .p, .w] Tryz_mixed (by decide +kernel) ?_
 refine .mv rfl rfl <| .R rfl (q_loadW Tryz.isAgg110 Tryz.sizeOf110 rfl rfl rfl) <| .mv rfl rfl <| .R rfl (q_loadW Tryz.isAgg110 Tryz.sizeOf110 rfl rfl rfl) <| .R rfl (q_lookupG tzKey (vD := D.str) (k := k) (d := []) Tryz.underlying107 Tryz.zeroValue54 vstr0 rfl rfl rfl rfl) <| .mv rfl rfl <| .P rfl (q_call Tryz.call27 rfl (add_ok _ _ (by first | assumption | omega | (simp at *; omega)) (by first | assumption | omega | (simp at *; omega)))) <| .W rfl (q_mapUpdateG tzKey (vD := D.str) (k := k) (v := addS (getG [] m k) a) Tryz.underlying107 rfl rfl rfl rfl rfl rfl) <| .nil ?_
 refine Run.nil ?_
 exact retO0n  (Sub.refl _) (.eq rfl (by rfl) (okB_KM _ _) .nil)
theorem badL_ok (e : Entry) (hs : smallE e) : Fc Tryz.prog 123 [.agg (encEntry e)] (.b (decide (checkE e ≠ 0))) := by
 refine Fc.mk' [2] Tryz.func123 rfl Tryz.ntmps123 rfl rfl rfl (fun t w => results_tmp Tryz.results123 t _ w) ?_
 refine Run.seq (Run.reg [.w, .p] ?_)
 refine .W rfl (q_boxA 0 rfl rfl) <| .ag rfl rfl <| .nil ?_
 refine Run.seq (Run.reg [.r, .p, .p, .p] ?_)
 refine .R rfl (q_loadW Tryz.isAgg37 Tryz.sizeOf37 rfl rfl rfl) <| .P rfl (q_call Tryz.call18 rfl (check_ok _ (by first | assumption | omega | (simp at *; omega)))) <| .P rfl (q_neq rfl rfl) <| .ag rfl rfl <| .nil ?_
 refine Run.ret (?_)
 exact ret1 rfl (Sub.bool (by rfl))
structure indexBadL_ok_L0 (l : List Entry) where
 pre : List Entry
 rest : List Entry
 hx : l = pre ++ rest
 hp : pre.any (fun e => decide (checkE e ≠ 0)) = false
theorem indexBadL_ok (l : List Entry) (hs : ∀ e ∈ l, smallE e) : Fc Tryz.prog 107 [sEntries l, .fn (.func 123) [] []] (.i (if l.any (fun e => decide (checkE e ≠ 0)) then (l.findIdx (fun e => decide (checkE e ≠ 0)) : Int) else -1)) := by
 refine Fc.mk' [4] Tryz.func107 rfl Tryz.ntmps107 rfl rfl rfl (fun t w => results_tmp Tryz.results107 t _ w) ?_
 refine Run.bSnap 0 rfl (fun hb => ?_)
 simp only [List.length_map, big] at hb
 refine Run.seq (Run.reg [.p] ?_)
 refine .ag rfl rfl <| .nil ?_
 refine Run.seq (Run.seq (Run.reg [.p, .p, .p] ?_))
 refine .mv rfl rfl <| .P rfl (q_lenI Tryz.underlying22 rfl) <| .mv rfl rfl <| .nil ?_
 refine Run.block ?_
 refine Run.loop (ι := indexBadL_ok_L0 l) (fun sx => [(0, sEntries l), (1, .fn (.func 123) [] []), (6, sEntries l), (7, .i l.length), (8, .i sx.pre.length)]) (fun sx => []) (fun sx => sx.rest.length) ⟨[], l, rfl, rfl⟩ ?_ ?_
 ·exact Le.mk rfl (.same rfl rfl (.same rfl rfl (.same rfl rfl (.cons rfl Sub.intA rfl (.cons rfl Sub.intA rfl .nil))))) .nil
 ·rintro ⟨pre, rest, hx, hp⟩
  show Run _ _ _ _ [(0, sEntries l), (1, .fn (.func 123) [] []), (6, sEntries l), (7, .i l.length), (8, .i pre.length)] []
  have hl := congrArg List.length hx
  simp only [List.length_append] at hl
  rcases rest with _ | ⟨x, rest⟩
  ·skip
   refine Run.seq (Run.reg [.p] ?_)
   refine .P rfl (q_lss rfl rfl) <| .nil ?_
   refine Run.seq ?_
   refine Run.condF rfl (by simp at hl ⊢; omega) ?_
   refine Run.exit (tq_exit (bq_exit ?_))
   refine Run.seq (Run.reg [.p] ?_)
   refine .ag rfl rfl <| .nil ?_
   refine Run.ret (?_)
   exact ret1 rfl (Sub.int (by first | exact find_T hx hp (by assumption) | exact find_F hx hp))
  ·simp only [List.length_cons] at hl
   refine Run.seq (Run.reg [.p] ?_)
   refine .P rfl (q_lss rfl rfl) <| .nil ?_
   refine Run.seq ?_
   refine Run.condT rfl (by simp; omega) ?_
   refine Run.skip ?_
   refine Run.seq ?_
   refine Run.block ?_
   refine Run.seq (Run.reg [.p, .p] ?_)
   refine .mv rfl rfl <| .ag rfl rfl <| .nil ?_
   refine Run.seq (Run.reg [.p, .p, .p, .p, .p, .p] ?_)
   refine .mv rfl rfl <| .mv rfl rfl <| .mv rfl rfl <| .P rfl (q_indexI Tryz.underlying22 Tryz.sizeOf37 rfl rfl (by omega) (idx_mid encEntry hx rfl)) <| .P rfl (q_loadIA Tryz.isAgg37 Tryz.sizeOf37 rfl rfl) <| .P rfl (q_callF Tryz.call123 rfl rfl (badL_ok _ (hs x (by rw [hx]; simp)))) <| .nil ?_
   refine Run.cond rfl (fun h1 => ?_) (fun h1 => ?_)
   ·have ph1 := h1; try simp only [bs] at ph1
    refine Run.seq (Run.reg [.p, .p] ?_)
    refine .mv rfl rfl <| .ag rfl rfl <| .nil ?_
    refine Run.ret (bq_ret (tq_ret (bq_ret (?_))))
    exact ret1 rfl (Sub.int (by first | exact find_T hx hp (by assumption) | exact find_F hx hp))
   ·have ph1 := h1; try simp only [bs] at ph1
    refine Run.skip ?_
    refine Run.nil (bq_norm ?_)
    refine Run.reg [.p, .p] ?_
    refine .P rfl (q_add rfl rfl (wrap64_ok (by first | omega | (simp; done) | (simp; omega) | (simp at *; omega)) (by first | omega | (simp; done) | (simp; omega) | (simp at *; omega)))) <| .mv rfl rfl <| .nil ?_
    refine Run.nil (tq_norm ?_)
    exact ⟨⟨pre ++ [x], rest, by simp [hx], by simp at *; grind⟩, by simp, Le.mk rfl (.same rfl rfl (.same rfl rfl (.same rfl rfl (.cons rfl Sub.intA rfl (.cons rfl Sub.intA rfl .nil))))) .nil⟩
theorem containsBadL_ok (l : List Entry) (hs : ∀ e ∈ l, smallE e) : Fc Tryz.prog 53 [sEntries l, .fn (.func 123) [] []] (.b (!validE l)) := by
 refine Fc.mk' [4] Tryz.func53 rfl Tryz.ntmps53 rfl rfl rfl (fun t w => results_tmp Tryz.results53 t _ w) ?_
 refine Run.seq (Run.reg [.p] ?_)
 refine .ag rfl rfl <| .nil ?_
 refine Run.seq (Run.reg [.p, .p, .p, .p, .p] ?_)
 refine .mv rfl rfl <| .mv rfl rfl <| .P rfl (q_call Tryz.call107 rfl (indexBadL_ok _ (by first | assumption | omega | (simp at *; omega)))) <| .P rfl (q_geq rfl rfl) <| .ag rfl rfl <| .nil ?_
 refine Run.ret (?_)
 exact ret1 rfl (Sub.bool (by exact valid_close l))
theorem areEntries_ok (l : List Entry) (hs : ∀ e ∈ l, smallE e) : Fc Tryz.prog 69 [sEntries l] (.b (validE l)) := by
 refine Fc.mk' [2] Tryz.func69 rfl Tryz.ntmps69 rfl rfl rfl (fun t w => results_tmp Tryz.results69 t _ w) ?_
 refine Run.seq (Run.reg [.p] ?_)
 refine .ag rfl rfl <| .nil ?_
 refine Run.seq (Run.reg [.p, .p, .p, .p] ?_)
 refine .mv rfl rfl <| .P rfl (q_call Tryz.call53 rfl (containsBadL_ok _ (by first | assumption | omega | (simp at *; omega)))) <| .P rfl (q_not rfl) <| .ag rfl rfl <| .nil ?_
 refine Run.ret (?_)
 exact ret1 rfl (Sub.bool (by simp))
theorem ledgerValid_ok (d : Int) : Fc Tryz.prog 70 [.i d] (.b (validDay d)) := by
 refine Fc.mk' [2] Tryz.func70 rfl Tryz.ntmps70 rfl rfl rfl (fun t w => results_tmp Tryz.results70 t _ w) ?_
 refine Run.seq (Run.reg [.p] ?_)
 refine .ag rfl rfl <| .nil ?_
 refine Run.seq (Run.reg [.p, .p, .p, .p, .p, .p, .p] ?_)
 refine .mv rfl rfl <| .P rfl (q_geq rfl rfl) <| .mv rfl rfl <| .gT rfl (.inl rfl) rfl rfl rfl (fun hg => pk (fun _ => q_move rfl _)) <| .gT rfl (.inl rfl) rfl rfl rfl (fun hg => pk (fun _ => q_leq (opT rfl hg) rfl _)) <| .P rfl (q_and rfl rfl) <| .ag rfl rfl <| .nil ?_
 refine Run.ret (?_)
 exact ret1 rfl (Sub.bool (by rfl))
theorem accept_ok (x d : Int) : Fc Tryz.prog 72 [.i x, .iptr [.i d]] (.b (decide (x ≤ d))) := by
 refine Fc.mk' [3] Tryz.func72 rfl Tryz.ntmps72 rfl rfl rfl (fun t w => results_tmp Tryz.results72 t _ w) ?_
 refine Run.seq (Run.reg [.p] ?_)
 refine .ag rfl rfl <| .nil ?_
 refine Run.seq (Run.reg [.p, .p, .p, .p] ?_)
 refine .mv rfl rfl <| .P rfl (q_loadI Tryz.isAgg34 rfl) <| .P rfl (q_leq rfl rfl) <| .ag rfl rfl <| .nil ?_
 refine Run.ret (?_)
 exact ret1 rfl (Sub.bool (by rfl))
structure during_ok_L0 (l : List Entry) (d : Int) where
 pre : List Entry
 rest : List Entry
 hx : l = pre ++ rest
structure during_ok_L1 (l : List Entry) (d : Int) (pre : List Entry) (x : Entry) where
 preq : List Line
 restq : List Line
 hxq : x.lines = preq ++ restq
theorem during_ok (l : List Entry) (d : Int) (hs : ∀ e ∈ l, smallE e) (hl0 : l.length ≤ 10000) : Fc Tryz.prog 71 [sEntries l, .fn (.func 72) [] [.iptr [.i d]]] (sBals (trialB d l)) := by
 refine Fc.mk' [4] Tryz.func71 rfl Tryz.ntmps71 rfl rfl rfl (fun t w => results_tmp Tryz.results71 t _ w) ?_
 refine Run.seq (Run.reg [.p] ?_)
 refine .ag rfl rfl <| .nil ?_
 refine Run.seq (Run.reg [.w, .p] ?_)
 refine .W rfl (q_makeMapG 0 kPair (D.str) rfl) <| .ag rfl rfl <| .nil ?_
 refine Run.seq (Run.seq (Run.reg [.p, .p, .p] ?_))
 refine .mv rfl rfl <| .P rfl (q_lenI Tryz.underlying22 rfl) <| .mv rfl rfl <| .nil ?_
 refine Run.block ?_
 refine Run.loop (ι := during_ok_L0 l d) (fun sx => [(1, .fn (.func 72) [] [.iptr [.i d]]), (5, .mapr 0), (11, sEntries l), (12, .i l.length), (13, .i sx.pre.length)]) (fun sx => [(0, .mp (encGM kPair D.str (trM d sx.pre)))]) (fun sx => sx.rest.length) ⟨[], l, rfl⟩ ?_ ?_
 ·exact Le.mk rfl (.same rfl rfl (.same rfl rfl (.same rfl rfl (.cons rfl Sub.intA rfl (.cons rfl Sub.intA rfl .nil))))) (.eq rfl (by first | rfl | rw [trM_T (by simpa using ph1), hxq, List.append_nil] | rw [trM_F (by simpa using ph1)]) (okB_KM _ _) .nil)
 ·rintro ⟨pre, rest, hx⟩
  show Run _ _ _ _ [(1, .fn (.func 72) [] [.iptr [.i d]]), (5, .mapr 0), (11, sEntries l), (12, .i l.length), (13, .i pre.length)] [(0, .mp (encGM kPair D.str (trM d pre)))]
  have hl := congrArg List.length hx
  simp only [List.length_append] at hl
  rcases rest with _ | ⟨x, rest⟩
  ·have hpre : pre = l := by simp [hx]
   have hok := trM_ok (d := d) hs
   have htv := trM_val d l
   subst hpre
   refine Run.seq (Run.reg [.p] ?_)
   refine .P rfl (q_lss rfl rfl) <| .nil ?_
   refine Run.seq ?_
   refine Run.condF rfl (by simp) ?_
   refine Run.exit (tq_exit (bq_exit ?_))
   refine Run.weak (Le.freezeM (kD := kPair) (vD := D.str) (m := (trM d pre)) 5 0 rfl rfl (fun _ => rfl) (fun _ => rfl)) ?_
   refine Run.seq (Run.reg [.p, .p, .p] ?_)
   refine .mv rfl rfl <| .P rfl (q_call Tryz.call76 rfl (list_ok (trM d pre) (by have := hok.2; omega) hok.1 htv.nodup)) <| .ag rfl rfl <| .nil ?_
   refine Run.ret (?_)
   exact ret1 rfl (Sub.snap (by rfl))
  ·simp only [List.length_cons] at hl
   have hxs := hs x (by rw [hx]; simp)
   have hps : ∀ e ∈ pre, smallE e := fun e he => hs e (by rw [hx]; simp [he])
   refine Run.seq (Run.reg [.p] ?_)
   refine .P rfl (q_lss rfl rfl) <| .nil ?_
   refine Run.seq ?_
   refine Run.condT rfl (by simp; omega) ?_
   refine Run.skip ?_
   refine Run.seq ?_
   refine Run.block ?_
   refine Run.seq (Run.reg [.p, .p, .w, .w] ?_)
   refine .P rfl (q_indexI Tryz.underlying22 Tryz.sizeOf37 rfl rfl (by omega) (idx_mid encEntry hx rfl)) <| .P rfl (q_loadIA Tryz.isAgg37 Tryz.sizeOf37 rfl rfl) <| .W rfl (q_alloc 1 Tryz.zeroValue37 rfl) <| .W rfl (q_storeW Tryz.sizeOf37 rfl rfl rfl rfl rfl rfl) <| .nil ?_
   refine Run.seq (Run.reg [.p, .p, .r, .p] ?_)
   refine .mv rfl rfl <| .P rfl (q_fieldB (n := 0) 34 0 Tryz.underlying37 Tryz.sizeOf34 rfl rfl) <| .R rfl (q_load1 Tryz.isAgg34 rfl rfl rfl) <| .P rfl (q_callF Tryz.call72 rfl rfl (accept_ok _ _)) <| .nil ?_
   refine Run.cond rfl (fun h1 => ?_) (fun h1 => ?_)
   ·have ph1 := h1; try simp only [bs] at ph1
    refine Run.seq (Run.reg [.p, .r, .p, .p] ?_)
    refine .P rfl (q_fieldB (n := 0) 35 2 Tryz.underlying37 Tryz.sizeOf35 rfl rfl) <| .R rfl (q_load1 Tryz.isAgg35 rfl rfl rfl) <| .P rfl (q_lenI Tryz.underlying35 rfl) <| .mv rfl rfl <| .nil ?_
    refine Run.block ?_
    refine Run.loop (ι := during_ok_L1 l d pre x) (fun sx => [(1, .fn (.func 72) [] [.iptr [.i d]]), (5, .mapr 0), (11, sEntries l), (12, .i l.length), (13, .i pre.length), (22, sLines x.lines), (23, .i x.lines.length), (24, .i sx.preq.length)]) (fun sx => [(0, .mp (encGM kPair D.str (linesM (trM d pre) sx.preq)))]) (fun sx => sx.restq.length) ⟨[], x.lines, rfl⟩ ?_ ?_
    ·exact Le.mk rfl (.same rfl rfl (.same rfl rfl (.same rfl rfl (.cons rfl Sub.intA rfl (.cons rfl Sub.intA rfl (.same rfl rfl (.cons rfl Sub.intA rfl (.cons rfl Sub.intA rfl .nil)))))))) (.eq rfl (by first | rfl | rw [linesM_snoc]) (okB_KM _ _) .nil)
    ·rintro ⟨preq, restq, hxq⟩
     show Run _ _ _ _ [(1, .fn (.func 72) [] [.iptr [.i d]]), (5, .mapr 0), (11, sEntries l), (12, .i l.length), (13, .i pre.length), (22, sLines x.lines), (23, .i x.lines.length), (24, .i preq.length)] [(0, .mp (encGM kPair D.str (linesM (trM d pre) preq)))]
     have hlq := congrArg List.length hxq
     simp only [List.length_append] at hlq
     rcases restq with _ | ⟨xq, restq⟩
     ·skip
      refine Run.seq (Run.reg [.p] ?_)
      refine .P rfl (q_lss rfl rfl) <| .nil ?_
      refine Run.seq ?_
      refine Run.condF rfl (by simp at hlq ⊢; omega) ?_
      refine Run.exit (tq_exit (bq_exit ?_))
      refine Run.nil (bq_norm ?_)
      refine Run.reg [.p, .p] ?_
      refine .P rfl (q_add rfl rfl (wrap64_ok (by first | omega | (simp; done) | (simp; omega) | (simp at *; omega)) (by first | omega | (simp; done) | (simp; omega) | (simp at *; omega)))) <| .mv rfl rfl <| .nil ?_
      refine Run.nil (tq_norm ?_)
      exact ⟨⟨pre ++ [x], rest, by simp [hx]⟩, by simp, Le.mk rfl (.same rfl rfl (.same rfl rfl (.same rfl rfl (.cons rfl Sub.intA rfl (.cons rfl Sub.intA rfl .nil))))) (.eq rfl (by first | rfl | rw [trM_T (by simpa using ph1), hxq, List.append_nil] | rw [trM_F (by simpa using ph1)]) (okB_KM _ _) .nil)⟩
     ·simp only [List.length_cons] at hlq
      have hx66 := hxs.2.1
      have hqs := hxs.2.2 xq (by rw [hxq]; simp)
      have hgl := trM_get (d := d) (ls := preq) (lkey xq) hps (by omega) (by have := hxs.2.1; omega) (fun y hy => (hxs.2.2 y (by rw [hxq]; simp [hy])).2.2)
      refine Run.seq (Run.reg [.p] ?_)
      refine .P rfl (q_lss rfl rfl) <| .nil ?_
      refine Run.seq ?_
      refine Run.condT rfl (by simp; omega) ?_
      refine Run.skip ?_
      refine Run.seq ?_
      refine Run.block ?_
      refine Run.seq (Run.reg [.p, .p, .w, .w] ?_)
      refine .P rfl (q_indexI Tryz.underlying35 Tryz.sizeOf92 rfl rfl (by omega) (idx_mid encLine hxq rfl)) <| .P rfl (q_loadIA Tryz.isAgg92 Tryz.sizeOf92 rfl rfl) <| .W rfl (q_alloc 2 Tryz.zeroValue92 rfl) <| .W rfl (q_storeW Tryz.sizeOf92 rfl rfl rfl rfl rfl rfl) <| .nil ?_
      refine Run.reg [.p, .p, .r, .p, .r, .p, .p, .r, .w] ?_
      refine .mv rfl rfl <| .P rfl (q_fieldB (n := 0) 9 0 Tryz.underlying92 Tryz.sizeOf9 rfl rfl) <| .R rfl (q_load1 Tryz.isAgg9 rfl rfl rfl) <| .P rfl (q_fieldB (n := 0) 9 1 Tryz.underlying92 Tryz.sizeOf9 rfl rfl) <| .R rfl (q_load1 Tryz.isAgg9 rfl rfl rfl) <| .P rfl (q_build (pl := #[(0, 1), (1, 1)]) Tryz.underlying110 Tryz.zeroValue110 (fun w => by kernel_rfl) rfl rfl) <| .P rfl (q_fieldB (n := 0) 54 2 Tryz.underlying92 Tryz.sizeOf54 rfl rfl) <| .R rfl (q_load1 Tryz.isAgg54 rfl rfl rfl) <| .W rfl (q_callO Tryz.call74 rfl (addKey_ok (linesM (trM d pre) preq) (lkey xq) xq.amount (by omega) (by have := hqs.2.2; omega)) (.cons rfl (okB_KM _ _) .nil) rfl rfl) <| .nil ?_
      refine Run.nil (bq_norm ?_)
      refine Run.reg [.p, .p] ?_
      refine .P rfl (q_add rfl rfl (wrap64_ok (by first | omega | (simp; done) | (simp; omega) | (simp at *; omega)) (by first | omega | (simp; done) | (simp; omega) | (simp at *; omega)))) <| .mv rfl rfl <| .nil ?_
      refine Run.nil (tq_norm ?_)
      exact ⟨⟨preq ++ [xq], restq, by simp [hxq]⟩, by simp, Le.mk rfl (.same rfl rfl (.same rfl rfl (.same rfl rfl (.cons rfl Sub.intA rfl (.cons rfl Sub.intA rfl (.same rfl rfl (.cons rfl Sub.intA rfl (.cons rfl Sub.intA rfl .nil)))))))) (.eq rfl (by first | rfl | rw [linesM_snoc]) (okB_KM _ _) .nil)⟩
   ·have ph1 := h1; try simp only [bs] at ph1
    refine Run.skip ?_
    refine Run.nil (bq_norm ?_)
    refine Run.reg [.p, .p] ?_
    refine .P rfl (q_add rfl rfl (wrap64_ok (by first | omega | (simp; done) | (simp; omega) | (simp at *; omega)) (by first | omega | (simp; done) | (simp; omega) | (simp at *; omega)))) <| .mv rfl rfl <| .nil ?_
    refine Run.nil (tq_norm ?_)
    exact ⟨⟨pre ++ [x], rest, by simp [hx]⟩, by simp, Le.mk rfl (.same rfl rfl (.same rfl rfl (.same rfl rfl (.cons rfl Sub.intA rfl (.cons rfl Sub.intA rfl .nil))))) (.eq rfl (by first | rfl | rw [trM_T (by simpa using ph1), hxq, List.append_nil] | rw [trM_F (by simpa using ph1)]) (okB_KM _ _) .nil)⟩
theorem ledgerTrial_ok (l : List Entry) (d : Int) (hs : ∀ e ∈ l, smallE e) (hl0 : l.length ≤ 10000) : Fc Tryz.prog 22 [sEntries l, .i d] (.tup [sBals (if validE l && validDay d then trialB d l else []), .i (if validE l then if validDay d then 0 else 13 else 1)]) := by
 refine Fc.mk' [4, 5] Tryz.func22 rfl Tryz.ntmps22 rfl rfl rfl (fun t w => results_tmp2 Tryz.results22 t _ w) ?_
 refine Run.seq (Run.reg [.w, .p, .p] ?_)
 refine .W rfl (q_box1 0 rfl rfl rfl) <| .ag rfl rfl <| .ag rfl rfl <| .nil ?_
 refine Run.seq (Run.seq (Run.reg [.p, .p, .p] ?_))
 refine .mv rfl rfl <| .P rfl (q_call Tryz.call69 rfl (areEntries_ok _ (by first | assumption | omega | (simp at *; omega)))) <| .P rfl (q_not rfl) <| .nil ?_
 refine Run.cond rfl (fun h1 => ?_) (fun h1 => ?_)
 ·have ph1 := h1; try simp only [bs] at ph1
  refine Run.seq (Run.reg [.p, .p] ?_)
  refine .ag rfl rfl <| .ag rfl rfl <| .nil ?_
  refine Run.ret (?_)
  exact ret2 rfl rfl (by exact (Sub.nil _ false).trans (Sub.snap (by simp_all))) (Sub.int (by first | (simp_all; done) | grind))
 ·have ph1 := h1; try simp only [bs] at ph1
  refine Run.skip ?_
  refine Run.seq (Run.seq (Run.reg [.r, .p, .p] ?_))
  refine .R rfl (q_load1 Tryz.isAgg34 rfl rfl rfl) <| .P rfl (q_call Tryz.call70 rfl (ledgerValid_ok _)) <| .P rfl (q_not rfl) <| .nil ?_
  refine Run.cond rfl (fun h2 => ?_) (fun h2 => ?_)
  ·have ph2 := h2; try simp only [bs] at ph2
   refine Run.seq (Run.reg [.p, .p] ?_)
   refine .ag rfl rfl <| .ag rfl rfl <| .nil ?_
   refine Run.ret (?_)
   exact ret2 rfl rfl (by exact (Sub.nil _ false).trans (Sub.snap (by simp_all))) (Sub.int (by first | (simp_all; done) | grind))
  ·have ph2 := h2; try simp only [bs] at ph2
   refine Run.skip ?_
   refine Run.weak (Le.freezeB 3 0 rfl rfl rfl rfl) ?_
   refine Run.seq (Run.reg [.p, .p, .p, .p, .p] ?_)
   refine .mv rfl rfl <| .P rfl (q_makeFunc (xs := []) (ys := _) rfl rfl) <| .P rfl (q_call Tryz.call71 rfl (during_ok _ _ (by first | assumption | omega | (simp at *; omega)) (by first | assumption | omega | (simp at *; omega)))) <| .ag rfl rfl <| .ag rfl rfl <| .nil ?_
   refine Run.ret (?_)
   exact ret2 rfl rfl (Sub.snap (by first | (simp_all; done) | grind)) (Sub.int (by first | (simp_all; done) | grind))
end Go.T
namespace Go.T
open Go Go.Proofs
set_option maxRecDepth 20000
end Go.T
namespace Go.T
open Go Go.Proofs
/-! Posted entries. -/
def okP (p : Posted) : Bool := decide (checkE p.entry = 0) && validDay p.day && decide (p.entry.day ≤ p.day) && decide (1 ≤ p.known) && isName p.by_
def adjK : List Posted → Bool
 | x :: y :: r => decide (x.known ≤ y.known) && adjK (y :: r)
 | _ => true
def okPs (l : List Posted) : Bool := decide (l.length ≤ 10000) && l.all okP && adjK l
theorem adjK_snoc : ∀ (l : List Posted) (x : Posted), adjK (l ++ [x]) = (adjK l && (decide (l.length = 0) || decide ((l.getLastD default).known ≤ x.known)))
 | [], x => by simp [adjK]
 | [y], x => by simp [adjK]
 | y :: z :: r, x => by
  have ih := adjK_snoc (z :: r) x
  simp only [List.cons_append] at *
  simp only [adjK, ih, Bool.and_assoc]
  simp
theorem adjK_app : ∀ (l r : List Posted), adjK (l ++ r) = true → adjK l = true
 | [], _, _ => rfl
 | [x], _, _ => rfl
 | x :: y :: l, r, h => by
  simp only [List.cons_append, adjK, Bool.and_eq_true] at *
  exact ⟨h.1, adjK_app (y :: l) r (by simpa using h.2)⟩
theorem okPs_bad {l pre rest : List Posted} {x : Posted} (hx : l = pre ++ x :: rest) (h : okP x = false ∨ (0 < pre.length ∧ x.known < (pre.getLastD default).known)) : okPs l = false := by
 subst hx
 rw [Bool.eq_false_iff]
 intro hp
 simp only [okPs, Bool.and_eq_true, List.all_append, List.all_cons] at hp
 rcases h with h | ⟨h1, h2⟩
 ·have := hp.1.2.2.1; rw [h] at this; cases this
 ·have h3 : adjK ((pre ++ [x]) ++ rest) = true := by simpa using hp.2
  have h4 := adjK_app _ _ h3
  rw [adjK_snoc] at h4
  simp only [Bool.and_eq_true, Bool.or_eq_true, decide_eq_true_eq] at h4
  omega
theorem okPs_end {l pre : List Posted} (hx : l = pre ++ []) (h : pre.all okP = true ∧ adjK pre = true) (hl : l.length ≤ 10000) : okPs l = true := by
 simp only [List.append_nil] at hx
 subst hx
 simp [okPs, hl, h.1, h.2]
theorem okPs_step {pre : List Posted} {x : Posted} (h : pre.all okP = true ∧ adjK pre = true) (h1 : okP x = true) (h2 : ¬ (0 < pre.length ∧ x.known < (pre.getLastD default).known)) : (pre ++ [x]).all okP = true ∧ adjK (pre ++ [x]) = true := by
 refine ⟨by simp [List.all_append, h.1, h1], ?_⟩
 rw [adjK_snoc, h.2]
 simp only [Bool.true_and, Bool.or_eq_true, decide_eq_true_eq]
 omega
def upTo (d : Int) (l : List Posted) : List Entry := (l.filter fun p => decide (p.day ≤ d)).map (·.entry)
def trialP (d : Int) (l : List Posted) : List Balance := trialB 84005 (upTo d l)
def smallPs (l : List Posted) : Prop := ∀ p ∈ l, smallE p.entry
theorem upTo_snoc (d : Int) (l : List Posted) (x : Posted) : upTo d (l ++ [x]) = upTo d l ++ (if x.day ≤ d then [x.entry] else []) := by
 unfold upTo
 by_cases h : x.day ≤ d <;> simp [List.filter_append, h]
theorem upTo_len (d : Int) (l : List Posted) : (upTo d l).length ≤ l.length := by simp only [upTo, List.length_map]; exact List.length_filter_le _ _
theorem upTo_mem {d : Int} {l : List Posted} {e : Entry} (h : e ∈ upTo d l) : ∃ p ∈ l, p.entry = e := by
 obtain ⟨p, hp, rfl⟩ := List.mem_map.1 h
 exact ⟨p, (List.mem_filter.1 hp).1, rfl⟩
theorem okPs_mem {l : List Posted} (h : okPs l = true) : ∀ p ∈ l, okP p = true := by
 simp only [okPs, Bool.and_eq_true] at h
 exact List.all_eq_true.1 h.1.2
theorem okP_parts {p : Posted} (h : okP p = true) : checkE p.entry = 0 ∧ validDay p.day = true ∧ p.entry.day ≤ p.day ∧ 1 ≤ p.known ∧ isName p.by_ = true := by
 simp only [okP, Bool.and_eq_true, decide_eq_true_eq] at h
 exact ⟨h.1.1.1.1, h.1.1.1.2, h.1.1.2, h.1.2, h.2⟩
theorem upTo_valid {d : Int} {l : List Posted} (h : okPs l = true) : validE (upTo d l) = true := by
 unfold validE
 rw [List.all_eq_true]
 intro e he
 obtain ⟨p, hp, rfl⟩ := upTo_mem he
 simpa using (okP_parts (okPs_mem h p hp)).1
/-! Balances in order. -/
structure fldB (b : Balance) : Prop where
 code : checkCode b.account = 0
 cur : isCode b.currency = true
 num : checkNum b.amount = 0
 v : -10000000000000000000000 < val b.amount ∧ val b.amount < 10000000000000000000000
 key : okPair (bkey b)
 len : b.amount.length ≤ 31
theorem checkLines_mem : ∀ (l pre : List Line), checkLines pre l = 0 → ∀ x ∈ l, checkFields x = 0 ∧ x.amount ≠ []
 | [], _, _, x, hx => by simp at hx
 | y :: l, pre, h, x, hx => by
  simp only [checkLines] at h
  split at h
  ·rename_i h1; exact absurd h h1
  ·rename_i h1
   split at h
   ·omega
   ·rename_i h2
    split at h
    ·omega
    ·rcases List.mem_cons.1 hx with rfl | hx
     ·exact ⟨by simpa using h1, h2⟩
     ·exact checkLines_mem l _ h x hx
theorem checkFields_parts {x : Line} (h : checkFields x = 0) : checkCode x.account = 0 ∧ isCode x.currency = true ∧ checkNum x.amount = 0 := by
 unfold checkFields at h
 split at h
 ·omega
 ·rename_i h1
  split at h
  ·rename_i h2
   split at h
   ·omega
   ·rename_i h3; exact ⟨by simpa using h1, h2, by simpa using h3⟩
  ·omega
theorem checkE_line {e : Entry} (h : checkE e = 0) : ∀ x ∈ e.lines, checkFields x = 0 ∧ x.amount ≠ [] := checkLines_mem e.lines [] (checkE_parts.1 h).2.2.2.1
/-! Differences of balances. -/
def difBM (m : List (Key × Str)) (l : List Balance) : List (Key × Str) := l.foldl (fun m x => addG m (bkey x) (negS x.amount)) m
theorem difBM_snoc (m : List (Key × Str)) (l : List Balance) (x : Balance) : difBM m (l ++ [x]) = addG (difBM m l) (bkey x) (negS x.amount) := by simp [difBM]
theorem MapV.less {m : List (Key × Str)} {f : Key → Int} (h : MapV m f) (l : List Balance) : MapV (difBM m l) (fun k => f k - balK k l) := by
 induction l using rev_ind with
 | h0 => exact h.eqf (fun k => by simp [balK])
 | h1 l x ih =>
  rw [difBM_snoc]
  refine (ih.add _ _).eqf fun k => ?_
  rw [balK_append, val_negS]; simp only [balK]; split <;> omega
theorem okM.less {m : List (Key × Str)} {n : Nat} (h : okM m n) {l : List Balance} (hl : ∀ b ∈ l, fldB b) : okM (difBM m l) (n + l.length) := by
 induction l using rev_ind with
 | h0 => exact h
 | h1 l x ih =>
  rw [difBM_snoc, List.length_append]
  exact (ih fun b hb => hl b (by simp [hb])).add (hl x (by simp)).key _
end Go.T
namespace Go.T
open Go Go.Proofs
set_option maxRecDepth 20000
theorem restValid_ok (d : Int) : Fc Tryz.prog 68 [.i d] (.b (validDay d)) := by
 refine Fc.mk' [2] Tryz.func68 rfl Tryz.ntmps68 rfl rfl rfl (fun t w => results_tmp Tryz.results68 t _ w) ?_
 refine Run.seq (Run.reg [.p] ?_)
 refine .ag rfl rfl <| .nil ?_
 refine Run.seq (Run.reg [.p, .p, .p, .p, .p, .p, .p] ?_)
 refine .mv rfl rfl <| .P rfl (q_geq rfl rfl) <| .mv rfl rfl <| .gT rfl (.inl rfl) rfl rfl rfl (fun hg => pk (fun _ => q_move rfl _)) <| .gT rfl (.inl rfl) rfl rfl rfl (fun hg => pk (fun _ => q_leq (opT rfl hg) rfl _)) <| .P rfl (q_and rfl rfl) <| .ag rfl rfl <| .nil ?_
 refine Run.ret (?_)
 exact ret1 rfl (Sub.bool (by rfl))
theorem isPosted_ok (p : Posted) (hs : smallE p.entry) : Fc Tryz.prog 122 [.agg (encPosted p)] (.b (okP p)) := by
 refine Fc.mk' [2] Tryz.func122 rfl Tryz.ntmps122 rfl rfl rfl (fun t w => results_tmp Tryz.results122 t _ w) ?_
 refine Run.seq (Run.reg [.w, .p] ?_)
 refine .W rfl (q_boxA 0 rfl rfl) <| .ag rfl rfl <| .nil ?_
 refine Run.seq (Run.reg [.p, .r, .p, .p, .p, .p, .r, .p, .p, .p, .p, .r, .p, .p, .r, .p, .p, .p, .p, .r, .p, .p, .p, .p, .r, .p, .p, .p] ?_)
 refine .P rfl (q_fieldB (n := 2) 37 3 Tryz.underlying39 Tryz.sizeOf37 rfl rfl) <| .R rfl (q_loadA Tryz.isAgg37 Tryz.sizeOf37 rfl rfl (by simp) rfl) <| .P rfl (q_call Tryz.call18 rfl (check_ok p.entry hs)) <| .P rfl (q_eql rfl rfl) <| .mv rfl rfl <| .gT rfl (.inl rfl) rfl rfl rfl (fun hg => pk (fun _ => q_fieldB (n := 0) 34 0 Tryz.underlying39 Tryz.sizeOf34 rfl rfl _)) <| .gT rfl (.inr rfl) rfl rfl rfl (fun hg => rk (q_load1 Tryz.isAgg34 (opT rfl hg) rfl rfl)) <| .gT rfl (.inl rfl) rfl rfl rfl (fun hg => pk (fun _ => q_call Tryz.call68 (opsC (opT rfl hg) (rfl)) (restValid_ok _) _)) <| .P rfl (q_and rfl rfl) <| .mv rfl rfl <| .gT rfl (.inl rfl) rfl rfl rfl (fun hg => pk (fun _ => q_fieldB (n := 0) 34 0 Tryz.underlying39 Tryz.sizeOf34 rfl rfl _)) <| .gT rfl (.inr rfl) rfl rfl rfl (fun hg => rk (q_load1 Tryz.isAgg34 (opT rfl hg) rfl rfl)) <| .gT rfl (.inl rfl) rfl rfl rfl (fun hg => pk (fun _ => q_fieldB (n := 2) 37 3 Tryz.underlying39 Tryz.sizeOf37 rfl rfl _)) <| .gT rfl (.inl rfl) rfl rfl rfl (fun hg => pk (fun _ => q_fieldB (n := 0) 34 0 Tryz.underlying37 Tryz.sizeOf34 rfl (opT rfl hg) _)) <| .gT rfl (.inr rfl) rfl rfl rfl (fun hg => rk (q_load1 Tryz.isAgg34 (opT rfl hg) rfl rfl)) <| .gT rfl (.inl rfl) rfl rfl rfl (fun hg => pk (fun _ => q_geq (opT rfl hg) (opT rfl hg) _)) <| .P rfl (q_and rfl rfl) <| .mv rfl rfl <| .gT rfl (.inl rfl) rfl rfl rfl (fun hg => pk (fun _ => q_fieldB (n := 0) 3 1 Tryz.underlying39 Tryz.sizeOf3 rfl rfl _)) <| .gT rfl (.inr rfl) rfl rfl rfl (fun hg => rk (q_load1 Tryz.isAgg3 (opT rfl hg) rfl rfl)) ?_
 refine .gT rfl (.inl rfl) rfl rfl rfl (fun hg => pk (fun _ => q_geq (opT rfl hg) rfl _)) <| .P rfl (q_and rfl rfl) <| .mv rfl rfl <| .gT rfl (.inl rfl) rfl rfl rfl (fun hg => pk (fun _ => q_fieldB (n := 0) 9 2 Tryz.underlying39 Tryz.sizeOf9 rfl rfl _)) <| .gT rfl (.inr rfl) rfl rfl rfl (fun hg => rk (q_load1 Tryz.isAgg9 (opT rfl hg) rfl rfl)) <| .gT rfl (.inl rfl) rfl rfl rfl (fun hg => pk (fun _ => q_call Tryz.call45 (opsC (opT rfl hg) (rfl)) (name_ok _) _)) <| .P rfl (q_and rfl rfl) <| .ag rfl rfl <| .nil ?_
 refine Run.ret (?_)
 exact ret1 rfl (Sub.bool (by simp [okP, Bool.and_assoc] <;> grind))
structure postList_ok_L0 (l : List Posted) where
 pre : List Posted
 rest : List Posted
 hx : l = pre ++ rest
 hp : pre.all okP = true ∧ adjK pre = true
 hl0 : l.length ≤ 10000
theorem postList_ok (l : List Posted) (hs : smallPs l) : Fc Tryz.prog 67 [sPosteds l] (.b (okPs l)) := by
 refine Fc.mk' [2] Tryz.func67 rfl Tryz.ntmps67 rfl rfl rfl (fun t w => results_tmp Tryz.results67 t _ w) ?_
 refine Run.bSnap 0 rfl (fun hb => ?_)
 simp only [List.length_map, big] at hb
 refine Run.seq (Run.reg [.p] ?_)
 refine .ag rfl rfl <| .nil ?_
 refine Run.seq (Run.seq (Run.reg [.p, .p, .p] ?_))
 refine .mv rfl rfl <| .P rfl (q_lenI Tryz.underlying27 rfl) <| .P rfl (q_gtr rfl rfl) <| .nil ?_
 refine Run.cond rfl (fun h1 => ?_) (fun h1 => ?_)
 ·have ph1 := h1; try simp only [bs] at ph1
  refine Run.seq (Run.reg [.p] ?_)
  refine .ag rfl rfl <| .nil ?_
  refine Run.ret (?_)
  exact ret1 rfl (Sub.bool (by first | exact (okPs_end hx hp hl0).symm | exact (okPs_bad hx (by grind)).symm | (simp [okPs]; omega)))
 ·have ph1 := h1; try simp only [bs] at ph1
  refine Run.skip ?_
  refine Run.seq (Run.seq (Run.reg [.p, .p, .p] ?_))
  refine .mv rfl rfl <| .P rfl (q_lenI Tryz.underlying27 rfl) <| .mv rfl rfl <| .nil ?_
  refine Run.block ?_
  refine Run.loop (ι := postList_ok_L0 l) (fun sx => [(0, sPosteds l), (8, sPosteds l), (9, .i l.length), (10, .i sx.pre.length)]) (fun sx => []) (fun sx => sx.rest.length) ⟨[], l, rfl, ⟨rfl, rfl⟩, by simp at *; omega⟩ ?_ ?_
  ·exact Le.mk rfl (.same rfl rfl (.same rfl rfl (.cons rfl Sub.intA rfl (.cons rfl Sub.intA rfl .nil)))) .nil
  ·rintro ⟨pre, rest, hx, hp, hl0⟩
   show Run _ _ _ _ [(0, sPosteds l), (8, sPosteds l), (9, .i l.length), (10, .i pre.length)] []
   have hl := congrArg List.length hx
   simp only [List.length_append] at hl
   rcases rest with _ | ⟨x, rest⟩
   ·skip
    refine Run.seq (Run.reg [.p] ?_)
    refine .P rfl (q_lss rfl rfl) <| .nil ?_
    refine Run.seq ?_
    refine Run.condF rfl (by simp at hl ⊢; omega) ?_
    refine Run.exit (tq_exit (bq_exit ?_))
    refine Run.seq (Run.reg [.p] ?_)
    refine .ag rfl rfl <| .nil ?_
    refine Run.ret (?_)
    exact ret1 rfl (Sub.bool (by first | exact (okPs_end hx hp hl0).symm | exact (okPs_bad hx (by grind)).symm | (simp [okPs]; omega)))
   ·simp only [List.length_cons] at hl
    refine Run.seq (Run.reg [.p] ?_)
    refine .P rfl (q_lss rfl rfl) <| .nil ?_
    refine Run.seq ?_
    refine Run.condT rfl (by simp; omega) ?_
    refine Run.skip ?_
    refine Run.seq ?_
    refine Run.block ?_
    refine Run.seq (Run.reg [.p, .p, .p, .w, .p, .w] ?_)
    refine .mv rfl rfl <| .P rfl (q_indexI Tryz.underlying27 Tryz.sizeOf39 rfl rfl (by omega) (idx_mid encPosted hx rfl)) <| .P rfl (q_loadIA Tryz.isAgg39 Tryz.sizeOf39 rfl rfl) <| .W rfl (q_alloc 0 Tryz.zeroValue39 rfl) <| .ag rfl rfl <| .W rfl (q_storeW Tryz.sizeOf39 rfl rfl rfl rfl rfl rfl) <| .nil ?_
    refine Run.seq (Run.regD [.r, .p, .p, .p, .p, .p, .p, .p, .r, .p, .p, .p, .p, .p, .p, .p, .p, .p] Tryz_mixed (by decide +kernel) ?_)
    refine .R rfl (q_loadW Tryz.isAgg39 Tryz.sizeOf39 rfl rfl rfl) <| .P rfl (q_call Tryz.call122 rfl (isPosted_ok x (hs x (by rw [hx]; simp)))) <| .P rfl (q_not rfl) <| .mv rfl rfl <| .gF rfl (.inl rfl) rfl rfl rfl (fun hg => pk (fun _ => q_move rfl _)) <| .gF rfl (.inl rfl) rfl rfl rfl (fun hg => pk (fun _ => q_gtr (opT rfl (nt hg)) rfl _)) <| .gF rfl (.inl rfl) rfl rfl rfl (fun hg => pk (fun _ => q_move (opT rfl (nt hg)) _)) ?_
    refine .nT rfl (.inl rfl) rfl rfl rfl (fun hc hg => pk (fun _ => q_fieldB (n := 0) 3 1 Tryz.underlying39 Tryz.sizeOf3 rfl rfl _)) ?_
    refine .nT rfl (.inr rfl) rfl rfl rfl (fun hc hg => rk (q_load1 Tryz.isAgg3 (opT rfl (bT hc hg)) rfl rfl)) ?_
    refine .nT rfl (.inl rfl) rfl rfl rfl (fun hc hg => pk (fun _ => q_move rfl _)) ?_
    refine .nT rfl (.inl rfl) rfl rfl rfl (fun hc hg => pk (fun _ => q_move rfl _)) ?_
    refine .nT rfl (.inl rfl) rfl rfl rfl (fun hc hg => pk (fun _ => q_sub (opT rfl (bT hc hg)) rfl (wrap64_ok (by first | omega | (simp; done) | (simp; omega) | (simp at *; omega)) (by first | omega | (simp; done) | (simp; omega) | (simp at *; omega))) _)) ?_
    refine .nT rfl (.inl rfl) rfl rfl rfl (fun hc hg => pk (fun _ => q_indexI Tryz.underlying27 Tryz.sizeOf39 (opT rfl (bT hc hg)) (opT rfl (bT hc hg)) (by simp at hg; omega) (idx_last encPosted hx (by simp at hg; omega) (by omega)) _)) ?_
    refine .nT rfl (.inl rfl) rfl rfl rfl (fun hc hg => pk (fun _ => q_fieldI (n := 0) 3 1 Tryz.underlying39 Tryz.sizeOf3 rfl (opT rfl (bT hc hg)) rfl _)) ?_
    refine .nT rfl (.inl rfl) rfl rfl rfl (fun hc hg => pk (fun _ => q_loadI Tryz.isAgg3 (opT rfl (bT hc hg)) _)) ?_
    refine .nT rfl (.inl rfl) rfl rfl rfl (fun hc hg => pk (fun _ => q_lss (opT rfl (bT hc hg)) (opT rfl (bT hc hg)) _)) ?_
    refine .gF rfl (.inl rfl) rfl rfl rfl (fun hg => pk (fun _ => q_and (opT rfl (nt hg)) (opA rfl (nt hg)) _)) <| .P rfl (q_or rfl rfl) <| .nil ?_
    refine Run.cond rfl (fun h2 => ?_) (fun h2 => ?_)
    ·have ph2 := h2; try simp only [bs] at ph2
     refine Run.seq (Run.reg [.p] ?_)
     refine .ag rfl rfl <| .nil ?_
     refine Run.ret (bq_ret (tq_ret (bq_ret (?_))))
     exact ret1 rfl (Sub.bool (by first | exact (okPs_end hx hp hl0).symm | exact (okPs_bad hx (by grind)).symm | (simp [okPs]; omega)))
    ·have ph2 := h2; try simp only [bs] at ph2
     refine Run.skip ?_
     refine Run.nil (bq_norm ?_)
     refine Run.reg [.p, .p] ?_
     refine .P rfl (q_add rfl rfl (wrap64_ok (by first | omega | (simp; done) | (simp; omega) | (simp at *; omega)) (by first | omega | (simp; done) | (simp; omega) | (simp at *; omega)))) <| .mv rfl rfl <| .nil ?_
     refine Run.nil (tq_norm ?_)
     exact ⟨⟨pre ++ [x], rest, by simp [hx], okPs_step hp (by grind) (by grind), hl0⟩, by simp, Le.mk rfl (.same rfl rfl (.same rfl rfl (.cons rfl Sub.intA rfl (.cons rfl Sub.intA rfl .nil)))) .nil⟩
structure trial50_ok_L0 (l : List Posted) (d : Int) where
 pre : List Posted
 rest : List Posted
 hx : l = pre ++ rest
theorem trial50_ok (l : List Posted) (d : Int) (hs : smallPs l) : Fc Tryz.prog 20 [sPosteds l, .i d] (.tup [sBals (if okPs l && validDay d then trialP d l else []), .i (if okPs l then if validDay d then 0 else 13 else 1)]) := by
 refine Fc.mk' [4, 5] Tryz.func20 rfl Tryz.ntmps20 rfl rfl rfl (fun t w => results_tmp2 Tryz.results20 t _ w) ?_
 refine Run.seq (Run.reg [.p, .p] ?_)
 refine .ag rfl rfl <| .ag rfl rfl <| .nil ?_
 refine Run.seq ?_
 refine Run.block ?_
 refine Run.seq (Run.reg [.p, .p, .p, .p] ?_)
 refine .mv rfl rfl <| .P rfl (q_call Tryz.call67 rfl (postList_ok _ (by first | assumption | omega | (simp at *; omega)))) <| .P rfl (q_not rfl) <| .ag rfl rfl <| .nil ?_
 refine Run.cond rfl (fun h1 => ?_) (fun h1 => ?_)
 ·have ph1 := h1; try simp only [bs] at ph1
  refine Run.seq (Run.reg [.p, .p] ?_)
  refine .ag rfl rfl <| .ag rfl rfl <| .nil ?_
  refine Run.ret (bq_ret (?_))
  exact ret2 rfl rfl (by exact (Sub.nil _ false).trans (Sub.snap (by simp_all))) (Sub.int (by first | (rw [show okPs l = false from by simpa using ph1]; rfl) | (rw [show okPs l = true from by simpa using ph1, show validDay d = false from by simpa using ph2]; rfl) | (have hv := upTo_valid (d := d) hok; have h2 : validDay d = true := (by simpa using ph2); have h3 : validDay 84005 = true := (by decide); simp only [hok, hv, h2, h3, trialP, Bool.and_self, if_true])))
 ·have ph1 := h1; try simp only [bs] at ph1
  have hok : okPs l = true := by simpa using ph1
  have hl1 : l.length ≤ 10000 := by have := hok; simp only [okPs, Bool.and_eq_true, decide_eq_true_eq] at this; exact this.1.1
  refine Run.seq (Run.reg [.p, .p, .p, .p] ?_)
  refine .mv rfl rfl <| .P rfl (q_call Tryz.call68 rfl (restValid_ok _)) <| .P rfl (q_not rfl) <| .ag rfl rfl <| .nil ?_
  refine Run.cond rfl (fun h2 => ?_) (fun h2 => ?_)
  ·have ph2 := h2; try simp only [bs] at ph2
   refine Run.seq (Run.reg [.p, .p] ?_)
   refine .ag rfl rfl <| .ag rfl rfl <| .nil ?_
   refine Run.ret (bq_ret (?_))
   exact ret2 rfl rfl (by exact (Sub.nil _ false).trans (Sub.snap (by simp_all))) (Sub.int (by first | (rw [show okPs l = false from by simpa using ph1]; rfl) | (rw [show okPs l = true from by simpa using ph1, show validDay d = false from by simpa using ph2]; rfl) | (have hv := upTo_valid (d := d) hok; have h2 : validDay d = true := (by simpa using ph2); have h3 : validDay 84005 = true := (by decide); simp only [hok, hv, h2, h3, trialP, Bool.and_self, if_true])))
  ·have ph2 := h2; try simp only [bs] at ph2
   refine Run.skip ?_
   refine Run.nil (bq_norm ?_)
   refine Run.seq (Run.reg [.p] ?_)
   refine .ag rfl rfl <| .nil ?_
   refine Run.seq (Run.seq (Run.reg [.p, .p, .p] ?_))
   refine .mv rfl rfl <| .P rfl (q_lenI Tryz.underlying27 rfl) <| .mv rfl rfl <| .nil ?_
   refine Run.block ?_
   refine Run.loop (ι := trial50_ok_L0 l d) (fun sx => [(1, .i d), (6, .gs 0 (upTo d sx.pre).length), (17, sPosteds l), (18, .i l.length), (19, .i sx.pre.length)]) (fun sx => [(0, .arr 3 ((upTo d sx.pre).map encEntry))]) (fun sx => sx.rest.length) ⟨[], l, rfl⟩ ?_ ?_
   ·exact (Le.own0 0 3).trans <| Le.mk rfl (.cons rfl Sub.intA rfl (.cons rfl (Sub.gsNil _) rfl (.same rfl rfl (.cons rfl Sub.intA rfl (.cons rfl Sub.intA rfl .nil))))) (.arr rfl (by first | rfl | (rw [upTo_snoc, if_pos (by simpa using ph3)]; simp) | (rw [upTo_snoc, if_neg (by simpa using ph3)]; simp)) .nil)
   ·rintro ⟨pre, rest, hx⟩
    show Run _ _ _ _ [(1, .i d), (6, .gs 0 (upTo d pre).length), (17, sPosteds l), (18, .i l.length), (19, .i pre.length)] [(0, .arr 3 ((upTo d pre).map encEntry))]
    have hl := congrArg List.length hx
    simp only [List.length_append] at hl
    have hul := upTo_len d pre
    rcases rest with _ | ⟨x, rest⟩
    ·have hpre : pre = l := by simp [hx]
     subst hpre
     refine Run.seq (Run.reg [.p] ?_)
     refine .P rfl (q_lss rfl rfl) <| .nil ?_
     refine Run.seq ?_
     refine Run.condF rfl (by simp) ?_
     refine Run.exit (tq_exit (bq_exit ?_))
     refine Run.weak (Le.freeze 6 0 rfl rfl (by simp)) ?_
     refine Run.seq (Run.reg [.p, .p, .p, .p, .p, .p] ?_)
     refine .mv rfl rfl <| .P rfl (q_call Tryz.call22 rfl (ledgerTrial_ok (upTo d pre) 84005 (fun e he => by obtain ⟨p, hp, rfl⟩ := upTo_mem he; exact hs p hp) (by omega))) <| .P rfl (q_extract rfl rfl) <| .P rfl (q_extract rfl rfl) <| .ag rfl rfl <| .ag rfl rfl <| .nil ?_
     refine Run.ret (?_)
     exact ret2 rfl rfl (Sub.snap (by first | (rw [show okPs l = false from by simpa using ph1]; rfl) | (rw [show okPs l = true from by simpa using ph1, show validDay d = false from by simpa using ph2]; rfl) | (have hv := upTo_valid (d := d) hok; have h2 : validDay d = true := (by simpa using ph2); have h3 : validDay 84005 = true := (by decide); simp only [hok, hv, h2, h3, trialP, Bool.and_self, if_true]))) (Sub.int (by first | (rw [show okPs l = false from by simpa using ph1]; rfl) | (rw [show okPs l = true from by simpa using ph1, show validDay d = false from by simpa using ph2]; rfl) | (have hv := upTo_valid (d := d) hok; have h2 : validDay d = true := (by simpa using ph2); have h3 : validDay 84005 = true := (by decide); simp only [hok, hv, h2, h3, trialP, Bool.and_self, if_true])))
    ·simp only [List.length_cons] at hl
     refine Run.seq (Run.reg [.p] ?_)
     refine .P rfl (q_lss rfl rfl) <| .nil ?_
     refine Run.seq ?_
     refine Run.condT rfl (by simp; omega) ?_
     refine Run.skip ?_
     refine Run.seq ?_
     refine Run.block ?_
     refine Run.seq (Run.reg [.p, .p, .w, .w] ?_)
     refine .P rfl (q_indexI Tryz.underlying27 Tryz.sizeOf39 rfl rfl (by omega) (idx_mid encPosted hx rfl)) <| .P rfl (q_loadIA Tryz.isAgg39 Tryz.sizeOf39 rfl rfl) <| .W rfl (q_alloc 1 Tryz.zeroValue39 rfl) <| .W rfl (q_storeW Tryz.sizeOf39 rfl rfl rfl rfl rfl rfl) <| .nil ?_
     refine Run.seq (Run.reg [.p, .r, .p, .p] ?_)
     refine .P rfl (q_fieldB (n := 0) 34 0 Tryz.underlying39 Tryz.sizeOf34 rfl rfl) <| .R rfl (q_load1 Tryz.isAgg34 rfl rfl rfl) <| .mv rfl rfl <| .P rfl (q_leq rfl rfl) <| .nil ?_
     refine Run.cond rfl (fun h3 => ?_) (fun h3 => ?_)
     ·have ph3 := h3; try simp only [bs] at ph3
      refine Run.reg [.p, .p, .r, .p, .w, .p] ?_
      refine .mv rfl rfl <| .P rfl (q_fieldB (n := 2) 37 3 Tryz.underlying39 Tryz.sizeOf37 rfl rfl) <| .R rfl (q_loadA Tryz.isAgg37 Tryz.sizeOf37 rfl rfl (by simp) rfl) <| .P rfl (q_buildSlice' (n := 1) (rows := [encEntry x.entry]) Tryz.underlying22 Tryz.sizeOf37 rfl rfl rfl Tryz.zeroValue37 rfl rfl rfl rfl rfl rfl rfl) <| .W rfl (q_append 2 Tryz.underlying22 Tryz.underlying22 Tryz.sizeOf37 Tryz.typeInfo37 Tryz.zeroValue37 rfl (bt := 48) rfl rfl rfl rfl (by simp) rfl rfl (by simp; omega)) <| .ag rfl rfl <| .nil ?_
      refine Run.nil (bq_norm ?_)
      refine Run.reg [.p, .p] ?_
      refine .P rfl (q_add rfl rfl (wrap64_ok (by first | omega | (simp; done) | (simp; omega) | (simp at *; omega)) (by first | omega | (simp; done) | (simp; omega) | (simp at *; omega)))) <| .mv rfl rfl <| .nil ?_
      refine Run.nil (tq_norm ?_)
      exact ⟨⟨pre ++ [x], rest, by simp [hx]⟩, by simp, (Le.mk (obs' := [(2, _)]) rfl (show EnvLe _ _ [(1, _), (6, _), (17, _), (18, _), (19, _)] from (.same rfl rfl (.same rfl rfl (.same rfl rfl (.same rfl rfl (.same rfl rfl .nil)))))) (.cons (i := 2) rfl rfl .nil)).trans <| (Le.ren 6 2 0 rfl rfl (by simp) rfl).trans <| Le.mk rfl (.cons rfl Sub.intA rfl (.cons rfl (Sub.gs (by first | rfl | (rw [upTo_snoc, if_pos (by simpa using ph3)]; simp; done) | (rw [upTo_snoc, if_neg (by simpa using ph3)]; simp))) rfl (.same rfl rfl (.cons rfl Sub.intA rfl (.cons rfl Sub.intA rfl .nil))))) (.arr rfl (by first | rfl | (rw [upTo_snoc, if_pos (by simpa using ph3)]; simp) | (rw [upTo_snoc, if_neg (by simpa using ph3)]; simp)) .nil)⟩
     ·have ph3 := h3; try simp only [bs] at ph3
      refine Run.skip ?_
      refine Run.nil (bq_norm ?_)
      refine Run.reg [.p, .p] ?_
      refine .P rfl (q_add rfl rfl (wrap64_ok (by first | omega | (simp; done) | (simp; omega) | (simp at *; omega)) (by first | omega | (simp; done) | (simp; omega) | (simp at *; omega)))) <| .mv rfl rfl <| .nil ?_
      refine Run.nil (tq_norm ?_)
      exact ⟨⟨pre ++ [x], rest, by simp [hx]⟩, by simp, Le.mk rfl (.cons rfl Sub.intA rfl (.cons rfl (Sub.gs (by first | rfl | (rw [upTo_snoc, if_pos (by simpa using ph3)]; simp; done) | (rw [upTo_snoc, if_neg (by simpa using ph3)]; simp))) rfl (.same rfl rfl (.cons rfl Sub.intA rfl (.cons rfl Sub.intA rfl .nil))))) (.arr rfl (by first | rfl | (rw [upTo_snoc, if_pos (by simpa using ph3)]; simp) | (rw [upTo_snoc, if_neg (by simpa using ph3)]; simp)) .nil)⟩
theorem IsBal.last {l pre rest : List Balance} {x : Balance} (h : IsBal l) (hx : l = pre ++ x :: rest) (h0 : 0 < pre.length) : klt (bkey (pre.getLastD default)) (bkey x) = true := by
 subst hx
 have h1 := (List.pairwise_append.1 h.sorted).2.2
 refine h1 _ ?_ x (by simp)
 cases pre with
 | nil => simp at h0
 | cons a l => rw [List.getLastD_cons]; exact List.getLastD_mem_cons
structure same43_ok_L0 (a b : List Balance) where
 pre : List Balance
 rest : List Balance
 sb : List Balance
 hx : a = pre ++ rest
 hxb : b = pre ++ sb
 hll : rest.length = sb.length
theorem same43_ok (a b : List Balance) : Fc Tryz.prog 24 [sBals a, sBals b] (.b (decide (a = b))) := by
 refine Fc.mk' [4] Tryz.func24 rfl Tryz.ntmps24 rfl rfl rfl (fun t w => results_tmp Tryz.results24 t _ w) ?_
 refine Run.bSnap 0 rfl (fun hb => ?_)
 simp only [List.length_map, big] at hb
 refine Run.seq (Run.reg [.p] ?_)
 refine .ag rfl rfl <| .nil ?_
 refine Run.seq (Run.seq (Run.reg [.p, .p, .p, .p, .p] ?_))
 refine .mv rfl rfl <| .P rfl (q_lenI Tryz.underlying45 rfl) <| .mv rfl rfl <| .P rfl (q_lenI Tryz.underlying45 rfl) <| .P rfl (q_neq rfl rfl) <| .nil ?_
 refine Run.cond rfl (fun h1 => ?_) (fun h1 => ?_)
 ·have ph1 := h1; try simp only [bs] at ph1
  refine Run.seq (Run.reg [.p] ?_)
  refine .ag rfl rfl <| .nil ?_
  refine Run.ret (?_)
  exact ret1 rfl (Sub.bool (by first | (obtain rfl : sb = [] := List.length_eq_zero_iff.1 hll.symm; simp [hx, hxb]; done) | (subst hx; subst hxb; simp; intro h; subst h; simp_all) | grind))
 ·have ph1 := h1; try simp only [bs] at ph1
  refine Run.skip ?_
  refine Run.seq (Run.seq (Run.reg [.p] ?_))
  refine .ag rfl rfl <| .nil ?_
  refine Run.block ?_
  refine Run.loop (ι := same43_ok_L0 a b) (fun sx => [(0, sBals a), (1, sBals b), (5, .i sx.pre.length)]) (fun sx => []) (fun sx => sx.rest.length) ⟨[], a, b, rfl, rfl, by grind⟩ ?_ ?_
  ·exact Le.mk rfl (.same rfl rfl (.same rfl rfl (.cons rfl Sub.intA rfl .nil))) .nil
  ·rintro ⟨pre, rest, sb, hx, hxb, hll⟩
   show Run _ _ _ _ [(0, sBals a), (1, sBals b), (5, .i pre.length)] []
   have hl := congrArg List.length hx
   simp only [List.length_append] at hl
   rcases rest with _ | ⟨x, rest⟩
   ·skip
    refine Run.seq (Run.seq (Run.reg [.p, .p, .p, .p] ?_))
    refine .mv rfl rfl <| .mv rfl rfl <| .P rfl (q_lenI Tryz.underlying45 rfl) <| .P rfl (q_lss rfl rfl) <| .nil ?_
    refine Run.condF rfl (by simp at hl ⊢; omega) ?_
    refine Run.exit (tq_exit (bq_exit ?_))
    refine Run.seq (Run.reg [.p] ?_)
    refine .ag rfl rfl <| .nil ?_
    refine Run.ret (?_)
    exact ret1 rfl (Sub.bool (by first | (obtain rfl : sb = [] := List.length_eq_zero_iff.1 hll.symm; simp [hx, hxb]; done) | (subst hx; subst hxb; simp; intro h; subst h; simp_all) | grind))
   ·simp only [List.length_cons] at hl
    rcases sb with _ | ⟨y, sb⟩
    ·simp at hll
    refine Run.seq (Run.seq (Run.reg [.p, .p, .p, .p] ?_))
    refine .mv rfl rfl <| .mv rfl rfl <| .P rfl (q_lenI Tryz.underlying45 rfl) <| .P rfl (q_lss rfl rfl) <| .nil ?_
    refine Run.condT rfl (by simp; omega) ?_
    refine Run.skip ?_
    refine Run.seq ?_
    refine Run.block ?_
    refine Run.seq (Run.regD [.p, .p, .p, .p, .p, .p, .p, .p, .p] Tryz_mixed (by decide +kernel) ?_)
    refine .mv rfl rfl <| .mv rfl rfl <| .P rfl (q_indexI Tryz.underlying45 Tryz.sizeOf56 rfl rfl (by omega) (idx_mid encBalance hx rfl)) <| .P rfl (q_loadIA Tryz.isAgg56 Tryz.sizeOf56 rfl rfl) <| .mv rfl rfl <| .mv rfl rfl <| .P rfl (q_indexI Tryz.underlying45 Tryz.sizeOf56 rfl rfl (by omega) (idx_mid encBalance hxb rfl)) <| .P rfl (q_loadIA Tryz.isAgg56 Tryz.sizeOf56 rfl rfl) <| .P rfl (q_neqA (xs := [x.account, x.currency, x.amount]) (ys := [y.account, y.currency, y.amount]) Tryz.underlying56 (by kernel_rfl) (by kernel_rfl) (.cons (by decide +kernel) Tryz.underlying9 Tryz.isAgg9 rfl (.cons (by decide +kernel) Tryz.underlying9 Tryz.isAgg9 rfl (.cons (by decide +kernel) Tryz.underlying54 Tryz.isAgg54 rfl (.nil _)))) rfl rfl rfl rfl rfl rfl) <| .nil ?_
    refine Run.cond rfl (fun h2 => ?_) (fun h2 => ?_)
    ·have ph2 := h2; try simp only [bs] at ph2
     refine Run.seq (Run.reg [.p] ?_)
     refine .ag rfl rfl <| .nil ?_
     refine Run.ret (bq_ret (tq_ret (bq_ret (?_))))
     exact ret1 rfl (Sub.bool (by first | (obtain rfl : sb = [] := List.length_eq_zero_iff.1 hll.symm; simp [hx, hxb]; done) | (subst hx; subst hxb; simp; intro h; subst h; simp_all) | grind))
    ·have ph2 := h2; try simp only [bs] at ph2
     refine Run.skip ?_
     refine Run.nil (bq_norm ?_)
     refine Run.reg [.p, .p, .p] ?_
     refine .mv rfl rfl <| .P rfl (q_add rfl rfl (wrap64_ok (by omega) (by omega))) <| .ag rfl rfl <| .nil ?_
     refine Run.nil (tq_norm ?_)
     exact ⟨⟨pre ++ [x], rest, sb, by simp [hx], by rw [hxb, show x = y by cases x; cases y; simp_all]; simp, by simpa using hll⟩, by simp, Le.mk rfl (.same rfl rfl (.same rfl rfl (.cons rfl Sub.intA rfl .nil))) .nil⟩
end Go.T
namespace Go.T
open Go Go.Proofs
theorem okP_days {p : Posted} (h : okP p = true) : p.day ≤ 84005 ∧ p.entry.day ≤ 84005 := by
 obtain ⟨_, h2, h3, _⟩ := okP_parts h
 simp only [validDay, Bool.and_eq_true, decide_eq_true_eq] at h2
 omega
theorem sumE_nil_day {L : List Entry} (h : ∀ e ∈ L, e.day ≤ 84005) : L.filter (fun e => decide (e.day ≤ 84005)) = L := List.filter_eq_self.2 fun e he => by simpa using h e he
/-- The balances of a list of posted entries up to a day. -/
theorem trialP_bal {L : List Posted} (d : Int) (h : okPs L = true) : IsBal (trialP d L) ∧ ∀ k, balK k (trialP d L) = sumE k (upTo d L) := by
 have h1 := trialB_bal 84005 (upTo d L)
 refine ⟨h1.1, fun k => ?_⟩
 rw [trialP, h1.2, sumE_nil_day]
 intro e he
 obtain ⟨p, hp, rfl⟩ := upTo_mem he
 exact (okP_days (okPs_mem h p hp)).2
end Go.T
namespace Go.T
open Go Go.Proofs
set_option maxRecDepth 20000
end Go.T
namespace Go.T
open Go Go.Proofs
def great50 (l : List Posted) : Bool := l.any (fun p => greatOne p.entry || decide (60 < p.by_.length)) || decide (16 < l.length)
theorem greatOne_small {e : Entry} (h : greatOne e = false) : smallE e := by
 simp only [greatOne, Bool.or_eq_false_iff, Bool.and_eq_false_iff, decide_eq_false_iff_not] at h
 refine ⟨by omega, by omega, fun x hx => ?_⟩
 have h3 := List.any_eq_false.1 h.2 x hx
 simp only [greatLine, Bool.or_eq_true, decide_eq_true_eq, not_or] at h3
 exact ⟨by omega, by omega, by omega⟩
theorem great50_small {l : List Posted} (h : great50 l = false) : smallPs l ∧ l.length ≤ 16 := by
 simp only [great50, Bool.or_eq_false_iff, decide_eq_false_iff_not] at h
 refine ⟨fun p hp => ?_, by omega⟩
 have := List.any_eq_false.1 h.1 p hp
 simp only [Bool.or_eq_true, not_or, Bool.not_eq_true] at this
 exact greatOne_small this.1
theorem great50_T {l pre rest : List Posted} {x : Posted} (hx : l = pre ++ x :: rest) (h : (greatOne x.entry || decide (60 < x.by_.length)) = true) : great50 l = true := by
 subst hx; simp [great50, List.any_append, h]
theorem great50_end {l pre : List Posted} (hx : l = pre ++ []) (h : pre.any (fun p => greatOne p.entry || decide (60 < p.by_.length)) = false) : great50 l = decide (16 < l.length) := by
 simp only [List.append_nil] at hx
 subst hx; simp [great50, h]
/-- The result and the error of Trial. -/
def trialX (d : Int) (l : List Posted) : List Balance := if okPs l && validDay d then trialP d l else []
def errX (d : Int) (l : List Posted) : Int := if okPs l then if validDay d then 0 else 13 else 1
theorem trialX_ok {d : Int} {l : List Posted} (h : okPs l = true) (hd : validDay d = true) : trialX d l = trialP d l := by simp [trialX, h, hd]
/-! Sums of a currency. -/
theorem val_nil : val [] = 0 := rfl
/-! Between two days. -/
end Go.T
namespace Go.T
open Go Go.Proofs
end Go.T
