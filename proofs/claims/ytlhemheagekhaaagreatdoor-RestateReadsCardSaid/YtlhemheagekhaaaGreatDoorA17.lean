/-
  Contracts of the functions that the statement reaches, and the logic in which they are proved (no condition): parts Bal10, Core36, W66.
-/
import Derived.Test.YtlhemheagekhaaaGreatDoorA16
set_option linter.all false
namespace Go.T
open Go Go.Proofs
theorem checkNum_canon {s : Str} (h : checkNum s = 0) : s = ofInt (val s) := by
 unfold checkNum at h
 split at h
 ·rename_i e; rw [← val_canon]; exact e.symm
 ·omega
def amt13L (l : List Posted) : Prop := ∀ p ∈ l, ∀ x ∈ p.entry.lines, x.amount.length ≤ 13
theorem great50_13 {l : List Posted} (h : great50 l = false) : amt13L l := by
 intro p hp x hx
 simp only [great50, Bool.or_eq_false_iff] at h
 have h1 := List.any_eq_false.1 h.1 p hp
 simp only [Bool.or_eq_true, not_or, Bool.not_eq_true, greatOne, Bool.or_eq_false_iff] at h1
 have h2 := List.any_eq_false.1 h1.1.2 x hx
 simp only [greatLine, Bool.or_eq_true, decide_eq_true_eq, not_or] at h2
 omega
theorem val_b13 {s : Str} (h : s.length ≤ 13) : -10000000000000 < val s ∧ val s < 10000000000000 := by
 have h1 := natVal_lt (digits s).1 (digits_dig s)
 have h2 := digits_len s
 have h3 : 10 ^ (digits s).1.length ≤ 10 ^ 13 := Nat.pow_le_pow_right (by omega) (by omega)
 unfold val; split <;> omega
theorem sumK_b13 {k : Key} {ls : List Line} (h : ∀ l ∈ ls, l.amount.length ≤ 13) : -(ls.length * 10000000000000 : Int) ≤ sumK k ls ∧ sumK k ls ≤ ls.length * 10000000000000 := by
 induction ls with
 | nil => simp [sumK]
 | cons x ls ih =>
  have h1 := ih (fun l hl => h l (List.mem_cons_of_mem _ hl))
  have h2 := val_b13 (h x List.mem_cons_self)
  simp only [sumK, List.length_cons]
  split <;> omega
theorem dig_17 {s : Str} (h : s.length ≤ 17) : (digits s).1.length ≤ 17 := Nat.le_trans (digits_len s) h
theorem sign_zero (s : Str) : numCmp s [] = 0 ↔ val s = 0 := by
 rw [numCmp_sign, val_nil]
 unfold signI
 split
 ·omega
 ·split <;> omega
/-! One more balance. -/
theorem putB_app {x : Balance} : ∀ {pre : List Balance} (rest : List Balance), (∀ y ∈ pre, klt (bkey y) (bkey x) = true) → putB (pre ++ rest) x = pre ++ putB rest x
 | [], _, _ => rfl
 | y :: pre, rest, h => by
  have ih := putB_app (pre := pre) rest fun z hz => h z (List.mem_cons_of_mem _ hz)
  rw [List.cons_append, putB, if_pos (h y List.mem_cons_self), ih]; rfl
theorem put_A1 {l pre : List Balance} {x : Balance} (hx : l = pre ++ []) (hp : ∀ y ∈ pre, klt (bkey y) (bkey x) = true) (h : val x.amount ≠ 0) : putB l x = pre ++ [x] := by
 rw [hx, putB_app _ hp, putB, if_neg h]
theorem put_A0 {l pre : List Balance} {x : Balance} (hx : l = pre ++ []) (hp : ∀ y ∈ pre, klt (bkey y) (bkey x) = true) (h : val x.amount = 0) : putB l x = pre := by
 rw [hx, putB_app _ hp, putB, if_pos h, List.append_nil]
theorem put_B {l pre rest : List Balance} {x y : Balance} (hx : l = pre ++ y :: rest) (hp : ∀ y ∈ pre, klt (bkey y) (bkey x) = true) (h1 : klt (bkey y) (bkey x) = false) (h2 : klt (bkey x) (bkey y) = false) : putB l x = pre ++ (if val (addS x.amount y.amount) = 0 then rest else { x with amount := addS x.amount y.amount } :: rest) := by
 have e : val (addS x.amount y.amount) = val x.amount + val y.amount := by rw [addS, val_ofInt]
 rw [hx, putB_app _ hp, putB, if_neg (by rw [h1]; simp), if_neg (by rw [h2]; simp), e]; rfl
theorem put_C {l pre rest : List Balance} {x y : Balance} (hx : l = pre ++ y :: rest) (hp : ∀ y ∈ pre, klt (bkey y) (bkey x) = true) (h1 : klt (bkey y) (bkey x) = false) (h2 : klt (bkey x) (bkey y) = true) : putB l x = pre ++ (if val x.amount = 0 then y :: rest else x :: y :: rest) := by
 rw [hx, putB_app _ hp, putB, if_neg (by rw [h1]; simp), if_pos h2]
theorem putB_len (x : Balance) : ∀ l : List Balance, (putB l x).length ≤ l.length + 1
 | [] => by unfold putB; split <;> simp
 | y :: r => by
  have := putB_len x r
  unfold putB
  split
  ·simp; omega
  ·split <;> split <;> simp <;> omega
def toBal (l : Line) : Balance := ⟨l.account, l.currency, l.amount⟩
def putL (o : List Balance) (ls : List Line) : List Balance := ls.foldl (fun o x => putB o (toBal x)) o
theorem putL_snoc (o : List Balance) (ls : List Line) (x : Line) : putL o (ls ++ [x]) = putB (putL o ls) (toBal x) := by simp [putL]
def refT (d : Int) (l : List Posted) : List Balance := l.foldl (fun o p => if p.day ≤ d then putL o p.entry.lines else o) []
theorem refT_T {d : Int} {l : List Posted} {x : Posted} (h : x.day ≤ d) : refT d (l ++ [x]) = putL (refT d l) x.entry.lines := by simp [refT, h]
theorem refT_F {d : Int} {l : List Posted} {x : Posted} (h : ¬ x.day ≤ d) : refT d (l ++ [x]) = refT d l := by simp [refT, h]
theorem putL_bal {o : List Balance} {ls : List Line} (ho : IsBal o) (hc : ∀ x ∈ ls, x.amount = ofInt (val x.amount)) : IsBal (putL o ls) ∧ ∀ k, balK k (putL o ls) = balK k o + sumK k ls := by
 induction ls using rev_ind with
 | h0 => exact ⟨ho, fun k => by simp [putL, sumK]⟩
 | h1 ls x ih =>
  obtain ⟨i1, i2⟩ := ih fun y hy => hc y (by simp [hy])
  rw [putL_snoc]
  have := putB_bal (x := toBal x) (hc x (by simp)) i1
  refine ⟨this.1, fun k => ?_⟩
  rw [this.2, i2, sumK_append]
  have e1 : (if bkey (toBal x) = k then val (toBal x).amount else 0) = if lkey x = k then val x.amount else 0 := rfl
  rw [e1]; simp only [sumK]; omega
theorem refT_bal {d : Int} {l : List Posted} (h : ∀ p ∈ l, checkE p.entry = 0) : IsBal (refT d l) ∧ ∀ k, balK k (refT d l) = sumE k (upTo d l) := by
 induction l using rev_ind with
 | h0 => exact ⟨IsBal.nil, fun k => by simp [refT, upTo, sumE, balK]⟩
 | h1 l x ih =>
  obtain ⟨i1, i2⟩ := ih fun p hp => h p (by simp [hp])
  rw [upTo_snoc]
  by_cases hd : x.day ≤ d
  ·rw [refT_T hd, if_pos hd]
   have := putL_bal (ls := x.entry.lines) i1 fun y hy => checkNum_canon (checkFields_parts (checkE_line (h x (by simp)) y hy).1).2.2
   refine ⟨this.1, fun k => ?_⟩
   rw [this.2, i2, sumE_append]; simp [sumE]
  ·rw [refT_F hd, if_neg hd]
   refine ⟨i1, fun k => ?_⟩
   rw [i2, List.append_nil]
theorem refT_trialP {d : Int} {l : List Posted} (h : okPs l = true) : refT d l = trialP d l := by
 have h1 := refT_bal (d := d) (l := l) fun p hp => (okP_parts (okPs_mem h p hp)).1
 have h2 := trialP_bal d h
 exact IsBal.ext h1.1 h2.1 fun k => by rw [h1.2, h2.2]
/-- Partial sums stay small. -/
structure BalB (o : List Balance) (n : Nat) : Prop where
 bal : IsBal o
 v : ∀ b ∈ o, -(n * 10000000000000 : Int) ≤ val b.amount ∧ val b.amount ≤ n * 10000000000000
 can : ∀ b ∈ o, b.amount = ofInt (val b.amount)
 len : o.length ≤ n
theorem BalB.nil : BalB [] 0 := ⟨IsBal.nil, by simp, by simp, by simp⟩
theorem putB_v {x : Balance} {n : Nat} (hx : -10000000000000 ≤ val x.amount ∧ val x.amount ≤ 10000000000000) : ∀ {o : List Balance}, (∀ b ∈ o, -(n * 10000000000000 : Int) ≤ val b.amount ∧ val b.amount ≤ n * 10000000000000) → ∀ b ∈ putB o x, -((n + 1 : Nat) * 10000000000000 : Int) ≤ val b.amount ∧ val b.amount ≤ (n + 1 : Nat) * 10000000000000
 | [], h, b, hb => by
  unfold putB at hb
  split at hb
  ·simp at hb
  ·simp at hb; subst hb; omega
 | y :: r, h, b, hb => by
  have hy := h y List.mem_cons_self
  have hr : ∀ b ∈ r, -(n * 10000000000000 : Int) ≤ val b.amount ∧ val b.amount ≤ n * 10000000000000 := fun b hb => h b (List.mem_cons_of_mem _ hb)
  have ih := putB_v hx (o := r) hr
  unfold putB at hb
  split at hb
  ·rcases List.mem_cons.1 hb with rfl | hb
   ·omega
   ·exact ih b hb
  ·split at hb
   ·split at hb
    ·have := h b hb; omega
    ·rcases List.mem_cons.1 hb with rfl | hb
     ·omega
     ·have := h b hb; omega
   ·split at hb
    ·have := hr b hb; omega
    ·rcases List.mem_cons.1 hb with rfl | hb
     ·simp only [val_ofInt]; omega
     ·have := hr b hb; omega
theorem BalB.put {o : List Balance} {n : Nat} (h : BalB o n) {x : Balance} (hc : x.amount = ofInt (val x.amount)) (hx : x.amount.length ≤ 13) : BalB (putB o x) (n + 1) := by
 have hv := val_b13 hx
 have hb := putB_bal hc h.bal
 refine ⟨hb.1, putB_v (by omega) h.v, fun b hb' => (hb.1.amt b hb').1, ?_⟩
 have := putB_len x o
 have := h.len
 omega
theorem BalB.lines {o : List Balance} {n : Nat} (h : BalB o n) {ls : List Line} (hc : ∀ x ∈ ls, checkFields x = 0) (hx : ∀ x ∈ ls, x.amount.length ≤ 13) : BalB (putL o ls) (n + ls.length) := by
 induction ls using rev_ind with
 | h0 => exact h
 | h1 ls x ih =>
  rw [putL_snoc, List.length_append]
  exact (ih (fun y hy => hc y (by simp [hy])) (fun y hy => hx y (by simp [hy]))).put (x := toBal x) (checkNum_canon (checkFields_parts (hc x (by simp))).2.2) (hx x (by simp))
theorem BalB.le {o : List Balance} {n m : Nat} (h : BalB o n) (hm : n ≤ m) : BalB o m := by
 refine ⟨h.bal, fun b hb => ?_, h.can, Nat.le_trans h.len hm⟩
 have := h.v b hb
 omega
theorem refT_B {d : Int} {l : List Posted} (h : ∀ p ∈ l, checkE p.entry = 0) (h13 : amt13L l) (hs : smallPs l) : BalB (refT d l) (66 * l.length) := by
 induction l using rev_ind with
 | h0 => exact BalB.nil
 | h1 l x ih =>
  have ih := ih (fun p hp => h p (by simp [hp])) (fun p hp => h13 p (by simp [hp])) (fun p hp => hs p (by simp [hp]))
  have hx := (hs x (by simp)).2.1
  rw [List.length_append]
  by_cases hd : x.day ≤ d
  ·rw [refT_T hd]
   exact (ih.lines (fun y hy => (checkE_line (h x (by simp)) y hy).1) (h13 x (by simp))).le (by simp; omega)
  ·rw [refT_F hd]; exact ih.le (by simp; omega)
theorem BalB.dig {o : List Balance} {n : Nat} (h : BalB o n) (hn : n ≤ 2000) : ∀ b ∈ o, (digits b.amount).1.length ≤ 17 := by
 intro b hb
 rw [h.can b hb]
 have := h.v b hb
 exact ofInt_digits (by constructor <;> omega)
/-! Terms in their order. -/
def insT : List Term → Str → Str → List Term
 | [], s, n => [⟨s, n⟩]
 | t :: r, s, n => if Str.lt t.name s then t :: insT r s n else if t.name = s then ⟨t.name, addS t.amount n⟩ :: r else ⟨s, n⟩ :: t :: r
structure TS (o : List Term) (f : Str → Int) : Prop where
 sorted : o.Pairwise fun a b => Str.lt a.name b.name = true
 amt : ∀ t ∈ o, t.amount = ofInt (f t.name)
 out : ∀ s, (∀ t ∈ o, t.name ≠ s) → f s = 0
theorem insT_names {o : List Term} {s n : Str} : ∀ t ∈ insT o s n, t.name = s ∨ ∃ t' ∈ o, t'.name = t.name := by
 induction o with
 | nil => intro t ht; simp [insT] at ht; subst ht; exact .inl rfl
 | cons x r ih =>
  intro t ht
  unfold insT at ht
  split at ht
  ·rcases List.mem_cons.1 ht with rfl | ht
   ·exact .inr ⟨t, by simp, rfl⟩
   ·rcases ih t ht with h | ⟨t', h1, h2⟩
    ·exact .inl h
    ·exact .inr ⟨t', by simp [h1], h2⟩
  ·split at ht
   ·rcases List.mem_cons.1 ht with rfl | ht
    ·exact .inr ⟨x, by simp, rfl⟩
    ·exact .inr ⟨t, by simp [ht], rfl⟩
   ·rcases List.mem_cons.1 ht with rfl | ht
    ·exact .inl rfl
    ·exact .inr ⟨t, ht, rfl⟩
theorem insT_has {o : List Term} {s n : Str} : (∃ t ∈ insT o s n, t.name = s) ∧ ∀ t' ∈ o, ∃ t ∈ insT o s n, t.name = t'.name := by
 induction o with
 | nil => exact ⟨⟨⟨s, n⟩, by simp [insT], rfl⟩, by simp⟩
 | cons x r ih =>
  unfold insT
  split
  ·obtain ⟨t, h1, h2⟩ := ih.1
   refine ⟨⟨t, by simp [h1], h2⟩, fun t' ht' => ?_⟩
   rcases List.mem_cons.1 ht' with rfl | ht'
   ·exact ⟨t', by simp, rfl⟩
   ·obtain ⟨u, g1, g2⟩ := ih.2 t' ht'; exact ⟨u, by simp [g1], g2⟩
  ·split
   ·rename_i e
    refine ⟨⟨_, List.mem_cons_self, e⟩, fun t' ht' => ?_⟩
    rcases List.mem_cons.1 ht' with rfl | ht'
    ·exact ⟨_, List.mem_cons_self, rfl⟩
    ·exact ⟨t', by simp [ht'], rfl⟩
   ·exact ⟨⟨⟨s, n⟩, by simp, rfl⟩, fun t' ht' => ⟨t', List.mem_cons_of_mem _ ht', rfl⟩⟩
theorem insT_amt {o : List Term} {s n : Str} {f : Str → Int} (hs : o.Pairwise fun a b => Str.lt a.name b.name = true) (ha : ∀ t ∈ o, t.amount = ofInt (f t.name)) (h0 : (∀ t ∈ o, t.name ≠ s) → f s = 0) (hn : n = ofInt (val n)) : ∀ t ∈ insT o s n, t.amount = ofInt (f t.name + if s = t.name then val n else 0) := by
 induction o with
 | nil => intro t ht; simp [insT] at ht; subst ht; simp [h0 (by simp)]; exact hn
 | cons x r ih =>
  obtain ⟨p1, p2⟩ := List.pairwise_cons.1 hs
  intro t ht
  unfold insT at ht
  split at ht
  ·rename_i hlt
   have hne : x.name ≠ s := by rintro e; rw [e, lt_irrefl] at hlt; cases hlt
   rcases List.mem_cons.1 ht with rfl | ht
   ·rw [if_neg (fun e => hne e.symm), ha t (by simp)]; simp
   ·exact ih p2 (fun t ht => ha t (by simp [ht])) (fun h => h0 fun t ht => by
     rcases List.mem_cons.1 ht with rfl | ht
     ·exact hne
     ·exact h t ht) t ht
  ·rename_i hlt
   split at ht
   ·rename_i e
    rcases List.mem_cons.1 ht with rfl | ht
    ·simp only
     rw [if_pos e.symm, ha x (by simp), addS_ofInt]
    ·have hne : s ≠ t.name := by
      intro e2; have := p1 t ht; rw [e, e2, lt_irrefl] at this; cases this
     rw [if_neg hne, ha t (by simp [ht])]; simp
   ·rename_i hne
    have hgt : Str.lt s x.name = true := by
     cases h : Str.lt s x.name with
     | true => rfl
     | false => exact absurd (lt_total _ _ (by simpa using hlt) h) hne
    have habs : ∀ u ∈ x :: r, u.name ≠ s := by
     intro u hu e
     rcases List.mem_cons.1 hu with rfl | hu
     ·exact hne e
     ·have := lt_trans' _ _ _ hgt (p1 u hu); rw [e, lt_irrefl] at this; cases this
    rcases List.mem_cons.1 ht with rfl | ht
    ·simp [h0 habs]; exact hn
    ·rw [if_neg (fun e => habs t ht e.symm), ha t ht]; simp
theorem insT_sorted {o : List Term} {s n : Str} (hs : o.Pairwise fun a b => Str.lt a.name b.name = true) : (insT o s n).Pairwise fun a b => Str.lt a.name b.name = true := by
 induction o with
 | nil => simp [insT]
 | cons x r ih =>
  obtain ⟨p1, p2⟩ := List.pairwise_cons.1 hs
  unfold insT
  split
  ·rename_i hlt
   refine List.pairwise_cons.2 ⟨fun t ht => ?_, ih p2⟩
   rcases insT_names t ht with e | ⟨t', h1, h2⟩
   ·rw [e]; exact hlt
   ·rw [← h2]; exact p1 t' h1
  ·rename_i hlt
   split
   ·exact List.pairwise_cons.2 ⟨p1, p2⟩
   ·rename_i hne
    have hgt : Str.lt s x.name = true := by
     cases h : Str.lt s x.name with
     | true => rfl
     | false => exact absurd (lt_total _ _ (by simpa using hlt) h) hne
    refine List.pairwise_cons.2 ⟨fun t ht => ?_, hs⟩
    rcases List.mem_cons.1 ht with rfl | ht
    ·exact hgt
    ·exact lt_trans' _ _ _ hgt (p1 t ht)
theorem TS.ins {o : List Term} {f : Str → Int} (h : TS o f) {s n : Str} (hn : n = ofInt (val n)) : TS (insT o s n) (fun q => f q + if s = q then val n else 0) := by
 refine ⟨insT_sorted h.sorted, insT_amt h.sorted h.amt (h.out s) hn, fun q hq => ?_⟩
 have h1 : s ≠ q := by
  intro e; obtain ⟨t, g1, g2⟩ := (insT_has (o := o) (s := s) (n := n)).1; exact hq t g1 (g2.trans e)
 have h2 : f q = 0 := h.out q fun t ht e => by
  obtain ⟨u, g1, g2⟩ := (insT_has (o := o) (s := s) (n := n)).2 t ht; exact hq u g1 (g2.trans e)
 simp [h1, h2]
def exT (k : Key) (l : List Posted) : List Term := l.foldl (fun o p => insT o p.by_ (amtE k p.entry)) []
theorem exT_snoc (k : Key) (l : List Posted) (x : Posted) : exT k (l ++ [x]) = insT (exT k l) x.by_ (amtE k x.entry) := by simp [exT]
theorem exT_ts (k : Key) (l : List Posted) : TS (exT k l) (fun s => sumBy k s l) := by
 induction l using rev_ind with
 | h0 => exact ⟨by simp [exT], by simp [exT], fun s _ => rfl⟩
 | h1 l x ih =>
  rw [exT_snoc]
  have := ih.ins (s := x.by_) (n := amtE k x.entry) (by rw [amtE, val_ofInt])
  refine ⟨this.sorted, fun t ht => ?_, fun s hs => ?_⟩
  ·rw [this.amt t ht, sumBy_snoc, amtE, val_ofInt]
  ·have h2 := this.out s hs
   rw [sumBy_snoc]
   simpa [amtE, val_ofInt] using h2
def neT (l : List Term) : List Term := l.filter fun t => decide (t.amount ≠ [])
theorem neT_termK {o : List Term} {f : Str → Int} (h : ∀ t ∈ o, t.amount = ofInt (f t.name)) : neT o = termK (o.map (·.name)) (fun s => ofInt (f s)) := by
 induction o with
 | nil => rfl
 | cons x r ih =>
  have ih := ih fun t ht => h t (by simp [ht])
  have hx := h x (by simp)
  unfold neT termK at *
  rw [List.map_cons, List.filterMap_cons, List.filter_cons, ih]
  by_cases e : x.amount = []
  ·have e2 : ofInt (f x.name) = [] := by rw [← hx]; exact e
   simp [e, e2]
  ·have e2 : ofInt (f x.name) ≠ [] := by rw [← hx]; exact e
   have e3 : (⟨x.name, ofInt (f x.name)⟩ : Term) = x := by cases x; simp only at hx; subst hx; rfl
   simp [e, e2, e3]
theorem exT_explainT (k : Key) (l : List Posted) : neT (exT k l) = explainT k l := by
 have hts := exT_ts k l
 have hb := termsM_bal (exM_val k l)
 have e1 : (neT (exT k l)).map toB = listK (((exT k l).map (·.name)).map emb) (fun q => if q.2 = [] then ofInt (sumBy k q.1 l) else []) := by
  rw [neT_termK (f := fun s => sumBy k s l) hts.amt]
  exact termK_toB _ _ (fun s => by simp [emb]) _
 have hs : (((exT k l).map (·.name)).map emb).Pairwise fun a b => klt a b = true := by
  rw [List.map_map, List.pairwise_map]
  exact hts.sorted.imp fun {a b} hab => by simp only [Function.comp]; rw [klt_emb]; exact hab
 have h2 := listK_bal hs (fun q => if q.2 = [] then sumBy k q.1 l else 0) (fun q => if q.2 = [] then ofInt (sumBy k q.1 l) else []) (fun q => by by_cases hq : q.2 = [] <;> simp [hq, ofInt_zero]) (fun q hq => by
  by_cases hq2 : q.2 = []
  ·simp only [hq2, if_true]
   refine hts.out q.1 fun t ht e => hq (List.mem_map.2 ⟨q.1, List.mem_map.2 ⟨t, ht, e⟩, Prod.ext rfl hq2.symm⟩)
  ·simp [hq2])
 have e2 : (neT (exT k l)).map toB = (explainT k l).map toB := by
  rw [e1]
  exact IsBal.ext h2.1 hb.1 fun q => by rw [h2.2]; exact (hb.2 q).symm
 have inj : ∀ {a b : List Term}, a.map toB = b.map toB → a = b := by
  intro a
  induction a with
  | nil => intro b h; cases b with
   | nil => rfl
   | cons _ _ => simp at h
  | cons x a ih =>
   intro b h
   cases b with
   | nil => simp at h
   | cons y b =>
    simp only [List.map_cons, List.cons.injEq] at h
    rw [toB_inj h.1, ih h.2]
 exact inj e2
end Go.T
namespace Go.T
open Go
variable [Noise]
variable {P : Program} {env : Env} {dst : Option Tmp} {ty : TypeId} {pos : String} {aft : Array Edge} {g : Option (Nat × Bool)}
theorem q_slice3I {t e : TypeId} {x y z : Operand} {k1 k2 : IntKind} {sz h : Nat} {full : Bool} {rows : List (List D)} (hu : P.underlying t = some (.slice e)) (hs : ∀ w, (sizeOf e).run P w = .ok sz w) (hx : env.op x = some (.snap sz full rows))
  (hy : env.op y = some (.raw (.int k1 (h : Int)))) (hz : env.op z = some (.raw (.int k2 (h : Int)))) (hhs : h ≤ rows.length) (obs : Obs) :
  QStep P ⟨dst, .slice t x none (some y) (some z), ty, pos, aft, g⟩ env obs (.snap sz true (rows.take h)) obs :=
 .val fun _ _ a w _ hv => by
  have h1 := hv x (by simp [Op.operands]) _ hx
  simp only [V] at h1
  obtain ⟨ad, cap, e1, h3, h4, h5⟩ := h1
  have e2 : a.eval y = .int k1 h := by have := hv y (by simp [Op.operands]) _ hy; simpa [V] using this
  have e3 : a.eval z = .int k2 h := by have := hv z (by simp [Op.operands]) _ hz; simpa [V] using this
  have hcap : h ≤ cap := by omega
  have hbg := h3.2
  have hb : (Instr.sliceBounds true rows.length cap none (some (.int k1 h)) (some (.int k2 h))).run P w = .ok (0, h, h) w := by
   simp [Instr.sliceBounds, sliceBound_ok, hcap]
  have hrl : (rows.take h).length = h := by simp; omega
  refine ⟨.slice (if h = 0 then ad else ad.map (·.add (0 * sz))) h h, ?_, ?_⟩
  ·simp [execOp, Instr.sliceAt, Instr.slice, run_und hu, e1, e2, e3, hb, hs]
  ·simp only [V]
   refine ⟨_, _, by rw [hrl], ⟨by omega, by omega⟩, fun _ => hrl.symm, fun hne => ?_⟩
   have hrows : rows ≠ [] := by
    intro e; subst e; apply hne; simp
   obtain ⟨b, off, rfl, ho, h6⟩ := h5 hrows
   have hcl : ¬ h = 0 := by
    rintro rfl; exact hne (by simp)
   refine ⟨b, off, by simp [hcl, addr_add], ho, ?_⟩
   have := (h6.drop 0).take h
   simpa using this
/-- append to a slice that has no room. -/
theorem q_appendFull {st xt e e' : TypeId} {ti : TypeInfo} {z : Value} {sz bt : Nat} {x y : Operand} {full : Bool} {rows new : List (List D)} {obs : Obs} (id' : Nat) (hu : P.underlying st = some (.slice e)) (hxu : P.underlying xt = some (.slice e')) (hs : ∀ w, (sizeOf e).run P w = .ok sz w)
  (hti : ∀ w, (typeInfo e).run P w = .ok ti w) (hz : ∀ w, (zeroValue e).run P w = .ok z w) (hzs : z.cells.size = sz) (hbt : ti.bytes = bt) (hb00 : Nat.beq bt 0 = false) (hx : env.op x = some (.snap sz true rows)) (hy : env.op y = some (.snap sz full new)) (hid : obs.get id' = none) (hne : new ≠ [])
  (hbb : (rows.length + new.length) * bt ≤ 140737488355328) :
  QStep P ⟨dst, .call ⟨.builtin .append, #[x, y], #[st, xt]⟩, ty, pos, aft, g⟩ env obs (.gs id' (rows.length + new.length)) ((id', .arr sz (rows ++ new)) :: obs) :=
 .step fun O ρ a w hok hv => by
  have hb : (rows.length + new.length) * ti.bytes ≤ 140737488355328 := by rw [hbt]; exact hbb
  have hb0 : ti.bytes ≠ 0 := by
   rw [hbt]; intro h; subst h; simp at hb00
  have hvx := hv x (by simp [Op.operands, Call.operands]) _ hx
  have hvy := hv y (by simp [Op.operands, Call.operands]) _ hy
  have hrun : ∀ v w', (Builtin.append_ #[st, xt] ty #[a.eval x, a.eval y]).run P w = .ok v w' → (execOp a.eval ⟨dst, .call ⟨.builtin .append, #[x, y], #[st, xt]⟩, ty, pos, aft, g⟩).run P w = .ok (.value v) w' := by
   intro v w' h
   simp [execOp, resolve, invoke, builtin, h]
  obtain ⟨hlen, us, hfu, hus, hone, hul, hrl⟩ := run_firstSnap (P := P) hvy
  obtain ⟨hlen2, vs, hfv, hvs, hone2, hvl, hrr⟩ := run_firstSnap (P := P) hvx
  have hnl : new.length ≠ 0 := fun h => hne (List.length_eq_zero_iff.1 h)
  have hbig : rows.length + new.length ≤ big := by
   have : (rows.length + new.length) * 1 ≤ (rows.length + new.length) * ti.bytes := Nat.mul_le_mul_left _ (by omega)
   unfold big; omega
  have hvx' := hvx
  simp only [V] at hvx'
  obtain ⟨ad, cap, e1, hc1, hc2, _⟩ := hvx'
  have hcap := hc2 trivial
  rw [e1] at hfv
  obtain ⟨nc, h1, h2⟩ := run_append_grow (T := ty) (w := w) hu hs hxu (by simp) hti hz (fun w' _ => hlen w') hfu (vs := vs) (fun w' hw' => hfv w' hw') (by omega) hb hb0
  rw [← e1] at h2
  have hok1 : ObsOK { w with drawn := w.drawn + 1 } O ρ obs := (Tr.drawn hok (w.drawn + 1) (Nat.le_succ _)).ok
  have htr := Tr.drawn hok (w.drawn + 1) (Nat.le_succ _)
  refine ⟨_, _, T.upd ρ id' ⟨w.heap.size, 0, nc⟩, .inl (hrun _ _ h2), htr.trans (Tr.born (w := { w with drawn := w.drawn + 1 }) hok1 hid _ rfl (fun i x h _ => h) (fun i h => h) ?_), ?_⟩
  ·intro hk
   have hl2 : (rows ++ new).length = rows.length + new.length := by rw [List.length_append]
   have hap : (vs ++ us).toArray = vs.toArray ++ us.toArray := by simp
   refine Own.grown (w := { w with drawn := w.drawn + 1 }) (T := e) (vs := vs ++ us) (zs := Builtin.zeroCells z.cells (nc - (rows.length + new.length))) (by rw [hap]; simp) ?_ ?_ ?_ (by rw [hl2]; exact hbig) ?_ ?_ ?_ hk
   ·rw [List.length_append, hl2, hvl, hul, Nat.add_mul]
   ·rw [zeroCells_size, hzs, hl2]
   ·rw [hl2]; exact h1
   ·intro r hr
    rcases List.mem_append.1 hr with hr | hr
    ·exact hrr r hr
    ·exact hrl r hr
   ·rw [List.flatten_append]
    exact Vs.mono htr.kept (RhoLe.refl _) _ _ (Vs.append hvs hus)
   ·intro v hv'
    rcases List.mem_append.1 hv' with hv' | hv'
    ·exact hone2 v hv'
    ·exact hone v hv'
  ·simp only [V]
   exact .inr ⟨by omega, _, upd_same .., rfl⟩
/-- .. and nobody will write what comes of it. -/
theorem q_appendSnap {st xt e e' : TypeId} {ti : TypeInfo} {z : Value} {sz bt : Nat} {x y : Operand} {full : Bool} {rows new : List (List D)} (hu : P.underlying st = some (.slice e)) (hxu : P.underlying xt = some (.slice e')) (hs : ∀ w, (sizeOf e).run P w = .ok sz w)
  (hti : ∀ w, (typeInfo e).run P w = .ok ti w) (hz : ∀ w, (zeroValue e).run P w = .ok z w) (hzs : z.cells.size = sz) (hbt : ti.bytes = bt) (hb00 : Nat.beq bt 0 = false) (hx : env.op x = some (.snap sz true rows)) (hy : env.op y = some (.snap sz full new)) (hne : new ≠ [])
  (hbb : (rows.length + new.length) * bt ≤ 140737488355328) (obs : Obs) :
  QStep P ⟨dst, .call ⟨.builtin .append, #[x, y], #[st, xt]⟩, ty, pos, aft, g⟩ env obs (.snap sz false (rows ++ new)) obs :=
 .step fun O ρ a w hok hv => by
  have hb : (rows.length + new.length) * ti.bytes ≤ 140737488355328 := by rw [hbt]; exact hbb
  have hb0 : ti.bytes ≠ 0 := by
   rw [hbt]; intro h; subst h; simp at hb00
  have hvx := hv x (by simp [Op.operands, Call.operands]) _ hx
  have hvy := hv y (by simp [Op.operands, Call.operands]) _ hy
  have hrun : ∀ v w', (Builtin.append_ #[st, xt] ty #[a.eval x, a.eval y]).run P w = .ok v w' → (execOp a.eval ⟨dst, .call ⟨.builtin .append, #[x, y], #[st, xt]⟩, ty, pos, aft, g⟩).run P w = .ok (.value v) w' := by
   intro v w' h
   simp [execOp, resolve, invoke, builtin, h]
  obtain ⟨hlen, us, hfu, hus, hone, hul, hrl⟩ := run_firstSnap (P := P) hvy
  obtain ⟨hlen2, vs, hfv, hvs, hone2, hvl, hrr⟩ := run_firstSnap (P := P) hvx
  have hnl : new.length ≠ 0 := fun h => hne (List.length_eq_zero_iff.1 h)
  have hbig : rows.length + new.length ≤ big := by
   have : (rows.length + new.length) * 1 ≤ (rows.length + new.length) * ti.bytes := Nat.mul_le_mul_left _ (by omega)
   unfold big; omega
  have hvx' := hvx
  simp only [V] at hvx'
  obtain ⟨ad, cap, e1, hc1, hc2, _⟩ := hvx'
  have hcap := hc2 trivial
  rw [e1] at hfv
  obtain ⟨nc, h1, h2⟩ := run_append_grow (T := ty) (w := w) hu hs hxu (by simp) hti hz (fun w' _ => hlen w') hfu (vs := vs) (fun w' hw' => hfv w' hw') (by omega) hb hb0
  rw [← e1] at h2
  have hlt : ∀ b, Ot O ρ obs b → b < w.heap.size := by
   rintro b (hb | ⟨i, o, l, h1, h2, h3, h4⟩)
   ·exact hok.lt b hb
   ·obtain ⟨l', h5, _, h6⟩ := hok.own i o h1 h2
    rw [h3] at h5; cases h5
    exact h4 ▸ h6.lt h2
  have hl2 : (rows ++ new).length = rows.length + new.length := by rw [List.length_append]
  have hap : (vs ++ us).toArray = vs.toArray ++ us.toArray := by simp
  have htr : Tr O w ρ obs { w with drawn := w.drawn + 1, heap := w.heap.push (.cells (vs.toArray ++ us.toArray ++ Builtin.zeroCells z.cells (nc - (rows.length + new.length))) e (0, 0)) } ρ obs :=
   Tr.of_keep ⟨by simp, fun b hb => by simp [Array.getElem?_push, Nat.ne_of_lt hb], rfl, rfl, .inl ⟨rfl, Nat.le_succ _⟩⟩ hok
  refine ⟨_, _, ρ, .inl (hrun _ _ h2), htr, ?_⟩
  have hg := Own.grown (ρ := ρ) (b := w.heap.size) (nc := nc) (sz := sz) (T := e) (ds := rows ++ new) (vs := vs ++ us) (zs := Builtin.zeroCells z.cells (nc - (rows.length + new.length))) (w' := { w with drawn := w.drawn + 1, heap := w.heap.push (.cells (vs.toArray ++ us.toArray ++ Builtin.zeroCells z.cells (nc - (rows.length + new.length))) e (0, 0)) }) (by rw [hap]; simp) (by rw [List.length_append, hl2, hvl, hul, Nat.add_mul]) (by rw [zeroCells_size, hzs, hl2]) (by rw [hl2]; exact h1) (by rw [hl2]; exact hbig)
   (fun r hr => (List.mem_append.1 hr).elim (hrr r) (hrl r)) (by rw [List.flatten_append]; exact Vs.append hvs hus) (fun v hv' => (List.mem_append.1 hv').elim (hone2 v) (hone v)) htr.kept
  obtain ⟨c, T, q1, q2, q3, q4⟩ := hg
  simp only [V]
  exact ⟨_, _, by rw [hl2], ⟨by rw [hl2]; exact h1, by rw [hl2]; exact hbig⟩, by simp, fun _ => ⟨w.heap.size, 0, rfl, ⟨by simp, fun ho => Nat.lt_irrefl _ (hlt _ ho)⟩, q4⟩⟩
theorem q_append0 {st xt e e' : TypeId} {sz : Nat} {x y : Operand} {full full' : Bool} {rows : List (List D)} (hu : P.underlying st = some (.slice e)) (hxu : P.underlying xt = some (.slice e')) (hs : ∀ w, (sizeOf e).run P w = .ok sz w) (hx : env.op x = some (.snap sz full rows)) (hy : env.op y = some (.snap sz full' [])) (obs : Obs) :
  QStep P ⟨dst, .call ⟨.builtin .append, #[x, y], #[st, xt]⟩, ty, pos, aft, g⟩ env obs (.snap sz full rows) obs :=
 .val fun O ρ a w hok hv => by
  have hvx := hv x (by simp [Op.operands, Call.operands]) _ hx
  have hvy := hv y (by simp [Op.operands, Call.operands]) _ hy
  obtain ⟨hlen, us, hfu, hus, hone, hul, hrl⟩ := run_firstSnap (P := P) hvy
  have hus0 : us = [] := by have := hul; simp at this; exact this
  subst hus0
  have hvx' := hvx
  simp only [V] at hvx'
  obtain ⟨ad, cap, e1, hc1, hc2, _⟩ := hvx'
  have h1 := hfu w rfl
  refine ⟨_, ?_, hvx⟩
  have : (Builtin.append_ #[st, xt] ty #[a.eval x, a.eval y]).run P w = .ok (a.eval x) w := by
   rw [e1]
   cases ad with
   | none => simp [Builtin.append_, run_und hu, hs, run_und hxu, hlen w, hc1] at h1 ⊢; simp [h1]
   | some ad => simp [Builtin.append_, run_und hu, hs, run_und hxu, hlen w, hc1] at h1 ⊢; simp [h1, storeCells]
  simp [execOp, resolve, invoke, builtin, this]
end Go.T
namespace Go.T
open Go Go.Proofs
set_option maxRecDepth 20000
theorem less43_ok (a b : Balance) : Fc Tryz.prog 141 [.agg (encBalance a), .agg (encBalance b)] (.b (klt (bkey a) (bkey b))) := by
 refine Fc.mk' [4] Tryz.func141 rfl Tryz.ntmps141 rfl rfl rfl (fun t w => results_tmp Tryz.results141 t _ w) ?_
 refine Run.seq (Run.reg [.w, .w, .p] ?_)
 refine .W rfl (q_boxA 0 rfl rfl) <| .W rfl (q_boxA 1 rfl rfl) <| .ag rfl rfl <| .nil ?_
 refine Run.seq (Run.reg [.p, .r, .p, .r, .p, .p, .p, .r, .p, .r, .p, .p, .p, .r, .p, .r, .p, .p, .p, .p] ?_)
 refine .P rfl (q_fieldB (n := 0) 9 0 Tryz.underlying56 Tryz.sizeOf9 rfl rfl) <| .R rfl (q_load1 Tryz.isAgg9 rfl rfl rfl) <| .P rfl (q_fieldB (n := 0) 9 0 Tryz.underlying56 Tryz.sizeOf9 rfl rfl) <| .R rfl (q_load1 Tryz.isAgg9 rfl rfl rfl) <| .P rfl (q_lssS rfl rfl) <| .mv rfl rfl <| .gF rfl (.inl rfl) rfl rfl rfl (fun hg => pk (fun _ => q_fieldB (n := 0) 9 0 Tryz.underlying56 Tryz.sizeOf9 rfl rfl _)) <| .gF rfl (.inr rfl) rfl rfl rfl (fun hg => rk (q_load1 Tryz.isAgg9 (opT rfl (nt hg)) rfl rfl)) <| .gF rfl (.inl rfl) rfl rfl rfl (fun hg => pk (fun _ => q_fieldB (n := 0) 9 0 Tryz.underlying56 Tryz.sizeOf9 rfl rfl _)) <| .gF rfl (.inr rfl) rfl rfl rfl (fun hg => rk (q_load1 Tryz.isAgg9 (opT rfl (nt hg)) rfl rfl)) <| .gF rfl (.inl rfl) rfl rfl rfl (fun hg => pk (fun _ => q_eqlS (opT rfl (nt hg)) (opT rfl (nt hg)) _)) <| .gF rfl (.inl rfl) rfl rfl rfl (fun hg => pk (fun _ => q_move (opT rfl (nt hg)) _)) ?_
 refine .nT rfl (.inl rfl) rfl rfl rfl (fun hc hg => pk (fun _ => q_fieldB (n := 0) 9 1 Tryz.underlying56 Tryz.sizeOf9 rfl rfl _)) ?_
 refine .nT rfl (.inr rfl) rfl rfl rfl (fun hc hg => rk (q_load1 Tryz.isAgg9 (opT rfl (bT hc hg)) rfl rfl)) ?_
 refine .nT rfl (.inl rfl) rfl rfl rfl (fun hc hg => pk (fun _ => q_fieldB (n := 0) 9 1 Tryz.underlying56 Tryz.sizeOf9 rfl rfl _)) ?_
 refine .nT rfl (.inr rfl) rfl rfl rfl (fun hc hg => rk (q_load1 Tryz.isAgg9 (opT rfl (bT hc hg)) rfl rfl)) ?_
 refine .nT rfl (.inl rfl) rfl rfl rfl (fun hc hg => pk (fun _ => q_lssS (opT rfl (bT hc hg)) (opT rfl (bT hc hg)) _)) ?_
 refine .gF rfl (.inl rfl) rfl rfl rfl (fun hg => pk (fun _ => q_and (opT rfl (nt hg)) (opA rfl (nt hg)) _)) <| .P rfl (q_or rfl rfl) <| .ag rfl rfl <| .nil ?_
 refine Run.ret (?_)
 exact ret1 rfl (Sub.bool (by rfl))
theorem sign01_ok (s : Str) : Fc Tryz.prog 142 [.str s] (.i (numCmp s [])) := by
 refine Fc.mk' [2] Tryz.func142 rfl Tryz.ntmps142 rfl rfl rfl (fun t w => results_tmp Tryz.results142 t _ w) ?_
 refine Run.seq (Run.reg [.p] ?_)
 refine .ag rfl rfl <| .nil ?_
 refine Run.seq (Run.reg [.p, .p, .p] ?_)
 refine .mv rfl rfl <| .P rfl (q_call Tryz.call188 rfl (compare01_ok _ _)) <| .ag rfl rfl <| .nil ?_
 refine Run.ret (?_)
 exact ret1 rfl (Sub.int (by rfl))
theorem sl_pre {α β : Type} (f : α → β) {l pre rest : List α} (hx : l = pre ++ rest) : ((l.map f).drop 0).take (pre.length - 0) = pre.map f := by subst hx; simp
theorem sl_rest {α β : Type} (f : α → β) {l pre rest : List α} (hx : l = pre ++ rest) : ((l.map f).drop pre.length).take (l.length - pre.length) = rest.map f := by
 subst hx
 have e : (pre.map f).length = pre.length := by simp
 rw [List.map_append, ← e, List.drop_left, e]
 exact List.take_of_length_le (by simp)
theorem sl_rest1 {α β : Type} (f : α → β) {l pre rest : List α} {y : α} (hx : l = pre ++ y :: rest) : ((l.map f).drop (pre.length + 1)).take (l.length - (pre.length + 1)) = rest.map f := by
 have := sl_rest f (l := l) (pre := pre ++ [y]) (rest := rest) (by simp [hx])
 simpa using this
theorem sgn_ne {s : Str} (h : decide (numCmp s [] ≠ 0) = true) : val s ≠ 0 := fun e => by rw [(sign_zero s).2 e] at h; simp at h
theorem sgn_eq {s : Str} (h : decide (numCmp s [] ≠ 0) = false) : val s = 0 := (sign_zero s).1 (by simpa using h)
structure putB_ok_L0 (l : List Balance) (x : Balance) where
 pre : List Balance
 rest : List Balance
 hx : l = pre ++ rest
 hp : ∀ y ∈ pre, klt (bkey y) (bkey x) = true
theorem putB_ok (l : List Balance) (x : Balance) (hl0 : l.length ≤ 100000) (hdx : (digits x.amount).1.length ≤ 17) (hd : ∀ y ∈ l, (digits y.amount).1.length ≤ 17) : Fc Tryz.prog 89 [sBals l, .agg (encBalance x)] (sBals (putB l x)) := by
 refine Fc.mk' [4] Tryz.func89 rfl Tryz.ntmps89 rfl rfl rfl (fun t w => results_tmp Tryz.results89 t _ w) ?_
 refine Run.seq (Run.reg [.w, .p] ?_)
 refine .W rfl (q_boxA 0 rfl rfl) <| .ag rfl rfl <| .nil ?_
 refine Run.seq (Run.reg [.p] ?_)
 refine .ag rfl rfl <| .nil ?_
 refine Run.seq ?_
 refine Run.block ?_
 refine Run.loop (ι := putB_ok_L0 l x) (fun sx => [(0, sBals l), (3, .box 0 0), (5, .i sx.pre.length)]) (fun sx => [(0, .cells (encBalance x))]) (fun sx => sx.rest.length) ⟨[], l, rfl, by simp⟩ ?_ ?_
 ·exact Le.mk rfl (.same rfl rfl (.same rfl rfl (.cons rfl Sub.intA rfl .nil))) (.cons rfl rfl .nil)
 ·rintro ⟨pre, rest, hx, hp⟩
  show Run _ _ _ _ [(0, sBals l), (3, .box 0 0), (5, .i pre.length)] [(0, .cells (encBalance x))]
  have hl := congrArg List.length hx
  simp only [List.length_append] at hl
  rcases rest with _ | ⟨y, rest⟩
  ·simp only [List.length_nil] at hl
   refine Run.seq (Run.seq (Run.regD [.p, .p, .p, .p, .p, .p, .p, .p, .p, .r, .p, .p] Tryz_mixed (by decide +kernel) ?_))
   refine .mv rfl rfl <| .mv rfl rfl <| .P rfl (q_lenI Tryz.underlying45 rfl) <| .P rfl (q_lss rfl rfl) <| .mv rfl rfl ?_
   refine .off rfl (off_of rfl rfl rfl (by simp; omega)) ?_
   refine .off rfl (off_of rfl rfl rfl (by simp; omega)) ?_
   refine .off rfl (off_of rfl rfl rfl (by simp; omega)) ?_
   refine .off rfl (off_of rfl rfl rfl (by simp; omega)) ?_
   refine .off rfl (off_of rfl rfl rfl (by simp; omega)) ?_
   refine .off rfl (off_of rfl rfl rfl (by simp; omega)) ?_
   refine .P rfl (q_pickF rfl (by simp; omega) rfl) <| .nil ?_
   refine Run.condF rfl rfl ?_
   refine Run.exit (tq_exit (bq_exit ?_))
   refine Run.seq (Run.reg [.p, .p, .p, .p, .w, .p] ?_)
   refine .P rfl (q_buildSlice0 Tryz.underlying45 Tryz.sizeOf56) <| .mv rfl rfl <| .mv rfl rfl <| .P rfl (q_sliceI Tryz.underlying45 Tryz.sizeOf56 rfl (l := 0) (h := pre.length) (r := pre.map encBalance) (.inl ⟨rfl, rfl⟩) (.inr ⟨_, _, rfl, rfl⟩) (by omega) (by simp; omega) (sl_pre encBalance hx)) <| .W rfl (QStep.own0 1 3 (t := 21) rfl (Sub.gsEmpty _ _) (q_append 2 Tryz.underlying45 Tryz.underlying45 Tryz.sizeOf56 Tryz.typeInfo56 Tryz.zeroValue56 rfl (bt := 48) rfl rfl rfl rfl rfl rfl rfl (by simp; omega))) <| .ag rfl rfl <| .nil ?_
   refine Run.seq (Run.seq (Run.regD [.p, .p, .p, .p, .p, .r, .p, .p, .p, .p, .p, .p, .p] Tryz_mixed (by decide +kernel) ?_))
   refine .mv rfl rfl <| .mv rfl rfl <| .P rfl (q_lenI Tryz.underlying45 rfl) <| .P rfl (q_lss rfl rfl) <| .mv rfl rfl ?_
   refine .off rfl (off_of rfl rfl rfl (by simp; omega)) ?_
   refine .off rfl (off_of rfl rfl rfl (by simp; omega)) ?_
   refine .off rfl (off_of rfl rfl rfl (by simp; omega)) ?_
   refine .off rfl (off_of rfl rfl rfl (by simp; omega)) ?_
   refine .off rfl (off_of rfl rfl rfl (by simp; omega)) ?_
   refine .off rfl (off_of rfl rfl rfl (by simp; omega)) ?_
   refine .off rfl (off_of rfl rfl rfl (by simp; omega)) ?_
   refine .P rfl (q_pickF rfl (by simp; omega) rfl) <| .nil ?_
   refine Run.condF rfl rfl ?_
   refine Run.skip ?_
   refine Run.seq (Run.seq (Run.reg [.p, .r, .p, .p] ?_))
   refine .P rfl (q_fieldB (n := 0) 54 2 Tryz.underlying56 Tryz.sizeOf54 rfl rfl) <| .R rfl (q_load1 Tryz.isAgg54 rfl rfl rfl) <| .P rfl (q_call Tryz.call142 rfl (sign01_ok _)) <| .P rfl (q_neq rfl rfl) <| .nil ?_
   refine Run.cond rfl (fun h1 => ?_) (fun h1 => ?_)
   ·have ph1 := h1; try simp only [bs] at ph1
    refine Run.reg [.p, .r, .p, .w, .p] ?_
    refine .mv rfl rfl <| .R rfl (q_loadW Tryz.isAgg56 Tryz.sizeOf56 rfl rfl rfl) <| .P rfl (q_buildSlice' (n := 1) (rows := [encBalance x]) Tryz.underlying45 Tryz.sizeOf56 rfl rfl rfl Tryz.zeroValue56 rfl rfl rfl rfl rfl rfl rfl) <| .W rfl (q_append 3 Tryz.underlying45 Tryz.underlying45 Tryz.sizeOf56 Tryz.typeInfo56 Tryz.zeroValue56 rfl (bt := 48) rfl rfl rfl rfl (by first | (simp; done) | (simp; omega)) rfl rfl (by simp; omega)) <| .ag rfl rfl <| .nil ?_
    refine Run.seq (Run.reg [.p, .p, .p, .p, .w, .p] ?_)
    refine .mv rfl rfl <| .mv rfl rfl <| .mv rfl rfl <| .P rfl (q_sliceI Tryz.underlying45 Tryz.sizeOf56 rfl (l := pre.length) (h := l.length) (r := []) (.inr ⟨_, _, rfl, rfl⟩) (.inl ⟨rfl, by simp⟩) (by omega) (by simp) (sl_rest encBalance hx)) <| .W rfl (q_append 4 Tryz.underlying45 Tryz.underlying45 Tryz.sizeOf56 Tryz.typeInfo56 Tryz.zeroValue56 rfl (bt := 48) rfl rfl rfl rfl (by first | (simp; done) | (simp; omega)) rfl rfl (by simp; omega)) <| .ag rfl rfl <| .nil ?_
    refine Run.weak (Le.freeze 4 4 rfl rfl (by first | (simp; done) | (simp; omega))) ?_
    refine Run.ret (?_)
    exact ret1 rfl (Sub.snap (by first | (rw [put_A1 hx hp (sgn_ne h1)]; simp; done) | (rw [put_A0 hx hp (sgn_eq h1)]; simp; done) | (rw [put_B hx hp ph2 ph3, if_neg (sgn_ne h4)]; simp; done) | (rw [put_B hx hp ph2 ph3, if_pos (sgn_eq h4)]; simp; done) | (rw [put_C hx hp ph2 ph3, if_neg (sgn_ne h5)]; simp; done) | (rw [put_C hx hp ph2 ph3, if_pos (sgn_eq h5)]; simp; done)))
   ·have ph1 := h1; try simp only [bs] at ph1
    refine Run.skip ?_
    refine Run.seq (Run.reg [.p, .p, .p, .p, .w, .p] ?_)
    refine .mv rfl rfl <| .mv rfl rfl <| .mv rfl rfl <| .P rfl (q_sliceI Tryz.underlying45 Tryz.sizeOf56 rfl (l := pre.length) (h := l.length) (r := []) (.inr ⟨_, _, rfl, rfl⟩) (.inl ⟨rfl, by simp⟩) (by omega) (by simp) (sl_rest encBalance hx)) <| .W rfl (q_append 3 Tryz.underlying45 Tryz.underlying45 Tryz.sizeOf56 Tryz.typeInfo56 Tryz.zeroValue56 rfl (bt := 48) rfl rfl rfl rfl (by first | (simp; done) | (simp; omega)) rfl rfl (by simp; omega)) <| .ag rfl rfl <| .nil ?_
    refine Run.weak (Le.freeze 4 3 rfl rfl (by first | (simp; done) | (simp; omega))) ?_
    refine Run.ret (?_)
    exact ret1 rfl (Sub.snap (by first | (rw [put_A1 hx hp (sgn_ne h1)]; simp; done) | (rw [put_A0 hx hp (sgn_eq h1)]; simp; done) | (rw [put_B hx hp ph2 ph3, if_neg (sgn_ne h4)]; simp; done) | (rw [put_B hx hp ph2 ph3, if_pos (sgn_eq h4)]; simp; done) | (rw [put_C hx hp ph2 ph3, if_neg (sgn_ne h5)]; simp; done) | (rw [put_C hx hp ph2 ph3, if_pos (sgn_eq h5)]; simp; done)))
  ·simp only [List.length_cons] at hl
   have hdy := hd y (by rw [hx]; simp)
   refine Run.seq (Run.seq (Run.regD [.p, .p, .p, .p, .p, .p, .p, .p, .p, .r, .p, .p] Tryz_mixed (by decide +kernel) ?_))
   refine .mv rfl rfl <| .mv rfl rfl <| .P rfl (q_lenI Tryz.underlying45 rfl) <| .P rfl (q_lss rfl rfl) <| .mv rfl rfl <| .p rfl (on_of rfl rfl rfl (by simp; omega)) (fun _ => q_move rfl _) <| .p rfl (on_of rfl rfl rfl (by simp; omega)) (fun _ => q_move rfl _) <| .p rfl (on_of rfl rfl rfl (by simp; omega)) (fun _ => q_indexI Tryz.underlying45 Tryz.sizeOf56 rfl rfl (by omega) (idx_mid encBalance hx rfl) _) <| .p rfl (on_of rfl rfl rfl (by simp; omega)) (fun _ => q_loadIA Tryz.isAgg56 Tryz.sizeOf56 rfl rfl _) <| .r rfl (on_of rfl rfl rfl (by simp; omega)) (q_loadW Tryz.isAgg56 Tryz.sizeOf56 rfl rfl rfl) <| .p rfl (on_of rfl rfl rfl (by simp; omega)) (fun _ => q_call Tryz.call141 rfl (less43_ok y x) _) <| .P rfl (q_pickT rfl (by simp; omega) rfl) <| .nil ?_
   refine Run.cond rfl (fun h2 => ?_) (fun h2 => ?_)
   ·have ph2 := h2; try simp only [bs] at ph2
    refine Run.skip ?_
    refine Run.block ?_
    refine Run.reg [.p, .p, .p] ?_
    refine .mv rfl rfl <| .P rfl (q_add rfl rfl (wrap64_ok (by first | omega | (simp; done) | (simp; omega) | (simp at *; omega)) (by first | omega | (simp; done) | (simp; omega) | (simp at *; omega)))) <| .ag rfl rfl <| .nil ?_
    refine Run.nil (bq_norm ?_)
    refine Run.nil (tq_norm ?_)
    exact ⟨⟨pre ++ [y], rest, by simp [hx], fun z hz => (List.mem_append.1 hz).elim (hp z) (fun hz => by simp at hz; subst hz; assumption)⟩, by simp, Le.mk rfl (.same rfl rfl (.same rfl rfl (.cons rfl Sub.intA rfl .nil))) (.cons rfl rfl .nil)⟩
   ·have ph2 := h2; try simp only [bs] at ph2
    refine Run.exit (tq_exit (bq_exit ?_))
    refine Run.seq (Run.reg [.p, .p, .p, .p, .w, .p] ?_)
    refine .P rfl (q_buildSlice0 Tryz.underlying45 Tryz.sizeOf56) <| .mv rfl rfl <| .mv rfl rfl <| .P rfl (q_sliceI Tryz.underlying45 Tryz.sizeOf56 rfl (l := 0) (h := pre.length) (r := pre.map encBalance) (.inl ⟨rfl, rfl⟩) (.inr ⟨_, _, rfl, rfl⟩) (by omega) (by simp; omega) (sl_pre encBalance hx)) <| .W rfl (QStep.own0 1 3 (t := 21) rfl (Sub.gsEmpty _ _) (q_append 2 Tryz.underlying45 Tryz.underlying45 Tryz.sizeOf56 Tryz.typeInfo56 Tryz.zeroValue56 rfl (bt := 48) rfl rfl rfl rfl rfl rfl rfl (by simp; omega))) <| .ag rfl rfl <| .nil ?_
    refine Run.seq (Run.seq (Run.regD [.p, .p, .p, .p, .p, .r, .p, .p, .p, .p, .p, .p, .p] Tryz_mixed (by decide +kernel) ?_))
    refine .mv rfl rfl <| .mv rfl rfl <| .P rfl (q_lenI Tryz.underlying45 rfl) <| .P rfl (q_lss rfl rfl) <| .mv rfl rfl <| .r rfl (on_of rfl rfl rfl (by simp; omega)) (q_loadW Tryz.isAgg56 Tryz.sizeOf56 rfl rfl rfl) <| .p rfl (on_of rfl rfl rfl (by simp; omega)) (fun _ => q_move rfl _) <| .p rfl (on_of rfl rfl rfl (by simp; omega)) (fun _ => q_move rfl _) <| .p rfl (on_of rfl rfl rfl (by simp; omega)) (fun _ => q_indexI Tryz.underlying45 Tryz.sizeOf56 rfl rfl (by omega) (idx_mid encBalance hx rfl) _) <| .p rfl (on_of rfl rfl rfl (by simp; omega)) (fun _ => q_loadIA Tryz.isAgg56 Tryz.sizeOf56 rfl rfl _) <| .p rfl (on_of rfl rfl rfl (by simp; omega)) (fun _ => q_call Tryz.call141 rfl (less43_ok x y) _) <| .p rfl (on_of rfl rfl rfl (by simp; omega)) (fun _ => q_not rfl _) <| .P rfl (q_pickT rfl (by simp; omega) rfl) <| .nil ?_
    refine Run.cond rfl (fun h3 => ?_) (fun h3 => ?_)
    ·have ph3 := h3; try simp only [bs] at ph3
     refine Run.seq (Run.regD [.p, .r, .p, .p, .p, .p, .p, .p, .p, .w] Tryz_mixed (by decide +kernel) ?_)
     refine .P rfl (q_fieldB (n := 0) 54 2 Tryz.underlying56 Tryz.sizeOf54 rfl rfl) <| .R rfl (q_load1 Tryz.isAgg54 rfl rfl rfl) <| .mv rfl rfl <| .mv rfl rfl <| .P rfl (q_indexI Tryz.underlying45 Tryz.sizeOf56 rfl rfl (by omega) (idx_mid encBalance hx rfl)) <| .P rfl (q_fieldI (n := 0) 54 2 Tryz.underlying56 Tryz.sizeOf54 rfl rfl rfl) <| .P rfl (q_loadI Tryz.isAgg54 rfl) <| .P rfl (q_call Tryz.call91 rfl (add01_ok _ _ hdx hdy)) <| .P rfl (q_fieldB (n := 0) 54 2 Tryz.underlying56 Tryz.sizeOf54 rfl rfl) <| .W rfl (q_store1 Tryz.sizeOf54 rfl rfl rfl rfl (by first | (simp; done) | decide)) <| .nil ?_
     refine Run.reg [.p, .p, .p] ?_
     refine .mv rfl rfl <| .P rfl (q_add rfl rfl (wrap64_ok (by first | omega | (simp; done) | (simp; omega) | (simp at *; omega)) (by first | omega | (simp; done) | (simp; omega) | (simp at *; omega)))) <| .ag rfl rfl <| .nil ?_
     refine Run.seq (Run.seq (Run.reg [.p, .r, .p, .p] ?_))
     refine .P rfl (q_fieldB (n := 0) 54 2 Tryz.underlying56 Tryz.sizeOf54 rfl rfl) <| .R rfl (q_load1 Tryz.isAgg54 rfl rfl rfl) <| .P rfl (q_call Tryz.call142 rfl (sign01_ok _)) <| .P rfl (q_neq rfl rfl) <| .nil ?_
     refine Run.cond rfl (fun h4 => ?_) (fun h4 => ?_)
     ·have ph4 := h4; try simp only [bs] at ph4
      refine Run.reg [.p, .r, .p, .w, .p] ?_
      refine .mv rfl rfl <| .R rfl (q_loadW Tryz.isAgg56 Tryz.sizeOf56 rfl rfl rfl) <| .P rfl (q_buildSlice' (n := 1) (rows := [encBalance { x with amount := addS x.amount y.amount }]) Tryz.underlying45 Tryz.sizeOf56 rfl rfl rfl Tryz.zeroValue56 rfl rfl rfl rfl rfl rfl rfl) <| .W rfl (q_append 3 Tryz.underlying45 Tryz.underlying45 Tryz.sizeOf56 Tryz.typeInfo56 Tryz.zeroValue56 rfl (bt := 48) rfl rfl rfl rfl (by first | (simp; done) | (simp; omega)) rfl rfl (by simp; omega)) <| .ag rfl rfl <| .nil ?_
      refine Run.seq (Run.reg [.p, .p, .p, .p, .w, .p] ?_)
      refine .mv rfl rfl <| .mv rfl rfl <| .mv rfl rfl <| .P rfl (q_sliceI Tryz.underlying45 Tryz.sizeOf56 rfl (l := pre.length + 1) (h := l.length) (r := rest.map encBalance) (.inr ⟨_, _, rfl, opI rfl (by omega)⟩) (.inl ⟨rfl, by simp⟩) (by omega) (by simp) (sl_rest1 encBalance hx)) <| .W rfl (q_append 4 Tryz.underlying45 Tryz.underlying45 Tryz.sizeOf56 Tryz.typeInfo56 Tryz.zeroValue56 rfl (bt := 48) rfl rfl rfl rfl (by first | (simp; done) | (simp; omega)) rfl rfl (by simp; omega)) <| .ag rfl rfl <| .nil ?_
      refine Run.weak (Le.freeze 4 4 rfl rfl (by first | (simp; done) | (simp; omega))) ?_
      refine Run.ret (?_)
      exact ret1 rfl (Sub.snap (by first | (rw [put_A1 hx hp (sgn_ne h1)]; simp; done) | (rw [put_A0 hx hp (sgn_eq h1)]; simp; done) | (rw [put_B hx hp ph2 ph3, if_neg (sgn_ne h4)]; simp; done) | (rw [put_B hx hp ph2 ph3, if_pos (sgn_eq h4)]; simp; done) | (rw [put_C hx hp ph2 ph3, if_neg (sgn_ne h5)]; simp; done) | (rw [put_C hx hp ph2 ph3, if_pos (sgn_eq h5)]; simp; done)))
     ·have ph4 := h4; try simp only [bs] at ph4
      refine Run.skip ?_
      refine Run.seq (Run.reg [.p, .p, .p, .p, .w, .p] ?_)
      refine .mv rfl rfl <| .mv rfl rfl <| .mv rfl rfl <| .P rfl (q_sliceI Tryz.underlying45 Tryz.sizeOf56 rfl (l := pre.length + 1) (h := l.length) (r := rest.map encBalance) (.inr ⟨_, _, rfl, opI rfl (by omega)⟩) (.inl ⟨rfl, by simp⟩) (by omega) (by simp) (sl_rest1 encBalance hx)) <| .W rfl (q_append 3 Tryz.underlying45 Tryz.underlying45 Tryz.sizeOf56 Tryz.typeInfo56 Tryz.zeroValue56 rfl (bt := 48) rfl rfl rfl rfl (by first | (simp; done) | (simp; omega)) rfl rfl (by simp; omega)) <| .ag rfl rfl <| .nil ?_
      refine Run.weak (Le.freeze 4 3 rfl rfl (by first | (simp; done) | (simp; omega))) ?_
      refine Run.ret (?_)
      exact ret1 rfl (Sub.snap (by first | (rw [put_A1 hx hp (sgn_ne h1)]; simp; done) | (rw [put_A0 hx hp (sgn_eq h1)]; simp; done) | (rw [put_B hx hp ph2 ph3, if_neg (sgn_ne h4)]; simp; done) | (rw [put_B hx hp ph2 ph3, if_pos (sgn_eq h4)]; simp; done) | (rw [put_C hx hp ph2 ph3, if_neg (sgn_ne h5)]; simp; done) | (rw [put_C hx hp ph2 ph3, if_pos (sgn_eq h5)]; simp; done)))
    ·have ph3 := h3; try simp only [bs] at ph3
     refine Run.skip ?_
     refine Run.seq (Run.seq (Run.reg [.p, .r, .p, .p] ?_))
     refine .P rfl (q_fieldB (n := 0) 54 2 Tryz.underlying56 Tryz.sizeOf54 rfl rfl) <| .R rfl (q_load1 Tryz.isAgg54 rfl rfl rfl) <| .P rfl (q_call Tryz.call142 rfl (sign01_ok _)) <| .P rfl (q_neq rfl rfl) <| .nil ?_
     refine Run.cond rfl (fun h5 => ?_) (fun h5 => ?_)
     ·have ph5 := h5; try simp only [bs] at ph5
      refine Run.reg [.p, .r, .p, .w, .p] ?_
      refine .mv rfl rfl <| .R rfl (q_loadW Tryz.isAgg56 Tryz.sizeOf56 rfl rfl rfl) <| .P rfl (q_buildSlice' (n := 1) (rows := [encBalance x]) Tryz.underlying45 Tryz.sizeOf56 rfl rfl rfl Tryz.zeroValue56 rfl rfl rfl rfl rfl rfl rfl) <| .W rfl (q_append 3 Tryz.underlying45 Tryz.underlying45 Tryz.sizeOf56 Tryz.typeInfo56 Tryz.zeroValue56 rfl (bt := 48) rfl rfl rfl rfl (by first | (simp; done) | (simp; omega)) rfl rfl (by simp; omega)) <| .ag rfl rfl <| .nil ?_
      refine Run.seq (Run.reg [.p, .p, .p, .p, .w, .p] ?_)
      refine .mv rfl rfl <| .mv rfl rfl <| .mv rfl rfl <| .P rfl (q_sliceI Tryz.underlying45 Tryz.sizeOf56 rfl (l := pre.length) (h := l.length) (r := (y :: rest).map encBalance) (.inr ⟨_, _, rfl, rfl⟩) (.inl ⟨rfl, by simp⟩) (by omega) (by simp) (sl_rest encBalance hx)) <| .W rfl (q_append 4 Tryz.underlying45 Tryz.underlying45 Tryz.sizeOf56 Tryz.typeInfo56 Tryz.zeroValue56 rfl (bt := 48) rfl rfl rfl rfl (by first | (simp; done) | (simp; omega)) rfl rfl (by simp; omega)) <| .ag rfl rfl <| .nil ?_
      refine Run.weak (Le.freeze 4 4 rfl rfl (by first | (simp; done) | (simp; omega))) ?_
      refine Run.ret (?_)
      exact ret1 rfl (Sub.snap (by first | (rw [put_A1 hx hp (sgn_ne h1)]; simp; done) | (rw [put_A0 hx hp (sgn_eq h1)]; simp; done) | (rw [put_B hx hp ph2 ph3, if_neg (sgn_ne h4)]; simp; done) | (rw [put_B hx hp ph2 ph3, if_pos (sgn_eq h4)]; simp; done) | (rw [put_C hx hp ph2 ph3, if_neg (sgn_ne h5)]; simp; done) | (rw [put_C hx hp ph2 ph3, if_pos (sgn_eq h5)]; simp; done)))
     ·have ph5 := h5; try simp only [bs] at ph5
      refine Run.skip ?_
      refine Run.seq (Run.reg [.p, .p, .p, .p, .w, .p] ?_)
      refine .mv rfl rfl <| .mv rfl rfl <| .mv rfl rfl <| .P rfl (q_sliceI Tryz.underlying45 Tryz.sizeOf56 rfl (l := pre.length) (h := l.length) (r := (y :: rest).map encBalance) (.inr ⟨_, _, rfl, rfl⟩) (.inl ⟨rfl, by simp⟩) (by omega) (by simp) (sl_rest encBalance hx)) <| .W rfl (q_append 3 Tryz.underlying45 Tryz.underlying45 Tryz.sizeOf56 Tryz.typeInfo56 Tryz.zeroValue56 rfl (bt := 48) rfl rfl rfl rfl (by first | (simp; done) | (simp; omega)) rfl rfl (by simp; omega)) <| .ag rfl rfl <| .nil ?_
      refine Run.weak (Le.freeze 4 3 rfl rfl (by first | (simp; done) | (simp; omega))) ?_
      refine Run.ret (?_)
      exact ret1 rfl (Sub.snap (by first | (rw [put_A1 hx hp (sgn_ne h1)]; simp; done) | (rw [put_A0 hx hp (sgn_eq h1)]; simp; done) | (rw [put_B hx hp ph2 ph3, if_neg (sgn_ne h4)]; simp; done) | (rw [put_B hx hp ph2 ph3, if_pos (sgn_eq h4)]; simp; done) | (rw [put_C hx hp ph2 ph3, if_neg (sgn_ne h5)]; simp; done) | (rw [put_C hx hp ph2 ph3, if_pos (sgn_eq h5)]; simp; done)))
end Go.T
