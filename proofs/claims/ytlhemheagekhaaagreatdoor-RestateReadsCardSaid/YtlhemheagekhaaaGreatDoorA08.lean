/-
  Contracts of the functions that the statement reaches, and the logic in which they are proved (no condition): parts S4, Spec8, Spec9, Core23, Spec10, Spec11, Spec12, Spec13, Spec14, Core24, Core25, Core26, Core27, Spec15, Spec16, Spec17, Spec18, Spec19, Spec20.
-/
import Derived.Test.YtlhemheagekhaaaGreatDoorA07
import Derived.Shelf.Strings.SlTrimAscii
import Derived.Laws.MakeOwn
import Derived.Lib.Bytealg
import Derived.Maps.RangeRun
set_option linter.all false
namespace Go.T
open Go Go.Proofs Go.Shelf Go.RowKit
@[reducible] def digs : Str := [48, 49, 50, 51, 52, 53, 54, 55, 56, 57]
theorem digs_dig (c : UInt8) : digs.contains c = isDig c := by
 have h : ∀ n : Fin 256, digs.contains (UInt8.ofNat n.1) = isDig (UInt8.ofNat n.1) := by decide +kernel
 have := h ⟨c.toNat, c.toNat_lt⟩
 simpa using this
/-- What is left of a text without the digits at its ends. -/
def trimD (s : Str) : Str := Lib.trimS s digs
theorem dw_nil (p : UInt8 → Bool) (s : Str) : s.dropWhile p = [] ↔ s.all p = true := by
 induction s with
 | nil => simp
 | cons c r ih =>
  by_cases h : p c = true
  ·rw [List.dropWhile_cons_of_pos h, ih]; simp [h]
  ·rw [List.dropWhile_cons_of_neg h]; simp [h]
theorem dw_len (p : UInt8 → Bool) (s : Str) : (s.dropWhile p).length ≤ s.length := by
 induction s with
 | nil => simp
 | cons c r ih =>
  by_cases h : p c = true
  ·rw [List.dropWhile_cons_of_pos h]; simp; omega
  ·rw [List.dropWhile_cons_of_neg h]; simp
theorem dw_all (p : UInt8 → Bool) (s : Str) (h : (s.dropWhile p).all p = true) : s.all p = true := by
 induction s with
 | nil => rfl
 | cons c r ih =>
  by_cases hc : p c = true
  ·rw [List.dropWhile_cons_of_pos hc] at h; simp only [List.all_cons, hc, ih h, Bool.and_self]
  ·rw [List.dropWhile_cons_of_neg hc] at h; exact h
theorem trimD_nil (s : Str) : trimD s = [] ↔ s.all isDig = true := by
 have hp : (digs.contains ·) = isDig := funext digs_dig
 unfold trimD Lib.trimS Lib.trimLeftS Lib.trimRightS
 rw [hp, dw_nil, List.all_reverse]
 constructor
 ·intro h
  have := dw_all isDig s.reverse h
  rwa [List.all_reverse] at this
 ·intro h
  rw [(dw_nil isDig s.reverse).2 (by rwa [List.all_reverse])]; rfl
theorem trimD_len (s : Str) : (trimD s).length ≤ s.length := by
 unfold trimD Lib.trimS Lib.trimLeftS Lib.trimRightS
 refine Nat.le_trans (dw_len _ _) ?_
 rw [List.length_reverse]
 refine Nat.le_trans (dw_len _ _) (by simp)
theorem trimDigits_ok (s : Str) : Fc Tryz.prog 175 [.str s, .str digs] (.str (trimD s)) := .of_calls fun w O ρ vals _ hv => by
 obtain ⟨rfl, hb, _⟩ := hv.str2
 refine (Any.strings_Trim_laid Tryz.lays160 (by kernel_rfl) ⟨s.toArray⟩ ⟨digs.toArray⟩ w (by simp [ByteArray.size]; unfold big at hb; omega) (by decide) (ascii_of_all (by decide))).mono ?_
 rintro e w' ⟨rfl, hw⟩
 refine ⟨_, rfl, ?_, Keep.below hw⟩
 have := trimD_len s
 simp only [V]
 exact ⟨rfl, by omega⟩
end Go.T
namespace Go.T
open Go
@[reducible] def encMag (m : List Nat) : List (List D) := m.map fun (n : Nat) => [.raw (.int .u64 (n : Int))]
@[reducible] def sMag (m : List Nat) : D := .snap 1 false (encMag m)
@[reducible] def encNum (neg : Bool) (m : List Nat) : List D := [.b neg, sMag m]
theorem idx_end {α β : Type} (f : α → β) (i : List α) (x : α) {n : Int} (hn : n = ((i ++ [x]).map f).length - 1) : ((i ++ [x]).map f)[n.toNat]? = some (f x) := by
  have : n.toNat = i.length := by rw [hn]; simp
  rw [this]; simp
theorem opI {env : Env} {x : Operand} {k : IntKind} {n m : Int} (h : env.op x = some (.raw (.int k n))) (e : n = m) : env.op x = some (.raw (.int k m)) := by rw [h, e]
def gB : Nat := 1000000000
def magVal : List Nat → Nat
  | [] => 0
  | x :: r => x + gB * magVal r
def magOK (m : List Nat) : Prop := ∀ x ∈ m, x < gB
def cutM (m : List Nat) : List Nat := (m.reverse.dropWhile (· == 0)).reverse
theorem snoc_cases {α : Type} (l : List α) : l = [] ∨ ∃ i x, l = i ++ [x] := by
  rcases List.eq_nil_or_concat l with h | ⟨i, x, h⟩
  · exact .inl h
  · exact .inr ⟨i, x, by rw [h, List.concat_eq_append]⟩
theorem cutM_zero (i : List Nat) : cutM (i ++ [0]) = cutM i := by simp [cutM]
theorem cutM_pos (i : List Nat) {x : Nat} (h : x ≠ 0) : cutM (i ++ [x]) = i ++ [x] := by simp [cutM, h]
theorem magVal_append (a b : List Nat) : magVal (a ++ b) = magVal a + gB ^ a.length * magVal b := by
  induction a with
  | nil => simp [magVal]
  | cons x a ih => simp only [List.cons_append, magVal, ih, List.length_cons, Nat.pow_succ]; rw [Nat.mul_add, Nat.mul_comm (gB ^ a.length) gB, Nat.mul_assoc]; omega
theorem magVal_lt {m : List Nat} (h : magOK m) : magVal m < gB ^ m.length := by
  induction m with
  | nil => simp [magVal]
  | cons x m ih =>
    have h1 := ih (fun y hy => h y (List.mem_cons_of_mem _ hy))
    have h2 := h x List.mem_cons_self
    simp only [magVal, List.length_cons, Nat.pow_succ]
    have : gB * (magVal m + 1) ≤ gB * gB ^ m.length := Nat.mul_le_mul_left _ h1
    rw [Nat.mul_comm (gB ^ m.length)]
    rw [Nat.mul_add] at this
    omega
theorem cutM_val (m : List Nat) : magVal (cutM m) = magVal m := by
  induction m using rev_ind with
  | h0 => rfl
  | h1 i x ih =>
    by_cases h : x = 0
    · subst h; rw [cutM_zero, ih, magVal_append]; simp [magVal]
    · rw [cutM_pos i h]
theorem cutM_mem (m : List Nat) : ∀ x ∈ cutM m, x ∈ m := by
  intro x hx
  unfold cutM at hx
  rw [List.mem_reverse] at hx
  have := (List.dropWhile_sublist _).mem hx
  simpa using this
theorem cutM_ok {m : List Nat} (h : magOK m) : magOK (cutM m) := fun x hx => h x (cutM_mem m x hx)
theorem cutM_len (m : List Nat) : (cutM m).length ≤ m.length := by
  unfold cutM
  rw [List.length_reverse]
  exact Nat.le_trans (List.dropWhile_sublist _).length_le (by simp)
/-- The groups of a row of digits, the lowest first. -/
def groupsOf (s : Str) : List Nat := if h : s.length = 0 then [] else natVal (s.drop (s.length - 9)) :: groupsOf (s.take (s.length - 9))
termination_by s.length
decreasing_by simp; omega
theorem groupsOf_nil : groupsOf [] = [] := by rw [groupsOf]; simp
theorem groupsOf_step {s : Str} (h : s.length ≠ 0) : groupsOf s = natVal (s.drop (s.length - 9)) :: groupsOf (s.take (s.length - 9)) := by rw [groupsOf, dif_neg h]
theorem natVal_append (a b : Str) : natVal (a ++ b) = natVal a * 10 ^ b.length + natVal b := by
  induction b using rev_ind with
  | h0 => simp [natVal]
  | h1 i x ih => rw [← List.append_assoc, natVal_snoc, ih, natVal_snoc, List.length_append, List.length_singleton, Nat.pow_succ, Nat.mul_add, ← Nat.mul_assoc]; have : 10 * natVal a * 10 ^ i.length = natVal a * (10 ^ i.length * 10) := by rw [Nat.mul_comm 10 (natVal a), Nat.mul_assoc, Nat.mul_comm 10]
                 omega
theorem groupsOf_len (s : Str) : (groupsOf s).length ≤ s.length := by
  induction h : s.length using Nat.strongRecOn generalizing s with
  | _ n ih =>
    by_cases h0 : s.length = 0
    · have : s = [] := List.length_eq_zero_iff.1 h0
      subst this; rw [groupsOf_nil]; simp
    · rw [groupsOf_step h0, List.length_cons]
      have := ih (s.take (s.length - 9)).length (by simp; omega) (s.take (s.length - 9)) rfl
      simp at this ⊢; omega
theorem groupsOf_spec (s : Str) (hd : s.all isDig = true) : magOK (groupsOf s) ∧ magVal (groupsOf s) = natVal s := by
  induction h : s.length using Nat.strongRecOn generalizing s with
  | _ n ih =>
    by_cases h0 : s.length = 0
    · have : s = [] := List.length_eq_zero_iff.1 h0
      subst this; rw [groupsOf_nil]; exact ⟨fun x hx => absurd hx (by simp), rfl⟩
    · rw [groupsOf_step h0]
      have hs : s = s.take (s.length - 9) ++ s.drop (s.length - 9) := (List.take_append_drop ..).symm
      have hd2 : (s.take (s.length - 9)).all isDig = true ∧ (s.drop (s.length - 9)).all isDig = true := by
        rw [hs, List.all_append, Bool.and_eq_true] at hd; exact hd
      obtain ⟨h1, h2⟩ := ih (s.take (s.length - 9)).length (by simp; omega) (s.take (s.length - 9)) hd2.1 rfl
      have hl : (s.drop (s.length - 9)).length ≤ 9 := by simp; omega
      have h3 := natVal_lt _ hd2.2
      have h4 : 10 ^ (s.drop (s.length - 9)).length ≤ 10 ^ 9 := Nat.pow_le_pow_right (by omega) hl
      have h5 : natVal (s.drop (s.length - 9)) < gB := by unfold gB; omega
      refine ⟨fun x hx => ?_, ?_⟩
      · rcases List.mem_cons.1 hx with rfl | hx
        · exact h5
        · exact h1 x hx
      · simp only [magVal, h2]
        conv => rhs; rw [hs, natVal_append]
        by_cases h9 : s.length ≤ 9
        · have : s.length - 9 = 0 := by omega
          rw [this]; simp [natVal]
        · have : (s.drop (s.length - 9)).length = 9 := by simp; omega
          rw [this, Nat.mul_comm (natVal (s.take (s.length - 9)))]; unfold gB; omega
end Go.T
namespace Go.T
open Go
def lastN (l : List Nat) : Nat := l.getLastD default
theorem idx_lastN {l pre rest : List Nat} {n : Int} (h : l = pre ++ rest) (h0 : 0 < pre.length) (hn : n = (pre.length : Int) - 1) : (encMag l)[n.toNat]? = some [.raw (.int .u64 (lastN pre : Int))] := idx_last (fun (n : Nat) => [D.raw (.int .u64 (n : Int))]) h h0 hn
def pad9 (y : Nat) : Str := List.replicate (9 - (Lib.decDigits y).length) 48 ++ Lib.decDigits y
def padAll (lo : List Nat) : Str := (lo.reverse.map pad9).flatten
theorem padAll_nil : padAll [] = [] := rfl
theorem padAll_snoc (i : List Nat) (x : Nat) : padAll (i ++ [x]) = pad9 x ++ padAll i := by simp [padAll]
theorem padAll_step {lo : List Nat} (h : lo.length ≠ 0) : padAll lo = pad9 (lastN lo) ++ padAll lo.dropLast := by
 rcases snoc_cases lo with rfl | ⟨i, x, rfl⟩
 ·simp at h
 ·rw [padAll_snoc]; simp [lastN]
def textM (neg : Bool) (m : List Nat) : Str := if (cutM m).length = 0 then [] else (if neg then [45] else []) ++ Lib.decDigits (lastN (cutM m)) ++ padAll (cutM m).dropLast
theorem dec9 {y : Nat} (h : y < gB) : (Lib.decDigits y).length ≤ 9 := by
 by_cases e : y = 0
 ·subst e; rw [Lib.decDigits_length, Lib.nDigits_small (by omega)]; omega
 ·rw [decDigits_natDig y e]; exact natDig_len 9 y (by unfold gB at h; omega)
theorem pad9_len {y : Nat} (h : y < gB) : (pad9 y).length = 9 := by
 have := dec9 h
 simp [pad9]; omega
theorem last_mem {l : List Nat} (h : l.length ≠ 0) : lastN l ∈ l := by
 rcases snoc_cases l with rfl | ⟨i, x, rfl⟩
 ·simp at h
 ·simp [lastN]
theorem dropLast_eq {l : List Nat} (h : l.length ≠ 0) : l = l.dropLast ++ [lastN l] := by
 rcases snoc_cases l with rfl | ⟨i, x, rfl⟩
 ·simp at h
 ·simp [lastN]
theorem dec_ne (y : Nat) : Lib.decDigits y ≠ [] := by
 intro h
 have := congrArg List.length h
 rw [Lib.decDigits_length] at this
 rw [Lib.nDigits] at this
 split at this <;> simp at this
theorem natVal_zeros (k : Nat) : natVal (List.replicate k 48) = 0 := by
 induction k with
 | zero => rfl
 | succ k ih => rw [List.replicate_succ', natVal_snoc, ih]; rfl
theorem natVal_dec (y : Nat) : natVal (Lib.decDigits y) = y := by
 by_cases e : y = 0
 ·subst e; rw [Lib.decDigits]; rfl
 ·rw [decDigits_natDig y e, natVal_natDig]
theorem natVal_pad9 (y : Nat) : natVal (pad9 y) = y := by
 unfold pad9
 rw [natVal_append, natVal_zeros, natVal_dec]; omega
theorem padAll_len {lo : List Nat} (h : magOK lo) : (padAll lo).length = 9 * lo.length := by
 induction lo using rev_ind with
 | h0 => rfl
 | h1 i x ih =>
  rw [padAll_snoc, List.length_append, pad9_len (h x (by simp)), ih (fun y hy => h y (by simp [hy]))]
  simp; omega
theorem natVal_padAll {lo : List Nat} (h : magOK lo) : natVal (padAll lo) = magVal lo := by
 induction lo using rev_ind with
 | h0 => rfl
 | h1 i x ih =>
  have hi : magOK i := fun y hy => h y (by simp [hy])
  rw [padAll_snoc, natVal_append, natVal_pad9, ih hi, magVal_append, padAll_len hi]
  have : (10 : Nat) ^ (9 * i.length) = gB ^ i.length := by rw [Nat.pow_mul]; rfl
  rw [this]
  simp only [magVal, Nat.mul_zero, Nat.add_zero]
  rw [Nat.mul_comm x]; omega
theorem dec_dig (y : Nat) : (Lib.decDigits y).all isDig = true := by
 by_cases e : y = 0
 ·subst e; rw [Lib.decDigits]; decide
 ·rw [decDigits_natDig y e]; exact natDig_dig y
theorem padAll_dig (lo : List Nat) : (padAll lo).all isDig = true := by
 induction lo using rev_ind with
 | h0 => rfl
 | h1 i x ih =>
  rw [padAll_snoc, List.all_append, ih, Bool.and_true]
  unfold pad9
  rw [List.all_append, dec_dig, Bool.and_true]
  simp [isDig]
/-- Two rows of digits of one number that do not begin with 0 are one. -/
theorem natDig_unique {s : Str} (hd : s.all isDig = true) (h0 : dropZ s = s) : s = natDig (natVal s) := by
 induction s using rev_ind with
 | h0 => rw [show natVal [] = 0 from rfl, natDig_zero]
 | h1 i x ih =>
  rw [List.all_append, Bool.and_eq_true] at hd
  have hx := hd.2
  simp only [List.all_cons, List.all_nil, Bool.and_true, isDig, Bool.and_eq_true, decide_eq_true_eq] at hx
  rw [natVal_snoc]
  have hxe : UInt8.ofNat (48 + (x.toNat - 48)) = x := by
   rw [show 48 + (x.toNat - 48) = x.toNat by omega]; simp
  cases i with
  | nil =>
   have hne : x.toNat ≠ 48 := by
    intro e
    have := dropZ_T (s := [x]) (by simp) (by simpa using e)
    simp only [List.nil_append] at h0
    rw [h0] at this; simp [dropZ] at this
   rw [show natVal ([] : Str) = 0 from rfl, natDig_step (by omega)]
   have h1 : (10 * 0 + (x.toNat - 48)) / 10 = 0 := by omega
   have h2 : (10 * 0 + (x.toNat - 48)) % 10 = x.toNat - 48 := by omega
   rw [h1, h2, natDig_zero, hxe]
  | cons c r =>
   have hc : dropZ (c :: r) = c :: r := by
    apply dropZ_F
    rintro ⟨_, e⟩
    have := dropZ_T (s := c :: r ++ [x]) (by simp) (by simpa using e)
    rw [h0] at this
    have h3 := dropZ_len ((c :: r ++ [x]).drop 1)
    rw [← this] at h3
    simp at h3
    omega
   have hi := ih hd.1 hc
   have hpos : natVal (c :: r) ≠ 0 := by
    intro e
    rw [e, natDig_zero] at hi; cases hi
   rw [natDig_step (by omega)]
   have h1 : (10 * natVal (c :: r) + (x.toNat - 48)) / 10 = natVal (c :: r) := by omega
   have h2 : (10 * natVal (c :: r) + (x.toNat - 48)) % 10 = x.toNat - 48 := by omega
   rw [h1, h2, ← hi, hxe]
theorem textM_ofInt (neg : Bool) {m : List Nat} (h : magOK m) : textM neg m = ofInt (if neg then -(magVal m : Int) else magVal m) := by
 unfold textM
 have hc := cutM_ok h
 have hv := cutM_val m
 split
 ·rename_i h0
  have : cutM m = [] := List.length_eq_zero_iff.1 h0
  rw [this] at hv
  rw [← hv]
  simp [magVal, ofInt_zero]
 ·rename_i h0
  have e := dropLast_eq h0
  have hlast : lastN (cutM m) ≠ 0 := by
   rcases snoc_cases (cutM m) with e2 | ⟨i, x, e2⟩
   ·rw [e2] at h0; simp at h0
   ·rw [e2]; simp only [lastN, List.getLastD_eq_getLast?, List.getLast?_append, List.getLast?_singleton, Option.some_or, Option.getD_some]
    intro ex
    subst ex
    have : cutM (cutM m) = cutM m := by
     unfold cutM
     rw [List.reverse_reverse]
     have : ∀ l : List Nat, (l.dropWhile (· == 0)).dropWhile (· == 0) = l.dropWhile (· == 0) := by
      intro l
      induction l with
      | nil => rfl
      | cons a l ih => by_cases ha : a = 0 <;> simp [ha, ih]
     rw [this]
    rw [e2, cutM_zero] at this
    have h3 := cutM_len i
    rw [this] at h3
    simp at h3
    omega
  have hdl : magOK (cutM m).dropLast := fun y hy => hc y (List.dropLast_subset _ hy)
  have hmv : magVal m = natVal (Lib.decDigits (lastN (cutM m)) ++ padAll (cutM m).dropLast) := by
   rw [natVal_append, natVal_dec, natVal_padAll hdl, padAll_len hdl, ← hv]
   conv => lhs; rw [e]
   rw [magVal_append]
   have : (10 : Nat) ^ (9 * (cutM m).dropLast.length) = gB ^ (cutM m).dropLast.length := by rw [Nat.pow_mul]; rfl
   rw [this]
   simp only [magVal, Nat.mul_zero, Nat.add_zero]
   rw [Nat.mul_comm (lastN (cutM m))]; omega
  have hdig : (Lib.decDigits (lastN (cutM m)) ++ padAll (cutM m).dropLast).all isDig = true := by rw [List.all_append, dec_dig, padAll_dig]; rfl
  have hz : dropZ (Lib.decDigits (lastN (cutM m)) ++ padAll (cutM m).dropLast) = Lib.decDigits (lastN (cutM m)) ++ padAll (cutM m).dropLast := by
   rw [decDigits_natDig _ hlast]
   apply dropZ_F
   rintro ⟨_, e3⟩
   cases hd : natDig (lastN (cutM m)) with
   | nil => exact hlast (natDig_nil.1 hd)
   | cons c r => rw [hd] at e3; exact natDig_head _ c r hd (by simpa using e3)
  have hpos : magVal m ≠ 0 := by
   intro e3
   have h4 := natDig_unique hdig hz
   rw [← hmv, e3, natDig_zero] at h4
   have := dec_ne (lastN (cutM m))
   exact this (List.append_eq_nil_iff.1 h4).1
  have hu := natDig_unique hdig hz
  rw [← hmv] at hu
  cases neg with
  | false =>
   simp only [Bool.false_eq_true, if_false, List.nil_append, hu]
   unfold ofInt
   rw [if_neg (by omega)]; simp
  | true =>
   simp only [if_true, List.append_assoc, hu]
   unfold ofInt
   rw [if_pos (by omega)]; simp
end Go.T
namespace Go.T
open Go
variable [Noise]
section
variable {P : Program} {env : Env} {dst : Option Tmp} {ty : TypeId} {pos : String} {aft : Array Edge} {g : Option (Nat × Bool)}
theorem made1 {z : Value} (hz : z.cells = #[z]) (n k : Nat) : madeCells z.cells (n + k) = (List.replicate n z).toArray ++ (List.replicate k z).toArray := by
 rw [hz]
 apply Array.ext
 ·simp [madeCells]
 ·intro i h1 h2
  simp only [madeCells, Array.getElem_map, Array.getElem_range]
  have : i % (#[z] : Array Value).size = 0 := by simp [Nat.mod_one]
  rw [this]
  simp only [Array.size_append, List.size_toArray, List.length_replicate] at h2
  by_cases h : i < n
  ·rw [Array.getElem_append_left (by simpa using h)]; simp
  ·rw [Array.getElem_append_right (by simp; omega)]; simp
theorem run_make1 {t e : TypeId} {ti : TypeInfo} {z : Value} {n m : Nat} (hu : P.underlying t = some (.slice e)) (hs : ∀ w, (sizeOf e).run P w = .ok 1 w) (hti : ∀ w, (typeInfo e).run P w = .ok ti w) (hz : ∀ w, (zeroValue e).run P w = .ok z w)
  (hnm : n ≤ m) (h0 : m ≠ 0) (hb : ti.bytes * m ≤ 281474976710656) (h63 : m ≤ 9223372036854775807) (w : World) :
  (Instr.makeSlice t (.int .i64 n) (.int .i64 m)).run P w = .ok (.slice (some ⟨w.heap.size, 0, none⟩) n m) (w.alloc (.cells (madeCells z.cells m) e)) := by
 have wl : IntKind.i64.wrap (n : Int) = n := by rw [IntKind.wrap_i64]; omega
 have wc : IntKind.i64.wrap (m : Int) = m := by rw [IntKind.wrap_i64]; omega
 have n1 : ¬ (m : Int) < 0 := by omega
 have n2 : ¬ (281474976710656 < (ti.bytes : Int) * (m : Int)) := by rw [← Int.natCast_mul]; omega
 have n3 : ¬ (n : Int) < 0 := by omega
 have n4 : ¬ (m : Int) < n := by omega
 simp [Instr.makeSlice, run_underlying hu, asInt, asIntOf, hti, hs, hz, wl, wc, n1, n2, n3, n4, h0, newRow, madeCells]
theorem q_makeSlice1 {t e : TypeId} {ti : TypeInfo} {z : Value} {x y : Operand} {m bt : Nat} {nx ny : Int} {obs : Obs} (id n : Nat) (hu : P.underlying t = some (.slice e)) (hs : ∀ w, (sizeOf e).run P w = .ok 1 w) (hti : ∀ w, (typeInfo e).run P w = .ok ti w) (hz : ∀ w, (zeroValue e).run P w = .ok z w)
  (hzc : z.cells = #[z]) (hz1 : z.oneCell' = true) (hbt : ti.bytes = bt) (hx : env.op x = some (.raw (.int .i64 nx))) (hy : env.op y = some (.raw (.int .i64 ny))) (hnx : nx = (n : Int)) (hny : ny = (m : Int)) (hnm : n ≤ m) (hn0 : n ≠ 0) (hb : bt * m ≤ 281474976710656) (h63 : m ≤ 1000000000000) (hid : obs.get id = none) :
  QStep P ⟨dst, .makeSlice t x y, ty, pos, aft, g⟩ env obs (.gs id n) ((id, .arr 1 (List.replicate n [.raw z])) :: obs) :=
 .step fun O ρ a w hok hv => by
  have hvx := hv x (by simp [Op.operands]) _ hx
  have hvy := hv y (by simp [Op.operands]) _ hy
  simp only [V] at hvx hvy
  subst hnx; subst hny
  have hr := run_make1 (n := n) (m := m) hu hs hti hz hnm (by omega) (by rw [hbt]; exact hb) (by omega) w
  obtain ⟨k, rfl⟩ := Nat.exists_eq_add_of_le hnm
  rw [made1 hzc] at hr
  refine ⟨.slice (some ⟨w.heap.size, 0, none⟩) n (n + k), _, T.upd ρ id ⟨w.heap.size, 0, n + k⟩, .inl ?_, Tr.born hok hid (.cells ((List.replicate n z).toArray ++ (List.replicate k z).toArray) e) rfl (fun i x h _ => h) (fun i h => h) ?_, ?_⟩
  ·simp only [execOp, hvx, hvy]
   rw [Sem.run_bind, hr]
   rfl
  ·intro hk
   refine Own.grown (w := w) (T := e) (O := Ot O ρ obs) (vs := List.replicate n z) (zs := (List.replicate k z).toArray) (by simp) (by simp) (by simp) (by simp) (by simp [big]; omega) (by intro r hr; rw [List.eq_of_mem_replicate hr]; rfl) ?_ ?_ hk
   ·have : ∀ n, Vs w (Ot O ρ obs) rho0 (List.replicate n [D.raw z]).flatten (List.replicate n z) := by
     intro n
     induction n with
     | zero => simp [Vs]
     | succ n ih => rw [List.replicate_succ, List.replicate_succ]; exact ⟨_, _, rfl, by simp [V], ih⟩
    exact this n
   ·intro v hv'; rw [List.eq_of_mem_replicate hv']; exact hz1
  ·simp only [V]
   exact .inr ⟨hn0, ⟨w.heap.size, 0, n + k⟩, by simp [T.upd], rfl⟩
/-- A made slice without elements is not written. -/
theorem q_makeSlice0 {t e : TypeId} {ti : TypeInfo} {z : Value} {x y : Operand} {m bt : Nat} {nx ny : Int} (hu : P.underlying t = some (.slice e)) (hs : ∀ w, (sizeOf e).run P w = .ok 1 w) (hti : ∀ w, (typeInfo e).run P w = .ok ti w) (hz : ∀ w, (zeroValue e).run P w = .ok z w)
  (hbt : ti.bytes = bt) (hx : env.op x = some (.raw (.int .i64 nx))) (hy : env.op y = some (.raw (.int .i64 ny))) (hnx : nx = 0) (hny : ny = (m : Int)) (h0 : m ≠ 0) (hb : bt * m ≤ 281474976710656) (h63 : m ≤ 1000000000000) (obs : Obs) :
  QStep P ⟨dst, .makeSlice t x y, ty, pos, aft, g⟩ env obs (.snap 1 false []) obs :=
 .step fun O ρ a w hok hv => by
  have hvx := hv x (by simp [Op.operands]) _ hx
  have hvy := hv y (by simp [Op.operands]) _ hy
  simp only [V] at hvx hvy
  subst hnx; subst hny
  have hr := run_make1 (n := 0) (m := m) hu hs hti hz (by omega) h0 (by rw [hbt]; exact hb) (by omega) w
  refine ⟨.slice (some ⟨w.heap.size, 0, none⟩) 0 m, w.alloc (.cells (madeCells z.cells m) e), ρ, .inl ?_, Tr.of_keep ⟨by simp, fun b hb => by show (w.heap.push _)[b]? = _; rw [Array.getElem?_push, if_neg (Nat.ne_of_lt hb)], rfl, rfl, Clk.eq rfl rfl⟩ hok, ?_⟩
  ·simp only [execOp, hvx, hvy]
   rw [Sem.run_bind]
   have hr' : (Instr.makeSlice t (.int .i64 0) (.int .i64 (m : Int))).run P w = .ok (.slice (some ⟨w.heap.size, 0, none⟩) 0 m) (w.alloc (.cells (madeCells z.cells m) e)) := hr
   rw [hr']
   rfl
  ·simp [V, big]
/-- Elements are copied over as many. -/
theorem q_copy1 {t e xt : TypeId} {x y : Operand} {id n : Nat} {full : Bool} {rows new : List (List D)} {obs : Obs} (hu : P.underlying t = some (.slice e)) (hs : ∀ w, (sizeOf e).run P w = .ok 1 w)
  (hx : env.op x = some (.gs id n)) (hy : env.op y = some (.snap 1 full new)) (ho : obs.get id = some (.arr 1 rows)) (hn : rows.length = n) (hm : new.length = n) (hn0 : n ≠ 0) :
  QStep P ⟨dst, .call ⟨.builtin .copy, #[x, y], #[t, xt]⟩, ty, pos, aft, g⟩ env obs (.raw (.int .i64 n)) (obs.set id (.arr 1 new)) :=
 .step fun O ρ a w hok hv => by
  have hvx := hv x (by simp [Op.operands, Call.operands]) _ hx
  have hvy := hv y (by simp [Op.operands, Call.operands]) _ hy
  obtain ⟨hlen, us, hfu, hus, hone, hul, hrl⟩ := run_firstSnap (P := P) hvy
  simp only [V] at hvx
  rcases hvx with ⟨e0, _⟩ | ⟨_, l, h2, e1⟩
  ·exact absurd e0 hn0
  have hlive : (Ob.arr 1 rows).live = true := by
   cases rows with
   | nil => exact absurd hn.symm hn0
   | cons => rfl
  obtain ⟨l', h3, _, c, T, h4, hc, hrl', h5⟩ := hok.own id _ ho hlive
  rw [h2] at h3; cases h3
  have hul' : us.length = n := by rw [hul, hm, Nat.mul_one]
  have h6 := run_storeCells (P := P) us w c l.off 0 h4 (by omega) hone
  rw [hm] at hlen hfu
  refine ⟨.int .i64 n, _, ρ, .inl ?_, Tr.upd (o' := .arr 1 new) hok ho hlive h2 (.cells (setMany c (l.off + 0) us) T (0, 0)) ?_, by simp [V]⟩
  ·simp [execOp, resolve, invoke, builtin, Builtin.copy_, run_underlying hu, e1, hlen, hs, hfu w rfl, h6, goInt, Nat.min_self]
  ·intro hk
   refine ⟨setMany c l.off us, T, by simp [(Array.getElem?_eq_some_iff.1 h4).1], by rw [setMany_size]; exact hc, by rw [hm, ← hn]; exact hrl', ?_⟩
   have hfl : new.flatten.length = us.length := hus.length.symm
   have hseg : ((setMany c l.off us).toList.drop l.off).take new.flatten.length = us := by
    rw [hfl, setMany_toList us c l.off (by omega), List.append_assoc, List.drop_append_of_le_length (by simp; omega), List.drop_of_length_le (by simp; omega)]; simp
   refine Vr.of_blk (c := setMany c l.off us) (T := T) (fr := (0, 0)) (by simp [(Array.getElem?_eq_some_iff.1 h4).1]) new l.off hrl ?_ ?_
   ·rw [hseg]; exact Vs.mono hk (RhoLe.refl _) _ _ hus
   ·rw [hseg]; exact hone
theorem q_copy0 {t e xt : TypeId} {x y : Operand} {full full' : Bool} {sz : Nat} (hu : P.underlying t = some (.slice e)) (hs : ∀ w, (sizeOf e).run P w = .ok sz w)
  (hx : env.op x = some (.snap sz full [])) (hy : env.op y = some (.snap sz full' [])) (obs : Obs) :
  QStep P ⟨dst, .call ⟨.builtin .copy, #[x, y], #[t, xt]⟩, ty, pos, aft, g⟩ env obs (.raw (.int .i64 0)) obs :=
 .step fun O ρ a w hok hv => by
  have hvx := hv x (by simp [Op.operands, Call.operands]) _ hx
  have hvy := hv y (by simp [Op.operands, Call.operands]) _ hy
  obtain ⟨hlen, us, hfu, hus, hone, hul, hrl⟩ := run_firstSnap (P := P) hvy
  simp only [V] at hvx
  obtain ⟨b, cap, e1, _⟩ := hvx
  have hus0 : us = [] := List.length_eq_zero_iff.1 (by simpa using hul)
  subst hus0
  have hf := hfu w rfl
  simp only [List.length_nil] at hlen hf e1
  refine ⟨.int .i64 0, w, ρ, .inl ?_, Tr.refl hok, by simp [V]⟩
  cases b with
  | none => simp [execOp, resolve, invoke, builtin, Builtin.copy_, run_underlying hu, e1, hlen, hs, hf, goInt]
  | some b => simp [execOp, resolve, invoke, builtin, Builtin.copy_, run_underlying hu, e1, hlen, hs, hf, goInt, storeCells]
theorem run_eqNil {t e : TypeId} {op : BinOp} (hu : P.underlying t = some (.slice e)) (b : Option Addr) (n m : Nat) (w : World) : (Op.equal t (.slice b n m) (.slice none 0 0)).run P w = .ok b.isNone w := by
 show (Op.equalIn (9999 + 1) t (.slice b n m) (.slice none 0 0)).run P w = _
 rw [Op.equalIn]
 cases b <;> simp [run_und hu]
theorem q_eqlNilN {t t' e : TypeId} {x y : Operand} {sz : Nat} {full : Bool} {rows : List (List D)} (hu : P.underlying t = some (.slice e)) (hx : env.op x = some (.snap sz full rows)) (hy : env.op y = some (.raw (.slice none 0 0))) (obs : Obs) :
  QStepN P ⟨dst, .binOp .eql t x y t', ty, pos, aft, g⟩ env obs (fun b : Bool => rows ≠ [] → b = false) (fun b => .raw (.bool b)) (fun _ => obs) := by
 intro O ρ a w hok hgl hv
 have hvx := hv x (by simp [Op.operands]) _ hx
 have hvy := hv y (by simp [Op.operands]) _ hy
 simp only [V] at hvx hvy
 obtain ⟨b, cap, e1, _, _, h3⟩ := hvx
 have hr : (execOp a.eval ⟨dst, .binOp .eql t x y t', ty, pos, aft, g⟩).run P w = .ok (.value (.bool b.isNone)) w := by
  simp [execOp, e1, hvy, eqGuard, binOp, run_eqNil (op := .eql) hu]
 unfold Oper.wp
 rw [hr]
 refine ⟨b.isNone, ρ, _, ?_, rfl, Tr.refl hok, by simp [V]⟩
 intro hne
 obtain ⟨b', off, rfl, _⟩ := h3 hne
 rfl
theorem q_eqlNilF {t t' e : TypeId} {x y : Operand} {sz : Nat} {full : Bool} {rows : List (List D)} (hu : P.underlying t = some (.slice e)) (hx : env.op x = some (.snap sz full rows)) (hy : env.op y = some (.raw (.slice none 0 0))) (hne : rows ≠ []) (obs : Obs) :
  QStep P ⟨dst, .binOp .eql t x y t', ty, pos, aft, g⟩ env obs (.raw (.bool false)) obs := by
 intro O ρ a w hok hgl hv
 refine Oper.wp_mono ?_ (q_eqlNilN hu hx hy obs O ρ a w hok hgl hv)
 rintro a' w' ⟨i, ρ', v, hA, h⟩
 cases hA hne
 exact ⟨ρ', v, h⟩
end
end Go.T
namespace Go.T
open Go
def addC : List Nat → List Nat → Nat → List Nat
 | [], _, c => if 0 < c then [c] else []
 | a :: x, [], c => (a + c) % gB :: addC x [] ((a + c) / gB)
 | a :: x, b :: y, c => (a + c + b) % gB :: addC x y ((a + c + b) / gB)
theorem gB_pos : 0 < gB := by unfold gB; omega
theorem addC_val : ∀ (x y : List Nat) (c : Nat), y.length ≤ x.length → magVal (addC x y c) = magVal x + magVal y + c
 | [], y, c, h => by
  have : y = [] := List.length_eq_zero_iff.1 (by simpa using h)
  subst this
  simp only [addC]
  split
  ·simp [magVal]
  ·simp [magVal]; omega
 | a :: x, [], c, h => by
  simp only [addC, magVal, addC_val x [] _ (by simp)]
  have := Nat.mod_add_div (a + c) gB
  rw [Nat.mul_add, Nat.mul_add]; omega
 | a :: x, b :: y, c, h => by
  simp only [addC, magVal, addC_val x y _ (by simpa using h)]
  have := Nat.mod_add_div (a + c + b) gB
  rw [Nat.mul_add, Nat.mul_add]; omega
theorem addC_ok : ∀ (x y : List Nat) (c : Nat), magOK x → magOK y → c ≤ 1 → magOK (addC x y c)
 | [], y, c, hx, hy, hc => by
  simp only [addC]
  split
  ·intro z hz; simp at hz; subst hz; unfold gB; omega
  ·intro z hz; simp at hz
 | a :: x, [], c, hx, hy, hc => by
  have ha := hx a (by simp)
  simp only [addC]
  intro z hz
  rcases List.mem_cons.1 hz with rfl | hz
  ·exact Nat.mod_lt _ gB_pos
  ·exact addC_ok x [] _ (fun u hu => hx u (by simp [hu])) hy (by rw [Nat.div_le_iff_le_mul_add_pred gB_pos]; unfold gB at *; omega) z hz
 | a :: x, b :: y, c, hx, hy, hc => by
  have ha := hx a (by simp)
  have hb := hy b (by simp)
  simp only [addC]
  intro z hz
  rcases List.mem_cons.1 hz with rfl | hz
  ·exact Nat.mod_lt _ gB_pos
  ·exact addC_ok x y _ (fun u hu => hx u (by simp [hu])) (fun u hu => hy u (by simp [hu])) (by rw [Nat.div_le_iff_le_mul_add_pred gB_pos]; unfold gB at *; omega) z hz
theorem addC_len : ∀ (x y : List Nat) (c : Nat), (addC x y c).length ≤ x.length + 1
 | [], y, c => by simp only [addC]; split <;> simp
 | a :: x, [], c => by simp only [addC, List.length_cons]; have := addC_len x [] ((a + c) / gB); omega
 | a :: x, b :: y, c => by simp only [addC, List.length_cons]; have := addC_len x y ((a + c + b) / gB); omega
def plusM (x y : List Nat) : List Nat := if x.length < y.length then addC y x 0 else addC x y 0
theorem plusM_val (x y : List Nat) : magVal (plusM x y) = magVal x + magVal y := by
 unfold plusM; split
 ·rw [addC_val _ _ _ (by omega)]; omega
 ·rw [addC_val _ _ _ (by omega)]; omega
theorem plusM_ok {x y : List Nat} (hx : magOK x) (hy : magOK y) : magOK (plusM x y) := by
 unfold plusM; split
 ·exact addC_ok _ _ _ hy hx (by omega)
 ·exact addC_ok _ _ _ hx hy (by omega)
theorem plusM_len (x y : List Nat) : (plusM x y).length ≤ x.length + y.length + 1 := by
 unfold plusM; split
 ·have := addC_len y x 0; omega
 ·have := addC_len x y 0; omega
/-- x less y, where it is not negative. -/
def subC : List Nat → List Nat → Nat → List Nat
 | [], _, _ => []
 | a :: x, [], c => (if a < c then a + gB - c else a - c) :: subC x [] (if a < c then 1 else 0)
 | a :: x, b :: y, c => (if a < c + b then a + gB - (c + b) else a - (c + b)) :: subC x y (if a < c + b then 1 else 0)
theorem subC_val : ∀ (x y : List Nat) (c : Nat), magOK x → magOK y → c ≤ 1 → magVal y + c ≤ magVal x → magVal (subC x y c) = magVal x - (magVal y + c)
 | [], y, c, hx, hy, hc, h => by
  simp only [magVal] at h
  simp [subC, magVal]
 | a :: x, [], c, hx, hy, hc, h => by
  have ha := hx a (by simp)
  have hx' : magOK x := fun u hu => hx u (by simp [hu])
  simp only [magVal] at h
  simp only [subC, magVal]
  by_cases hl : a < c
  ·rw [if_pos hl, if_pos hl]
   have h1 : 1 ≤ magVal x := by
    rcases Nat.eq_zero_or_pos (magVal x) with e | e
    ·rw [e] at h; omega
    ·exact e
   rw [subC_val x [] 1 hx' hy (by omega) (by simp only [magVal]; omega)]
   simp only [magVal]
   have : gB * (magVal x - (0 + 1)) = gB * magVal x - gB := by rw [Nat.mul_sub]; omega
   rw [this]
   have : gB * 1 ≤ gB * magVal x := Nat.mul_le_mul_left _ h1
   unfold gB at *; omega
  ·rw [if_neg hl, if_neg hl, subC_val x [] 0 hx' hy (by omega) (by simp only [magVal]; omega)]
   simp only [magVal]; rw [show magVal x - (0 + 0) = magVal x from by omega]; omega
 | a :: x, b :: y, c, hx, hy, hc, h => by
  have ha := hx a (by simp)
  have hb := hy b (by simp)
  have hx' : magOK x := fun u hu => hx u (by simp [hu])
  have hy' : magOK y := fun u hu => hy u (by simp [hu])
  simp only [magVal] at h
  simp only [subC, magVal]
  by_cases hl : a < c + b
  ·rw [if_pos hl, if_pos hl]
   have h1 : magVal y + 1 ≤ magVal x := by
    rcases Nat.lt_or_ge (magVal y) (magVal x) with e | e
    ·omega
    ·have := Nat.mul_le_mul_left gB e; omega
   rw [subC_val x y 1 hx' hy' (by omega) h1]
   have e1 : gB * (magVal x - (magVal y + 1)) = gB * magVal x - (gB * magVal y + gB) := by rw [Nat.mul_sub, Nat.mul_add, Nat.mul_one]
   have e2 := Nat.mul_le_mul_left gB h1
   rw [Nat.mul_add, Nat.mul_one] at e2
   rw [e1]; omega
  ·rw [if_neg hl, if_neg hl]
   have h1 : magVal y ≤ magVal x := by
    rcases Nat.lt_or_ge (magVal x) (magVal y) with e | e
    ·have := Nat.mul_le_mul_left gB (show magVal x + 1 ≤ magVal y from e)
     rw [Nat.mul_add] at this; unfold gB at *; omega
    ·exact e
   rw [subC_val x y 0 hx' hy' (by omega) h1, Nat.add_zero, Nat.mul_sub]
   have := Nat.mul_le_mul_left gB h1
   omega
theorem subC_ok : ∀ (x y : List Nat) (c : Nat), magOK x → magOK y → c ≤ 1 → magOK (subC x y c)
 | [], y, c, hx, hy, hc => by intro z hz; simp [subC] at hz
 | a :: x, [], c, hx, hy, hc => by
  have ha := hx a (by simp)
  intro z hz
  simp only [subC, List.mem_cons] at hz
  rcases hz with rfl | hz
  ·split <;> omega
  ·exact subC_ok x [] _ (fun u hu => hx u (by simp [hu])) hy (by split <;> omega) z hz
 | a :: x, b :: y, c, hx, hy, hc => by
  have ha := hx a (by simp)
  have hb := hy b (by simp)
  intro z hz
  simp only [subC, List.mem_cons] at hz
  rcases hz with rfl | hz
  ·split <;> omega
  ·exact subC_ok x y _ (fun u hu => hx u (by simp [hu])) (fun u hu => hy u (by simp [hu])) (by split <;> omega) z hz
theorem subC_len : ∀ (x y : List Nat) (c : Nat), (subC x y c).length = x.length
 | [], y, c => by simp [subC]
 | a :: x, [], c => by simp [subC, subC_len x]
 | a :: x, b :: y, c => by simp [subC, subC_len x]
/-- As magnitude.compare answers. -/
def cmpR : List Nat → List Nat → Int
 | a :: x, b :: y => if a < b then -1 else if b < a then 1 else cmpR x y
 | _, _ => 0
def cmpM (x y : List Nat) : Int := if x.length ≠ y.length then (x.length : Int) - y.length else cmpR x.reverse y.reverse
end Go.T
namespace Go.T
open Go
theorem cmpR_step {x y : List Nat} (hx : x.length ≠ 0) (he : x.length = y.length) : cmpR x.reverse y.reverse = if lastN x < lastN y then -1 else if lastN y < lastN x then 1 else cmpR x.dropLast.reverse y.dropLast.reverse := by
 rcases snoc_cases x with rfl | ⟨i, a, rfl⟩
 ·simp at hx
 rcases snoc_cases y with rfl | ⟨j, b, rfl⟩
 ·simp at he
 simp [cmpR, lastN]
theorem cmpR_nil {x y : List Nat} (hx : x.length = 0) : cmpR x.reverse y.reverse = 0 := by
 rw [List.length_eq_zero_iff.1 hx]; rfl
theorem cmpM_eq {x y : List Nat} (h : x.length = y.length) : cmpM x y = cmpR x.reverse y.reverse := by unfold cmpM; rw [if_neg (by omega)]
theorem cmpM_bd (x y : List Nat) (hx : x.length ≤ 20000) (hy : y.length ≤ 20000) : -20000 ≤ cmpM x y ∧ cmpM x y ≤ 20000 := by
 unfold cmpM
 split
 ·omega
 ·have : ∀ a b : List Nat, -1 ≤ cmpR a b ∧ cmpR a b ≤ 1 := by
   intro a
   induction a with
   | nil => intro b; simp [cmpR]
   | cons a x ih =>
    intro b
    cases b with
    | nil => simp [cmpR]
    | cons b y =>
     simp only [cmpR]
     split
     ·omega
     ·split
      ·omega
      ·exact ih y
  have := this x.reverse y.reverse
  omega
theorem cmpR_spec : ∀ (n : Nat) (x y : List Nat), x.length = n → y.length = n → magOK x → magOK y →
  (cmpR x.reverse y.reverse < 0 ↔ magVal x < magVal y) ∧ (0 < cmpR x.reverse y.reverse ↔ magVal y < magVal x)
 | 0, x, y, hx, hy, _, _ => by
  rw [List.length_eq_zero_iff.1 hx, List.length_eq_zero_iff.1 hy]; simp [cmpR, magVal]
 | n + 1, x, y, hx, hy, ox, oy => by
  rcases snoc_cases x with rfl | ⟨i, a, rfl⟩
  ·simp at hx
  rcases snoc_cases y with rfl | ⟨j, b, rfl⟩
  ·simp at hy
  have hi : i.length = n := by simpa using hx
  have hj : j.length = n := by simpa using hy
  have oi : magOK i := fun u hu => ox u (by simp [hu])
  have oj : magOK j := fun u hu => oy u (by simp [hu])
  have ih := cmpR_spec n i j hi hj oi oj
  have li := magVal_lt oi
  have lj := magVal_lt oj
  rw [hi] at li; rw [hj] at lj
  simp only [List.reverse_append, List.reverse_singleton, List.singleton_append, cmpR, magVal_append, magVal, hi, hj, Nat.mul_zero, Nat.add_zero]
  by_cases h1 : a < b
  ·rw [if_pos h1]
   have := Nat.mul_le_mul_left (gB ^ n) (show a + 1 ≤ b from h1)
   rw [Nat.mul_add, Nat.mul_one] at this
   constructor <;> constructor <;> intro h <;> omega
  ·rw [if_neg h1]
   by_cases h2 : b < a
   ·rw [if_pos h2]
    have := Nat.mul_le_mul_left (gB ^ n) (show b + 1 ≤ a from h2)
    rw [Nat.mul_add, Nat.mul_one] at this
    constructor <;> constructor <;> intro h <;> omega
   ·rw [if_neg h2]
    have : a = b := by omega
    subst this
    constructor
    ·rw [ih.1]; omega
    ·rw [ih.2]; omega
theorem magVal_ge {x : List Nat} (hc : cutM x = x) (h0 : x.length ≠ 0) : gB ^ (x.length - 1) ≤ magVal x := by
 rcases snoc_cases x with rfl | ⟨i, a, rfl⟩
 ·simp at h0
 have ha : a ≠ 0 := by
  rintro rfl
  rw [cutM_zero] at hc
  have := cutM_len i
  rw [hc] at this; simp at this; omega
 rw [magVal_append]
 simp only [magVal, Nat.mul_zero, Nat.add_zero, List.length_append, List.length_singleton, Nat.add_sub_cancel]
 have := Nat.mul_le_mul_left (gB ^ i.length) (show 1 ≤ a by omega)
 omega
theorem magVal_short {x y : List Nat} (ox : magOK x) (cy : cutM y = y) (h : x.length < y.length) : magVal x < magVal y := by
 have h1 := magVal_lt ox
 have h2 := magVal_ge cy (by omega)
 have h3 : gB ^ x.length ≤ gB ^ (y.length - 1) := Nat.pow_le_pow_right gB_pos (by omega)
 omega
theorem cmpM_spec {x y : List Nat} (ox : magOK x) (oy : magOK y) (cx : cutM x = x) (cy : cutM y = y) :
  (cmpM x y < 0 ↔ magVal x < magVal y) ∧ (0 < cmpM x y ↔ magVal y < magVal x) := by
 unfold cmpM
 split
 ·rename_i h
  rcases Nat.lt_or_ge x.length y.length with hl | hl
  ·have := magVal_short ox cy hl
   constructor <;> constructor <;> intro h <;> omega
  ·have := magVal_short oy cx (show y.length < x.length by omega)
   constructor <;> constructor <;> intro h <;> omega
 ·rename_i h
  exact cmpR_spec y.length x y (by omega) rfl ox oy
theorem cutM_id {x : List Nat} (h : x.length ≠ 0 → lastN x ≠ 0) : cutM x = x := by
 rcases snoc_cases x with rfl | ⟨i, a, rfl⟩
 ·rfl
 ·exact cutM_pos i (by simpa [lastN] using h (by simp))
theorem natVal_head {c : UInt8} {r : Str} (hc : isDig c = true) (h : c ≠ 48) : natVal (c :: r) ≠ 0 := by
 have e : natVal (c :: r) = natVal ([c] ++ r) := rfl
 rw [e, natVal_append]
 have h1 : natVal [c] = c.toNat - 48 := by simp [natVal]
 have h2 : c.toNat ≠ 48 := fun e => h (UInt8.toNat_inj.1 e)
 have h3 : 48 ≤ c.toNat := by simp [isDig] at hc; exact hc.1
 rw [h1]
 have : 0 < (c.toNat - 48) * 10 ^ r.length := Nat.mul_pos (by omega) (Nat.pow_pos (by omega))
 omega
theorem lastN_cons {a : Nat} {l : List Nat} (h : l.length ≠ 0) : lastN (a :: l) = lastN l := by
 cases l with
 | nil => simp at h
 | cons b l => simp [lastN]
theorem groupsOf_ne {d : Str} (h : d.length ≠ 0) : (groupsOf d).length ≠ 0 := by rw [groupsOf_step h]; simp
theorem groupsOf_last (d : Str) (hd : d.all isDig = true) (h0 : d.head? ≠ some 48) (hn : d.length ≠ 0) : lastN (groupsOf d) ≠ 0 := by
 induction h : d.length using Nat.strongRecOn generalizing d with
 | _ n ih =>
  rw [groupsOf_step hn]
  by_cases hl : d.length ≤ 9
  ·have e1 : d.length - 9 = 0 := by omega
   rw [e1, List.take_zero, List.drop_zero, groupsOf_nil]
   show natVal d ≠ 0
   cases d with
   | nil => simp at hn
   | cons c r => exact natVal_head (by simp at hd; exact hd.1) (by simpa using h0)
  ·have hl2 : (d.take (d.length - 9)).length = d.length - 9 := by simp
   rw [lastN_cons (groupsOf_ne (by omega))]
   refine ih (d.length - 9) (by omega) _ ?_ ?_ (by omega) hl2
   ·rw [List.all_eq_true] at hd ⊢
    exact fun x hx => hd x (List.mem_of_mem_take hx)
   ·rw [List.head?_take, if_neg (by omega)]; exact h0
theorem dropZ_head (s : Str) : (dropZ s).head? ≠ some 48 := by
 induction s with
 | nil => simp [dropZ]
 | cons c r ih =>
  unfold dropZ
  split
  ·rename_i heq; simp at heq; rw [← heq.2]; exact ih
  ·rename_i hne
   simp only [List.head?_cons]
   intro h
   injection h with h
   subst h
   exact hne r rfl
theorem digits_head (s : Str) : (digits s).1.head? ≠ some 48 := by
 unfold digits; split
 ·exact dropZ_head _
 ·simp
theorem digits_cut (s : Str) : cutM (groupsOf (digits s).1) = groupsOf (digits s).1 := cutM_id fun h => groupsOf_last _ (digits_dig s) (digits_head s) (by intro e; apply h; rw [List.length_eq_zero_iff.1 e, groupsOf_nil]; rfl)
theorem digits_neg (s : Str) (h : (digits s).2 = true) : (groupsOf (digits s).1).length ≠ 0 := by
 apply groupsOf_ne
 unfold digits at h ⊢
 split at h
 ·rename_i hd
  rw [if_pos hd]
  simp only [Bool.and_eq_true, decide_eq_true_eq] at h
  intro e; exact h.2 (List.length_eq_zero_iff.1 e)
 ·simp at h
def numV (neg : Bool) (m : List Nat) : Int := if neg then -(magVal m : Int) else magVal m
theorem numV_digits (s : Str) : numV (digits s).2 (groupsOf (digits s).1) = val s := by
 unfold numV val
 rw [(groupsOf_spec _ (digits_dig s)).2]
def signI (n : Int) : Int := if n < 0 then -1 else if 0 < n then 1 else 0
theorem magVal_pos {x : List Nat} (hc : cutM x = x) (h0 : x.length ≠ 0) : 0 < magVal x := Nat.lt_of_lt_of_le (Nat.pow_pos gB_pos) (magVal_ge hc h0)
/-- A number as it is read. -/
structure numOK (neg : Bool) (m : List Nat) : Prop where
 ok : magOK m
 cut : cutM m = m
 neg0 : neg = true → m.length ≠ 0
theorem numOK_digits (s : Str) : numOK (digits s).2 (groupsOf (digits s).1) := ⟨(groupsOf_spec _ (digits_dig s)).1, digits_cut s, digits_neg s⟩
end Go.T
namespace Go.T
open Go
theorem addN {a b : Nat} (h : a + b < 18446744073709551616) : IntKind.u64.wrap ((a : Int) + (b : Int)) = ((a + b : Nat) : Int) := by
 rw [wrapu64_ok (by omega) (by omega)]; simp
theorem subN {a b : Nat} (hb : b ≤ a) (h : a < 18446744073709551616) : IntKind.u64.wrap ((a : Int) - (b : Int)) = ((a - b : Nat) : Int) := by
 rw [wrapu64_ok (by omega) (by omega)]; omega
theorem quoN {a : Nat} (h : a < 18446744073709551616) : IntKind.u64.wrap ((a : Int).tdiv 1000000000) = ((a / gB : Nat) : Int) := by
 have e : (a : Int).tdiv 1000000000 = ((a / gB : Nat) : Int) := by
  rw [Int.tdiv_eq_ediv_of_nonneg (by omega)]; unfold gB; omega
 rw [e]
 have : a / gB ≤ a := Nat.div_le_self _ _
 generalize a / gB = q at this ⊢
 exact wrapu64_ok (by omega) (by omega)
theorem remN (a : Nat) : (a : Int).tmod 1000000000 = ((a % gB : Nat) : Int) := by
 rw [Int.tmod_eq_emod_of_nonneg (by omega)]; unfold gB; omega
theorem enc_mid (o : List Nat) (a : Nat) (r : List Nat) : (encMag (o ++ a :: r))[o.length]? = some [.raw (.int .u64 (a : Int))] := by simp [encMag]
theorem row_set {rows : List (List D)} {j : Nat} {r r' : List D} (h : rows[j]? = some r) : (rows.set j r')[j]? = some r' := by
 have := (List.getElem?_eq_some_iff.1 h).1
 simp [this]
theorem enc_set (o : List Nat) (a x : Nat) (r : List Nat) : (encMag (o ++ a :: r)).set o.length [.raw (.int .u64 (x : Int))] = encMag (o ++ x :: r) := by
 simp [encMag, List.set_append]
theorem idx_mag {l : List Nat} {n : Int} {k b : Nat} {r : List Nat} (hd : l.drop k = b :: r) (hn : n = (k : Int)) : (encMag l)[n.toNat]? = some [.raw (.int .u64 (b : Int))] := by
 subst hn
 have : l[k]? = some b := by
  have := congrArg (fun x => x[0]?) hd
  simpa using this
 simp [encMag, this]
def nthN (l : List Nat) (k : Nat) : Nat := l.getD k 0
theorem nthN_drop {l : List Nat} {k : Nat} (h : k < l.length) : l.drop k = nthN l k :: l.drop (k + 1) := by
 rw [List.drop_eq_getElem_cons h]; simp [nthN, h]
theorem nthN_ok {l : List Nat} {k : Nat} (hm : magOK l) : nthN l k < gB := by
 unfold nthN
 rcases Nat.lt_or_ge k l.length with h | h
 ·simp only [List.getD_eq_getElem?_getD, List.getElem?_eq_getElem h, Option.getD_some]; exact hm _ (List.getElem_mem h)
 ·simp only [List.getD_eq_getElem?_getD, List.getElem?_eq_none h, Option.getD_none]; exact gB_pos
theorem subC_stepT {a : Nat} {rest y : List Nat} {k c : Nat} (h : k < y.length) : subC (a :: rest) (y.drop k) c = (if a < c + nthN y k then a + gB - (c + nthN y k) else a - (c + nthN y k)) :: subC rest (y.drop (k + 1)) (if a < c + nthN y k then 1 else 0) := by rw [nthN_drop h]; rfl
theorem subC_stepF {a : Nat} {rest y : List Nat} {k c : Nat} (h : y.length ≤ k) : subC (a :: rest) (y.drop k) c = (if a < c then a + gB - c else a - c) :: subC rest (y.drop (k + 1)) (if a < c then 1 else 0) := by
 rw [List.drop_of_length_le h, List.drop_of_length_le (by omega)]; rfl
theorem addC_stepT {a : Nat} {rest y : List Nat} {k c : Nat} (h : k < y.length) : addC (a :: rest) (y.drop k) c = (a + c + nthN y k) % gB :: addC rest (y.drop (k + 1)) ((a + c + nthN y k) / gB) := by rw [nthN_drop h]; rfl
theorem addC_stepF {a : Nat} {rest y : List Nat} {k c : Nat} (h : y.length ≤ k) : addC (a :: rest) (y.drop k) c = (a + c) % gB :: addC rest (y.drop (k + 1)) ((a + c) / gB) := by
 rw [List.drop_of_length_le h, List.drop_of_length_le (by omega)]; rfl
theorem plusM_T {x y : List Nat} (h : x.length < y.length) : plusM x y = addC y x 0 := by unfold plusM; rw [if_pos h]
theorem plusM_F {x y : List Nat} (h : y.length ≤ x.length) : plusM x y = addC x y 0 := by unfold plusM; rw [if_neg (by omega)]
end Go.T
namespace Go.T
open Go
def addM (n1 : Bool) (x : List Nat) (n2 : Bool) (y : List Nat) : Bool × List Nat :=
 if (n1 == n2) = true then (n1, plusM x y) else if cmpM x y < 0 then (n2, cutM (subC y x 0)) else (n1, cutM (subC x y 0))
theorem cmpM_ne2 {x y : List Nat} (h : cmpM x y < 0) : y.length ≠ 0 := by
 intro e
 unfold cmpM at h
 split at h
 ·omega
 ·rw [cmpR_nil (by omega)] at h; omega
theorem cmpM_nil {x y : List Nat} (hx : x.length = 0) (hy : y.length ≠ 0) : cmpM x y < 0 := by
 unfold cmpM; rw [if_pos (by omega)]; omega
theorem cmpM_ne1 {n1 n2 : Bool} {x y : List Nat} (h1 : numOK n1 x) (h2 : numOK n2 y) (hn : (n1 == n2) = false) (h : ¬ cmpM x y < 0) : x.length ≠ 0 := by
 intro e
 cases n1 with
 | true => exact h1.neg0 rfl e
 | false =>
  cases n2 with
  | false => simp at hn
  | true => exact h (cmpM_nil e (h2.neg0 rfl))
theorem addM_ok {n1 n2 : Bool} {x y : List Nat} (h1 : numOK n1 x) (h2 : numOK n2 y) : magOK (addM n1 x n2 y).2 := by
 unfold addM
 split
 ·exact plusM_ok h1.ok h2.ok
 ·split
  ·exact cutM_ok (subC_ok _ _ _ h2.ok h1.ok (by omega))
  ·exact cutM_ok (subC_ok _ _ _ h1.ok h2.ok (by omega))
theorem addM_len (n1 n2 : Bool) (x y : List Nat) : (addM n1 x n2 y).2.length ≤ x.length + y.length + 1 := by
 unfold addM
 split
 ·exact plusM_len x y
 ·split
  ·have := cutM_len (subC y x 0); rw [subC_len] at this; simp only; omega
  ·have := cutM_len (subC x y 0); rw [subC_len] at this; simp only; omega
theorem addM_val {n1 n2 : Bool} {x y : List Nat} (h1 : numOK n1 x) (h2 : numOK n2 y) : numV (addM n1 x n2 y).1 (addM n1 x n2 y).2 = numV n1 x + numV n2 y := by
 unfold addM
 have hs := cmpM_spec h1.ok h2.ok h1.cut h2.cut
 split
 ·rename_i h
  have : n1 = n2 := by simpa using h
  subst this
  simp only [numV, plusM_val]
  cases n1 <;> simp <;> omega
 ·rename_i h
  split
  ·rename_i hl
   have := hs.1.1 hl
   simp only [numV]
   rw [cutM_val, subC_val _ _ _ h2.ok h1.ok (by omega) (by omega)]
   cases n1 <;> cases n2 <;> simp at h ⊢ <;> omega
  ·rename_i hl
   have : ¬ magVal x < magVal y := fun e => hl (hs.1.2 e)
   simp only [numV]
   rw [cutM_val, subC_val _ _ _ h1.ok h2.ok (by omega) (by omega)]
   cases n1 <;> cases n2 <;> simp at h ⊢ <;> omega
def cmpN (n1 : Bool) (x : List Nat) (n2 : Bool) (y : List Nat) : Int :=
 max (-1) (min (if (n1 != n2) = true then (if n1 = true then -1 else 1) else if n1 = true then 0 - cmpM x y else cmpM x y) 1)
theorem cmpN_sign {n1 n2 : Bool} {x y : List Nat} (h1 : numOK n1 x) (h2 : numOK n2 y) : cmpN n1 x n2 y = signI (numV n1 x - numV n2 y) := by
 have hs := cmpM_spec h1.ok h2.ok h1.cut h2.cut
 unfold cmpN signI numV
 cases n1 <;> cases n2 <;> simp only [bne_self_eq_false, Bool.false_bne, Bool.true_bne, Bool.not_false, Bool.not_true, if_true, if_false, Bool.false_eq_true]
 ·split
  ·rename_i h
   have := hs.1.2 (by omega); omega
  ·split
   ·have := hs.2.2 (by omega); omega
   ·have a1 : ¬ cmpM x y < 0 := fun e => by have := hs.1.1 e; omega
    have a2 : ¬ 0 < cmpM x y := fun e => by have := hs.2.1 e; omega
    omega
 ·have := magVal_pos h2.cut (h2.neg0 rfl)
  rw [if_neg (by omega), if_pos (by omega)]; rfl
 ·have := magVal_pos h1.cut (h1.neg0 rfl)
  rw [if_pos (by omega)]; rfl
 ·split
  ·have := hs.2.2 (by omega); omega
  ·split
   ·have := hs.1.2 (by omega); omega
   ·have a1 : ¬ cmpM x y < 0 := fun e => by have := hs.1.1 e; omega
    have a2 : ¬ 0 < cmpM x y := fun e => by have := hs.2.1 e; omega
    omega
end Go.T
namespace Go.T
open Go
theorem segsFrom_app (cur a : Str) (s : Str) (h : ∀ c ∈ a, c ≠ 46) : segsFrom cur (a ++ s) = segsFrom (cur ++ a) s := by
 induction a generalizing cur with
 | nil => simp
 | cons c a ih =>
  have hc : c.toNat ≠ 46 := fun e => h c (by simp) (UInt8.toNat_inj.1 e)
  rw [List.cons_append, segsFrom, if_neg hc, ih _ (fun x hx => h x (by simp [hx]))]
  simp
/-- As strings.Cut answers. -/
def cutI (s : Str) (c : UInt8) : Str × Str × Bool := if 0 ≤ Lib.indexByte s c then (s.take (Lib.indexByte s c).toNat, s.drop ((Lib.indexByte s c).toNat + 1), true) else (s, [], false)
theorem indexByte_spec (c : UInt8) : ∀ s : Str, (0 ≤ Lib.indexByte s c ∧ Lib.indexByte s c < s.length ∧ s = s.take (Lib.indexByte s c).toNat ++ c :: s.drop ((Lib.indexByte s c).toNat + 1) ∧ ∀ x ∈ s.take (Lib.indexByte s c).toNat, x ≠ c) ∨ (Lib.indexByte s c = -1 ∧ ∀ x ∈ s, x ≠ c)
 | [] => .inr ⟨rfl, by simp⟩
 | b :: s => by
  unfold Lib.indexByte
  by_cases h : b = c
  ·subst h
   left; simp
  ·have hb : (b == c) = false := by simpa using h
   simp only [hb, Bool.false_eq_true, if_false]
   rcases indexByte_spec c s with ⟨h1, h2, h3, h4⟩ | ⟨h1, h2⟩
   ·left
    have hne : (Lib.indexByte s c == -1) = false := by simp; omega
    simp only [hne, Bool.false_eq_true, if_false]
    have e : (Lib.indexByte s c + 1).toNat = (Lib.indexByte s c).toNat + 1 := by omega
    rw [e]
    refine ⟨by omega, by simp; omega, ?_, ?_⟩
    ·simp only [List.take_succ_cons, List.cons_append, List.drop_succ_cons]
     rw [← h3]
    ·intro x hx
     simp only [List.take_succ_cons, List.mem_cons] at hx
     rcases hx with rfl | hx
     ·exact h
     ·exact h4 x hx
   ·right
    simp only [h1, beq_self_eq_true, if_true, true_and]
    intro x hx
    rcases List.mem_cons.1 hx with rfl | hx
    ·exact h
    ·exact h2 x hx
theorem segments_T {s : Str} (h : (cutI s 46).2.2 = true) : segments s = (cutI s 46).1 :: segments (cutI s 46).2.1 := by
 unfold cutI at h ⊢
 split at h
 ·rename_i h0
  rw [if_pos h0]
  rcases indexByte_spec 46 s with ⟨_, _, h3, h4⟩ | ⟨h1, _⟩
  ·simp only
   conv => lhs; rw [h3]
   unfold segments
   rw [segsFrom_app _ _ _ h4, segsFrom]
   simp
  ·omega
 ·simp at h
theorem segments_F {s : Str} (h : (cutI s 46).2.2 = false) : segments s = [(cutI s 46).1] := by
 unfold cutI at h ⊢
 split at h
 ·simp at h
 ·rename_i h0
  rw [if_neg h0]
  rcases indexByte_spec 46 s with ⟨h1, _⟩ | ⟨_, h2⟩
  ·omega
  ·unfold segments
   have := segsFrom_app [] s [] h2
   rw [List.append_nil] at this
   rw [this, segsFrom]; simp
theorem segs_pre (pre : List Str) (r : Str) : pre ++ [(cutI r 46).1] <+: pre ++ segments r := by
 cases h : (cutI r 46).2.2 with
 | true => rw [segments_T h]; exact ⟨segments (cutI r 46).2.1, by simp⟩
 | false => rw [segments_F h]; exact List.prefix_refl _
theorem cutI_len (s : Str) (c : UInt8) (h : (cutI s c).2.2 = true) : (cutI s c).2.1.length < s.length := by
 unfold cutI at h ⊢
 split at h
 ·rename_i h0
  rw [if_pos h0]
  rcases indexByte_spec c s with ⟨_, h2, _⟩ | ⟨h1, _⟩
  ·simp; omega
  ·omega
 ·simp at h
theorem segments_len (s : Str) : (segments s).length ≤ s.length + 1 := by
 have : ∀ (s cur : Str), (segsFrom cur s).length ≤ s.length + 1 := by
  intro s
  induction s with
  | nil => intro cur; simp [segsFrom]
  | cons c r ih =>
   intro cur
   simp only [segsFrom]
   split
   ·have := ih []; simp; omega
   ·have := ih (cur ++ [c]); simp; omega
 exact this s []
theorem pre_bad {p : Str → Bool} {l pre : List Str} {x : Str} (h : pre ++ [x] <+: l) (hb : 6 < pre.length + 1 ∨ p x = false) : (l.all p && decide (l.length ≤ 6)) = false := by
 rw [Bool.and_eq_false_iff]
 rcases hb with hb | hb
 ·right
  have := h.length_le
  simp only [List.length_append, List.length_singleton] at this
  simp; omega
 ·left
  obtain ⟨r, rfl⟩ := h
  simp [hb]
end Go.T
namespace Go.T
open Go
variable [Noise]
def ghostR (b : Bool) : List (List D) := match b with
 | true => []
 | false => [[.box 0 0]]
@[reducible] def ghost (b : Bool) : Ob := .arr 1 (ghostR b)
theorem ghost_false {F : Fr} {C : Ctx} {env : Env} {obs : Obs} {a : Act} {w : World} {i : Nat} (h : obs.get i = some (ghost false)) (hs : St F C env obs a w) : False := by
 obtain ⟨ρ, hs⟩ := hs
 obtain ⟨l, _, _, c, T, _, _, _, h5⟩ := hs.tr.ok.own i _ h rfl
 simp only [ghostR, Vr, Vc, V] at h5
 obtain ⟨⟨_, ⟨u, _, l', h6, _⟩, _⟩, _⟩ := h5
 simp [rho0] at h6
theorem Run.ghost {P : Program} {F : Fr} {Q : Exit → Env → Obs → Prop} {c : Code} {cs : List Code} {env : Env} {obs : Obs} (i : Nat) {b : Bool} (h : obs.get i = some (T.ghost b)) (k : b = true → Run P F (c :: cs) Q env obs) : Run P F (c :: cs) Q env obs := by
 cases b with
 | true => exact k rfl
 | false => exact ⟨⟨fun C a w hs => (ghost_false h hs).elim⟩⟩
theorem ghost_step {a b : Bool} (h1 : a = true) (h2 : b = true) : T.ghost a = T.ghost b := by rw [h1, h2]
def freeB (lo idL : Nat) (o : Obs) : Bool := o.all fun p => !(Nat.ble lo p.1 && Nat.blt p.1 (lo + 100)) && !(Nat.beq p.1 idL)
theorem freeB_get {lo idL : Nat} : ∀ {o : Obs}, freeB lo idL o = true → ∀ i, (lo ≤ i ∧ i < lo + 100) ∨ i = idL → o.get i = none
 | [], _, i, _ => rfl
 | (t, d) :: r, h, i, hi => by
  simp only [freeB, List.all_cons, Bool.and_eq_true] at h
  rw [Obs.get_cons, if_neg, freeB_get (o := r) h.2 i hi]
  rintro rfl
  obtain ⟨⟨h1, h2⟩, _⟩ := h
  rcases hi with ⟨a, b⟩ | rfl
  ·have e1 : Nat.ble lo t = true := by rw [Nat.ble_eq]; exact a
   have e2 : Nat.blt t (lo + 100) = true := by rw [Nat.blt_eq]; exact b
   simp [e1, e2] at h1
  ·simp at h2
end Go.T
namespace Go.T
open Go
variable [Noise]
structure TxA (P : Program) (F : Fr) (ops : Array Oper) (K : Env → Obs → Prop) (fuel : Nat) (listed : Array Bool) (env : Env) (obs : Obs) : Prop where
 out : ∀ (C : Ctx) (Q : Exit → Act → World → Prop), (∀ a w env' obs', K env' obs' → St F C env' obs' a w → Q .normal a w) → ∀ a w, St F C env obs a w → wpAnyIn (fz C.ro) 0 P .any ops Q fuel listed a w
section
variable {P : Program} {F : Fr} {ops : Array Oper} {K : Env → Obs → Prop} {fuel : Nat} {listed : Array Bool} {env : Env} {obs : Obs}
theorem TxA.nil (hr : Region.ready .any ops listed = []) (h : K env obs) : TxA P F ops K 0 listed env obs := ⟨fun _ _ hQ a w hs => ⟨hr, hQ a w env obs h hs⟩⟩
/-- One operation, then the rest. -/
structure AStep (P : Program) (F : Fr) (ops : Array Oper) (K : Env → Obs → Prop) (fuel : Nat) (listed : Array Bool) (env : Env) (obs : Obs) (i : Nat) : Prop where
 out : ∃ o d obs', ops[i]? = some o ∧ dstB F.N o.dst = true ∧ On ops env o ∧ QStep P o env obs d obs' ∧ TxA P F ops K fuel (listed.setIfInBounds i true) (env.put o.dst d) obs'
theorem AStep.mk' {i : Nat} {o : Oper} {d : D} {obs' : Obs} (ho : ops[i]? = some o) (hd : dstB F.N o.dst = true) (hg : On ops env o) (hq : QStep P o env obs d obs') (k : TxA P F ops K fuel (listed.setIfInBounds i true) (env.put o.dst d) obs') : AStep P F ops K fuel listed env obs i := ⟨o, d, obs', ho, hd, hg, hq, k⟩
theorem TxA.step {l : List Nat} (hr : Region.ready .any ops listed = l) (hn : l ≠ []) (h : ∀ i ∈ l, AStep P F ops K fuel listed env obs i) : TxA P F ops K (fuel + 1) listed env obs := ⟨fun C Q hQ a w hs => by
 refine ⟨fun e => absurd (hr ▸ e) hn, fun i hi => ?_⟩
 rw [hr] at hi
 obtain ⟨o, d, obs', ho, hd, hg, hq, k⟩ := (h i hi).out
 obtain ⟨ρ, hst⟩ := hs
 unfold wpOpIn
 simp only [ho]
 rw [if_pos (wanted_on hg fun g b t _ _ d hd => hst.env t d hd)]
 have := hq C.O ρ a w hst.tr.ok hst.glob (fun x _ d' h => op_of_env hst.env x d' h)
 refine Oper.wpIn_mono ?_ (wp_toIn C.ro this (by rintro a' w' ⟨ρ', v, rfl, _⟩; exact Act.put_def ..))
 rintro a' w' ⟨ρ', v, rfl, htr', hv⟩
 exact k.out C Q hQ _ _ ⟨ρ', hst.step htr' (env_put hst.size hd (fun t d h => htr'.V (hst.env t d h)) hv) (Act.size_put _ _ _) (Act.put_def ..)⟩⟩
theorem TxA.one {i : Nat} (hr : Region.ready .any ops listed = [i]) (h : AStep P F ops K fuel listed env obs i) : TxA P F ops K (fuel + 1) listed env obs := TxA.step hr (by simp) (by simpa using h)
theorem TxA.two {i j : Nat} (hr : Region.ready .any ops listed = [i, j]) (h : AStep P F ops K fuel listed env obs i) (h' : AStep P F ops K fuel listed env obs j) : TxA P F ops K (fuel + 1) listed env obs := TxA.step hr (by simp) (by simpa using ⟨h, h'⟩)
theorem Run.regA {Q : Exit → Env → Obs → Prop} {cs : List Code} {id : Nat} {l : List Oper} {c : Code} (env1 : Env) (obs1 : Obs) (hm : P.follows .mixedOrders = true)
  (h : TxA P F l.toArray (fun e o => Le F e o env1 obs1) l.length (Array.replicate l.length false) env obs) (k : Run P F (c :: cs) Q env1 obs1) : Run P F (.region id l.toArray true :: c :: cs) Q env obs := ⟨⟨fun C a w hs => by
 refine wpIn_region_any hm ?_
 have := h.out C (fun e a' w' => ∃ env' obs', thenQ (WPd P F (c :: cs) Q) Q e env' obs' ∧ St F C env' obs' a' w') (fun a w env' obs' hk hs => ⟨env1, obs1, k.out, hk.out C a w hs⟩) a _ hs.drew
 simpa using this⟩⟩
end
end Go.T
namespace Go.T
open Go
variable [Noise]
abbrev SM := List (Str × Str)
@[reducible] def encSM (m : SM) : List (D × D) := m.map fun p => (.str p.1, .str p.2)
def getSM : SM → Str → Str
  | [], _ => []
  | (a, v) :: r, k => if k = a then v else getSM r k
def hasSM (m : SM) (k : Str) : Bool := m.any fun p => decide (k = p.1)
def setSM : SM → Str → Str → SM
  | [], k, v => [(k, v)]
  | (a, u) :: r, k, v => if k = a then (k, v) :: r else (a, u) :: setSM r k v
/-- What the entries of a map hold. -/
def EsOK (es : List MapEntry) (m : SM) (n : Nat) : Prop := es.length = m.length ∧ ∀ i k v, m[i]? = some (k, v) → ∃ e, es[i]? = some e ∧ e.born = n + i ∧ e.key = .string ⟨k.toArray⟩ ∧ e.val = .string ⟨v.toArray⟩
theorem str_beq (a b : Str) : ((⟨a.toArray⟩ : ByteArray) == ⟨b.toArray⟩) = decide (a = b) := by
  have e : ((⟨a.toArray⟩ : ByteArray) == ⟨b.toArray⟩) = (a.toArray == b.toArray) := rfl
  rw [e, Bool.eq_iff_iff]; simp
theorem findNow_SM (k : Str) : ∀ (es : List MapEntry) (m : SM) (n i : Nat), EsOK es m n → ∃ r, Instr.findNow .string (.string ⟨k.toArray⟩) es i = some r ∧
    ((r = none ∧ hasSM m k = false ∧ getSM m k = [] ∧ ∀ v, setSM m k v = m ++ [(k, v)]) ∨
     (∃ j, j < m.length ∧ r = some (i + j, .string ⟨(getSM m k).toArray⟩) ∧ (∃ u, m[j]? = some (k, u)) ∧ ∀ v, setSM m k v = m.set j (k, v)))
  | [], m, n, i, h => by
    have : m = [] := List.length_eq_zero_iff.1 (by have := h.1; simpa using this.symm)
    subst this
    exact ⟨none, rfl, .inl ⟨rfl, rfl, rfl, fun _ => rfl⟩⟩
  | e :: es, [], n, i, h => by simp [EsOK] at h
  | e :: es, (a, u) :: m, n, i, h => by
    obtain ⟨e', h1, h2, h3, h4⟩ := h.2 0 a u rfl
    simp only [List.getElem?_cons_zero, Option.some.injEq] at h1
    subst h1
    have htl : EsOK es m (n + 1) := ⟨by simpa using h.1, fun i k v hi => by
      obtain ⟨x, g1, g2, g3, g4⟩ := h.2 (i + 1) k v (by simpa using hi)
      exact ⟨x, by simpa using g1, by omega, g3, g4⟩⟩
    simp only [Instr.findNow, h3, Instr.sameNow, str_beq]
    by_cases hk : k = a
    · subst hk
      refine ⟨some (i, e.val), by simp, .inr ⟨0, by simp, by simp [getSM, h4], ⟨u, rfl⟩, fun v => by simp [setSM]⟩⟩
    · simp only [hk, decide_false]
      obtain ⟨r, g1, g2⟩ := findNow_SM k es m (n + 1) (i + 1) htl
      refine ⟨r, g1, ?_⟩
      rcases g2 with ⟨rfl, g3, g4, g5⟩ | ⟨j, g3, g4, ⟨u', g5⟩, g6⟩
      · exact .inl ⟨rfl, by simpa [hasSM, hk] using g3, by simp [getSM, hk, g4], fun v => by simp [setSM, hk, g5]⟩
      · exact .inr ⟨j + 1, by simp; omega, by rw [g4]; simp [getSM, hk]; omega, ⟨u', by simpa using g5⟩, fun v => by simp [setSM, hk, g6]⟩
theorem own_SM {w : World} {O : Nat → Prop} {ρ : Rho} {l : Loc} {m : SM} (h : Own w O ρ l (.mp (encSM m))) : ∃ es, w.heap[l.b]? = some (.map es m.length) ∧ EsOK es.toList m 0 ∧ ∀ p ∈ m, p.1.length ≤ big ∧ p.2.length ≤ big := by
  obtain ⟨es, h1, h2, h3⟩ := h
  simp only [encSM, List.length_map] at h1 h2
  have key : ∀ i k v, m[i]? = some (k, v) → ∃ e, es.toList[i]? = some e ∧ e.born = 0 + i ∧ e.key = .string ⟨k.toArray⟩ ∧ e.val = .string ⟨v.toArray⟩ ∧ k.length ≤ big ∧ v.length ≤ big := by
    intro i k v hi
    obtain ⟨e, g1, g2, g3, g4⟩ := h3 i (.str k) (.str v) (by simp [encSM, hi])
    simp only [V] at g3 g4
    exact ⟨e, by simpa using g1, by omega, g3.1, g4.1, g3.2, g4.2⟩
  refine ⟨es, h1, ⟨by simpa using h2, fun i k v hi => ?_⟩, fun p hp => ?_⟩
  · obtain ⟨e, g1, g2, g3, g4, _⟩ := key i k v hi; exact ⟨e, g1, g2, g3, g4⟩
  · obtain ⟨i, hi⟩ := List.getElem?_of_mem hp
    obtain ⟨e, _, _, _, _, g5, g6⟩ := key i p.1 p.2 hi
    exact ⟨g5, g6⟩
theorem own_SM' {w : World} {O : Nat → Prop} {ρ : Rho} {l : Loc} {m : SM} {es : Array MapEntry} (h1 : w.heap[l.b]? = some (.map es m.length)) (h2 : EsOK es.toList m 0) (h3 : ∀ p ∈ m, p.1.length ≤ big ∧ p.2.length ≤ big) : Own w O ρ l (.mp (encSM m)) := by
  refine ⟨es, by simpa [encSM] using h1, by simpa [encSM] using h2.1, fun i kd vd hi => ?_⟩
  simp only [encSM, List.getElem?_map, Option.map_eq_some_iff] at hi
  obtain ⟨⟨k, v⟩, g1, g2⟩ := hi
  cases g2
  obtain ⟨e, g3, g4, g5, g6⟩ := h2.2 i k v g1
  have := h3 _ (List.mem_of_getElem? g1)
  exact ⟨e, by simpa using g3, by omega, by simp only [V]; exact ⟨g5, this.1⟩, by simp only [V]; exact ⟨g6, this.2⟩⟩
section
variable {P : Program} {env : Env} {dst : Option Tmp} {ty : TypeId} {pos : String} {aft : Array Edge} {g : Option (Nat × Bool)}
theorem q_makeMapS {t : TypeId} {obs : Obs} (id : Nat) (hid : obs.get id = none) : QStep P ⟨dst, .makeMap t none, ty, pos, aft, g⟩ env obs (.mapr id) ((id, .mp (encSM [])) :: obs) :=
  .step fun O ρ a w hok hv => by
    refine ⟨.map (some w.heap.size), _, T.upd ρ id ⟨w.heap.size, 0, 0⟩, .inl ?_, Tr.born hok hid (.map #[] 0) rfl (fun i x h _ => h) (fun i h => h) ?_, ?_⟩
    · simp only [execOp, Option.map_none]
      rw [Sem.run_bind]
      rfl
    · intro hk
      exact own_SM' (m := []) (es := #[]) (by simp) ⟨rfl, fun i k v h => by simp at h⟩ (by simp)
    · simp only [V]; exact ⟨⟨w.heap.size, 0, 0⟩, by simp [T.upd], rfl⟩
theorem q_lookupS {t kt et : TypeId} {x y : Operand} {id : Nat} {m : SM} {k : Str} {obs : Obs} (hu : P.underlying t = some (.map kt et)) (hk : P.underlying kt = some .string) (hz : ∀ w, (zeroValue et).run P w = .ok (.string ⟨#[]⟩) w)
    (hx : env.op x = some (.mapr id)) (hy : env.op y = some (.str k)) (ho : obs.get id = some (.mp (encSM m))) :
    QStep P ⟨dst, .lookup t x y false, ty, pos, aft, g⟩ env obs (.str (getSM m k)) obs :=
  .val fun O ρ a w hok hv => by
    have hvx := hv x (by simp [Op.operands]) _ hx
    have hvy := hv y (by simp [Op.operands]) _ hy
    simp only [V] at hvx hvy
    obtain ⟨l, h2, e1⟩ := hvx
    obtain ⟨l', h3, _, hown⟩ := hok.own id _ ho rfl
    rw [h2] at h3; cases h3
    obtain ⟨es, h4, h5, h6⟩ := own_SM hown
    obtain ⟨r, h7, h8⟩ := findNow_SM k es.toList m 0 0 h5
    have hck : ∀ b, (Instr.checkKey b 10000 kt (.string ⟨k.toArray⟩)).run P w = .ok () w := fun b => by
      show (Instr.checkKey b (9999 + 1) kt _).run P w = _
      rw [Instr.checkKey]; simp [run_und hk]
    have hbig : (getSM m k).length ≤ big := by
      have : ∀ m : SM, (∀ p ∈ m, p.1.length ≤ big ∧ p.2.length ≤ big) → (getSM m k).length ≤ big := by
        intro m
        induction m with
        | nil => intro _; simp [getSM, big]
        | cons p r ih =>
          intro h
          obtain ⟨a, v⟩ := p
          simp only [getSM]
          split
          · exact (h (a, v) (by simp)).2
          · exact ih (fun p hp => h p (by simp [hp]))
      exact this m h6
    refine ⟨.string ⟨(getSM m k).toArray⟩, ?_, by simp only [V]; exact ⟨trivial, hbig⟩⟩
    have hfk : (Instr.findKey kt (.string ⟨k.toArray⟩) es.toList).run P w = .ok r w := by simp [Instr.findKey, run_und hk, h7]
    rcases h8 with ⟨rfl, _, g4, _⟩ | ⟨j, _, rfl, _⟩
    · simp [execOp, Instr.lookup, run_und hu, e1, hvy.1, MapKept.run_getObj_map h4, hck, hfk, hz, g4]
    · simp [execOp, Instr.lookup, run_und hu, e1, hvy.1, MapKept.run_getObj_map h4, hck, hfk]
theorem EsOK.push {es : Array MapEntry} {m : SM} {k v : Str} (h : EsOK es.toList m 0) : EsOK (es.push { key := .string ⟨k.toArray⟩, val := .string ⟨v.toArray⟩, born := m.length }).toList (m ++ [(k, v)]) 0 := by
  have hl := h.1
  refine ⟨by simp at hl ⊢; exact hl, fun i k' v' hi => ?_⟩
  simp only [Array.toList_push]
  rcases Nat.lt_trichotomy i m.length with g | g | g
  · rw [List.getElem?_append_left g] at hi
    obtain ⟨e, g1, g2⟩ := h.2 i k' v' hi
    exact ⟨e, by rw [List.getElem?_append_left (by omega)]; exact g1, g2⟩
  · subst g
    rw [List.getElem?_append_right (Nat.le_refl _)] at hi
    simp at hi
    obtain ⟨rfl, rfl⟩ := hi
    exact ⟨{ key := .string ⟨k.toArray⟩, val := .string ⟨v.toArray⟩, born := m.length }, by rw [List.getElem?_append_right (by omega)]; simp [hl], by simp, rfl, rfl⟩
  · rw [List.getElem?_eq_none (by simp; omega)] at hi; cases hi
theorem EsOK.modify {es : Array MapEntry} {m : SM} {k v : Str} {j : Nat} (h : EsOK es.toList m 0) (hj : j < m.length) : EsOK (es.modify j fun e => { e with key := .string ⟨k.toArray⟩, val := .string ⟨v.toArray⟩ }).toList (m.set j (k, v)) 0 := by
  have hl := h.1
  refine ⟨by simpa using hl, fun i k' v' hi => ?_⟩
  rw [Array.toList_modify, List.getElem?_modify]
  rw [List.getElem?_set] at hi
  by_cases e : j = i
  · subst e
    rw [if_pos rfl, if_pos hj] at hi
    cases hi
    obtain ⟨x, g1, g2, _⟩ := h.2 j (m[j]).1 (m[j]).2 (by simp [hj])
    exact ⟨{ x with key := .string ⟨k.toArray⟩, val := .string ⟨v.toArray⟩ }, by rw [g1]; simp, g2, rfl, rfl⟩
  · rw [if_neg e] at hi
    obtain ⟨x, g1, g2⟩ := h.2 i k' v' hi
    exact ⟨x, by rw [g1]; simp [e], g2⟩
theorem q_mapUpdateS {t kt et : TypeId} {x y z : Operand} {id : Nat} {m : SM} {k v : Str} {obs : Obs} (hu : P.underlying t = some (.map kt et)) (hk : P.underlying kt = some .string)
    (hx : env.op x = some (.mapr id)) (hy : env.op y = some (.str k)) (hz : env.op z = some (.str v)) (ho : obs.get id = some (.mp (encSM m))) :
    QStep P ⟨dst, .mapUpdate t x y z, ty, pos, aft, g⟩ env obs (.raw undef) (obs.set id (.mp (encSM (setSM m k v)))) :=
  .step fun O ρ a w hok hv => by
    have hvx := hv x (by simp [Op.operands]) _ hx
    have hvy := hv y (by simp [Op.operands]) _ hy
    have hvz := hv z (by simp [Op.operands]) _ hz
    simp only [V] at hvx hvy hvz
    obtain ⟨l, h2, e1⟩ := hvx
    obtain ⟨l', h3, _, hown⟩ := hok.own id _ ho rfl
    rw [h2] at h3; cases h3
    obtain ⟨es, h4, h5, h6⟩ := own_SM hown
    obtain ⟨r, h7, h8⟩ := findNow_SM k es.toList m 0 0 h5
    have hck : ∀ b, (Instr.checkKey b 10000 kt (.string ⟨k.toArray⟩)).run P w = .ok () w := fun b => by
      show (Instr.checkKey b (9999 + 1) kt _).run P w = _
      rw [Instr.checkKey]; simp [run_und hk]
    have hfk : (Instr.findKey kt (.string ⟨k.toArray⟩) es.toList).run P w = .ok r w := by simp [Instr.findKey, run_und hk, h7]
    have hset : ∀ o', (setObj l.b o').run P w = .ok () { w with heap := w.heap.setIfInBounds l.b o' } := fun o' => by simp [setObj, Sem.run, h4]
    rcases h8 with ⟨rfl, _, _, g5⟩ | ⟨j, hj, rfl, ⟨u, hju⟩, g6⟩
    · refine ⟨undef, _, ρ, .inr ⟨?_, rfl⟩, Tr.upd (o' := .mp (encSM (setSM m k v))) hok ho rfl h2 (.map (es.push { key := .string ⟨k.toArray⟩, val := .string ⟨v.toArray⟩, born := m.length }) (m.length + 1)) ?_, by simp [V]⟩
      · simp [execOp, Instr.mapUpdate, run_und hu, e1, hvy.1, hvz.1, MapKept.run_getObj_map h4, hck, hfk, hset]
      · intro _
        rw [g5]
        refine own_SM' (es := es.push { key := .string ⟨k.toArray⟩, val := .string ⟨v.toArray⟩, born := m.length }) (by simp [(Array.getElem?_eq_some_iff.1 h4).1]) h5.push ?_
        intro p hp
        rcases List.mem_append.1 hp with hp | hp
        · exact h6 p hp
        · simp at hp; subst hp; exact ⟨hvy.2, hvz.2⟩
    · obtain ⟨e, g1, _, g3, _⟩ := h5.2 j k u hju
      have g1' : es[j]? = some e := by simpa using g1
      have hst : (Instr.keyThatStays (.string ⟨k.toArray⟩) (.string ⟨k.toArray⟩)).run P w = .ok (.string ⟨k.toArray⟩) w := by simp [Instr.keyThatStays, Instr.sameBits, str_beq]
      refine ⟨undef, _, ρ, .inr ⟨?_, rfl⟩, Tr.upd (o' := .mp (encSM (setSM m k v))) hok ho rfl h2 (.map (es.modify j fun e => { e with key := .string ⟨k.toArray⟩, val := .string ⟨v.toArray⟩ }) m.length) ?_, by simp [V]⟩
      · simp [execOp, Instr.mapUpdate, run_und hu, e1, hvy.1, hvz.1, MapKept.run_getObj_map h4, hck, hfk, hset, g1', g3, hst]
      · intro _
        rw [g6]
        refine own_SM' (es := es.modify j fun e => { e with key := .string ⟨k.toArray⟩, val := .string ⟨v.toArray⟩ }) (by simp [(Array.getElem?_eq_some_iff.1 h4).1]) (h5.modify hj) ?_
        intro p hp
        rcases List.mem_or_eq_of_mem_set hp with hp | rfl
        · exact h6 p hp
        · exact ⟨hvy.2, hvz.2⟩
end
end Go.T
namespace Go.T
open Go
variable [Noise]
open Go.ChangeMaps (setBlock)
def kAt (m : SM) (j : Nat) : Str := (m[j]?.getD ([], [])).1
def vAt (m : SM) (j : Nat) : Str := (m[j]?.getD ([], [])).2
theorem EsOK.at_ {es : List MapEntry} {m : SM} (h : EsOK es m 0) {e : MapEntry} (he : e ∈ es) : e.born < m.length ∧ es[e.born]? = some e ∧ e.key = .string ⟨(kAt m e.born).toArray⟩ ∧ e.val = .string ⟨(vAt m e.born).toArray⟩ := by
 obtain ⟨j, hj⟩ := List.getElem?_of_mem he
 have hlt : j < m.length := by rw [← h.1]; exact (List.getElem?_eq_some_iff.1 hj).1
 obtain ⟨e', g1, g2, g3, g4⟩ := h.2 j (m[j]).1 (m[j]).2 (by simp [hlt])
 rw [hj] at g1; cases g1
 have : e.born = j := by omega
 rw [this]
 refine ⟨hlt, hj, ?_, ?_⟩
 ·rw [g3]; simp [kAt, hlt]
 ·rw [g4]; simp [vAt, hlt]
theorem EsOK.borns {es : List MapEntry} {m : SM} (h : EsOK es m 0) : es.map (·.born) = List.range m.length := by
 apply List.ext_getElem?
 intro i
 rw [List.getElem?_map]
 rcases Nat.lt_or_ge i m.length with g | g
 ·obtain ⟨e, g1, g2, _⟩ := h.2 i (m[i]).1 (m[i]).2 (by simp [g])
  rw [g1, List.getElem?_range g]; simp [g2]
 ·rw [List.getElem?_eq_none (by rw [h.1]; exact g), List.getElem?_eq_none (by simpa using g)]; rfl
section
variable {P : Program} {env : Env} {dst : Option Tmp} {ty : TypeId} {pos : String} {aft : Array Edge} {g : Option (Nat × Bool)}
theorem q_rangeS {t kt et : TypeId} {x : Operand} {id : Nat} {m : SM} {obs : Obs} (idI : Nat) (hu : P.underlying t = some (.map kt et)) (hx : env.op x = some (.mapr id)) (ho : obs.get id = some (.mp (encSM m))) (hid : obs.get idI = none) :
  QStep P ⟨dst, .range t x, ty, pos, aft, g⟩ env obs (.box idI 0) ((idI, .mi id m.length []) :: obs) :=
 .step fun O ρ a w hok hv => by
  have hvx := hv x (by simp [Op.operands]) _ hx
  simp only [V] at hvx
  obtain ⟨l, h2, e1⟩ := hvx
  obtain ⟨l', h3, _, hown⟩ := hok.own id _ ho rfl
  rw [h2] at h3; cases h3
  obtain ⟨es, h4, h5, h6⟩ := own_SM hown
  have hr := run_range_map (P := P) w t kt et l.b es m.length hu h4
  refine ⟨.pointer (some ⟨w.heap.size, 0, none⟩), _, T.upd ρ idI ⟨w.heap.size, 0, 0⟩, .inl ?_, Tr.born hok hid (.mapIter (some l.b) m.length #[] m.length) rfl (fun i x h _ => h) (fun i h => h) ?_, ?_⟩
  ·simp only [execOp, e1]
   rw [Sem.run_bind, hr]
   rfl
  ·intro hk
   have hne : idI ≠ id := by rintro rfl; rw [ho] at hid; cases hid
   exact ⟨l, by simp [T.upd, hne.symm, h2], by simp⟩
  ·simp only [V]; exact ⟨⟨w.heap.size, 0, 0⟩, by simp [T.upd], rfl⟩
def nextA (m : SM) (seen : List Nat) : Option Nat → Prop
 | none => ∀ j, j < m.length → j ∈ seen
 | some j => j < m.length ∧ j ∉ seen
@[reducible] def nextD (m : SM) : Option Nat → D
 | none => .tup [.b false]
 | some j => .tup [.b true, .str (kAt m j), .str (vAt m j)]
@[reducible] def nextO (obs : Obs) (idI id : Nat) (m : SM) (seen : List Nat) : Option Nat → Obs
 | none => obs
 | some j => obs.set idI (.mi id m.length (seen ++ [j]))
theorem at_big {m : SM} {j : Nat} (h6 : ∀ p ∈ m, p.1.length ≤ big ∧ p.2.length ≤ big) (hj : j < m.length) : (kAt m j).length ≤ big ∧ (vAt m j).length ≤ big := by
 have := h6 _ (List.getElem_mem hj)
 simpa [kAt, vAt, hj] using this
theorem q_nextS {x : Operand} {id idI : Nat} {m : SM} {seen : List Nat} {obs : Obs} (hx : env.op x = some (.box idI 0)) (hi : obs.get idI = some (.mi id m.length seen)) (ho : obs.get id = some (.mp (encSM m))) :
  QStepN P ⟨dst, .next x false, ty, pos, aft, g⟩ env obs (nextA m seen) (nextD m) (nextO obs idI id m seen) := by
 intro O ρ a w hok hgl hv
 have hvx := hv x (by simp [Op.operands]) _ hx
 simp only [V] at hvx
 obtain ⟨r, hr1, e1⟩ := hvx
 obtain ⟨r', hr2, _, lm, hm, hit⟩ := hok.own idI _ hi rfl
 rw [hr1] at hr2; cases hr2
 obtain ⟨l', h3, _, hown⟩ := hok.own id _ ho rfl
 rw [hm] at h3; cases h3
 obtain ⟨es, h4, h5, h6⟩ := own_SM hown
 have hold : ∀ x ∈ es.toList, x.born < m.length := fun x hx => (h5.at_ hx).1
 unfold Oper.wp
 have hex : (execOp a.eval ⟨dst, .next x false, ty, pos, aft, g⟩).run P w = ((Instr.next (.pointer (some ⟨r.b, 0, none⟩)) false ty).bind fun v => Sem.pure (Next.value v)).run P w := by
  simp only [execOp, e1]; rfl
 rw [hex]
 rcases run_next_at (P := P) w ty r.b lm.b m.length m.length seen.toArray es m.length hit h4 hold (Nat.le_refl _) with ⟨hz, hrun⟩ | ⟨e, he, w1, hw1, hrun⟩
 ·have : ((Instr.next (.pointer (some ⟨r.b, 0, none⟩)) false ty).bind fun v => Sem.pure (Next.value v)).run P w = .ok (.value (.tuple #[.bool false])) w := by
   show (Sem.bind _ _).run P w = _
   rw [Sem.run_bind', hrun]; rfl
  rw [this]
  refine ⟨none, ρ, _, ?_, rfl, Tr.refl hok, by simp [V, Vs, D.b]⟩
  intro j hj
  have hz' : leftOf es seen.toArray = #[] := Array.eq_empty_of_size_eq_zero hz
  obtain ⟨e, g1, g2, _⟩ := h5.2 j (m[j]).1 (m[j]).2 (by simp [hj])
  unfold leftOf at hz'
  rw [Array.filter_eq_empty_iff] at hz'
  have hmem : e ∈ es := by simpa using List.mem_of_getElem? g1
  have := hz' e hmem
  simp at this
  rw [show e.born = j by omega] at this
  exact this
 ·have hee : e ∈ es.toList ∧ e.born ∉ seen := by
   unfold leftOf at he
   simp at he
   exact ⟨by simpa using he.1, by simpa using he.2⟩
  obtain ⟨g1, g2, g3, g4⟩ := h5.at_ hee.1
  have : ((Instr.next (.pointer (some ⟨r.b, 0, none⟩)) false ty).bind fun v => Sem.pure (Next.value v)).run P w = .ok (.value (.tuple #[.bool true, e.key, e.val])) (setBlock w1 r.b (.mapIter (some lm.b) m.length (seen.toArray.push e.born) m.length)) := by
   show (Sem.bind _ _).run P w = _
   rw [Sem.run_bind', hrun]; rfl
  rw [this]
  have hb := at_big h6 g1
  have htr1 : Tr O w ρ obs w1 ρ obs := by
   rcases hw1 with rfl | rfl
   ·exact Tr.refl hok
   ·exact Tr.drawn hok _ (by first | exact Nat.le_succ _ | omega)
  have hit1 : w1.heap[r.b]? = some (.mapIter (some lm.b) m.length seen.toArray m.length) := by rcases hw1 with rfl | rfl <;> exact hit
  have htr2 := Tr.upd (o' := .mi id m.length (seen ++ [e.born])) htr1.ok hi rfl hr1 (.mapIter (some lm.b) m.length (seen.toArray.push e.born) m.length) (fun _ => ⟨lm, hm, by simp [(Array.getElem?_eq_some_iff.1 hit1).1]⟩)
  refine ⟨some e.born, ρ, _, ⟨g1, hee.2⟩, rfl, htr1.trans htr2, ?_⟩
  simp only [V, Vs, D.b]
  refine ⟨_, rfl, _, _, rfl, rfl, _, _, rfl, ⟨g3, hb.1⟩, _, _, rfl, ⟨g4, hb.2⟩, rfl⟩
theorem q_entryS {x : Operand} {id idI j : Nat} {m : SM} {seen : List Nat} {obs : Obs} (hx : env.op x = some (.box idI 0)) (hi : obs.get idI = some (.mi id m.length (seen ++ [j]))) (ho : obs.get id = some (.mp (encSM m))) (hj : j < m.length) :
  QStep P ⟨dst, .entry x, ty, pos, aft, g⟩ env obs (.tup [.str (kAt m j), .str (vAt m j)]) obs :=
 .val fun O ρ a w hok hv => by
  have hvx := hv x (by simp [Op.operands]) _ hx
  simp only [V] at hvx
  obtain ⟨r, hr1, e1⟩ := hvx
  obtain ⟨r', hr2, _, lm, hm, hit⟩ := hok.own idI _ hi rfl
  rw [hr1] at hr2; cases hr2
  obtain ⟨l', h3, _, hown⟩ := hok.own id _ ho rfl
  rw [hm] at h3; cases h3
  obtain ⟨es, h4, h5, h6⟩ := own_SM hown
  obtain ⟨e, g1, g2, g3, g4⟩ := h5.2 j (m[j]).1 (m[j]).2 (by simp [hj])
  have hbj : e.born = j := by omega
  have hit' : w.heap[r.b]? = some (.mapIter (some lm.b) m.length (seen.toArray.push e.born) m.length) := by rw [hit, hbj]; simp
  have hnd : (es.toList.map (·.born)).Nodup := by rw [h5.borns]; exact List.nodup_range
  have hrun := run_entry_at (P := P) w r.b lm.b m.length seen.toArray es m.length e hit' h4 (List.mem_of_getElem? g1) hnd
  have hb := at_big h6 hj
  refine ⟨.tuple #[e.key, e.val], ?_, ?_⟩
  ·simp only [execOp, e1]
   rw [Sem.run_bind, hrun]
   rfl
  ·simp only [V, Vs]
   refine ⟨_, rfl, _, _, rfl, ⟨by rw [g3]; simp [kAt, hj], hb.1⟩, _, _, rfl, ⟨by rw [g4]; simp [vAt, hj], hb.2⟩, rfl⟩
end
end Go.T
namespace Go.T
open Go
theorem okB_SM (f : Nat → Bool) (m : SM) : Ob.okB f (.mp (encSM m)) = true := by
 have h : ∀ l : List Str, D.okB.okL f (l.map .str) = true := by
  intro l
  induction l with
  | nil => rfl
  | cons a l ih => simp only [List.map_cons, D.okB.okL, D.okB, ih]; rfl
 have e1 : (encSM m).map (·.1) = (m.map (·.1)).map .str := by simp [encSM]
 have e2 : (encSM m).map (·.2) = (m.map (·.2)).map .str := by simp [encSM]
 simp only [Ob.okB]
 rw [e1, e2, h, h]; rfl
theorem val_bd (s : Str) : -((10 ^ s.length : Nat) : Int) < val s ∧ val s < ((10 ^ s.length : Nat) : Int) := by
 have h1 := natVal_lt _ (digits_dig s)
 have h2 : 10 ^ (digits s).1.length ≤ 10 ^ s.length := Nat.pow_le_pow_right (by omega) (digits_len s)
 unfold val
 split <;> omega
theorem ofInt_len {n : Int} {k : Nat} (h1 : -((10 ^ k : Nat) : Int) < n) (h2 : n < ((10 ^ k : Nat) : Int)) : (ofInt n).length ≤ k + 1 := by
 have := natDig_len k n.natAbs (by omega)
 unfold ofInt
 split
 ·simp; omega
 ·omega
theorem addS_len (a b : Str) : (addS a b).length ≤ a.length + b.length + 2 := by
 have h1 := val_bd a
 have h2 := val_bd b
 have h3 : 10 ^ a.length ≤ 10 ^ (a.length + b.length) := Nat.pow_le_pow_right (by omega) (by omega)
 have h4 : 10 ^ b.length ≤ 10 ^ (a.length + b.length) := Nat.pow_le_pow_right (by omega) (by omega)
 have h5 : 10 ^ (a.length + b.length + 1) = 10 ^ (a.length + b.length) * 10 := Nat.pow_succ ..
 unfold addS
 exact ofInt_len (k := a.length + b.length + 1) (by omega) (by omega)
def balStep (m : SM) (l : Line) : SM := setSM m l.currency (addS (getSM m l.currency) l.amount)
def balM (ls : List Line) : SM := ls.foldl balStep []
theorem balM_snoc (ls : List Line) (l : Line) : balM (ls ++ [l]) = setSM (balM ls) l.currency (addS (getSM (balM ls) l.currency) l.amount) := by simp [balM, balStep]
theorem get_set (m : SM) (k c v : Str) : getSM (setSM m k v) c = if c = k then v else getSM m c := by
 induction m with
 | nil => simp [setSM, getSM]
 | cons p r ih =>
  obtain ⟨a, u⟩ := p
  simp only [setSM]
  by_cases h : k = a
  ·subst h
   simp only [if_true, getSM]
   by_cases hc : c = k <;> simp [hc]
  ·simp only [if_neg h, getSM, ih]
   by_cases hc : c = a
   ·subst hc; simp [Ne.symm h]
   ·simp [hc]
theorem balM_len (ls : List Line) (h : ∀ l ∈ ls, l.amount.length ≤ 14) (c : Str) : (getSM (balM ls) c).length ≤ 16 * ls.length := by
 induction ls using rev_ind generalizing c with
 | h0 => simp [balM, getSM]
 | h1 ls l ih =>
  have ih := fun c : Str => ih (fun x hx => h x (by simp [hx])) c
  rw [balM_snoc, get_set]
  have hl := h l (by simp)
  by_cases hc : c = l.currency
  ·subst hc
   rw [if_pos rfl]
   have := addS_len (getSM (balM ls) l.currency) l.amount
   have := ih l.currency
   simp; omega
  ·rw [if_neg hc]
   have := ih c
   simp; omega
def allNil (m : SM) : Bool := m.all fun p => decide (p.2 = [])
theorem allNil_F {m : SM} {j : Nat} (hj : j < m.length) (h : vAt m j ≠ []) : allNil m = false := by
 unfold allNil
 rw [List.all_eq_false]
 exact ⟨m[j], List.getElem_mem hj, by simpa [vAt, hj] using h⟩
theorem allNil_T {m : SM} (h : ∀ j, j < m.length → vAt m j = []) : allNil m = true := by
 unfold allNil
 rw [List.all_eq_true]
 intro p hp
 obtain ⟨j, hj, rfl⟩ := List.getElem_of_mem hp
 have := h j hj
 simpa [vAt, hj] using this
def unseen (n : Nat) (seen : List Nat) : Nat := ((List.range n).filter fun j => !seen.contains j).length
theorem unseen_lt {n j : Nat} {seen : List Nat} (hj : j < n) (hs : j ∉ seen) : unseen n (seen ++ [j]) < unseen n seen := by
 unfold unseen
 have key : ∀ l : List Nat, ((l.filter fun i => !(seen ++ [j]).contains i).length ≤ (l.filter fun i => !seen.contains i).length) ∧ (j ∈ l → (l.filter fun i => !(seen ++ [j]).contains i).length < (l.filter fun i => !seen.contains i).length) := by
  intro l
  induction l with
  | nil => simp
  | cons a l ih =>
   by_cases ha : a = j
   ·subst ha
    simp [List.filter_cons, hs]
    have := ih.1
    simp at this
    omega
   ·by_cases hb : a ∈ seen
    ·simp [List.filter_cons, hb, Ne.symm ha]
     simpa using ih
    ·simp [List.filter_cons, hb, ha, Ne.symm ha]
     simpa using ih
 exact (key _).2 (by simpa using hj)
end Go.T
namespace Go.T
open Go
theorem ofInt_nil_iff {n : Int} : ofInt n = [] ↔ n = 0 := by
 constructor
 ·intro h
  have := val_ofInt n
  rw [h] at this
  rw [← this]; rfl
 ·rintro rfl; simp [ofInt, natDig_zero]
theorem balM_get (ls : List Line) (c : Str) : getSM (balM ls) c = ofInt (sumV c ls) := by
 induction ls using rev_ind generalizing c with
 | h0 => simp [balM, getSM, sumV, ofInt, natDig_zero]
 | h1 ls l ih =>
  rw [balM_snoc, get_set, sumV_append]
  simp only [sumV, Int.add_zero]
  by_cases h : c = l.currency
  ·subst h
   rw [if_pos rfl, if_pos rfl, ih]
   unfold addS
   rw [val_ofInt]
  ·rw [if_neg h, if_neg (Ne.symm h), ih, Int.add_zero]
def keysN (m : SM) : Prop := (m.map (·.1)).Nodup
theorem set_keys (m : SM) (k v : Str) : ∀ x, x ∈ (setSM m k v).map (·.1) ↔ x = k ∨ x ∈ m.map (·.1) := by
 induction m with
 | nil => intro x; simp [setSM]
 | cons p r ih =>
  intro x
  obtain ⟨a, u⟩ := p
  simp only [setSM]
  by_cases h : k = a
  ·subst h; simp
  ·simp only [if_neg h, List.map_cons, List.mem_cons, ih x]
   constructor
   ·rintro (h | h | h) <;> simp [h]
   ·rintro (h | h | h) <;> simp [h]
theorem set_nodup {m : SM} (k v : Str) (h : keysN m) : keysN (setSM m k v) := by
 unfold keysN at *
 induction m with
 | nil => simp [setSM]
 | cons p r ih =>
  obtain ⟨a, u⟩ := p
  simp only [List.map_cons, List.nodup_cons] at h
  simp only [setSM]
  by_cases hk : k = a
  ·subst hk; simpa using h
  ·simp only [if_neg hk, List.map_cons, List.nodup_cons]
   refine ⟨fun hm => ?_, ih h.2⟩
   rcases (set_keys r k v a).1 hm with e | e
   ·exact hk e.symm
   ·exact h.1 e
theorem balM_nodup (ls : List Line) : keysN (balM ls) := by
 induction ls using rev_ind with
 | h0 => simp [balM, keysN]
 | h1 ls l ih => rw [balM_snoc]; exact set_nodup _ _ ih
theorem allNil_get {m : SM} (h : keysN m) : allNil m = true ↔ ∀ k, getSM m k = [] := by
 induction m with
 | nil => simp [allNil, getSM]
 | cons p r ih =>
  obtain ⟨a, u⟩ := p
  simp only [keysN, List.map_cons, List.nodup_cons] at h
  have ih := ih h.2
  simp only [allNil, List.all_cons, Bool.and_eq_true, decide_eq_true_eq] at ih ⊢
  rw [ih]
  constructor
  ·rintro ⟨h1, h2⟩ k
   simp only [getSM]
   split
   ·exact h1
   ·exact h2 k
  ·intro hk
   refine ⟨by simpa [getSM] using hk a, fun k => ?_⟩
   by_cases e : k = a
   ·subst e
    have : ∀ r : SM, k ∉ r.map (·.1) → getSM r k = [] := by
     intro r
     induction r with
     | nil => intro _; rfl
     | cons q r ih => intro hn; obtain ⟨b, w⟩ := q; simp at hn; simp only [getSM]; rw [if_neg hn.1]; exact ih (by simpa using hn.2)
    exact this r h.1
   ·simpa [getSM, e] using hk k
theorem sumV_zero {c : Str} {ls : List Line} (h : ∀ l ∈ ls, l.currency ≠ c) : sumV c ls = 0 := by
 induction ls with
 | nil => rfl
 | cons l ls ih => simp only [sumV]; rw [if_neg (h l (by simp)), ih (fun x hx => h x (by simp [hx]))]; rfl
theorem allNil_bal (ls : List Line) : allNil (balM ls) = balanced ls := by
 rw [Bool.eq_iff_iff, allNil_get (balM_nodup ls)]
 simp only [balM_get, ofInt_nil_iff, balanced, List.all_eq_true, decide_eq_true_eq]
 constructor
 ·intro h x _; exact h x.currency
 ·intro h c
  by_cases hc : ∃ l ∈ ls, l.currency = c
  ·obtain ⟨l, hl, rfl⟩ := hc; exact h l hl
  ·exact sumV_zero (fun l hl e => hc ⟨l, hl, e⟩)
end Go.T
namespace Go.T
open Go
theorem find_T {α : Type} {l pre rest : List α} {x : α} {p : α → Bool} (hx : l = pre ++ x :: rest) (hp : pre.any p = false) (h : p x = true) : (pre.length : Int) = if l.any p = true then (l.findIdx p : Int) else -1 := by
 subst hx
 have : (pre ++ x :: rest).any p = true := by simp [h]
 rw [if_pos this, List.findIdx_append]
 have hn : ¬ List.findIdx p pre < pre.length := by
  rw [List.findIdx_lt_length]
  rintro ⟨y, hy, hpy⟩
  rw [List.any_eq_false] at hp
  exact hp y hy hpy
 rw [if_neg hn]
 simp [List.findIdx_cons, h]
theorem find_F {α : Type} {l pre : List α} {p : α → Bool} (hx : l = pre ++ []) (hp : pre.any p = false) : -1 = if l.any p = true then (l.findIdx p : Int) else -1 := by
 rw [hx, List.append_nil, hp]; rfl
theorem valid_close (l : List Entry) : decide ((0 : Int) ≤ if l.any (fun e => decide (checkE e ≠ 0)) = true then (l.findIdx (fun e => decide (checkE e ≠ 0)) : Int) else -1) = !validE l := by
 have e : validE l = !(l.any fun e => decide (checkE e ≠ 0)) := by
  unfold validE
  induction l with
  | nil => rfl
  | cons a l ih => simp only [List.all_cons, List.any_cons, ih]; by_cases h : checkE a = 0 <;> simp [h]
 rw [e]
 cases l.any (fun e => decide (checkE e ≠ 0)) <;> simp <;> omega
end Go.T
namespace Go.T
open Go
theorem tw_pre {α : Type} {p : α → Bool} {l pre rest : List α} {x : α} (hx : l = pre ++ x :: rest) (hp : pre.all p = true) (h : p x = true) : pre ++ [x] <+: l.takeWhile p := by
 subst hx
 rw [List.takeWhile_append_of_pos (by simpa using hp), List.takeWhile_cons, if_pos h]
 exact ⟨rest.takeWhile p, by simp⟩
theorem tw_stop {α : Type} {p : α → Bool} {l pre rest : List α} {x : α} (hx : l = pre ++ x :: rest) (hp : pre.all p = true) (h : p x = false) : pre = l.takeWhile p := by
 subst hx
 rw [List.takeWhile_append_of_pos (by simpa using hp), List.takeWhile_cons, if_neg (by simp [h])]; simp
theorem tw_end {α : Type} {p : α → Bool} {l pre : List α} (hx : l = pre ++ []) (hp : pre.all p = true) : pre = l.takeWhile p := by
 subst hx
 rw [List.takeWhile_append_of_pos (by simpa using hp)]; simp
end Go.T
namespace Go.T
open Go
theorem dropZ_of_head {s : Str} (h : s.head? ≠ some 48) : dropZ s = s := by
 cases s with
 | nil => rfl
 | cons c r =>
  have : c ≠ 48 := by simpa using h
  exact dropZ_F (by intro ⟨_, e⟩; exact this (UInt8.toNat_inj.1 (by simpa using e)))
theorem digits_nat (s : Str) : (digits s).1 = natDig (natVal (digits s).1) := natDig_unique (digits_dig s) (dropZ_of_head (digits_head s))
theorem neg_textM (s : Str) : textM (!(digits s).2) (groupsOf (digits s).1) = negS s := by
 rw [textM_ofInt _ (numOK_digits s).ok, (groupsOf_spec _ (digits_dig s)).2]
 have hd := digits_nat s
 unfold negS
 cases hn : (digits s).2 with
 | true =>
  simp only [Bool.not_true, Bool.false_eq_true, if_false, true_or, if_true]
  unfold ofInt
  rw [if_neg (by omega)]
  simpa using hd.symm
 | false =>
  simp only [Bool.not_false, if_true, Bool.false_eq_true, false_or]
  by_cases h0 : (digits s).1 = []
  ·rw [if_pos h0, h0]; simp [natVal, ofInt, natDig_zero]
  ·rw [if_neg h0]
   have : natVal (digits s).1 ≠ 0 := by
    intro e; rw [e, natDig_zero] at hd; exact h0 hd
   unfold ofInt
   rw [if_pos (by omega)]
   conv => rhs; rw [hd]
   simp
end Go.T
namespace Go.T
open Go
def mergeC (c : Entry → Entry → Int) : Nat → List Entry → List Entry → List Entry × List Entry
 | 0, a, b => (a, b)
 | _ + 1, [], b => ([], b)
 | _ + 1, a, [] => (a, [])
 | n + 1, x :: a, y :: b => if c x y < 0 then (x :: (mergeC c n a (y :: b)).1, (mergeC c n a (y :: b)).2) else if 0 < c x y then ((mergeC c n (x :: a) b).1, y :: (mergeC c n (x :: a) b).2) else mergeC c n a b
theorem mergeC_nil1 (c : Entry → Entry → Int) (n : Nat) (b : List Entry) : mergeC c n [] b = ([], b) := by cases n <;> rfl
theorem mergeC_nil2 (c : Entry → Entry → Int) (n : Nat) (a : List Entry) : mergeC c n a [] = (a, []) := by cases n <;> cases a <;> rfl
theorem mergeC_fuel (c : Entry → Entry → Int) : ∀ (n m : Nat) (a b : List Entry), a.length + b.length ≤ n → a.length + b.length ≤ m → mergeC c n a b = mergeC c m a b
 | 0, m, a, b, h, _ => by
  have e1 : a = [] := List.length_eq_zero_iff.1 (by omega)
  have e2 : b = [] := List.length_eq_zero_iff.1 (by omega)
  subst e1; subst e2; rw [mergeC_nil1, mergeC_nil1]
 | n + 1, 0, a, b, _, h => by
  have e1 : a = [] := List.length_eq_zero_iff.1 (by omega)
  have e2 : b = [] := List.length_eq_zero_iff.1 (by omega)
  subst e1; subst e2; rw [mergeC_nil1, mergeC_nil1]
 | n + 1, m + 1, [], b, _, _ => by rw [mergeC_nil1, mergeC_nil1]
 | n + 1, m + 1, x :: a, [], _, _ => by rw [mergeC_nil2, mergeC_nil2]
 | n + 1, m + 1, x :: a, y :: b, h, h' => by
  simp only [List.length_cons] at h h'
  simp only [mergeC]
  rw [mergeC_fuel c n m a (y :: b) (by simp; omega) (by simp; omega), mergeC_fuel c n m (x :: a) b (by simp; omega) (by simp; omega), mergeC_fuel c n m a b (by omega) (by omega)]
def mergeE (c : Entry → Entry → Int) (a b : List Entry) : List Entry × List Entry := mergeC c (a.length + b.length) a b
theorem mergeE_nil1 (c : Entry → Entry → Int) (b : List Entry) : mergeE c [] b = ([], b) := mergeC_nil1 ..
theorem mergeE_nil2 (c : Entry → Entry → Int) (a : List Entry) : mergeE c a [] = (a, []) := mergeC_nil2 ..
theorem mergeE_step (c : Entry → Entry → Int) (x y : Entry) (a b : List Entry) : mergeE c (x :: a) (y :: b) = if c x y < 0 then (x :: (mergeE c a (y :: b)).1, (mergeE c a (y :: b)).2) else if 0 < c x y then ((mergeE c (x :: a) b).1, y :: (mergeE c (x :: a) b).2) else mergeE c a b := by
 unfold mergeE
 rw [mergeC_fuel c _ (a.length + b.length + 1 + 1) (x :: a) (y :: b) (Nat.le_refl _) (by simp; omega)]
 simp only [mergeC]
 rw [mergeC_fuel c (a.length + b.length + 1) (a.length + (y :: b).length) a (y :: b) (by simp; omega) (by simp),
  mergeC_fuel c (a.length + b.length + 1) ((x :: a).length + b.length) (x :: a) b (by simp; omega) (by simp),
  mergeC_fuel c (a.length + b.length + 1) (a.length + b.length) a b (by omega) (by omega)]
end Go.T
