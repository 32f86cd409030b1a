/-
  Contracts of the functions that the statement reaches, and the logic in which they are proved (no condition): parts W54, Law2, Law3, Law4, Law5, Law6, Law7, W55, Card1, Card2, Card3.
-/
import Derived.Test.YtlhemheagekhaaaGreatDoorA15
import Derived.ChangeArms
import Derived.SizedLaws
import Derived.ProofKit
import Derived.OpenShut
import Derived.ReadAgain
import Derived.LaidMore
import Derived.Test.YtlhemheagekhaaaGreatDoorCards
import Derived.Test.YtlhemheagekhaaaGreatDoorTie
import Derived.Lay
import Derived.SevenTiedAt
import Derived.Stop.Joined
set_option linter.all false
namespace Go.T
open Go Go.Proofs
set_option maxRecDepth 20000
theorem bad35_ok (e : Entry) (hs : smallE e) : Fc Tryz.prog 55 [.agg (encEntry e)] (.b (decide (checkE e ≠ 0))) := by
  refine Fc.mk' [2] Tryz.func55 rfl Tryz.ntmps55 rfl rfl rfl (fun t w => results_tmp Tryz.results55 t _ w) ?_
  refine Run.seq (Run.reg [.w, .p] ?_)
  refine .w rfl trivial (q_boxA 0 rfl rfl) <| .ag rfl rfl <| .nil ?_
  refine Run.seq (Run.reg [.r, .p, .p, .p] ?_)
  refine .r rfl trivial (q_loadW Tryz.isAgg37 Tryz.sizeOf37 rfl rfl rfl) <| .p rfl trivial (fun _ => q_call Tryz.call56 rfl (check35_ok _ (by first | assumption | omega | (simp at *; omega))) _) <| .p rfl trivial (fun _ => q_neq rfl rfl _) <| .ag rfl rfl <| .nil ?_
  refine Run.ret (?_)
  exact ret1 rfl (Sub.bool (by rfl))
structure indexBad35_ok_L0 (l : List Entry) where
  pre : List Entry
  rest : List Entry
  hx : l = pre ++ rest
  hp : pre.any (fun e => decide (checkE e ≠ 0)) = false
theorem indexBad35_ok (l : List Entry) (hs : ∀ e ∈ l, smallE e) : Fc Tryz.prog 107 [sEntries l, .fn (.func 55) [] []] (.i (if l.any (fun e => decide (checkE e ≠ 0)) then (l.findIdx (fun e => decide (checkE e ≠ 0)) : Int) else -1)) := by
  refine Fc.mk' [4] Tryz.func107 rfl Tryz.ntmps107 rfl rfl rfl (fun t w => results_tmp Tryz.results107 t _ w) ?_
  refine Run.bSnap 0 rfl (fun hb => ?_)
  simp only [List.length_map, big] at hb
  refine Run.seq (Run.reg [.p] ?_)
  refine .ag rfl rfl <| .nil ?_
  refine Run.seq (Run.seq (Run.reg [.p, .p, .p] ?_))
  refine .mv rfl rfl <| .p rfl trivial (fun _ => q_lenI Tryz.underlying22 rfl _) <| .mv rfl rfl <| .nil ?_
  refine Run.block ?_
  refine Run.loop (ι := indexBad35_ok_L0 l) (fun sx => [(0, sEntries l), (1, .fn (.func 55) [] []), (6, sEntries l), (7, .i l.length), (8, .i sx.pre.length)]) (fun sx => []) (fun sx => sx.rest.length) ⟨[], l, rfl, rfl⟩ ?_ ?_
  · exact Le.mk rfl (.cons rfl (Sub.refl _) rfl (.cons rfl (Sub.refl _) rfl (.cons rfl (Sub.refl _) rfl (.cons rfl (Sub.int (by first | rfl | (simp; done) | omega | (simp; omega))) rfl (.cons rfl (Sub.int (by first | rfl | (simp; done) | omega | (simp; omega))) rfl .nil))))) .nil
  · rintro ⟨pre, rest, hx, hp⟩
    show Run _ _ _ _ [(0, sEntries l), (1, .fn (.func 55) [] []), (6, sEntries l), (7, .i l.length), (8, .i pre.length)] []
    have hl := congrArg List.length hx
    simp only [List.length_append] at hl
    rcases rest with _ | ⟨x, rest⟩
    · skip
      refine Run.seq (Run.reg [.p] ?_)
      refine .p rfl trivial (fun _ => q_lss rfl rfl _) <| .nil ?_
      refine Run.seq ?_
      refine Run.condF rfl (by simp at hl ⊢; omega) ?_
      refine Run.exit (tq_exit (bq_exit ?_))
      refine Run.seq (Run.reg [.p] ?_)
      refine .ag rfl rfl <| .nil ?_
      refine Run.ret (?_)
      exact ret1 rfl (Sub.int (by first | exact find_T hx hp (by assumption) | exact find_F hx hp))
    · simp only [List.length_cons] at hl
      refine Run.seq (Run.reg [.p] ?_)
      refine .p rfl trivial (fun _ => q_lss rfl rfl _) <| .nil ?_
      refine Run.seq ?_
      refine Run.condT rfl (by simp; omega) ?_
      refine Run.skip ?_
      refine Run.seq ?_
      refine Run.block ?_
      refine Run.seq (Run.reg [.p, .p] ?_)
      refine .mv rfl rfl <| .ag rfl rfl <| .nil ?_
      refine Run.seq (Run.reg [.p, .p, .p, .p, .p, .p] ?_)
      refine .mv rfl rfl <| .mv rfl rfl <| .mv rfl rfl <| .p rfl trivial (fun _ => q_indexI Tryz.underlying22 Tryz.sizeOf37 rfl rfl (by omega) (idx_mid encEntry hx rfl) _) <| .p rfl trivial (fun _ => q_loadIA Tryz.isAgg37 Tryz.sizeOf37 rfl rfl _) <| .p rfl trivial (fun _ => q_callF Tryz.call55 rfl rfl (bad35_ok _ (hs x (by rw [hx]; simp))) _) <| .nil ?_
      refine Run.cond rfl (fun h1 => ?_) (fun h1 => ?_)
      · have ph1 := h1
        try simp only [bs, bne_iff_ne, ne_eq, List.length_map] at ph1
        refine Run.seq (Run.reg [.p, .p] ?_)
        refine .mv rfl rfl <| .ag rfl rfl <| .nil ?_
        refine Run.ret (bq_ret (tq_ret (bq_ret (?_))))
        exact ret1 rfl (Sub.int (by first | exact find_T hx hp (by assumption) | exact find_F hx hp))
      · have ph1 := h1
        try simp only [bs, bne_iff_ne, ne_eq, List.length_map] at ph1
        refine Run.skip ?_
        refine Run.nil (bq_norm ?_)
        refine Run.reg [.p, .p] ?_
        refine .p rfl trivial (fun _ => q_add rfl rfl (wrap64_ok (by first | omega | (simp; done) | (simp; omega) | (simp at *; omega)) (by first | omega | (simp; done) | (simp; omega) | (simp at *; omega))) _) <| .mv rfl rfl <| .nil ?_
        refine Run.nil (tq_norm ?_)
        exact ⟨⟨pre ++ [x], rest, by simp [hx], by simp at *; grind⟩, by simp, Le.mk rfl (.cons rfl (Sub.refl _) rfl (.cons rfl (Sub.refl _) rfl (.cons rfl (Sub.refl _) rfl (.cons rfl (Sub.int (by first | rfl | (simp; done) | omega | (simp; omega))) rfl (.cons rfl (Sub.int (by first | rfl | (simp; done) | omega | (simp; omega))) rfl .nil))))) .nil⟩
theorem containsBad35_ok (l : List Entry) (hs : ∀ e ∈ l, smallE e) : Fc Tryz.prog 53 [sEntries l, .fn (.func 55) [] []] (.b (!validE l)) := by
  refine Fc.mk' [4] Tryz.func53 rfl Tryz.ntmps53 rfl rfl rfl (fun t w => results_tmp Tryz.results53 t _ w) ?_
  refine Run.seq (Run.reg [.p] ?_)
  refine .ag rfl rfl <| .nil ?_
  refine Run.seq (Run.reg [.p, .p, .p, .p, .p] ?_)
  refine .mv rfl rfl <| .mv rfl rfl <| .p rfl trivial (fun _ => q_call Tryz.call107 rfl (indexBad35_ok _ (by first | assumption | omega | (simp at *; omega))) _) <| .p rfl trivial (fun _ => q_geq rfl rfl _) <| .ag rfl rfl <| .nil ?_
  refine Run.ret (?_)
  exact ret1 rfl (Sub.bool (by exact valid_close l))
def validIn (a b : List Entry) (l : List Close) : Bool := !great a && !great b && !great49 l && decide (checkCloses l = 0) && validE (a ++ b)
theorem validIn_ok (a b : List Entry) (l : List Close) : Fc Tryz.prog 16 [sEntries a, sEntries b, sCloses l] (.b (validIn a b l)) := by
  refine Fc.mk' [6] Tryz.func16 rfl Tryz.ntmps16 rfl rfl rfl (fun t w => results_tmp Tryz.results16 t _ w) ?_
  refine Run.seq (Run.reg [.p] ?_)
  refine .ag rfl rfl <| .nil ?_
  refine Run.seq (Run.seq (Run.reg [.p, .p, .p, .p, .p, .p, .p, .p, .p, .p, .p, .p, .p, .p, .p] ?_))
  refine .mv rfl rfl <| .p rfl trivial (fun _ => q_call Tryz.call10 rfl (great35_ok _) _) <| .mv rfl rfl <| .gF rfl (.inl rfl) rfl rfl rfl (fun hg => pk (fun _ => q_move rfl _)) <| .gF rfl (.inl rfl) rfl rfl rfl (fun hg => pk (fun _ => q_call Tryz.call10 (opsC (opT rfl (nt hg)) (rfl)) (great35_ok _) _)) <| .p rfl trivial (fun _ => q_or rfl rfl _) <| .mv rfl rfl <| .gF rfl (.inl rfl) rfl rfl rfl (fun hg => pk (fun _ => q_move rfl _)) <| .gF rfl (.inl rfl) rfl rfl rfl (fun hg => pk (fun _ => q_call Tryz.call11 (opsC (opT rfl (nt hg)) (rfl)) (great49_ok _) _)) <| .p rfl trivial (fun _ => q_or rfl rfl _) <| .mv rfl rfl <| .gF rfl (.inl rfl) rfl rfl rfl (fun hg => pk (fun _ => q_move rfl _)) <| .gF rfl (.inl rfl) rfl rfl rfl (fun hg => pk (fun _ => q_call Tryz.call49 (opsC (opT rfl (nt hg)) (rfl)) (check49_ok _) _)) <| .gF rfl (.inl rfl) rfl rfl rfl (fun hg => pk (fun _ => q_neq (opT rfl (nt hg)) rfl _)) <| .p rfl trivial (fun _ => q_or rfl rfl _) <| .nil ?_
  refine Run.cond rfl (fun h1 => ?_) (fun h1 => ?_)
  · have ph1 := h1
    try simp only [bs, bne_iff_ne, ne_eq, List.length_map] at ph1
    refine Run.seq (Run.reg [.p] ?_)
    refine .ag rfl rfl <| .nil ?_
    refine Run.ret (?_)
    exact ret1 rfl (Sub.bool (by first | (simp_all [validIn]; done) | (simp [validIn]; grind)))
  · have ph1 := h1
    try simp only [bs, bne_iff_ne, ne_eq, List.length_map] at ph1
    have g1 := great_small (l := a) (by simp_all)
    have g2 := great_small (l := b) (by simp_all)
    refine Run.skip ?_
    refine Run.seq (Run.reg [.p, .p, .p, .p, .p, .p, .p] ?_)
    refine .mv rfl rfl <| .mv rfl rfl <| .p rfl trivial (fun _ => q_buildSlice' (n := 2) (rows := [[sEntries a], [sEntries b]]) Tryz.underlying146 Tryz.sizeOf22 rfl rfl rfl Tryz.zeroValue22 rfl rfl rfl rfl rfl rfl rfl _) <| .p rfl trivial (fun _ => q_call Tryz.call54 rfl (concat_ok _ _ (by omega) (by omega)) _) <| .p rfl trivial (fun _ => q_call Tryz.call53 rfl (containsBad35_ok _ (fun e he => (List.mem_append.1 he).elim (g1.2 e) (g2.2 e))) _) <| .p rfl trivial (fun _ => q_not rfl _) <| .ag rfl rfl <| .nil ?_
    refine Run.ret (?_)
    exact ret1 rfl (Sub.bool (by first | (simp_all [validIn]; done) | (simp [validIn]; grind)))
theorem closed_ok (l : List Close) (known d : Int) (hc : checkCloses l = 0) (hk : ¬ known < 0) (hd : ¬ (d < -25567 ∨ 84005 < d)) (hl : l.length ≤ 1000000) (hv : ∀ c ∈ l, validDay c.day = true) : Fc Tryz.prog 17 [sCloses l, .i known, .i d] (.tup [.b (decide (d < lastOpen (l.takeWhile (fun c : Close => decide (c.known < known))))), .i 0]) := by
  refine Fc.mk' [6, 7] Tryz.func17 rfl Tryz.ntmps17 rfl rfl rfl (fun t w => results_tmp2 Tryz.results17 t _ w) ?_
  refine Run.seq (Run.reg [.p, .p] ?_)
  refine .ag rfl rfl <| .ag rfl rfl <| .nil ?_
  refine Run.seq (Run.seq (Run.reg [.p, .p, .p, .p, .p] ?_))
  refine .mv rfl rfl <| .mv rfl rfl <| .mv rfl rfl <| .p rfl trivial (fun _ => q_call Tryz.call57 rfl (pcheck_ok _ _ _) _) <| .ag rfl rfl <| .nil ?_
  refine Run.seq (Run.reg [.p, .p] ?_)
  refine .mv rfl rfl <| .p rfl trivial (fun _ => q_neq rfl rfl _) <| .nil ?_
  refine Run.condF rfl (by simp [hc, hk, hd]) ?_
  refine Run.skip ?_
  refine Run.seq (Run.reg [.p, .p, .p, .p, .p, .p, .p] ?_)
  refine .mv rfl rfl <| .mv rfl rfl <| .mv rfl rfl <| .p rfl trivial (fun _ => q_call Tryz.call58 rfl (opens_ok _ _ hl hv) _) <| .p rfl trivial (fun _ => q_lss rfl rfl _) <| .ag rfl rfl <| .ag rfl rfl <| .nil ?_
  refine Run.ret (?_)
  exact ret2 rfl rfl (Sub.bool (by first | rfl | simp_all)) (Sub.int (by first | rfl | simp_all))
end Go.T
namespace Go.T
open Go
theorem lt_cons (c d : UInt8) (r s : Str) : Str.lt (c :: r) (d :: s) = (decide (c.toNat < d.toNat) || (decide (c = d) && Str.lt r s)) := by
  show (decide (c < d) || (c == d && Op.bytesLess r s)) = _
  have h1 : decide (c < d) = decide (c.toNat < d.toNat) := by simp [UInt8.lt_iff_toNat_lt]
  have h2 : (c == d) = decide (c = d) := by rw [Bool.eq_iff_iff]; simp
  rw [h1, h2]; rfl
theorem natVal_cons (c : UInt8) (r : Str) : natVal (c :: r) = (c.toNat - 48) * 10 ^ r.length + natVal r := by
  have e : natVal (c :: r) = natVal ([c] ++ r) := rfl
  rw [e, natVal_append]; simp [natVal]
theorem lt_val : ∀ (a b : Str), a.length = b.length → a.all isDig = true → b.all isDig = true → (Str.lt a b = true ↔ natVal a < natVal b)
  | [], [], _, _, _ => by simp [Str.lt, Op.bytesLess, natVal]
  | [], _ :: _, h, _, _ => by simp at h
  | _ :: _, [], h, _, _ => by simp at h
  | c :: r, d :: s, h, ha, hb => by
    simp only [List.length_cons, Nat.add_right_cancel_iff] at h
    simp only [List.all_cons, Bool.and_eq_true] at ha hb
    have ih := lt_val r s h ha.2 hb.2
    have hr := natVal_lt r ha.2
    have hs := natVal_lt s hb.2
    rw [lt_cons, natVal_cons, natVal_cons, h] at *
    have hc : 48 ≤ c.toNat := by have := ha.1; simp [isDig] at this; omega
    have hd : 48 ≤ d.toNat := by have := hb.1; simp [isDig] at this; omega
    simp only [Bool.or_eq_true, Bool.and_eq_true, decide_eq_true_eq]
    rcases Nat.lt_trichotomy c.toNat d.toNat with g | g | g
    · have := Nat.mul_le_mul_right (10 ^ s.length) (show c.toNat - 48 + 1 ≤ d.toNat - 48 by omega)
      rw [Nat.add_mul, Nat.one_mul] at this
      constructor
      · intro _; omega
      · intro _; exact .inl g
    · have e : c = d := UInt8.toNat_inj.1 g
      subst e
      simp only [Nat.lt_irrefl, false_or, true_and, ih]
      omega
    · have := Nat.mul_le_mul_right (10 ^ s.length) (show d.toNat - 48 + 1 ≤ c.toNat - 48 by omega)
      rw [Nat.add_mul, Nat.one_mul] at this
      constructor
      · rintro (h | h)
        · omega
        · have := h.1; subst this; omega
      · intro _; omega
theorem natVal_ge {d : Str} (hd : d.all isDig = true) (h0 : d.head? ≠ some 48) (hn : d.length ≠ 0) : 10 ^ (d.length - 1) ≤ natVal d := by
  cases d with
  | nil => simp at hn
  | cons c r =>
    rw [natVal_cons]
    simp only [List.all_cons, Bool.and_eq_true] at hd
    have hc : 48 ≤ c.toNat := by have := hd.1; simp [isDig] at this; omega
    have : c.toNat ≠ 48 := fun e => by simp at h0; exact h0 (UInt8.toNat_inj.1 e)
    have := Nat.mul_le_mul_right (10 ^ r.length) (show 1 ≤ c.toNat - 48 by omega)
    simp only [List.length_cons, Nat.add_sub_cancel]
    omega
theorem natVal_short {a b : Str} (ha : a.all isDig = true) (hb : b.all isDig = true) (h0 : b.head? ≠ some 48) (h : a.length < b.length) : natVal a < natVal b := by
  have h1 := natVal_lt a ha
  have h2 := natVal_ge hb h0 (by omega)
  have h3 : 10 ^ a.length ≤ 10 ^ (b.length - 1) := Nat.pow_le_pow_right (by omega) (by omega)
  omega
theorem numCmp_sign (a b : Str) : numCmp a b = signI (val a - val b) := by
  have da := digits_dig a
  have db := digits_dig b
  have ha := digits_head a
  have hb := digits_head b
  have na : (digits a).2 = true → 0 < natVal (digits a).1 := fun h => by
    have := digits_neg a h
    have e : (digits a).1.length ≠ 0 := by intro e; apply this; rw [List.length_eq_zero_iff.1 e, groupsOf_nil]; rfl
    exact Nat.lt_of_lt_of_le (Nat.pow_pos (by omega)) (natVal_ge da ha e)
  have nb : (digits b).2 = true → 0 < natVal (digits b).1 := fun h => by
    have := digits_neg b h
    have e : (digits b).1.length ≠ 0 := by intro e; apply this; rw [List.length_eq_zero_iff.1 e, groupsOf_nil]; rfl
    exact Nat.lt_of_lt_of_le (Nat.pow_pos (by omega)) (natVal_ge db hb e)
  have key : (natVal (digits a).1 < natVal (digits b).1 ↔ (digits a).1.length < (digits b).1.length ∨ ((digits a).1.length = (digits b).1.length ∧ Str.lt (digits a).1 (digits b).1 = true)) ∧
      (natVal (digits b).1 < natVal (digits a).1 ↔ (digits b).1.length < (digits a).1.length ∨ ((digits a).1.length = (digits b).1.length ∧ Str.lt (digits b).1 (digits a).1 = true)) := by
    rcases Nat.lt_trichotomy (digits a).1.length (digits b).1.length with g | g | g
    · have := natVal_short da db hb g
      constructor <;> constructor <;> intro h <;> omega
    · rw [lt_val _ _ g da db, lt_val _ _ g.symm db da]
      constructor <;> constructor <;> intro h <;> omega
    · have := natVal_short db da ha g
      constructor <;> constructor <;> intro h <;> omega
  unfold numCmp signI val
  cases hna : (digits a).2 <;> cases hnb : (digits b).2 <;> simp only [hna, hnb] at na nb ⊢ <;> simp only [ne_eq, not_true, if_false, Bool.false_eq_true, if_true, not_false_iff, reduceCtorEq] <;> (repeat' split) <;> grind
end Go.T
namespace Go.T
open Go
theorem cmpD_eq (a b : Int) : cmpD a b = if a ≠ b then (if a < b then -1 else 1) else 0 := by unfold cmpD; grind
theorem cmpLn_eq (a b : Line) : cmpLn a b = if cmpLine a b ≠ 0 then cmpLine a b else numCmp a.amount b.amount := by
  unfold cmpLn
  rw [orI_cmp, ← numCmp_sign]
  simp only [orI]
  split
  · rfl
  · split
    · rfl
    · rename_i h; simp at h; exact h.symm
theorem cmpLs_eq : ∀ a b : List Line, cmpLs a b = cmpLines a b
  | [], [] => rfl
  | [], _ :: _ => rfl
  | _ :: _, [] => rfl
  | x :: a, y :: b => by
    simp only [cmpLs, cmpLines, cmpLs_eq a b, cmpLn_eq]
    grind
theorem cmpEn_eq : cmpEn = cmpE := by
  funext a b
  unfold cmpEn cmpE
  rw [cmpD_eq, cmpLs_eq]
  simp only [orI]
  grind
end Go.T
namespace Go.T
open Go
theorem lt_asymm : ∀ a b : Str, Str.lt a b = true → Str.lt b a = false
  | _, [], h => by simp [Str.lt, Op.bytesLess] at h
  | [], _ :: _, _ => by simp [Str.lt, Op.bytesLess]
  | c :: r, d :: s, h => by
    rw [lt_cons] at h ⊢
    have ih := lt_asymm r s
    simp only [Bool.or_eq_true, Bool.and_eq_true, decide_eq_true_eq] at h
    simp only [Bool.or_eq_false_iff, Bool.and_eq_false_iff, decide_eq_false_iff_not]
    rcases h with h | ⟨rfl, h⟩
    · exact ⟨by omega, .inl (by rintro rfl; omega)⟩
    · exact ⟨by omega, .inr (ih h)⟩
theorem cmpT_neg (a b : Str) : cmpT b a = -cmpT a b := by
  have h1 := lt_asymm a b
  have h2 := lt_asymm b a
  unfold cmpT
  cases ha : Str.lt a b <;> cases hb : Str.lt b a <;> simp_all
theorem signI_neg (n : Int) : signI (-n) = -signI n := by unfold signI; grind
theorem numCmp_neg (a b : Str) : numCmp b a = -numCmp a b := by
  rw [numCmp_sign, numCmp_sign, ← signI_neg]; congr 1; omega
theorem cmpLine_neg (a b : Line) : cmpLine b a = -cmpLine a b := by
  unfold cmpLine
  rw [cmpT_neg a.account b.account, cmpT_neg a.currency b.currency]
  grind
theorem cmpLines_neg : ∀ a b : List Line, cmpLines b a = -cmpLines a b
  | [], [] => rfl
  | [], _ :: _ => rfl
  | _ :: _, [] => rfl
  | x :: a, y :: b => by
    simp only [cmpLines, cmpLines_neg a b, cmpLine_neg x y, numCmp_neg x.amount y.amount]
    grind
theorem cmpE_neg (a b : Entry) : cmpE b a = -cmpE a b := by
  unfold cmpE
  rw [cmpT_neg a.cause b.cause, cmpLines_neg a.lines b.lines]
  grind
theorem insI_insR (r : List Entry) (x : Entry) : insI cmpE r x = insR r x := by
  induction r with
  | nil => rfl
  | cons y r ih =>
    simp only [insI, insR, ih]
    have := cmpE_neg x y
    split <;> split <;> first | rfl | omega
theorem sortI_eq (l : List Entry) : sortI cmpE l = sortE l := by
  unfold sortI sortE
  have : insI cmpE = insR := by funext r x; exact insI_insR r x
  rw [this]
theorem lessE_n0 (a : List Entry) : lessE a [] = a := by
  induction a with
  | nil => rfl
  | cons x a ih => simp only [lessE, List.dropWhile, ih]
theorem lessE_l0 {x y : Entry} {a b : List Entry} (h : cmpE y x < 0) : lessE (x :: a) (y :: b) = lessE (x :: a) b := by
  simp only [lessE, List.dropWhile, h, decide_true]
theorem lessE_e0 {x y : Entry} {a b : List Entry} (h : cmpE y x = 0) : lessE (x :: a) (y :: b) = lessE a b := by
  have : ¬ cmpE y x < 0 := by omega
  simp [lessE, List.dropWhile, h]
theorem lessE_g0 {x y : Entry} {a b : List Entry} (h : 0 < cmpE y x) : lessE (x :: a) (y :: b) = x :: lessE a (y :: b) := by
  have h1 : ¬ cmpE y x < 0 := by omega
  have h2 : cmpE y x ≠ 0 := by omega
  simp [lessE, List.dropWhile, h1, h2]
theorem mergeC_less : ∀ (n : Nat) (a b : List Entry), a.length + b.length ≤ n → mergeC cmpE n a b = (lessE a b, lessE b a)
  | n, [], b, _ => by rw [mergeC_nil1, lessE_n0]; rfl
  | n, x :: a, [], _ => by rw [mergeC_nil2, lessE_n0]; rfl
  | 0, x :: a, y :: b, h => by simp at h
  | n + 1, x :: a, y :: b, h => by
    simp only [List.length_cons] at h
    have hn := cmpE_neg x y
    simp only [mergeC]
    by_cases h1 : cmpE x y < 0
    · rw [if_pos h1, mergeC_less n a (y :: b) (by simp; omega), lessE_g0 (x := x) (y := y) (by omega), lessE_l0 (x := y) (y := x) h1]
    · rw [if_neg h1]
      by_cases h2 : 0 < cmpE x y
      · rw [if_pos h2, mergeC_less n (x :: a) b (by simp; omega), lessE_l0 (x := x) (y := y) (by omega), lessE_g0 (x := y) (y := x) h2]
      · rw [if_neg h2, mergeC_less n a b (by omega), lessE_e0 (x := x) (y := y) (by omega), lessE_e0 (x := y) (y := x) (by omega)]
theorem merge_minus (a b : List Entry) : mergeE cmpEn (sortI cmpEn a) (sortI cmpEn b) = (minusE a b, minusE b a) := by
  rw [cmpEn_eq, sortI_eq, sortI_eq]
  exact mergeC_less _ _ _ (Nat.le_refl _)
end Go.T
namespace Go.T
open Go Go.Proofs
theorem checkCl_mono : ∀ (l pre : List Close), checkCl pre l = 0 → ∀ p ∈ pre.getLast?, ∀ c ∈ l, p.known ≤ c.known
  | [], _, _, _, _, c, hc => by simp at hc
  | x :: l, pre, h, p, hp, c, hc => by
    simp only [checkCl] at h
    split at h
    · omega
    · split at h
      · omega
      · split at h
        · omega
        · rename_i hn
          have hpx : p.known ≤ x.known := by
            rcases snoc_cases pre with rfl | ⟨i, q, rfl⟩
            · simp at hp
            · simp at hp; subst hp; simp at hn; omega
          rcases List.mem_cons.1 hc with rfl | hc
          · exact hpx
          · exact Int.le_trans hpx (checkCl_mono l (pre ++ [x]) h x (by simp) c hc)
theorem opens_tail (known : Int) : ∀ (l : List Close) (out : Int), (∀ c ∈ l, ¬ c.known < known) → opensFrom l known out = out
  | [], out, _ => rfl
  | x :: l, out, h => by
    simp only [opensFrom]
    rw [if_neg (h x (by simp)), opens_tail known l out (fun c hc => h c (by simp [hc]))]
theorem opens_take (known : Int) : ∀ (l pre : List Close) (out : Int), checkCl pre l = 0 → opensFrom l known out = (l.takeWhile (fun c : Close => decide (c.known < known))).foldl (fun _ c => c.day + 1) out
  | [], _, _, _ => rfl
  | x :: l, pre, out, h => by
    have hm : checkCl (pre ++ [x]) l = 0 := by
      simp only [checkCl] at h
      split at h
      · omega
      · split at h
        · omega
        · split at h
          · omega
          · exact h
    by_cases hx : x.known < known
    · simp only [opensFrom, if_pos hx, List.takeWhile_cons, decide_eq_true hx, if_true, List.foldl_cons]
      exact opens_take known l (pre ++ [x]) _ hm
    · simp only [opensFrom, if_neg hx, List.takeWhile_cons, decide_eq_false hx, Bool.false_eq_true, if_false, List.foldl_nil]
      exact opens_tail known l out (fun c hc h => by have := checkCl_mono l (pre ++ [x]) hm x (by simp) c hc; omega)
theorem lastOpen_eq {l : List Close} {known : Int} (h : checkCloses l = 0) : lastOpen (l.takeWhile (fun c : Close => decide (c.known < known))) = opens l known := by
  unfold checkCloses at h
  split at h
  · omega
  · exact (opens_take known l [] (-25567) h).symm
theorem validE_append (a b : List Entry) : validE (a ++ b) = (validE a && validE b) := by simp [validE]
theorem steps_eq (a b : List Entry) (l : List Close) (known : Int) (by_ : Str) (ha : a.length ≤ 12) (hb : b.length ≤ 12) : stepP a b l known by_ = refStep a b l known by_ := by
  unfold stepP refStep
  have hc : (validE (a ++ b) = false ∨ checkCloses l ≠ 0) ↔ (validE a = false ∨ validE b = false ∨ checkCloses l ≠ 0) := by
    rw [validE_append, Bool.and_eq_false_iff, or_assoc]
  by_cases h1 : validE a = false ∨ validE b = false ∨ checkCloses l ≠ 0
  · rw [if_pos h1, if_pos (hc.2 h1)]
  · rw [if_neg h1, if_neg (fun h => h1 (hc.1 h))]
    split
    · rfl
    · split
      · rfl
      · have hcl : checkCloses l = 0 := by
          by_cases e : checkCloses l = 0
          · exact e
          · exact absurd (.inr (.inr e)) h1
        have hp : (chg a b).map (postE l known by_) = postings a b l known by_ := by
          unfold chg postings
          rw [merge_minus]
          simp only [List.map_append, List.map_map]
          congr 1
          · apply List.map_congr_left
            intro e _
            simp only [Function.comp, postE, lastOpen_eq hcl, opposite]
            rw [Int.max_comm]
          · apply List.map_congr_left
            intro e _
            simp only [postE, lastOpen_eq hcl]
            rw [Int.max_comm]
        have hlen : ¬ 10000 < (postings a b l known by_).length := by
          rw [← hp]
          have := mergeC_len cmpEn ((sortI cmpEn a).length + (sortI cmpEn b).length) (sortI cmpEn a) (sortI cmpEn b)
          rw [sortI_len, sortI_len] at this
          have e : mergeC cmpEn (a.length + b.length) (sortI cmpEn a) (sortI cmpEn b) = mergeE cmpEn (sortI cmpEn a) (sortI cmpEn b) := by unfold mergeE; rw [sortI_len, sortI_len]
          rw [e] at this
          simp [chg]; omega
        rw [if_neg hlen, hp]
theorem lawAll (a b : List Entry) (l : List Close) (known : Int) (by_ : Str) : Fc Tryz.prog 3 [sEntries a, sEntries b, sCloses l, .i known, .str by_] (.b true) :=
  law_ok a b l known by_ fun h1 h2 _ _ => by
    have g1 := great_small h1
    have g2 := great_small h2
    exact ⟨by omega, by omega, g1.2, g2.2, steps_eq a b l known by_ (by omega) (by omega)⟩
end Go.T
namespace Go.T
open Go
theorem val_canon (s : Str) : canon s = ofInt (val s) := by
  have h1 := digits_nat s
  have h2 := digits_neg s
  unfold canon val ofInt
  cases h : (digits s).2 with
  | true =>
    have : natVal (digits s).1 ≠ 0 := fun e => by
      rw [e, natDig_zero] at h1
      exact h2 h (by rw [h1, groupsOf_nil]; rfl)
    simp only [if_true]
    rw [if_pos (by omega), Int.natAbs_neg, Int.natAbs_natCast, ← h1]
  | false =>
    simp only [Bool.false_eq_true, if_false]
    rw [if_neg (by omega), Int.natAbs_natCast, ← h1]
theorem negS_ofInt (s : Str) : negS s = ofInt (-val s) := by
  have h1 := digits_nat s
  have h2 := digits_neg s
  unfold negS val ofInt
  cases h : (digits s).2 with
  | true =>
    simp only [if_true, true_or]
    rw [if_neg (by omega), Int.neg_neg, Int.natAbs_natCast, ← h1]
  | false =>
    simp only [Bool.false_eq_true, if_false, false_or]
    by_cases e : (digits s).1 = []
    · rw [if_pos e, e]
      simp [natVal, natDig_zero]
    · have : natVal (digits s).1 ≠ 0 := fun e' => by rw [e', natDig_zero] at h1; exact e h1
      rw [if_neg e, if_pos (by omega), Int.natAbs_neg, Int.natAbs_natCast, ← h1]
theorem canon_ofInt (n : Int) : canon (ofInt n) = ofInt n := by rw [val_canon, val_ofInt]
theorem val_negS (s : Str) : val (negS s) = -val s := by rw [negS_ofInt, val_ofInt]
theorem val_zero {s : Str} (h : canon s = s) : val s = 0 ↔ s = [] := by
  rw [val_canon] at h
  rw [← ofInt_nil, h]
def negL (l : Line) : Line := { l with amount := negS l.amount }
theorem fields_neg {l : Line} (h : checkFields l = 0) : checkFields (negL l) = 0 := by
  unfold checkFields at h ⊢
  have hn : checkNum (negL l).amount = 0 := by
    unfold checkNum negL
    rw [if_pos]
    rw [negS_ofInt, canon_ofInt]
  simp only [hn]
  simp only [negL] at *
  grind
theorem fields_num {l : Line} (h : checkFields l = 0) : canon l.amount = l.amount := by
  unfold checkFields at h
  have : checkNum l.amount = 0 := by grind
  unfold checkNum at this
  grind
theorem negL_nil {l : Line} (h : checkFields l = 0) (h0 : l.amount ≠ []) : (negL l).amount ≠ [] := by
  show negS l.amount ≠ []
  rw [negS_ofInt, ne_eq, ofInt_nil]
  have : val l.amount ≠ 0 := fun e => h0 ((val_zero (fields_num h)).1 e)
  omega
theorem cmpLine_negL (a b : Line) : cmpLine (negL a) (negL b) = cmpLine a b := rfl
theorem checkLines_neg : ∀ (l pre : List Line), checkLines pre l = 0 → checkLines (pre.map negL) (l.map negL) = 0
  | [], _, _ => rfl
  | x :: l, pre, h => by
    simp only [checkLines] at h
    split at h
    · contradiction
    · rename_i h1
      simp only [ne_eq, Classical.not_not] at h1
      split at h
      · omega
      · rename_i h2
        split at h
        · omega
        · rename_i h3
          simp only [List.map_cons, checkLines]
          rw [if_neg (by rw [fields_neg h1]; simp), if_neg (negL_nil h1 h2), if_neg]
          · have := checkLines_neg l (pre ++ [x]) h
            simpa using this
          · rintro ⟨g1, g2⟩
            apply h3
            refine ⟨by simpa using g1, ?_⟩
            rcases snoc_cases pre with rfl | ⟨i, q, rfl⟩
            · simp at g1
            · simp only [List.map_append, List.map_cons, List.map_nil, List.getLastD_concat] at g2 ⊢
              exact g2
theorem sumV_neg (c : Str) (l : List Line) : sumV c (l.map negL) = -sumV c l := by
  induction l with
  | nil => rfl
  | cons x l ih =>
    simp only [List.map_cons, sumV, ih]
    have : val (negL x).amount = -val x.amount := val_negS _
    rw [this]
    show (if x.currency = c then -val x.amount else 0) + _ = _
    split <;> omega
theorem balanced_neg {l : List Line} (h : balanced l = true) : balanced (l.map negL) = true := by
  unfold balanced at *
  rw [List.all_eq_true] at *
  intro x hx
  obtain ⟨y, hy, rfl⟩ := List.mem_map.1 hx
  have := h y hy
  simp only [decide_eq_true_eq] at this ⊢
  rw [sumV_neg]
  show -sumV y.currency l = 0
  omega
theorem checkE_parts {e : Entry} : checkE e = 0 ↔ checkHead e = 0 ∧ e.lines.length ≠ 0 ∧ e.lines.length ≤ 64 ∧ checkLines [] e.lines = 0 ∧ balanced e.lines = true := by
  unfold checkE; grind
theorem checkE_opposite {e : Entry} (h : checkE e = 0) : checkE (opposite e) = 0 := by
  rw [checkE_parts] at *
  have e1 : (opposite e).lines = e.lines.map negL := rfl
  rw [e1]
  exact ⟨h.1, by simpa using h.2.1, by simpa using h.2.2.1, checkLines_neg _ _ h.2.2.2.1, balanced_neg h.2.2.2.2⟩
theorem smallE_opposite {e : Entry} (h : smallE e) (h' : ∀ l ∈ e.lines, l.amount.length ≤ 13) : smallE (opposite e) := by
  refine ⟨h.1, by simpa [opposite] using h.2.1, fun l hl => ?_⟩
  obtain ⟨x, hx, rfl⟩ := List.mem_map.1 (show l ∈ e.lines.map negL from hl)
  have := h.2.2 x hx
  refine ⟨this.1, this.2.1, ?_⟩
  have h3 := digits_len x.amount
  have h4 := h' x hx
  show (negS x.amount).length ≤ 14
  unfold negS
  split
  · omega
  · simp; omega
end Go.T
namespace Go.T
open Go Go.Proofs
/-- The text of the laws' own name. -/
@[reducible] def kk : Str := [107]
def openD (l : List Close) (known : Int) : Int := lastOpen (l.takeWhile (fun c : Close => decide (c.known < known)))
def posts (a b : List Entry) (l : List Close) (known : Int) : List Posted := (chg a b).map (postE l known kk)
theorem validIn_parts {a b : List Entry} {l : List Close} (h : validIn a b l = true) : great a = false ∧ great b = false ∧ great49 l = false ∧ checkCloses l = 0 ∧ validE (a ++ b) = true := by
  simp only [validIn, Bool.and_eq_true, Bool.not_eq_true', decide_eq_true_eq] at h
  exact ⟨h.1.1.1.1, h.1.1.1.2, h.1.1.2, h.1.2, h.2⟩
theorem foldl_last (P : Int → Prop) : ∀ (l : List Close) (o : Int), P o → (∀ c ∈ l, P (c.day + 1)) → P (l.foldl (fun _ c => c.day + 1) o)
  | [], _, h, _ => h
  | x :: l, o, _, h => foldl_last P l (x.day + 1) (h x (by simp)) (fun c hc => h c (by simp [hc]))
theorem checkCl_range : ∀ (l pre : List Close), checkCl pre l = 0 → ∀ c ∈ l, -25567 ≤ c.day ∧ c.day < 84005
  | [], _, _, c, hc => by simp at hc
  | x :: l, pre, h, c, hc => by
    simp only [checkCl] at h
    split at h
    · omega
    · split at h
      · omega
      · split at h
        · omega
        · rcases List.mem_cons.1 hc with rfl | hc
          · omega
          · exact checkCl_range l _ h c hc
theorem checkCloses_days {l : List Close} (h : checkCloses l = 0) : ∀ c ∈ l, -25567 ≤ c.day ∧ c.day < 84005 := by
  unfold checkCloses at h
  split at h
  · omega
  · exact checkCl_range l [] h
theorem openD_valid {l : List Close} {known : Int} (h : checkCloses l = 0) : -25567 ≤ openD l known ∧ openD l known ≤ 84005 := by
  unfold openD lastOpen
  refine foldl_last (fun n => -25567 ≤ n ∧ n ≤ 84005) _ _ (by omega) (fun c hc => ?_)
  have := checkCloses_days h c ((List.takeWhile_sublist _).subset hc)
  omega
theorem amt13 {l : List Entry} (h : great l = false) : ∀ e ∈ l, ∀ x ∈ e.lines, x.amount.length ≤ 13 := by
  intro e he x hx
  unfold great at h
  rw [Bool.or_eq_false_iff] at h
  have h2 := List.any_eq_false.1 h.2 e he
  simp only [greatOne, Bool.or_eq_true, not_or, decide_eq_true_eq, List.any_eq_true, not_exists] at h2
  have h3 := h2.2 x
  simp only [greatLine, Bool.or_eq_true, decide_eq_true_eq, not_and, not_or] at h3
  have := h3 hx
  omega
theorem chg_mem {a b : List Entry} (ha : great a = false) (hb : great b = false) (hv : validE (a ++ b) = true) : ∀ e ∈ chg a b, checkE e = 0 ∧ smallE e := by
  intro e he
  unfold chg at he
  rcases List.mem_append.1 he with h | h
  · obtain ⟨x, hx, rfl⟩ := List.mem_map.1 h
    have hm : x ∈ a := (sortI_mem ..).1 ((mergeC_mem ..).1 hx)
    exact ⟨checkE_opposite (validE_mem hv x (List.mem_append_left _ hm)), smallE_opposite ((great_small ha).2 x hm) (amt13 ha x hm)⟩
  · have hm : e ∈ b := (sortI_mem ..).1 ((mergeC_mem ..).2 h)
    exact ⟨validE_mem hv e (List.mem_append_right _ hm), (great_small hb).2 e hm⟩
theorem chg_len (a b : List Entry) : (chg a b).length ≤ a.length + b.length := by
  have := mergeC_len cmpEn ((sortI cmpEn a).length + (sortI cmpEn b).length) (sortI cmpEn a) (sortI cmpEn b)
  rw [sortI_len, sortI_len] at this
  have e : mergeC cmpEn (a.length + b.length) (sortI cmpEn a) (sortI cmpEn b) = mergeE cmpEn (sortI cmpEn a) (sortI cmpEn b) := by unfold mergeE; rw [sortI_len, sortI_len]
  rw [e] at this
  simp [chg]; omega
theorem stepP_valid {a b : List Entry} {l : List Close} {known : Int} (h : validIn a b l = true) (hk : 1 ≤ known) : stepP a b l known kk = (posts a b l known, 0) := by
  obtain ⟨_, _, _, h4, h5⟩ := validIn_parts h
  unfold stepP posts
  rw [if_neg (by simp [h4, h5]), if_neg (by omega), if_neg (by decide)]
theorem stepD_ok (a b : List Entry) (l : List Close) (known : Int) (h : validIn a b l = true) (hk : 1 ≤ known) : Fc Tryz.prog 13 [sEntries a, sEntries b, sCloses l, .i known, .str kk] (.tup [sPosteds (posts a b l known), .i 0]) := by
  obtain ⟨h1, h2, _, _, _⟩ := validIn_parts h
  have g1 := great_small h1
  have g2 := great_small h2
  have := step_ok a b l known kk (by omega) (by omega) g1.2 g2.2
  rwa [stepP_valid h hk] at this
structure PostOK (l : List Close) (known : Int) (p : Posted) : Prop where
  day : p.day = max p.entry.day (openD l known)
  known : p.known = known
  by_ : p.by_ = kk
  check : checkE p.entry = 0
  small : smallE p.entry
  d1 : ¬ (p.day < -25567 ∨ 84005 < p.day)
  d2 : ¬ (p.entry.day < -25567 ∨ 84005 < p.entry.day)
theorem posts_ok {a b : List Entry} {l : List Close} {known : Int} (h : validIn a b l = true) : ∀ p ∈ posts a b l known, PostOK l known p := by
  obtain ⟨h1, h2, h3, h4, h5⟩ := validIn_parts h
  intro p hp
  obtain ⟨e, he, rfl⟩ := List.mem_map.1 hp
  obtain ⟨c1, c2⟩ := chg_mem h1 h2 h5 e he
  have hd := validDay_checkE c1
  have ho := openD_valid (known := known) h4
  refine ⟨rfl, rfl, rfl, c1, c2, ?_, hd⟩
  show ¬ (max e.day (openD l known) < -25567 ∨ 84005 < max e.day (openD l known))
  omega
theorem posts_len {a b : List Entry} {l : List Close} {known : Int} (h : validIn a b l = true) : (posts a b l known).length ≤ 20 := by
  obtain ⟨h1, h2, _, _, _⟩ := validIn_parts h
  have g1 := great_small h1
  have g2 := great_small h2
  have := chg_len a b
  simp only [posts, List.length_map]; omega
theorem adj_own {l : List Close} {known : Int} {p : Posted} (h : PostOK l known p) : adjP p = decide (p.entry.day < openD l known) := by
  unfold adjP
  rw [h.day]
  by_cases e : p.entry.day < openD l known
  · simp [e]; omega
  · simp [e]; omega
end Go.T
namespace Go.T
open Go Go.Proofs
set_option maxRecDepth 20000
theorem adj_count (pre : List Posted) (x : Posted) : (((pre ++ [x]).filter adjP).length : Int) = (pre.filter adjP).length + (if adjP x then 1 else 0) := by
  rw [List.filter_append]
  cases h : adjP x <;> simp [h]
structure lawDays_ok_L0 (a b : List Entry) (l : List Close) (n : Int) where
  pre : List Posted
  rest : List Posted
  hx : posts a b l (1 + n % 20) = pre ++ rest
theorem lawDays_ok (a b : List Entry) (l : List Close) (n : Int) (hn : 0 ≤ n ∧ n ≤ 255) : Fc Tryz.prog 4 [sEntries a, sEntries b, sCloses l, .raw (.int .u8 n)] (.b true) := by
  refine Fc.mk' [8] Tryz.func4 rfl Tryz.ntmps4 rfl rfl rfl (fun t w => results_tmp Tryz.results4 t _ w) ?_
  refine Run.seq (Run.reg [.p] ?_)
  refine .ag rfl rfl <| .nil ?_
  refine Run.seq (Run.reg [.p, .p, .p, .p, .p] ?_)
  refine .mv rfl rfl <| .p rfl trivial (fun _ => q_conv Tryz.underlying5 Tryz.underlying3 rfl (wrap64_ok (by first | omega | (simp; done) | (simp; omega) | (simp at *; omega)) (by first | omega | (simp; done) | (simp; omega) | (simp at *; omega))) _) <| .p rfl trivial (fun _ => q_rem rfl rfl (by decide) (Int.tmod_eq_emod_of_nonneg (b := 20) hn.1) _) <| .p rfl trivial (fun _ => q_add rfl rfl (wrap64_ok (by first | omega | (simp; done) | (simp; omega) | (simp at *; omega)) (by first | omega | (simp; done) | (simp; omega) | (simp at *; omega))) _) <| .ag rfl rfl <| .nil ?_
  refine Run.seq (Run.seq (Run.reg [.p, .p, .p, .p, .p] ?_))
  refine .mv rfl rfl <| .mv rfl rfl <| .mv rfl rfl <| .p rfl trivial (fun _ => q_call Tryz.call16 rfl (validIn_ok _ _ _) _) <| .p rfl trivial (fun _ => q_not rfl _) <| .nil ?_
  refine Run.cond rfl (fun h1 => ?_) (fun h1 => ?_)
  · have ph1 := h1
    try simp only [bs, bne_iff_ne, ne_eq, List.length_map] at ph1
    refine Run.seq (Run.reg [.p, .p] ?_)
    refine .p rfl trivial (fun _ => q_call Tryz.call12 rfl awake_ok _) <| .ag rfl rfl <| .nil ?_
    refine Run.ret (?_)
    exact ret1 rfl (Sub.bool (by first | rfl | (subst hpre; simp)))
  · have ph1 := h1
    try simp only [bs, bne_iff_ne, ne_eq, List.length_map] at ph1
    have hvi : validIn a b l = true := by simpa using ph1
    have hpo := posts_ok (known := 1 + n % 20) hvi
    have hpl := posts_len (known := 1 + n % 20) hvi
    obtain ⟨_, _, _, hcl, _⟩ := validIn_parts hvi
    have hcv := checkCloses_valid hcl
    refine Run.skip ?_
    refine Run.seq (Run.reg [.p, .p, .p, .p, .p, .p, .p, .p, .p, .p] ?_)
    refine .mv rfl rfl <| .mv rfl rfl <| .mv rfl rfl <| .mv rfl rfl <| .p rfl trivial (fun _ => q_call Tryz.call13 rfl (stepD_ok a b l (1 + n % 20) hvi (by omega)) _) <| .mv rfl rfl <| .p rfl trivial (fun _ => q_extract rfl rfl _) <| .p rfl trivial (fun _ => q_extract rfl rfl _) <| .ag rfl rfl <| .ag rfl rfl <| .nil ?_
    refine Run.seq (Run.seq (Run.reg [.p, .p] ?_))
    refine .mv rfl rfl <| .p rfl trivial (fun _ => q_neq rfl rfl _) <| .nil ?_
    refine Run.condF rfl (by simp) ?_
    refine Run.skip ?_
    refine Run.seq (Run.reg [.p] ?_)
    refine .ag rfl rfl <| .nil ?_
    refine Run.seq (Run.seq (Run.reg [.p, .p, .p] ?_))
    refine .mv rfl rfl <| .p rfl trivial (fun _ => q_lenI Tryz.underlying27 rfl _) <| .mv rfl rfl <| .nil ?_
    refine Run.block ?_
    refine Run.loop (ι := lawDays_ok_L0 a b l n) (fun sx => [(2, sCloses l), (9, .i (1 + n % 20)), (10, sPosteds (posts a b l (1 + n % 20))), (12, .i (sx.pre.filter adjP).length), (39, sPosteds (posts a b l (1 + n % 20))), (40, .i (posts a b l (1 + n % 20)).length), (41, .i sx.pre.length)]) (fun sx => []) (fun sx => sx.rest.length) ⟨[], _, rfl⟩ ?_ ?_
    · exact Le.mk rfl (.cons rfl (Sub.refl _) rfl (.cons rfl (Sub.int (by first | rfl | (simp; done) | omega | (simp; omega))) rfl (.cons rfl (Sub.refl _) rfl (.cons rfl (Sub.int (by first | rfl | (simp; done) | (simp only [hadj] at hct; grind))) rfl (.cons rfl (Sub.refl _) rfl (.cons rfl (Sub.int (by first | rfl | (simp; done) | omega | (simp; omega))) rfl (.cons rfl (Sub.int (by first | rfl | (simp; done) | omega | (simp; omega))) rfl .nil))))))) .nil
    · rintro ⟨pre, rest, hx⟩
      show Run _ _ _ _ [(2, sCloses l), (9, .i (1 + n % 20)), (10, sPosteds (posts a b l (1 + n % 20))), (12, .i (pre.filter adjP).length), (39, sPosteds (posts a b l (1 + n % 20))), (40, .i (posts a b l (1 + n % 20)).length), (41, .i pre.length)] []
      have hl := congrArg List.length hx
      simp only [List.length_append] at hl
      rcases rest with _ | ⟨x, rest⟩
      · have hpre : pre = posts a b l (1 + n % 20) := by rw [hx]; simp
        refine Run.seq (Run.reg [.p] ?_)
        refine .p rfl trivial (fun _ => q_lss rfl rfl _) <| .nil ?_
        refine Run.seq ?_
        refine Run.condF rfl (by simp at hl ⊢; omega) ?_
        refine Run.exit (tq_exit (bq_exit ?_))
        refine Run.seq (Run.reg [.p, .p, .p, .p, .p, .p, .p, .p, .p] ?_)
        refine .mv rfl rfl <| .p rfl trivial (fun _ => q_call Tryz.call19 rfl (adjusting_ok _ (by omega)) _) <| .p rfl trivial (fun _ => q_lenI Tryz.underlying27 rfl _) <| .mv rfl rfl <| .p rfl trivial (fun _ => q_eql rfl rfl _) <| .mv rfl rfl <| .gT rfl (.inl rfl) rfl rfl rfl (fun hg => pk (fun _ => q_call Tryz.call12 rfl awake_ok _)) <| .p rfl trivial (fun _ => q_and rfl rfl _) <| .ag rfl rfl <| .nil ?_
        refine Run.ret (?_)
        exact ret1 rfl (Sub.bool (by first | rfl | (subst hpre; simp)))
      · simp only [List.length_cons] at hl
        have hxo := hpo x (by rw [hx]; simp)
        have hxd := hxo.day
        have hadj := adj_own hxo
        have hct := adj_count pre x
        have hfl := List.length_filter_le adjP pre
        unfold openD at hxd hadj
        refine Run.seq (Run.reg [.p] ?_)
        refine .p rfl trivial (fun _ => q_lss rfl rfl _) <| .nil ?_
        refine Run.seq ?_
        refine Run.condT rfl (by simp; omega) ?_
        refine Run.skip ?_
        refine Run.seq ?_
        refine Run.block ?_
        refine Run.seq (Run.reg [.p, .p, .w, .w] ?_)
        refine .p rfl trivial (fun _ => q_indexI Tryz.underlying27 Tryz.sizeOf39 rfl rfl (by omega) (idx_mid encPosted hx rfl) _) <| .p rfl trivial (fun _ => q_loadIA Tryz.isAgg39 Tryz.sizeOf39 rfl rfl _) <| .w rfl trivial (q_alloc 0 Tryz.zeroValue39 rfl) <| .w rfl trivial (q_storeW Tryz.sizeOf39 rfl rfl rfl rfl rfl rfl) <| .nil ?_
        refine Run.seq (Run.reg [.p, .p, .p, .r, .p, .p, .p, .p, .p, .p] ?_)
        refine .mv rfl rfl <| .mv rfl rfl <| .p rfl trivial (fun _ => q_fieldB (n := 0) 34 0 Tryz.underlying39 Tryz.sizeOf34 rfl rfl _) <| .r rfl trivial (q_load1 Tryz.isAgg34 rfl rfl rfl) <| .p rfl trivial (fun _ => q_call Tryz.call17 rfl (closed_ok l (1 + n % 20) x.day hcl (by omega) hxo.d1 (by omega) hcv.1) _) <| .mv rfl rfl <| .p rfl trivial (fun _ => q_extract rfl rfl _) <| .p rfl trivial (fun _ => q_extract rfl rfl _) <| .ag rfl rfl <| .ag rfl rfl <| .nil ?_
        refine Run.seq (Run.reg [.p, .p, .p, .p, .r, .p, .p, .p, .p, .p, .p] ?_)
        refine .mv rfl rfl <| .mv rfl rfl <| .p rfl trivial (fun _ => q_fieldB (n := 2) 37 3 Tryz.underlying39 Tryz.sizeOf37 rfl rfl _) <| .p rfl trivial (fun _ => q_fieldB (n := 0) 34 0 Tryz.underlying37 Tryz.sizeOf34 rfl rfl _) <| .r rfl trivial (q_load1 Tryz.isAgg34 rfl rfl rfl) <| .p rfl trivial (fun _ => q_call Tryz.call17 rfl (closed_ok l (1 + n % 20) x.entry.day hcl (by omega) hxo.d2 (by omega) hcv.1) _) <| .mv rfl rfl <| .p rfl trivial (fun _ => q_extract rfl rfl _) <| .p rfl trivial (fun _ => q_extract rfl rfl _) <| .ag rfl rfl <| .ag rfl rfl <| .nil ?_
        refine Run.seq (Run.seq (Run.reg [.p, .p, .p, .p, .p, .p, .p, .p, .p, .p, .p, .p, .r, .p, .p, .r, .p, .p, .p, .p, .p, .r, .p, .p, .p, .p, .p, .r, .p, .p, .p, .p, .r, .p, .p, .p] ?_))
        refine .mv rfl rfl <| .p rfl trivial (fun _ => q_neq rfl rfl _) <| .mv rfl rfl <| .gF rfl (.inl rfl) rfl rfl rfl (fun hg => pk (fun _ => q_move rfl _)) <| .gF rfl (.inl rfl) rfl rfl rfl (fun hg => pk (fun _ => q_neq (opT rfl (nt hg)) rfl _)) <| .p rfl trivial (fun _ => q_or rfl rfl _) <| .mv rfl rfl <| .gF rfl (.inl rfl) rfl rfl rfl (fun hg => pk (fun _ => q_move rfl _)) <| .p rfl trivial (fun _ => q_or rfl rfl _) <| .mv rfl rfl <| .gF rfl (.inl rfl) rfl rfl rfl (fun hg => pk (fun _ => q_move rfl _)) <| .gF rfl (.inl rfl) rfl rfl rfl (fun hg => pk (fun _ => q_fieldB (n := 0) 34 0 Tryz.underlying39 Tryz.sizeOf34 rfl rfl _)) <| .gF rfl (.inr rfl) rfl rfl rfl (fun hg => rk (q_load1 Tryz.isAgg34 (opT rfl (nt hg)) rfl rfl)) <| .gF rfl (.inl rfl) rfl rfl rfl (fun hg => pk (fun _ => q_fieldB (n := 2) 37 3 Tryz.underlying39 Tryz.sizeOf37 rfl rfl _)) <| .gF rfl (.inl rfl) rfl rfl rfl (fun hg => pk (fun _ => q_fieldB (n := 0) 34 0 Tryz.underlying37 Tryz.sizeOf34 rfl (opT rfl (nt hg)) _)) <| .gF rfl (.inr rfl) rfl rfl rfl (fun hg => rk (q_load1 Tryz.isAgg34 (opT rfl (nt hg)) rfl rfl)) <| .gF rfl (.inl rfl) rfl rfl rfl (fun hg => pk (fun _ => q_eql (opT rfl (nt hg)) (opT rfl (nt hg)) _)) <| .gF rfl (.inl rfl) rfl rfl rfl (fun hg => pk (fun _ => q_eqlB Tryz.underlying4 (opT rfl (nt hg)) (opT rfl (nt hg)) _)) <| .p rfl trivial (fun _ => q_or rfl rfl _) <| .mv rfl rfl <| .gF rfl (.inl rfl) rfl rfl rfl (fun hg => pk (fun _ => q_fieldB (n := 0) 3 1 Tryz.underlying39 Tryz.sizeOf3 rfl rfl _)) ?_
        refine .gF rfl (.inr rfl) rfl rfl rfl (fun hg => rk (q_load1 Tryz.isAgg3 (opT rfl (nt hg)) rfl rfl)) <| .gF rfl (.inl rfl) rfl rfl rfl (fun hg => pk (fun _ => q_move rfl _)) <| .gF rfl (.inl rfl) rfl rfl rfl (fun hg => pk (fun _ => q_neq (opT rfl (nt hg)) (opT rfl (nt hg)) _)) <| .p rfl trivial (fun _ => q_or rfl rfl _) <| .mv rfl rfl <| .gF rfl (.inl rfl) rfl rfl rfl (fun hg => pk (fun _ => q_fieldB (n := 0) 9 2 Tryz.underlying39 Tryz.sizeOf9 rfl rfl _)) <| .gF rfl (.inr rfl) rfl rfl rfl (fun hg => rk (q_load1 Tryz.isAgg9 (opT rfl (nt hg)) rfl rfl)) <| .gF rfl (.inl rfl) rfl rfl rfl (fun hg => pk (fun _ => q_neqS (opT rfl (nt hg)) rfl _)) <| .p rfl trivial (fun _ => q_or rfl rfl _) <| .mv rfl rfl <| .gF rfl (.inl rfl) rfl rfl rfl (fun hg => pk (fun _ => q_fieldB (n := 2) 37 3 Tryz.underlying39 Tryz.sizeOf37 rfl rfl _)) <| .gF rfl (.inr rfl) rfl rfl rfl (fun hg => rk (q_loadA Tryz.isAgg37 Tryz.sizeOf37 (opT rfl (nt hg)) rfl (by simp) rfl)) <| .gF rfl (.inl rfl) rfl rfl rfl (fun hg => pk (fun _ => q_call Tryz.call18 (opsC (opT rfl (nt hg)) (rfl)) (check_ok _ hxo.small) _)) <| .gF rfl (.inl rfl) rfl rfl rfl (fun hg => pk (fun _ => q_neq (opT rfl (nt hg)) rfl _)) <| .p rfl trivial (fun _ => q_or rfl rfl _) <| .nil ?_
        refine Run.condF rfl (by simp [hxo.known, hxo.by_, hxo.check]; omega) ?_
        refine Run.skip ?_
        refine Run.seq (Run.reg [.p] ?_)
        refine .mv rfl rfl <| .nil ?_
        refine Run.cond rfl (fun h2 => ?_) (fun h2 => ?_)
        · have ph2 := h2
          try simp only [bs, bne_iff_ne, ne_eq, List.length_map] at ph2
          refine Run.reg [.p, .p, .p] ?_
          refine .mv rfl rfl <| .p rfl trivial (fun _ => q_add rfl rfl (wrap64_ok (by first | omega | (simp; done) | (simp; omega) | (simp at *; omega)) (by first | omega | (simp; done) | (simp; omega) | (simp at *; omega))) _) <| .ag rfl rfl <| .nil ?_
          refine Run.nil (bq_norm ?_)
          refine Run.reg [.p, .p] ?_
          refine .p rfl trivial (fun _ => q_add rfl rfl (wrap64_ok (by first | omega | (simp; done) | (simp; omega) | (simp at *; omega)) (by first | omega | (simp; done) | (simp; omega) | (simp at *; omega))) _) <| .mv rfl rfl <| .nil ?_
          refine Run.nil (tq_norm ?_)
          exact ⟨⟨pre ++ [x], rest, by simp [hx]⟩, by simp, Le.mk rfl (.cons rfl (Sub.refl _) rfl (.cons rfl (Sub.int (by first | rfl | (simp; done) | omega | (simp; omega))) rfl (.cons rfl (Sub.refl _) rfl (.cons rfl (Sub.int (by first | rfl | (simp; done) | (simp only [hadj] at hct; grind))) rfl (.cons rfl (Sub.refl _) rfl (.cons rfl (Sub.int (by first | rfl | (simp; done) | omega | (simp; omega))) rfl (.cons rfl (Sub.int (by first | rfl | (simp; done) | omega | (simp; omega))) rfl .nil))))))) .nil⟩
        · have ph2 := h2
          try simp only [bs, bne_iff_ne, ne_eq, List.length_map] at ph2
          refine Run.skip ?_
          refine Run.nil (bq_norm ?_)
          refine Run.reg [.p, .p] ?_
          refine .p rfl trivial (fun _ => q_add rfl rfl (wrap64_ok (by first | omega | (simp; done) | (simp; omega) | (simp at *; omega)) (by first | omega | (simp; done) | (simp; omega) | (simp at *; omega))) _) <| .mv rfl rfl <| .nil ?_
          refine Run.nil (tq_norm ?_)
          exact ⟨⟨pre ++ [x], rest, by simp [hx]⟩, by simp, Le.mk rfl (.cons rfl (Sub.refl _) rfl (.cons rfl (Sub.int (by first | rfl | (simp; done) | omega | (simp; omega))) rfl (.cons rfl (Sub.refl _) rfl (.cons rfl (Sub.int (by first | rfl | (simp; done) | (simp only [hadj] at hct; grind))) rfl (.cons rfl (Sub.refl _) rfl (.cons rfl (Sub.int (by first | rfl | (simp; done) | omega | (simp; omega))) rfl (.cons rfl (Sub.int (by first | rfl | (simp; done) | omega | (simp; omega))) rfl .nil))))))) .nil⟩
end Go.T
namespace Go.T
open Go
def noO : Nat → Prop := fun _ => False
/-- What is read as data of the type is described by typed data. -/
structure Dec (P : Program) (t : TypeId) (α : Type) (enc : α → List D) : Prop where
  out : ∀ {H : Type} {eH : TypeId × Value → H} {w : World} {fuel : Nat} {cs : List Value} {x : DataW H × List MemPlace}, DataW.trod eH P w 0 (fun _ => true) true fuel t cs = some x → (∀ n ∈ x.1.weights P t, n ≤ reachBytes) →
    ∃ a : α, (∀ u ∈ cs, u.oneCell' = true) ∧ Vs w noO rho0 (enc a) cs
theorem Dec.int {P : Program} {t : TypeId} (ht : P.underlying t = some (.int .i64)) : Dec P t Int (fun n => [.i n]) := ⟨fun h _ => by
  obtain ⟨n, rfl, _, _⟩ := DataW.trod_int ht h
  exact ⟨n, by simp [Value.oneCell'], by simp [Vs, V]⟩⟩
theorem Dec.bool {P : Program} {t : TypeId} (ht : P.underlying t = some .bool) : Dec P t Bool (fun n => [.b n]) := ⟨fun h _ => by
  obtain ⟨n, rfl, _⟩ := DataW.trod_bool ht h
  exact ⟨n, by simp [Value.oneCell'], by simp [Vs, V]⟩⟩
theorem Dec.str {P : Program} {t : TypeId} (ht : P.underlying t = some .string) : Dec P t Str (fun n => [.str n]) := ⟨fun h hw => by
  obtain ⟨s, rfl, rfl, _⟩ := DataW.trod_string ht h
  have := hw s.data.toList.length (by simp [DataW.weights])
  refine ⟨s.data.toList, by simp [Value.oneCell'], ?_⟩
  simp only [Vs, V]
  refine ⟨_, _, rfl, ⟨by simp, ?_⟩, rfl⟩
  have := reachBytes_lt
  unfold big
  omega⟩
/-- The fields of a struct, from an offset on. -/
structure DecF (P : Program) (fs : List Field) (off : Nat) (α : Type) (enc : α → List D) : Prop where
  out : ∀ {H : Type} {eH : TypeId × Value → H} {w : World} {fuel : Nat} {cs : List Value} {xs : List (DataW H × List MemPlace)}, xs.length = fs.length →
    (∀ (i : Nat) (f : Field), fs[i]? = some f → DataW.trod eH P w 0 (fun _ => true) true fuel f.type ((cs.drop f.offset).take (P.cellsOf f.type)) = xs[i]?) → (∀ n ∈ DataW.weightsEach P (fs.map (·.type)) (xs.map (·.1)), n ≤ reachBytes) →
    ∃ a : α, (∀ u ∈ (cs.drop off).take ((fs.map fun f => P.cellsOf f.type).sum), u.oneCell' = true) ∧ Vs w noO rho0 (enc a) ((cs.drop off).take ((fs.map fun f => P.cellsOf f.type).sum))
theorem DecF.nil {P : Program} {off : Nat} : DecF P [] off Unit (fun _ => []) := ⟨fun _ _ _ => ⟨(), by simp, by simp [Vs]⟩⟩
theorem Vs.app {w : World} {O : Nat → Prop} {ρ : Rho} : ∀ {ds es : List D} {us vs : List Value}, Vs w O ρ ds us → Vs w O ρ es vs → Vs w O ρ (ds ++ es) (us ++ vs)
  | [], es, us, vs, h, h' => by simp only [Vs] at h; subst h; simpa using h'
  | d :: ds, es, us, vs, h, h' => by
    simp only [Vs] at h
    obtain ⟨u, us, rfl, h1, h2⟩ := h
    simp only [List.cons_append, Vs]
    exact ⟨_, _, rfl, h1, Vs.app h2 h'⟩
theorem DecF.cons {P : Program} {f : Field} {fs : List Field} {off n : Nat} {α β : Type} {enc : α → List D} {enc' : β → List D} (h1 : Dec P f.type α enc) (ho : f.offset = off) (hn : P.cellsOf f.type = n) (h2 : DecF P fs (off + n) β enc') : DecF P (f :: fs) off (α × β) (fun x => enc x.1 ++ enc' x.2) := ⟨fun {H eH w fuel cs xs} hl hr hw => by
  match xs, hl with
  | x :: xs, hl =>
    have hx := hr 0 f rfl
    simp only [List.map_cons, DataW.weightsEach, List.mem_append] at hw
    obtain ⟨a, ha, hva⟩ := h1.out (by simpa using hx) (fun n hn => hw n (.inl hn))
    obtain ⟨b, hb, hvb⟩ := h2.out (xs := xs) (by simpa using hl) (fun i g hg => by simpa using hr (i + 1) g (by simpa using hg)) (fun n hn => hw n (.inr hn))
    rw [ho, hn] at ha hva
    have e : (cs.drop off).take (((f :: fs).map fun f => P.cellsOf f.type).sum) = (cs.drop off).take n ++ (cs.drop (off + n)).take ((fs.map fun f => P.cellsOf f.type).sum) := by
      rw [List.map_cons, List.sum_cons, hn, List.take_add, List.drop_drop]
    rw [e]
    exact ⟨(a, b), fun u hu => (List.mem_append.1 hu).elim (ha u) (hb u), Vs.app hva hvb⟩⟩
theorem Dec.struct {P : Program} {t : TypeId} {fs : List Field} {α : Type} {enc : α → List D} (ht : P.underlying t = some (.struct fs.toArray)) (hc : P.cellsOf t = (fs.map fun f => P.cellsOf f.type).sum) (h : DecF P fs 0 α enc) : Dec P t α enc := ⟨fun {H eH w fuel cs x} hr hw => by
  obtain ⟨xs, n, _, rfl, hl, hlen, hf⟩ := DataW.trod_struct ht hr
  simp only [DataW.weights, ht, List.map_map] at hw
  obtain ⟨a, h1, h2⟩ := h.out (by simpa using hlen) (fun i f hi => hf i f (by simpa using hi)) (fun n hn => hw n (by simpa [Function.comp_def] using hn))
  have e : (cs.drop 0).take ((fs.map fun f => P.cellsOf f.type).sum) = cs := by
    rw [List.drop_zero, ← hc, ← hl, List.take_length]
  rw [e] at h1 h2
  exact ⟨a, h1, h2⟩⟩
theorem Dec.map {P : Program} {t : TypeId} {α β : Type} {enc : α → List D} {enc' : β → List D} (h : Dec P t α enc) (f : α → β) (he : ∀ a, enc' (f a) = enc a) : Dec P t β enc' := ⟨fun hr hw => by
  obtain ⟨a, h1, h2⟩ := h.out hr hw
  exact ⟨f a, h1, by rw [he]; exact h2⟩⟩
theorem Vs.toVc {w : World} {O : Nat → Prop} {b : Nat} : ∀ {ds : List D} {cs : List Value} {off : Nat}, Vs w O rho0 ds cs → (∀ u ∈ cs, u.oneCell' = true) → (∀ j u, cs[j]? = some u → w.cell? ⟨b, off + j, none⟩ = some u) → Vc w O b off ds
  | [], _, _, _, _, _ => by simp [Vc]
  | d :: ds, cs, off, h, h1, hc => by
    simp only [Vs] at h
    obtain ⟨u, us, rfl, h2, h3⟩ := h
    simp only [Vc]
    refine ⟨⟨u, ⟨by simpa using hc 0 u rfl, h1 u List.mem_cons_self⟩, h2⟩, Vs.toVc h3 (fun v hv => h1 v (List.mem_cons_of_mem _ hv)) (fun j v hj => ?_)⟩
    have := hc (j + 1) v (by simpa using hj)
    rwa [show off + (j + 1) = off + 1 + j by omega] at this
theorem cells_get {w : World} {a : Addr} {n : Nat} {cs : List Value} (h : w.cells? 0 a n = some cs) : cs.length = n ∧ ∀ j, j < n → w.cell? (a.add j) = cs[j]? := by
  unfold World.cells? at h
  rw [if_pos (Nat.zero_le _)] at h
  exact ⟨by simpa using mapM_some_length h, fun j hj => by simpa using mapM_some_get h j j (by simp [hj])⟩
theorem spot_none {w : World} {a : Addr} {u : Value} (h : w.cell? a = some u) : a.spot = none := by
  cases hsp : a.spot with
  | none => rfl
  | some s =>
    simp only [World.cell?] at h
    split at h
    · simp [hsp] at h
    · cases h
theorem Vr_of {w : World} {b sz : Nat} {α : Type} {enc : α → List D} : ∀ {l : List α} {off : Nat}, (∀ i a, l[i]? = some a → (enc a).length = sz ∧ Vc w noO b (off + i * sz) (enc a)) → Vr w noO b off sz (l.map enc)
  | [], _, _ => by simp [Vr]
  | a :: l, off, h => by
    simp only [List.map_cons, Vr]
    refine ⟨by simpa using h 0 a rfl, Vr_of fun i a' hi => ?_⟩
    have := h (i + 1) a' (by simpa using hi)
    rwa [show off + (i + 1) * sz = off + sz + i * sz by rw [Nat.add_mul]; omega] at this
theorem exists_list {α : Type} {p : Nat → α → Prop} : ∀ (n : Nat), (∀ i, i < n → ∃ a, p i a) → ∃ l : List α, l.length = n ∧ ∀ i a, l[i]? = some a → p i a
  | 0, _ => ⟨[], rfl, by simp⟩
  | n + 1, h => by
    obtain ⟨l, h1, h2⟩ := exists_list n (fun i hi => h i (by omega))
    obtain ⟨a, ha⟩ := h n (by omega)
    refine ⟨l ++ [a], by simp [h1], fun i a' hi => ?_⟩
    by_cases e : i < l.length
    · rw [List.getElem?_append_left e] at hi; exact h2 i a' hi
    · rw [List.getElem?_append_right (by omega)] at hi
      have : i = n := by
        by_cases e2 : i - l.length = 0
        · omega
        · simp [List.getElem?_cons, e2] at hi
      subst this
      simp [h1] at hi
      subst hi
      exact ha
theorem weightsAll_mem {H : Type} {P : Program} {e : TypeId} : ∀ {ds : List (DataW H)} {i : Nat} {d : DataW H}, ds[i]? = some d → ∀ n ∈ d.weights P e, n ∈ DataW.weightsAll P e ds
  | d0 :: ds, 0, d, h, n, hn => by
    simp only [List.getElem?_cons_zero, Option.some.injEq] at h
    subst h
    simp only [DataW.weightsAll, List.mem_append]
    exact .inl hn
  | d0 :: ds, i + 1, d, h, n, hn => by
    simp only [DataW.weightsAll, List.mem_append]
    exact .inr (weightsAll_mem (by simpa using h) n hn)
  | [], _, _, h, _, _ => by simp at h
theorem Dec.slice {P : Program} {t e : TypeId} {α : Type} {enc : α → List D} {sz k : Nat} (ht : P.underlying t = some (.slice e)) (hc : P.cellsOf e = sz) (hz : sz ≠ 0) (hb : P.bytesOf e = k + 1) (h : Dec P e α enc) (hl : ∀ a, (enc a).length = sz) : Dec P t (List α) (fun l => [.snap sz false (l.map enc)]) := ⟨fun {H eH w fuel cs x} hr hw => by
  rcases DataW.trod_slice ht hr with ⟨rfl, rfl⟩ | ⟨a, len, cap, elems, rest, n, rfl, rfl, rfl, _, hlc, hcap, hel, hget, hsp, _⟩
  · refine ⟨[], by simp [Value.oneCell'], ?_⟩
    simp only [Vs, V, List.map_nil]
    exact ⟨_, _, rfl, ⟨none, 0, rfl, ⟨Nat.le_refl _, by simp⟩, by simp, by simp⟩, rfl⟩
  · simp only [DataW.weights, ht, List.mem_cons, List.mem_append, hb] at hw
    have hlen : len ≤ big := by
      have h1 := hw _ (.inl rfl)
      simp only [List.length_map, hel] at h1
      have h2 := reachBytes_lt
      have h3 : len + rest.length ≤ (len + rest.length) * (k + 1) := Nat.le_mul_of_pos_right _ (by omega)
      unfold big
      omega
    have hq : ∀ i, i < len → ∃ y : α, (enc y).length = sz ∧ ∃ cs : List Value, cs.length = sz ∧ (∀ u ∈ cs, u.oneCell' = true) ∧ Vs w noO rho0 (enc y) cs ∧ ∀ j, j < sz → w.cell? ((a.add (i * sz)).add j) = cs[j]? := by
      intro i hi
      have hg := hget i hi
      rw [hc] at hg
      have hi' : i < elems.length := by omega
      rw [List.getElem?_eq_getElem hi'] at hg
      obtain ⟨cs, hcs, hg⟩ := Option.bind_eq_some_iff.1 hg
      obtain ⟨y, h1, h2⟩ := h.out hg (fun n hn => hw n (.inr (.inl (weightsAll_mem (i := i) (d := elems[i].1) (by simp [hi']) n hn))))
      obtain ⟨h3, h4⟩ := cells_get hcs
      exact ⟨y, hl y, cs, h3, h1, h2, h4⟩
    obtain ⟨l, hll, hp⟩ := exists_list len hq
    refine ⟨l, by simp [Value.oneCell'], ?_⟩
    simp only [Vs, V, List.length_map]
    refine ⟨_, _, rfl, ⟨some a, cap, by rw [hll], ⟨by omega, by omega⟩, by simp, fun hne => ?_⟩, rfl⟩
    have hpos : 0 < len := by
      cases l with
      | nil => simp at hne
      | cons _ _ => simp at hll; omega
    have h0 : ∃ u, w.cell? a = some u := by
      obtain ⟨y, _, cs, h1, _, _, h4⟩ := hq 0 hpos
      have h5 := h4 0 (by omega)
      have h6 : 0 < cs.length := by omega
      rw [List.getElem?_eq_getElem h6] at h5
      exact ⟨cs[0], by simpa [Addr.add] using h5⟩
    obtain ⟨u, hu⟩ := h0
    have hs := spot_none hu
    obtain ⟨b, off, sp⟩ := a
    simp only at hs
    subst hs
    refine ⟨b, off, rfl, ⟨cell_lt hu, fun h => h⟩, Vr_of fun i y hi => ?_⟩
    obtain ⟨g1, cs, g2, g3, g4, g5⟩ := hp i y hi
    refine ⟨g1, Vs.toVc g4 g3 fun j v hj => ?_⟩
    have hj' : j < sz := by
      have := (List.getElem?_eq_some_iff.1 hj).1
      omega
    rw [← hj, ← g5 j hj']
    congr 1
    unfold Addr.add
    by_cases e1 : i * sz = 0 <;> by_cases e2 : j = 0 <;> simp [e1, e2]⟩
end Go.T
namespace Go.T
open Go Go.ChangeShapes Go.WideShapes Go.RowKit Go.ChangeAt
structure DecL (P : Program) (ts : List TypeId) (α : Type) (enc : α → List D) : Prop where
  out : ∀ {H : Type} {eH : TypeId × Value → H} {w : World} {base : Nat} {vs : List Value} {ds : List (DataW H)} {p : List MemPlace}, DataW.TrodAll eH P w 0 (fun _ => true) true ts vs ds p →
    (∀ (j : Nat) t v, ts[j]? = some t → vs[j]? = some v → Value.okWide P w .any base t v) → (∀ n ∈ DataW.weightsEach P ts ds, n ≤ reachBytes) → ∃ a : α, Vs w noO rho0 (enc a) vs
def OneTy (P : Program) (t : TypeId) : Prop := ∀ w base v, Value.okWide P w .any base t v → v.cells.toList = [v]
theorem OneTy.slice {P : Program} {t e : TypeId} (ht : P.underlying t = some (.slice e)) : OneTy P t := fun w base v h => by
  obtain ⟨a, l, c, rfl⟩ := okWide_slice ht h; rfl
theorem OneTy.str {P : Program} {t : TypeId} (ht : P.underlying t = some .string) : OneTy P t := fun w base v h => by
  obtain ⟨a, rfl⟩ := okWide_string ht h; rfl
theorem OneTy.int {P : Program} {t : TypeId} {k : IntKind} (ht : P.underlying t = some (.int k)) : OneTy P t := fun w base v h => by
  obtain ⟨a, rfl⟩ := okWide_int ht h; rfl
theorem DecL.nil {P : Program} : DecL P [] Unit (fun _ => []) := ⟨fun {H eH w base vs ds p} h _ _ => by
  match vs, ds, h with
  | [], [], _ => exact ⟨(), by simp [Vs]⟩⟩
theorem DecL.cons {P : Program} {t : TypeId} {ts : List TypeId} {α β : Type} {e : α → D} {enc : β → List D} (h1 : Dec P t α (fun a => [e a])) (ho : OneTy P t) (h2 : DecL P ts β enc) : DecL P (t :: ts) (α × β) (fun x => e x.1 :: enc x.2) := ⟨fun {H eH w base vs ds p} h hv hw => by
  match vs, ds, h with
  | v :: vs, d :: ds, ⟨p1, q1, ⟨fuel, hf⟩, h4, _⟩ =>
    simp only [DataW.weightsEach, List.mem_append] at hw
    obtain ⟨b, hb⟩ := h2.out h4 (fun j t v ht hv' => hv (j + 1) t v (by simpa using ht) (by simpa using hv')) (fun n hn => hw n (.inr hn))
    rw [ho w base v (hv 0 t v rfl rfl)] at hf
    obtain ⟨a, _, ha⟩ := h1.out hf (fun n hn => hw n (.inl hn))
    simp only [Vs] at ha
    obtain ⟨u, us, e1, ha, rfl⟩ := ha
    cases e1
    exact ⟨(a, b), v, vs, rfl, ha, hb⟩⟩
theorem Keep.keptBut {w w' : World} (h : Keep w w') (may : MemPlace → Prop) : w.keptBut w' may := by
  refine ⟨h.os.1, h.os.2, fun i hi => ?_⟩
  rw [h.same i hi]
  split <;> simp_all
theorem Keep.sameAt {w w' : World} (h : Keep w w') {p : MemPlace} (hp : p.block < w.heap.size) : w.sameAt w' p := by
  cases p with
  | cell b off =>
    simp only [MemPlace.block] at hp
    simp [World.sameAt, World.cell?, h.same b hp]
  | map b => exact h.same b hp
theorem trodAll_keep {H : Type} {eH : TypeId × Value → H} {P : Program} {w w' : World} {sp : Nat → Bool} (hk : Keep w w') : ∀ {ts : List TypeId} {vs : List Value} {ds : List (DataW H)} {p : List MemPlace}, DataW.TrodAll eH P w 0 sp true ts vs ds p → (∀ x ∈ p, x.block < w.heap.size) → DataW.TrodAll eH P w' 0 sp true ts vs ds p
  | [], vs, ds, p, h, _ => by
    match vs, ds, h with
    | [], [], h => exact h
  | t :: ts, vs, ds, p, h, hp => by
    match vs, ds, h with
    | v :: vs, d :: ds, ⟨p1, q1, ⟨fuel, hf⟩, h4, e⟩ =>
      subst e
      exact ⟨p1, q1, ⟨fuel, DataW.trod_carry _ _ _ _ hf fun x hx => hk.sameAt (hp x (List.mem_append_left _ hx))⟩, trodAll_keep hk h4 (fun x hx => hp x (List.mem_append_right _ hx)), rfl⟩
theorem trodAll_len {H : Type} {eH : TypeId × Value → H} {P : Program} {w : World} {sp : Nat → Bool} : ∀ {ts : List TypeId} {vs : List Value} {ds : List (DataW H)} {p : List MemPlace}, DataW.TrodAll eH P w 0 sp true ts vs ds p → ds.length = ts.length
  | [], vs, ds, p, h => by
    match vs, ds, h with
    | [], [], h => rfl
  | t :: ts, vs, ds, p, h => by
    match vs, ds, h with
    | v :: vs, d :: ds, ⟨p1, q1, _, h4, e⟩ => simp [trodAll_len h4]
theorem law_contract {P : Program} {f : FuncId} {fn : Func} {s : ChangeSpec} {α : Type} {encs : α → List D} {tb : TypeId}
    (hkids : Kids P (· < P.types.size)) (hfull : ∀ t e, t < P.types.size → P.underlying t = some (.slice e) → 0 < P.cellsOf e)
    (hts : ∀ t ∈ fn.params.toList, t < P.types.size) (hvars : s.vars = []) (hres : fn.resultTypes = #[tb]) (hb : P.underlying tb = some .bool)
    (hsp : ∀ (H : Type) (ds : List (DataW H)), ds.length = fn.params.size → s.fn H ds = { results := [.lit (.bool true)], args := ds })
    (hdec : DecL P fn.params.toList α encs) (hlaw : ∀ a, Fc P f (encs a) (.b true))
    {H : Type} {enc : TypeId × Value → H} {W : World} {base : Nat} {args : Array Value} {ds gs : List (DataW H)} {before : List MemPlace}
    (hval : ∀ (j : Nat) t v, fn.params[j]? = some t → args[j]? = some v → Value.okWide P W .any base t v)
    (hW : DataW.Whole enc P fn.params.toList s.vars false W args.toList ds gs before)
    (hsz : (DataW.weightsEach P (fn.params.toList ++ s.plain.varTypes P) (ds ++ gs)).all (· ≤ reachBytes) = true) (hgl : Gl W noO) :
    Calls P f args W fun e W' => ∃ v, e = .returned v ∧ s.post enc P fn false true false false W args v W' := by
  have hW' := hW
  obtain ⟨p, q, hA, hV, rfl, _, _⟩ := hW
  rw [hvars] at hV
  obtain ⟨rfl, rfl⟩ := trodVars_none hV
  have hvt : s.plain.varTypes P = [] := by simp [ChangeSpec.plain, DataSpec.varTypes, hvars]
  rw [hvt, List.append_nil, List.append_nil] at hsz
  obtain ⟨a, ha⟩ := hdec.out hA (fun j t v ht hv => hval j t v (by simpa using ht) (by simpa using hv)) (fun n hn => by simpa using List.all_eq_true.1 hsz n hn)
  have hlen := trodAll_len hA
  have hlt : ∀ x ∈ p, x.block < W.heap.size := fun x hx => hA.lt x hx
  refine ((hlaw a).out W noO rho0 args.toList (fun b h => h.elim) hgl ha).mono ?_
  rintro e W' ⟨v, rfl, hv, hk⟩
  simp only [V] at hv
  subst hv
  have hf : s.fn H (ds ++ []) = { results := [.lit (.bool true)], args := ds } := by rw [List.append_nil]; exact hsp H ds (by simpa using hlen)
  refine ⟨_, rfl, ds, [], p ++ [], [], p, [], hW', ?_, ?_, ?_, hk.keptBut _, fun h => by cases h⟩
  · rw [hf, hres]
    exact trodAll_mk1 (shut_bool hb _)
  · rw [hf]
    exact DataW.TrodAll.respare hkids hfull hts (trodAll_keep hk hA hlt) (fun x hx => by simpa using hlt x hx)
  · rw [hf, hvars]
    rfl
/-- A table of integers that is listed: its block. -/
theorem laid_cells {P : Program} {W : World} {n : String} {k : IntKind} {zs : List Int} {rest : List (String × DataW Unit)} {g t e : Nat} (hg : P.globalNamed n = some g) (ht : (P.globals[g]?).map (·.type) = some t) (hu : P.underlying t = some (.array zs.length e)) (he : P.underlying e = some (.int k)) (hce : P.cellsOf e = 1) (hct : P.cellsOf t = zs.length)
    (pre : List (String × DataW Unit)) (hL : laidMet P (pre ++ (n, .agg (zs.map fun z => .lit (.int k z))) :: rest) W) : ∃ T fr, W.heap[g]? = some (.cells (zs.map fun z => Value.int k z).toArray T fr) := by
  obtain ⟨ps, h, hx⟩ := hL
  clear hx
  induction pre generalizing ps with
  | cons x pre ih =>
    obtain ⟨_, _, _, _, _, q, _, _, _, _, h, _⟩ := h
    exact ih q h
  | nil =>
    obtain ⟨g', t', cs, fuel, p, q, hg', ht', hv, hd, _⟩ := h
    obtain rfl := Option.some.inj (hg.symm.trans hg')
    obtain rfl := Option.some.inj (ht.symm.trans ht')
    obtain ⟨xs, m, _, ex, hcl, hl, hel⟩ := DataW.trod_array hu hd
    have e3 : xs.map (·.1) = zs.map fun z => .lit (.int k z) := (DataW.agg.inj (Prod.mk.inj ex).1).symm
    have key : cs = (zs.map fun z => Value.int k z).toArray := by
      apply Array.ext'
      apply List.ext_getElem?
      intro r
      by_cases hr : r < zs.length
      · have hE := hel r hr
        rw [hce, Nat.mul_one, List.getElem?_eq_getElem (by omega)] at hE
        obtain ⟨z, e1, e2, _⟩ := DataW.trod_int he hE
        have e4 : (xs.map (·.1))[r]? = (zs.map fun n => (DataW.lit (.int k n) : DataW Unit))[r]? := by rw [e3]
        rw [List.getElem?_map, List.getElem?_map, List.getElem?_eq_getElem (by omega : r < xs.length), List.getElem?_eq_getElem hr, e2] at e4
        simp only [Option.map_some, Option.some.injEq, DataW.lit.injEq, Lit.int.injEq, true_and] at e4
        have h0 : ((cs.toList.drop r).take 1)[0]? = some (.int k z) := by rw [e1]; rfl
        have h1 : cs.toList[r]? = some (.int k z) := by simpa using h0
        rw [h1, List.toList_toArray, List.getElem?_map, List.getElem?_eq_getElem hr, e4]; rfl
      · have : cs.toList.length = zs.length := by rw [hcl, hct]
        rw [List.getElem?_eq_none (by omega), List.getElem?_eq_none (by simp; omega)]
    simp only [World.var?, hg, Option.bind_some] at hv
    split at hv
    · rename_i c T fr hb
      cases hv
      exact ⟨T, fr, by rw [hb, key]⟩
    · cases hv
end Go.T
namespace Go.T
open Go Go.Proofs Go.ChangeShapes Go.WideShapes Go.RowKit Go.ChangeAt
set_option maxRecDepth 100000
theorem tz_kids : Kids Tryz.prog (· < Tryz.prog.types.size) := kids_rows (by kernel_rfl) (by kernel_rfl)
theorem tz_full : ∀ t e, t < Tryz.prog.types.size → Tryz.prog.underlying t = some (.slice e) → 0 < Tryz.prog.cellsOf e := slices_full_of Tryz.prog (by kernel_rfl)
theorem tz_own : ownKnob Tryz.prog.godebug = none := by kernel_rfl
theorem tz_size : Tryz.prog.types.size = 337 := by kernel_rfl
theorem d_day : Dec Tryz.prog 34 Int (fun n => [.i n]) := .int Tryz.underlying34
theorem d_int : Dec Tryz.prog 3 Int (fun n => [.i n]) := .int Tryz.underlying3
theorem d_str : Dec Tryz.prog 9 Str (fun n => [.str n]) := .str Tryz.underlying9
theorem c3 : Tryz.prog.cellsOf 3 = 1 := by kernel_rfl
theorem c9 : Tryz.prog.cellsOf 9 = 1 := by kernel_rfl
theorem c54 : Tryz.prog.cellsOf 54 = 1 := by kernel_rfl
theorem c35 : Tryz.prog.cellsOf 35 = 1 := by kernel_rfl
theorem c37 : Tryz.prog.cellsOf 37 = 3 := by kernel_rfl
theorem c34 : Tryz.prog.cellsOf 34 = 1 := by kernel_rfl
theorem d_line : Dec Tryz.prog 92 Line encLine :=
  (Dec.struct Tryz.underlying92 (by kernel_rfl) (.cons d_str rfl c9 (.cons d_str rfl c9 (.cons (.str Tryz.underlying54) rfl c54 .nil)))).map (fun x => ⟨x.1, x.2.1, x.2.2.1⟩) (fun a => rfl)
theorem d_lines : Dec Tryz.prog 35 (List Line) (fun l => [sLines l]) := .slice (sz := 3) (k := 47) Tryz.underlying35 (by kernel_rfl) (by decide) (by kernel_rfl) d_line (fun _ => rfl)
theorem d_entry : Dec Tryz.prog 37 Entry encEntry :=
  (Dec.struct Tryz.underlying37 (by kernel_rfl) (.cons d_day rfl c34 (.cons d_str rfl c9 (.cons d_lines rfl c35 .nil)))).map (fun x => ⟨x.1, x.2.1, x.2.2.1⟩) (fun a => rfl)
theorem d_entries : Dec Tryz.prog 22 (List Entry) (fun l => [sEntries l]) := .slice (sz := 3) (k := 47) Tryz.underlying22 (by kernel_rfl) (by decide) (by kernel_rfl) d_entry (fun _ => rfl)
theorem d_close : Dec Tryz.prog 76 Close encClose :=
  (Dec.struct Tryz.underlying76 (by kernel_rfl) (.cons d_day rfl c34 (.cons d_int rfl c3 .nil))).map (fun x => ⟨x.1, x.2.1⟩) (fun a => rfl)
theorem d_closes : Dec Tryz.prog 23 (List Close) (fun l => [sCloses l]) := .slice (sz := 2) (k := 15) Tryz.underlying23 (by kernel_rfl) (by decide) (by kernel_rfl) d_close (fun _ => rfl)
theorem d_posted : Dec Tryz.prog 39 Posted encPosted :=
  (Dec.struct Tryz.underlying39 (by kernel_rfl) (.cons d_day rfl c34 (.cons d_int rfl c3 (.cons d_str rfl c9 (.cons d_entry rfl c37 .nil))))).map (fun x => ⟨x.1, x.2.1, x.2.2.1, x.2.2.2.1⟩) (fun a => rfl)
theorem d_posteds : Dec Tryz.prog 27 (List Posted) (fun l => [sPosteds l]) := .slice (sz := 6) (k := 79) Tryz.underlying27 (by kernel_rfl) (by decide) (by kernel_rfl) d_posted (fun _ => rfl)
def laidL : List (String × DataW Unit) := Go.Proofs.YtlhemheagekhaaaGreatDoor.Rows.restateStepRow.laid
theorem gl_of {W : World} (h : laidMetH Tryz.prog laidL W) : Gl W noO := by
  rw [MakeChecks.laidMetH_plain _ _ _ (by kernel_rfl)] at h
  intro g vs hm
  simp only [gtab, List.mem_singleton, Prod.mk.injEq] at hm
  obtain ⟨rfl, rfl⟩ := hm
  refine ⟨?_, fun h => h⟩
  have := laid_cells (P := Tryz.prog) (W := W) (n := "internal/strconv.uint64pow10") (k := .u64) (zs := pow10s.map fun (n : Nat) => (n : Int)) (g := 2) (t := 298) (e := 171) (by kernel_rfl) (by kernel_rfl) Tryz.underlying298 Tryz.underlying171 (by kernel_rfl) (by kernel_rfl) (laidL.take 2) (rest := laidL.drop 3) h
  simpa [Function.comp_def] using this
end Go.T
