/-
  Contracts of the functions that the statement reaches, and the logic in which they are proved (no condition): parts W105, W106, W107, W108, Core61, W109, W110, Core62, SpecD20, SpecD21, SpecD22, SpecD23, W111, Core63.
-/
import Derived.Test.YtapflgppmigcdaaGreatDoorA16
set_option linter.all false
namespace Go.T
open Go Go.Proofs Go.Proofs.Tryz
set_option maxRecDepth 20000
def wrongG (s : Setup) (l : List Fact) : Bool := !decide (checkInsts s.insts s.curs = 0) || l.any (fun f => decide (chkFact f ≠ 0))
theorem groupsGood_ok (s : Setup) (l : List Fact) (hs : ∀ x ∈ s.insts, smallInst x) (hf : ∀ f ∈ l, factOK f) (hi6 : s.insts.length ≤ 1000) (hio : ∀ x ∈ s.insts, okStr x.id) (hl6 : l.length ≤ 500) (hfo : ∀ f ∈ l, f.opts.length ≤ 1000 ∧ ∀ s ∈ instrNames f, okStr s) (hb : wrongG s l = false) : Fc Tryz.prog 10 [.agg (encSetup s), sFacts l] (.tup [encGroups (groupsL (divLists s l)), .i 0]) := by
 refine Fc.mk' [4, 5] func10 rfl ntmps10 rfl rfl rfl (fun t w => results_tmp2 results10 t _ w) ?_
 refine go [1] ?_
 refine Run.weak (Le.freezeB 2 0 rfl rfl rfl rfl) ?_
 refine go [] ?_
 refine oP (qCa call41 rfl (right_ok s hs)) ?_
 refine gP (fun hg => qCa call42 rfl (containsFact_ok l _ [] rfl (fun f => decide (chkFact f ≠ 0)) call43 (fun f hf' => badFact_ok f (hf f hf')))) ?_
 refine brF (by exact hb) ?_
 refine oP (qCa call45 rfl (divideAll_ok s l hi6 hio hl6 hfo)) ?_
 exact rx2 rfl rfl (Sub.refl _) (Sub.refl _)
theorem groupsBad_ok (s : Setup) (l : List Fact) (hs : ∀ x ∈ s.insts, smallInst x) (hf : ∀ f ∈ l, factOK f) (hi6 : s.insts.length ≤ 1000) (hio : ∀ x ∈ s.insts, okStr x.id) (hl6 : l.length ≤ 500) (hfo : ∀ f ∈ l, f.opts.length ≤ 1000 ∧ ∀ s ∈ instrNames f, okStr s) (hb : wrongG s l = true) : Fc Tryz.prog 10 [.agg (encSetup s), sFacts l] (.tup [.raw (.slice none 0 0), .i 1]) := by
 refine Fc.mk' [4, 5] func10 rfl ntmps10 rfl rfl rfl (fun t w => results_tmp2 results10 t _ w) ?_
 refine go [1] ?_
 refine Run.weak (Le.freezeB 2 0 rfl rfl rfl rfl) ?_
 refine go [] ?_
 refine oP (qCa call41 rfl (right_ok s hs)) ?_
 refine gP (fun hg => qCa call42 rfl (containsFact_ok l _ [] rfl (fun f => decide (chkFact f ≠ 0)) call43 (fun f hf' => badFact_ok f (hf f hf')))) ?_
 refine brT (by exact hb) ?_
 exact rx2 rfl rfl (by exact Sub.refl _) (Sub.refl _)
theorem cloneF7600_ok (l : List Fact) (hs : l.length ≤ 1000) : FcO Tryz.prog 11 [sFacts l] [] (.gs 7600 l.length) [(7600, .arr 21 (l.map encFact))] := by
 refine FcO.mk' [2] func11 rfl ntmps11 rfl rfl rfl (fun t w => results_tmp results11 t _ w) ?_
 refine Run.seq (Run.reg [.p] ?_)
 refine .ag rfl rfl <| .nil ?_
 refine Run.seq (Run.seq (Run.regT ?_))
 refine Tx.q rfl trivial (qMv rfl _) ?_
 refine Tx.n rfl trivial (q_eqlNilN underlying31 rfl rfl _) (fun nb hnb => ?_)
 dsimp only
 refine Tx.nil ?_
 refine Run.cond rfl (fun h1 => ?_) (fun h1 => ?_)
 ·refine Run.seq (Run.reg [.p] ?_)
  refine .ag rfl rfl <| .nil ?_
  have hl0 : l = [] := by
   by_cases hc : l = []
   ·exact hc
   ·have := hnb (by simpa using hc); simp_all
  subst hl0
  refine Run.weak (Le.own0 7600 21) ?_
  refine Run.ret (?_)
  exact retO1 rfl (by exact Sub.gsNil _) (.cons rfl rfl .nil)
 ·refine Run.skip ?_
  refine Run.seq (Run.reg [.p, .p, .w, .p] ?_)
  refine .P rfl (q_buildSlice0 underlying31 sizeOf39) <| .mv rfl rfl <| .W rfl (QStep.own0 7599 21 (t := 5) rfl (Sub.gsEmpty _ _) (q_append 7600 underlying31 underlying31 sizeOf39 typeInfo39 zeroValue39 rfl (bt := 312) rfl rfl rfl rfl rfl rfl rfl (by simp; omega))) <| .ag rfl rfl <| .nil ?_
  refine Run.ret (?_)
  exact retO1 rfl (by exact Sub.gs (by simp)) (.cons rfl rfl .nil)
theorem growF_ok (n : Nat) (h0 : n ≠ 0) (hn : n ≤ 100000) : FcO Tryz.prog 49 [.raw (.slice none 0 0), .i n] [] (.gr 7800 0) [(7800, .res 21)] := by
 refine FcO.mk' [4] func49 rfl ntmps49 rfl rfl rfl (fun t w => results_tmp results49 t _ w) ?_
 refine Run.seq (Run.reg [.p] ?_)
 refine .ag rfl rfl <| .nil ?_
 refine Run.seq (Run.seq (Run.reg [.p, .p] ?_))
 refine .mv rfl rfl <| .P rfl (q_lss rfl rfl) <| .nil ?_
 refine Run.condF rfl (by simp) ?_
 refine Run.skip ?_
 refine Run.seq (Run.seq (Run.reg [.p, .p, .p, .p, .p, .p, .p, .p] ?_))
 refine .mv rfl rfl <| .mv rfl rfl <| .P rfl (q_capNil underlying31 rfl) <| .mv rfl rfl <| .P rfl (q_lenNil underlying31 rfl) <| .P rfl (q_sub rfl rfl (w64 (by omega))) <| .P rfl (q_sub rfl rfl (w64 (by omega))) <| .ag rfl rfl <| .nil ?_
 refine Run.seq (Run.reg [.p, .p] ?_)
 refine .mv rfl rfl <| .P rfl (q_gtr rfl rfl) <| .nil ?_
 refine Run.condT rfl (by simp; omega) ?_
 refine Run.reg [.p, .p, .p, .p, .p, .w, .p, .p, .p, .p] ?_
 refine .mv rfl rfl <| .mv rfl rfl <| .P rfl (q_capNil underlying31 rfl) <| .P rfl (q_sliceNil underlying31 sizeOf39 rfl rfl) <| .mv rfl rfl <| .W rfl (q_appendMake (n := n) (bt := 312) 7800 underlying31 underlying3 sizeOf39 typeInfo39 zeroValue39 rfl (by decide) rfl rfl rfl (by simp) h0 (by omega) (by omega) rfl) <| .mv rfl rfl <| .P rfl (q_lenNil underlying31 rfl) <| .P rfl (q_sliceGr underlying31 sizeOf39 rfl rfl) <| .ag rfl rfl <| .nil ?_
 refine Run.seq (Run.reg [.p, .p] ?_)
 refine .mv rfl rfl <| .ag rfl rfl <| .nil ?_
 refine Run.ret (?_)
 exact retO1 rfl (by exact Sub.refl _) (.cons rfl rfl .nil)
theorem growF0_ok  : Fc Tryz.prog 49 [.raw (.slice none 0 0), .i 0] (.raw (.slice none 0 0)) := by
 refine Fc.mk' [4] func49 rfl ntmps49 rfl rfl rfl (fun t w => results_tmp results49 t _ w) ?_
 refine go [] ?_
 refine brF (rfl) ?_
 refine oP (q_capNil underlying31 rfl) ?_
 refine sd (w64 (by omega)) ?_
 refine sd (w64 (by omega)) ?_
 refine brF (rfl) ?_
 exact rx1 rfl (by exact Sub.refl _)
theorem Sub.gsE {i n m : Nat} {d : D} (hd : d = .gs i m) (h : n = m) : Sub (.gs i n) d := by subst hd; subst h; exact Sub.refl _
@[reducible] def sel {α : Type} (k : Nat) (x y z : α) : α := match k with
 | 0 => x
 | 1 => y
 | _ => z
structure concatAF_ok_L0 (a b : List Fact) where
 k : Nat
 hk : k ≤ 2
structure concatAF_ok_L1 (a b : List Fact) where
 k : Nat
 hk : k ≤ 2
theorem concatAF_ok (a b : List Fact) (hal : a.length ≤ 1000) (hbl : b.length ≤ 1000) (h0 : a.length ≠ 0) : Fc Tryz.prog 17 [.snap 1 true [[sFacts a], [sFacts b]]] (sFacts (a ++ b)) := by
 refine Fc.mk' [2] func17 rfl ntmps17 rfl rfl rfl (fun t w => results_tmp results17 t _ w) ?_
 refine Run.seq (Run.reg [.p] ?_)
 refine .ag rfl rfl <| .nil ?_
 refine Run.seq (Run.reg [.p] ?_)
 refine .ag rfl rfl <| .nil ?_
 refine Run.seq (Run.seq (Run.reg [.p, .p, .p] ?_))
 refine .mv rfl rfl <| .P rfl (qLe underlying78 rfl) <| .mv rfl rfl <| .nil ?_
 refine Run.block ?_
 refine Run.loop (ι := concatAF_ok_L0 a b) (fun sx => [(0, .snap 1 true [[sFacts a], [sFacts b]]), (3, .i (sel sx.k 0 (a.length : Int) ((a.length : Int) + b.length))), (9, .snap 1 true [[sFacts a], [sFacts b]]), (10, .i 2), (11, .i sx.k)]) (fun sx => []) (fun sx => 2 - sx.k) ⟨0, by omega⟩ ?_ ?_
 ·exact Le.mk rfl (.s rfl rfl (.s rfl rfl (.s rfl rfl (.s rfl rfl (.s rfl rfl .nil))))) .nil
 ·rintro ⟨k, hk⟩
  show Run _ _ _ _ [(0, .snap 1 true [[sFacts a], [sFacts b]]), (3, .i (sel k 0 (a.length : Int) ((a.length : Int) + b.length))), (9, .snap 1 true [[sFacts a], [sFacts b]]), (10, .i 2), (11, .i k)] []
  rcases k with _ | _ | _ | k
  ·dsimp only [sel]
   refine Run.seq (Run.reg [.p] ?_)
   refine .P rfl (q_lss rfl rfl) <| .nil ?_
   refine Run.seq ?_
   refine Run.condT rfl (rfl) ?_
   refine Run.skip ?_
   refine Run.seq ?_
   refine Run.block ?_
   refine Run.seq (Run.reg [.p, .p, .p] ?_)
   refine .P rfl (qIi underlying78 sizeOf31 rfl rfl (by decide) rfl) <| .P rfl (qLo isAgg31 rfl) <| .ag rfl rfl <| .nil ?_
   refine Run.seq (Run.reg [.p, .p, .p, .p, .p] ?_)
   refine .mv rfl rfl <| .mv rfl rfl <| .P rfl (qLe underlying31 rfl) <| .P rfl (q_add rfl rfl (wrap64_ok (by simp) (by simp; omega))) <| .ag rfl rfl <| .nil ?_
   refine Run.seq (Run.reg [.p, .p] ?_)
   refine .mv rfl rfl <| .P rfl (q_lss rfl rfl) <| .nil ?_
   refine Run.condF rfl (by simp) ?_
   refine Run.skip ?_
   refine Run.nil (bN0 ?_)
   refine Run.reg [.p, .p] ?_
   refine .P rfl (q_add rfl rfl (w64 (by omega))) <| .mv rfl rfl <| .nil ?_
   refine Run.nil (tN0 ?_)
   exact ⟨⟨1, by omega⟩, by dsimp only; omega, Le.mk rfl (.s rfl rfl (.cons rfl (Sub.int (by simp [sel])) rfl (.s rfl rfl (.s rfl rfl (.s rfl rfl .nil))))) .nil⟩
  ·dsimp only [sel]
   refine Run.seq (Run.reg [.p] ?_)
   refine .P rfl (q_lss rfl rfl) <| .nil ?_
   refine Run.seq ?_
   refine Run.condT rfl (rfl) ?_
   refine Run.skip ?_
   refine Run.seq ?_
   refine Run.block ?_
   refine Run.seq (Run.reg [.p, .p, .p] ?_)
   refine .P rfl (qIi underlying78 sizeOf31 rfl rfl (by decide) rfl) <| .P rfl (qLo isAgg31 rfl) <| .ag rfl rfl <| .nil ?_
   refine Run.seq (Run.reg [.p, .p, .p, .p, .p] ?_)
   refine .mv rfl rfl <| .mv rfl rfl <| .P rfl (qLe underlying31 rfl) <| .P rfl (q_add rfl rfl (wrap64_ok (by simp; omega) (by simp; omega))) <| .ag rfl rfl <| .nil ?_
   refine Run.seq (Run.reg [.p, .p] ?_)
   refine .mv rfl rfl <| .P rfl (q_lss rfl rfl) <| .nil ?_
   refine Run.condF rfl (by simp; omega) ?_
   refine Run.skip ?_
   refine Run.nil (bN0 ?_)
   refine Run.reg [.p, .p] ?_
   refine .P rfl (q_add rfl rfl (w64 (by omega))) <| .mv rfl rfl <| .nil ?_
   refine Run.nil (tN0 ?_)
   exact ⟨⟨2, by omega⟩, by dsimp only; omega, Le.mk rfl (.s rfl rfl (.cons rfl (Sub.int (by simp [sel])) rfl (.s rfl rfl (.s rfl rfl (.s rfl rfl .nil))))) .nil⟩
  ·dsimp only [sel]
   refine Run.seq (Run.reg [.p] ?_)
   refine .P rfl (q_lss rfl rfl) <| .nil ?_
   refine Run.seq ?_
   refine Run.condF rfl (rfl) ?_
   refine Run.exit (tX0 (bX0 ?_))
   refine Run.seq (Run.reg [.p, .w, .p] ?_)
   refine .mv rfl rfl <| .W rfl (q_callO call49 rfl (growF_ok (a.length + b.length) (by omega) (by omega)) .nil rfl rfl) <| .ag rfl rfl <| .nil ?_
   refine Run.seq (Run.seq (Run.reg [.p, .p, .p] ?_))
   refine .mv rfl rfl <| .P rfl (qLe underlying78 rfl) <| .mv rfl rfl <| .nil ?_
   refine Run.block ?_
   refine Run.loop (ι := concatAF_ok_L1 a b) (fun sx => [(6, (sel sx.k (.gr 7800 0) (.gs 7801 a.length) (.gs 7801 (a.length + b.length)))), (25, .snap 1 true [[sFacts a], [sFacts b]]), (26, .i 2), (27, .i sx.k)]) (fun sx => [(7800, (sel sx.k (.res 21) (.dead) .dead)), (7801, .arr 21 (sel sx.k [] (a.map encFact) (a.map encFact ++ b.map encFact)))]) (fun sx => 2 - sx.k) ⟨0, by omega⟩ ?_ ?_
   ·exact (Le.own0 7801 21).trans <| Le.mk rfl (.cons rfl (by exact Sub.refl _) rfl (.s rfl rfl (.s rfl rfl (.s rfl rfl .nil)))) (.cons rfl rfl (.arr rfl (by rfl) .nil))
   ·rintro ⟨k, hk⟩
    show Run _ _ _ _ [(6, (sel k (.gr 7800 0) (.gs 7801 a.length) (.gs 7801 (a.length + b.length)))), (25, .snap 1 true [[sFacts a], [sFacts b]]), (26, .i 2), (27, .i k)] [(7800, (sel k (.res 21) (.dead) .dead)), (7801, .arr 21 (sel k [] (a.map encFact) (a.map encFact ++ b.map encFact)))]
    rcases k with _ | _ | _ | k
    ·dsimp only [sel]
     refine Run.seq (Run.reg [.p] ?_)
     refine .P rfl (q_lss rfl rfl) <| .nil ?_
     refine Run.seq ?_
     refine Run.condT rfl (rfl) ?_
     refine Run.skip ?_
     refine Run.seq ?_
     refine Run.block ?_
     refine Run.seq (Run.reg [.p, .p, .p] ?_)
     refine .P rfl (qIi underlying78 sizeOf31 rfl rfl (by decide) rfl) <| .P rfl (qLo isAgg31 rfl) <| .ag rfl rfl <| .nil ?_
     refine Run.reg [.p, .p, .w, .p] ?_
     refine .mv rfl rfl <| .mv rfl rfl <| .W rfl (q_appendGr (bt := 312) 7802 underlying31 underlying31 sizeOf39 typeInfo39 zeroValue39 rfl rfl rfl rfl rfl rfl (by simp; intro h; simp [h] at *) rfl (by simp; omega)) <| .ag rfl rfl <| .nil ?_
     refine Run.nil (bN0 ?_)
     refine Run.reg [.p, .p] ?_
     refine .P rfl (q_add rfl rfl (w64 (by omega))) <| .mv rfl rfl <| .nil ?_
     refine Run.nil (tN0 ?_)
     exact ⟨⟨1, by omega⟩, by dsimp only; omega, (Le.mk (obs' := [(7800, _), (7802, _)]) rfl (show EnvLe _ _ [(6, _), (25, _), (26, _), (27, _)] from (.s rfl rfl (.s rfl rfl (.s rfl rfl (.s rfl rfl .nil))))) (.cons (i := 7800) rfl rfl (.cons (i := 7802) rfl rfl .nil))).trans <| (Le.ren 6 7802 7801 rfl rfl (by simp) rfl).trans <| Le.mk rfl (.cons rfl (by exact Sub.gsE rfl (by simp)) rfl (.s rfl rfl (.s rfl rfl (.s rfl rfl .nil)))) (.cons rfl rfl (.arr rfl (by rfl) .nil))⟩
    ·dsimp only [sel]
     refine Run.seq (Run.reg [.p] ?_)
     refine .P rfl (q_lss rfl rfl) <| .nil ?_
     refine Run.seq ?_
     refine Run.condT rfl (rfl) ?_
     refine Run.skip ?_
     refine Run.seq ?_
     refine Run.block ?_
     refine Run.seq (Run.reg [.p, .p, .p] ?_)
     refine .P rfl (qIi underlying78 sizeOf31 rfl rfl (by decide) rfl) <| .P rfl (qLo isAgg31 rfl) <| .ag rfl rfl <| .nil ?_
     refine Run.reg [.p, .p, .w, .p] ?_
     refine .mv rfl rfl <| .mv rfl rfl <| .W rfl (q_append 7802 underlying31 underlying31 sizeOf39 typeInfo39 zeroValue39 rfl (bt := 312) rfl rfl rfl rfl (by simp) rfl rfl (by simp; omega)) <| .ag rfl rfl <| .nil ?_
     refine Run.nil (bN0 ?_)
     refine Run.reg [.p, .p] ?_
     refine .P rfl (q_add rfl rfl (w64 (by omega))) <| .mv rfl rfl <| .nil ?_
     refine Run.nil (tN0 ?_)
     exact ⟨⟨2, by omega⟩, by dsimp only; omega, (Le.mk (obs' := [(7800, _), (7802, _)]) rfl (show EnvLe _ _ [(6, _), (25, _), (26, _), (27, _)] from (.s rfl rfl (.s rfl rfl (.s rfl rfl (.s rfl rfl .nil))))) (.cons (i := 7800) rfl rfl (.cons (i := 7802) rfl rfl .nil))).trans <| (Le.ren 6 7802 7801 rfl rfl (by simp) rfl).trans <| Le.mk rfl (.cons rfl (by exact Sub.gsE rfl (by simp)) rfl (.s rfl rfl (.s rfl rfl (.s rfl rfl .nil)))) (.cons rfl rfl (.arr rfl (by rfl) .nil))⟩
    ·dsimp only [sel]
     refine Run.seq (Run.reg [.p] ?_)
     refine .P rfl (q_lss rfl rfl) <| .nil ?_
     refine Run.seq ?_
     refine Run.condF rfl (rfl) ?_
     refine Run.exit (tX0 (bX0 ?_))
     refine Run.seq (Run.reg [.p, .p] ?_)
     refine .mv rfl rfl <| .ag rfl rfl <| .nil ?_
     refine Run.weak (Le.freeze 2 7801 rfl rfl (by simp)) ?_
     refine Run.ret (?_)
     exact ret1 rfl (Sub.snap (by simp))
    ·omega
  ·omega
structure concatBF_ok_L0 (b : List Fact) where
 k : Nat
 hk : k ≤ 2
structure concatBF_ok_L1 (b : List Fact) where
 k : Nat
 hk : k ≤ 2
theorem concatBF_ok (b : List Fact) (hbl : b.length ≤ 1000) (h0 : b.length ≠ 0) : Fc Tryz.prog 17 [.snap 1 true [[sFacts ([] : List Fact)], [sFacts b]]] (sFacts b) := by
 refine Fc.mk' [2] func17 rfl ntmps17 rfl rfl rfl (fun t w => results_tmp results17 t _ w) ?_
 refine Run.seq (Run.reg [.p] ?_)
 refine .ag rfl rfl <| .nil ?_
 refine Run.seq (Run.reg [.p] ?_)
 refine .ag rfl rfl <| .nil ?_
 refine Run.seq (Run.seq (Run.reg [.p, .p, .p] ?_))
 refine .mv rfl rfl <| .P rfl (qLe underlying78 rfl) <| .mv rfl rfl <| .nil ?_
 refine Run.block ?_
 refine Run.loop (ι := concatBF_ok_L0 b) (fun sx => [(0, .snap 1 true [[sFacts ([] : List Fact)], [sFacts b]]), (3, .i (sel sx.k 0 0 (b.length : Int))), (9, .snap 1 true [[sFacts ([] : List Fact)], [sFacts b]]), (10, .i 2), (11, .i sx.k)]) (fun sx => []) (fun sx => 2 - sx.k) ⟨0, by omega⟩ ?_ ?_
 ·exact Le.mk rfl (.s rfl rfl (.s rfl rfl (.s rfl rfl (.s rfl rfl (.s rfl rfl .nil))))) .nil
 ·rintro ⟨k, hk⟩
  show Run _ _ _ _ [(0, .snap 1 true [[sFacts ([] : List Fact)], [sFacts b]]), (3, .i (sel k 0 0 (b.length : Int))), (9, .snap 1 true [[sFacts ([] : List Fact)], [sFacts b]]), (10, .i 2), (11, .i k)] []
  rcases k with _ | _ | _ | k
  ·dsimp only [sel]
   refine Run.seq (Run.reg [.p] ?_)
   refine .P rfl (q_lss rfl rfl) <| .nil ?_
   refine Run.seq ?_
   refine Run.condT rfl (rfl) ?_
   refine Run.skip ?_
   refine Run.seq ?_
   refine Run.block ?_
   refine Run.seq (Run.reg [.p, .p, .p] ?_)
   refine .P rfl (qIi underlying78 sizeOf31 rfl rfl (by decide) rfl) <| .P rfl (qLo isAgg31 rfl) <| .ag rfl rfl <| .nil ?_
   refine Run.seq (Run.reg [.p, .p, .p, .p, .p] ?_)
   refine .mv rfl rfl <| .mv rfl rfl <| .P rfl (qLe underlying31 rfl) <| .P rfl (q_add rfl rfl (wrap64_ok (by simp) (by simp))) <| .ag rfl rfl <| .nil ?_
   refine Run.seq (Run.reg [.p, .p] ?_)
   refine .mv rfl rfl <| .P rfl (q_lss rfl rfl) <| .nil ?_
   refine Run.condF rfl (by simp) ?_
   refine Run.skip ?_
   refine Run.nil (bN0 ?_)
   refine Run.reg [.p, .p] ?_
   refine .P rfl (q_add rfl rfl (w64 (by omega))) <| .mv rfl rfl <| .nil ?_
   refine Run.nil (tN0 ?_)
   exact ⟨⟨1, by omega⟩, by dsimp only; omega, Le.mk rfl (.s rfl rfl (.s rfl rfl (.s rfl rfl (.s rfl rfl (.s rfl rfl .nil))))) .nil⟩
  ·dsimp only [sel]
   refine Run.seq (Run.reg [.p] ?_)
   refine .P rfl (q_lss rfl rfl) <| .nil ?_
   refine Run.seq ?_
   refine Run.condT rfl (rfl) ?_
   refine Run.skip ?_
   refine Run.seq ?_
   refine Run.block ?_
   refine Run.seq (Run.reg [.p, .p, .p] ?_)
   refine .P rfl (qIi underlying78 sizeOf31 rfl rfl (by decide) rfl) <| .P rfl (qLo isAgg31 rfl) <| .ag rfl rfl <| .nil ?_
   refine Run.seq (Run.reg [.p, .p, .p, .p, .p] ?_)
   refine .mv rfl rfl <| .mv rfl rfl <| .P rfl (qLe underlying31 rfl) <| .P rfl (q_add rfl rfl (wrap64_ok (by simp) (by simp; omega))) <| .ag rfl rfl <| .nil ?_
   refine Run.seq (Run.reg [.p, .p] ?_)
   refine .mv rfl rfl <| .P rfl (q_lss rfl rfl) <| .nil ?_
   refine Run.condF rfl (by simp) ?_
   refine Run.skip ?_
   refine Run.nil (bN0 ?_)
   refine Run.reg [.p, .p] ?_
   refine .P rfl (q_add rfl rfl (w64 (by omega))) <| .mv rfl rfl <| .nil ?_
   refine Run.nil (tN0 ?_)
   exact ⟨⟨2, by omega⟩, by dsimp only; omega, Le.mk rfl (.s rfl rfl (.cons rfl (Sub.int (by simp [sel])) rfl (.s rfl rfl (.s rfl rfl (.s rfl rfl .nil))))) .nil⟩
  ·dsimp only [sel]
   refine Run.seq (Run.reg [.p] ?_)
   refine .P rfl (q_lss rfl rfl) <| .nil ?_
   refine Run.seq ?_
   refine Run.condF rfl (rfl) ?_
   refine Run.exit (tX0 (bX0 ?_))
   refine Run.seq (Run.reg [.p, .w, .p] ?_)
   refine .mv rfl rfl <| .W rfl (q_callO call49 rfl (growF_ok b.length h0 (by omega)) .nil rfl rfl) <| .ag rfl rfl <| .nil ?_
   refine Run.seq (Run.seq (Run.reg [.p, .p, .p] ?_))
   refine .mv rfl rfl <| .P rfl (qLe underlying78 rfl) <| .mv rfl rfl <| .nil ?_
   refine Run.block ?_
   refine Run.loop (ι := concatBF_ok_L1 b) (fun sx => [(6, (sel sx.k (.gr 7800 0) (.gr 7800 0) (.gs 7801 b.length))), (25, .snap 1 true [[sFacts ([] : List Fact)], [sFacts b]]), (26, .i 2), (27, .i sx.k)]) (fun sx => [(7800, (sel sx.k (.res 21) (.res 21) .dead)), (7801, .arr 21 (sel sx.k [] [] (b.map encFact)))]) (fun sx => 2 - sx.k) ⟨0, by omega⟩ ?_ ?_
   ·exact (Le.own0 7801 21).trans <| Le.mk rfl (.cons rfl (by exact Sub.refl _) rfl (.s rfl rfl (.s rfl rfl (.s rfl rfl .nil)))) (.cons rfl rfl (.arr rfl (by rfl) .nil))
   ·rintro ⟨k, hk⟩
    show Run _ _ _ _ [(6, (sel k (.gr 7800 0) (.gr 7800 0) (.gs 7801 b.length))), (25, .snap 1 true [[sFacts ([] : List Fact)], [sFacts b]]), (26, .i 2), (27, .i k)] [(7800, (sel k (.res 21) (.res 21) .dead)), (7801, .arr 21 (sel k [] [] (b.map encFact)))]
    rcases k with _ | _ | _ | k
    ·dsimp only [sel]
     refine Run.seq (Run.reg [.p] ?_)
     refine .P rfl (q_lss rfl rfl) <| .nil ?_
     refine Run.seq ?_
     refine Run.condT rfl (rfl) ?_
     refine Run.skip ?_
     refine Run.seq ?_
     refine Run.block ?_
     refine Run.seq (Run.reg [.p, .p, .p] ?_)
     refine .P rfl (qIi underlying78 sizeOf31 rfl rfl (by decide) rfl) <| .P rfl (qLo isAgg31 rfl) <| .ag rfl rfl <| .nil ?_
     refine Run.reg [.p, .p, .p, .p] ?_
     refine .mv rfl rfl <| .mv rfl rfl <| .P rfl (q_appendGr0 underlying31 underlying31 sizeOf39 rfl rfl) <| .ag rfl rfl <| .nil ?_
     refine Run.nil (bN0 ?_)
     refine Run.reg [.p, .p] ?_
     refine .P rfl (q_add rfl rfl (w64 (by omega))) <| .mv rfl rfl <| .nil ?_
     refine Run.nil (tN0 ?_)
     exact ⟨⟨1, by omega⟩, by dsimp only; omega, Le.mk rfl (.cons rfl (by exact Sub.refl _) rfl (.s rfl rfl (.s rfl rfl (.s rfl rfl .nil)))) (.cons rfl rfl (.arr rfl (by rfl) .nil))⟩
    ·dsimp only [sel]
     refine Run.seq (Run.reg [.p] ?_)
     refine .P rfl (q_lss rfl rfl) <| .nil ?_
     refine Run.seq ?_
     refine Run.condT rfl (rfl) ?_
     refine Run.skip ?_
     refine Run.seq ?_
     refine Run.block ?_
     refine Run.seq (Run.reg [.p, .p, .p] ?_)
     refine .P rfl (qIi underlying78 sizeOf31 rfl rfl (by decide) rfl) <| .P rfl (qLo isAgg31 rfl) <| .ag rfl rfl <| .nil ?_
     refine Run.reg [.p, .p, .w, .p] ?_
     refine .mv rfl rfl <| .mv rfl rfl <| .W rfl (q_appendGr (bt := 312) 7802 underlying31 underlying31 sizeOf39 typeInfo39 zeroValue39 rfl rfl rfl rfl rfl rfl (by simp; intro h; simp [h] at *) rfl (by simp; omega)) <| .ag rfl rfl <| .nil ?_
     refine Run.nil (bN0 ?_)
     refine Run.reg [.p, .p] ?_
     refine .P rfl (q_add rfl rfl (w64 (by omega))) <| .mv rfl rfl <| .nil ?_
     refine Run.nil (tN0 ?_)
     exact ⟨⟨2, by omega⟩, by dsimp only; omega, (Le.mk (obs' := [(7800, _), (7802, _)]) rfl (show EnvLe _ _ [(6, _), (25, _), (26, _), (27, _)] from (.s rfl rfl (.s rfl rfl (.s rfl rfl (.s rfl rfl .nil))))) (.cons (i := 7800) rfl rfl (.cons (i := 7802) rfl rfl .nil))).trans <| (Le.ren 6 7802 7801 rfl rfl (by simp) rfl).trans <| Le.mk rfl (.cons rfl (by exact Sub.gsE rfl (by simp)) rfl (.s rfl rfl (.s rfl rfl (.s rfl rfl .nil)))) (.cons rfl rfl (.arr rfl (by rfl) .nil))⟩
    ·dsimp only [sel]
     refine Run.seq (Run.reg [.p] ?_)
     refine .P rfl (q_lss rfl rfl) <| .nil ?_
     refine Run.seq ?_
     refine Run.condF rfl (rfl) ?_
     refine Run.exit (tX0 (bX0 ?_))
     refine Run.seq (Run.reg [.p, .p] ?_)
     refine .mv rfl rfl <| .ag rfl rfl <| .nil ?_
     refine Run.weak (Le.freeze 2 7801 rfl rfl (by simp)) ?_
     refine Run.ret (?_)
     exact ret1 rfl (Sub.snap (by simp))
    ·omega
  ·omega
structure concat0F_ok_L0  where
 k : Nat
 hk : k ≤ 2
structure concat0F_ok_L1  where
 k : Nat
 hk : k ≤ 2
theorem concat0F_ok  : Fc Tryz.prog 17 [.snap 1 true [[sFacts ([] : List Fact)], [sFacts ([] : List Fact)]]] (sFacts []) := by
 refine Fc.mk' [2] func17 rfl ntmps17 rfl rfl rfl (fun t w => results_tmp results17 t _ w) ?_
 refine Run.seq (Run.reg [.p] ?_)
 refine .ag rfl rfl <| .nil ?_
 refine Run.seq (Run.reg [.p] ?_)
 refine .ag rfl rfl <| .nil ?_
 refine Run.seq (Run.seq (Run.reg [.p, .p, .p] ?_))
 refine .mv rfl rfl <| .P rfl (qLe underlying78 rfl) <| .mv rfl rfl <| .nil ?_
 refine Run.block ?_
 refine Run.loop (ι := concat0F_ok_L0) (fun sx => [(0, .snap 1 true [[sFacts ([] : List Fact)], [sFacts ([] : List Fact)]]), (3, .i 0), (9, .snap 1 true [[sFacts ([] : List Fact)], [sFacts ([] : List Fact)]]), (10, .i 2), (11, .i sx.k)]) (fun sx => []) (fun sx => 2 - sx.k) ⟨0, by omega⟩ ?_ ?_
 ·exact Le.mk rfl (.s rfl rfl (.s rfl rfl (.s rfl rfl (.s rfl rfl (.s rfl rfl .nil))))) .nil
 ·rintro ⟨k, hk⟩
  show Run _ _ _ _ [(0, .snap 1 true [[sFacts ([] : List Fact)], [sFacts ([] : List Fact)]]), (3, .i 0), (9, .snap 1 true [[sFacts ([] : List Fact)], [sFacts ([] : List Fact)]]), (10, .i 2), (11, .i k)] []
  rcases k with _ | _ | _ | k
  ·skip
   refine Run.seq (Run.reg [.p] ?_)
   refine .P rfl (q_lss rfl rfl) <| .nil ?_
   refine Run.seq ?_
   refine Run.condT rfl (rfl) ?_
   refine Run.skip ?_
   refine Run.seq ?_
   refine Run.block ?_
   refine Run.seq (Run.reg [.p, .p, .p] ?_)
   refine .P rfl (qIi underlying78 sizeOf31 rfl rfl (by decide) rfl) <| .P rfl (qLo isAgg31 rfl) <| .ag rfl rfl <| .nil ?_
   refine Run.seq (Run.reg [.p, .p, .p, .p, .p] ?_)
   refine .mv rfl rfl <| .mv rfl rfl <| .P rfl (qLe underlying31 rfl) <| .P rfl (q_add rfl rfl (wrap64_ok (by omega) (by simp))) <| .ag rfl rfl <| .nil ?_
   refine Run.seq (Run.reg [.p, .p] ?_)
   refine .mv rfl rfl <| .P rfl (q_lss rfl rfl) <| .nil ?_
   refine Run.condF rfl (by simp) ?_
   refine Run.skip ?_
   refine Run.nil (bN0 ?_)
   refine Run.reg [.p, .p] ?_
   refine .P rfl (q_add rfl rfl (w64 (by omega))) <| .mv rfl rfl <| .nil ?_
   refine Run.nil (tN0 ?_)
   exact ⟨⟨1, by omega⟩, by dsimp only; omega, Le.mk rfl (.s rfl rfl (.s rfl rfl (.s rfl rfl (.s rfl rfl (.s rfl rfl .nil))))) .nil⟩
  ·skip
   refine Run.seq (Run.reg [.p] ?_)
   refine .P rfl (q_lss rfl rfl) <| .nil ?_
   refine Run.seq ?_
   refine Run.condT rfl (rfl) ?_
   refine Run.skip ?_
   refine Run.seq ?_
   refine Run.block ?_
   refine Run.seq (Run.reg [.p, .p, .p] ?_)
   refine .P rfl (qIi underlying78 sizeOf31 rfl rfl (by decide) rfl) <| .P rfl (qLo isAgg31 rfl) <| .ag rfl rfl <| .nil ?_
   refine Run.seq (Run.reg [.p, .p, .p, .p, .p] ?_)
   refine .mv rfl rfl <| .mv rfl rfl <| .P rfl (qLe underlying31 rfl) <| .P rfl (q_add rfl rfl (wrap64_ok (by omega) (by simp))) <| .ag rfl rfl <| .nil ?_
   refine Run.seq (Run.reg [.p, .p] ?_)
   refine .mv rfl rfl <| .P rfl (q_lss rfl rfl) <| .nil ?_
   refine Run.condF rfl (by simp) ?_
   refine Run.skip ?_
   refine Run.nil (bN0 ?_)
   refine Run.reg [.p, .p] ?_
   refine .P rfl (q_add rfl rfl (w64 (by omega))) <| .mv rfl rfl <| .nil ?_
   refine Run.nil (tN0 ?_)
   exact ⟨⟨2, by omega⟩, by dsimp only; omega, Le.mk rfl (.s rfl rfl (.s rfl rfl (.s rfl rfl (.s rfl rfl (.s rfl rfl .nil))))) .nil⟩
  ·skip
   refine Run.seq (Run.reg [.p] ?_)
   refine .P rfl (q_lss rfl rfl) <| .nil ?_
   refine Run.seq ?_
   refine Run.condF rfl (rfl) ?_
   refine Run.exit (tX0 (bX0 ?_))
   refine Run.seq (Run.reg [.p, .p, .p] ?_)
   refine .mv rfl rfl <| .P rfl (qCa call49 rfl growF0_ok) <| .ag rfl rfl <| .nil ?_
   refine Run.seq (Run.seq (Run.reg [.p, .p, .p] ?_))
   refine .mv rfl rfl <| .P rfl (qLe underlying78 rfl) <| .mv rfl rfl <| .nil ?_
   refine Run.block ?_
   refine Run.loop (ι := concat0F_ok_L1) (fun sx => [(6, .gs 0 0), (25, .snap 1 true [[sFacts ([] : List Fact)], [sFacts ([] : List Fact)]]), (26, .i 2), (27, .i sx.k)]) (fun sx => [(0, .arr 21 [])]) (fun sx => 2 - sx.k) ⟨0, by omega⟩ ?_ ?_
   ·exact (Le.own0 0 21).trans <| Le.mk rfl (.cons rfl (Sub.gsNil _) rfl (.s rfl rfl (.s rfl rfl (.s rfl rfl .nil)))) (.arr rfl (by simp) .nil)
   ·rintro ⟨k, hk⟩
    show Run _ _ _ _ [(6, .gs 0 0), (25, .snap 1 true [[sFacts ([] : List Fact)], [sFacts ([] : List Fact)]]), (26, .i 2), (27, .i k)] [(0, .arr 21 [])]
    rcases k with _ | _ | _ | k
    ·skip
     refine Run.seq (Run.reg [.p] ?_)
     refine .P rfl (q_lss rfl rfl) <| .nil ?_
     refine Run.seq ?_
     refine Run.condT rfl (rfl) ?_
     refine Run.skip ?_
     refine Run.seq ?_
     refine Run.block ?_
     refine Run.seq (Run.reg [.p, .p, .p] ?_)
     refine .P rfl (qIi underlying78 sizeOf31 rfl rfl (by decide) rfl) <| .P rfl (qLo isAgg31 rfl) <| .ag rfl rfl <| .nil ?_
     refine Run.reg [.p, .p, .w, .p] ?_
     refine .mv rfl rfl <| .mv rfl rfl <| .W rfl (q_append 1 underlying31 underlying31 sizeOf39 typeInfo39 zeroValue39 rfl (bt := 312) rfl rfl rfl rfl (by simp) rfl rfl (by simp)) <| .ag rfl rfl <| .nil ?_
     refine Run.nil (bN0 ?_)
     refine Run.reg [.p, .p] ?_
     refine .P rfl (q_add rfl rfl (w64 (by omega))) <| .mv rfl rfl <| .nil ?_
     refine Run.nil (tN0 ?_)
     exact ⟨⟨1, by omega⟩, by dsimp only; omega, (Le.mk (obs' := [(1, _)]) rfl (show EnvLe _ _ [(6, _), (25, _), (26, _), (27, _)] from (.s rfl rfl (.s rfl rfl (.s rfl rfl (.s rfl rfl .nil))))) (.cons (i := 1) rfl rfl .nil)).trans <| (Le.ren 6 1 0 rfl rfl (by simp) rfl).trans <| Le.mk rfl (.cons rfl (Sub.gs (by simp)) rfl (.s rfl rfl (.s rfl rfl (.s rfl rfl .nil)))) (.arr rfl (by simp) .nil)⟩
    ·skip
     refine Run.seq (Run.reg [.p] ?_)
     refine .P rfl (q_lss rfl rfl) <| .nil ?_
     refine Run.seq ?_
     refine Run.condT rfl (rfl) ?_
     refine Run.skip ?_
     refine Run.seq ?_
     refine Run.block ?_
     refine Run.seq (Run.reg [.p, .p, .p] ?_)
     refine .P rfl (qIi underlying78 sizeOf31 rfl rfl (by decide) rfl) <| .P rfl (qLo isAgg31 rfl) <| .ag rfl rfl <| .nil ?_
     refine Run.reg [.p, .p, .w, .p] ?_
     refine .mv rfl rfl <| .mv rfl rfl <| .W rfl (q_append 1 underlying31 underlying31 sizeOf39 typeInfo39 zeroValue39 rfl (bt := 312) rfl rfl rfl rfl (by simp) rfl rfl (by simp)) <| .ag rfl rfl <| .nil ?_
     refine Run.nil (bN0 ?_)
     refine Run.reg [.p, .p] ?_
     refine .P rfl (q_add rfl rfl (w64 (by omega))) <| .mv rfl rfl <| .nil ?_
     refine Run.nil (tN0 ?_)
     exact ⟨⟨2, by omega⟩, by dsimp only; omega, (Le.mk (obs' := [(1, _)]) rfl (show EnvLe _ _ [(6, _), (25, _), (26, _), (27, _)] from (.s rfl rfl (.s rfl rfl (.s rfl rfl (.s rfl rfl .nil))))) (.cons (i := 1) rfl rfl .nil)).trans <| (Le.ren 6 1 0 rfl rfl (by simp) rfl).trans <| Le.mk rfl (.cons rfl (Sub.gs (by simp)) rfl (.s rfl rfl (.s rfl rfl (.s rfl rfl .nil)))) (.arr rfl (by simp) .nil)⟩
    ·skip
     refine Run.seq (Run.reg [.p] ?_)
     refine .P rfl (q_lss rfl rfl) <| .nil ?_
     refine Run.seq ?_
     refine Run.condF rfl (rfl) ?_
     refine Run.exit (tX0 (bX0 ?_))
     refine Run.seq (Run.reg [.p, .p] ?_)
     refine .mv rfl rfl <| .ag rfl rfl <| .nil ?_
     refine Run.weak (Le.freeze 2 0 rfl rfl (by simp)) ?_
     refine Run.ret (?_)
     exact ret1 rfl (Sub.snap (by simp))
    ·omega
  ·omega
theorem concatF_ok (a b : List Fact) (hal : a.length ≤ 1000) (hbl : b.length ≤ 1000) : Fc Tryz.prog 17 [.snap 1 true [[sFacts a], [sFacts b]]] (sFacts (a ++ b)) := by
 by_cases h : a.length = 0
 ·have e := List.length_eq_zero_iff.1 h
  subst e
  by_cases h' : b.length = 0
  ·have e := List.length_eq_zero_iff.1 h'
   subst e
   exact concat0F_ok
  ·exact concatBF_ok b hbl h'
 ·exact concatAF_ok a b hal hbl h
structure indexStr_ok_L0 (l : List Str) (n : Str) where
 pre : List Str
 rest : List Str
 hx : l = pre ++ rest
 hp : pre.any (fun m => decide (n = m)) = false
theorem indexStr_ok (l : List Str) (n : Str) : Fc Tryz.prog 47 [sStrs l, .str n] (.i (findI (fun m => decide (n = m)) l)) := by
 refine Fc.mk' [4] func47 rfl ntmps47 rfl rfl rfl (fun t w => results_tmp results47 t _ w) ?_
 refine Run.bSnap 0 rfl (fun hb => ?_)
 simp only [List.length_map, big] at hb
 refine go [] ?_
 refine Run.loop (ι := indexStr_ok_L0 l n) (fun sx => [(0, sStrs l), (1, .str n), (6, sStrs l), (7, .i l.length), (8, .i sx.pre.length)]) (fun sx => []) (fun sx => sx.rest.length) ⟨[], l, rfl, rfl⟩ ?_ ?_
 ·exact Le.mk rfl (.s rfl rfl (.s rfl rfl (.s rfl rfl (.cons rfl (Sub.int (by simp)) rfl (.s rfl rfl .nil))))) .nil
 ·rintro ⟨pre, rest, hx, hp⟩
  show Run _ _ _ _ [(0, sStrs l), (1, .str n), (6, sStrs l), (7, .i l.length), (8, .i pre.length)] []
  have hl := congrArg List.length hx
  simp only [List.length_append] at hl
  rcases rest with _ | ⟨x, rest⟩
  ·skip
   refine go [] ?_
   refine brF (by simp at hl ⊢; omega) ?_
   refine go [] ?_
   exact rx1 rfl (Sub.int (by exact find_F hx hp))
  ·simp only [List.length_cons] at hl
   refine go [] ?_
   refine brT (by simp; omega) ?_
   refine ix (by omega) (iMd (fun s : Str => [D.str s]) hx rfl) ?_
   refine br (fun h1 => ?_) (fun h1 => ?_)
   ·exact rx1 rfl (Sub.int (by exact find_T hx hp h1))
   ·refine sd (w64 (by omega)) ?_
    exact nx ⟨pre ++ [x], rest, by simp [hx], any_S hp h1⟩ (by simp) (Le.mk rfl (.s rfl rfl (.s rfl rfl (.s rfl rfl (.s rfl rfl (.cons rfl (Sub.int (by simp)) rfl .nil))))) .nil)
theorem hasStr_ok (l : List Str) (n : Str) : Fc Tryz.prog 15 [sStrs l, .str n] (.b (l.any (fun m => decide (n = m)))) := by
 refine Fc.mk' [4] func15 rfl ntmps15 rfl rfl rfl (fun t w => results_tmp results15 t _ w) ?_
 refine go [] ?_
 refine oP (qCa call47 rfl (indexStr_ok _ _)) ?_
 exact rx1 rfl (Sub.bool (by exact findI_ge _ l))
@[reducible] def lackS (h : List Str) (x : Str) : Bool := !h.any (fun m => decide (x = m))
theorem lack_ok (h : List Str) (x : Str) : Fc Tryz.prog 14 [.str x, .iptr [sStrs h]] (.b (lackS h x)) := by
 refine Fc.mk' [3] func14 rfl ntmps14 rfl rfl rfl (fun t w => results_tmp results14 t _ w) ?_
 refine go [] ?_
 refine oP (qCa call15 rfl (hasStr_ok _ _)) ?_
 exact rx1 rfl (Sub.refl _)
theorem holdsAll_ok (k h : List Str) : Fc Tryz.prog 12 [sStrs h, .iptr [sStrs k]] (.b (!k.any (lackS h))) := by
 refine Fc.mk' [3] func12 rfl ntmps12 rfl rfl rfl (fun t w => results_tmp results12 t _ w) ?_
 refine go [1] ?_
 refine Run.weak (Le.freezeB 2 0 rfl rfl rfl rfl) ?_
 refine go [] ?_
 refine oP (qCa call13 rfl (containsStrP_ok k _ [.iptr [sStrs h]] rfl (lackS h) call14 (fun x _ => lack_ok h x))) ?_
 exact rx1 rfl (Sub.refl _)
theorem strE_F {x y : Str} (h : decide (x ≠ y) = false) : x = y := by simpa using h
theorem strE_T {x y : Str} (h : decide (x ≠ y) = true) : x ≠ y := by simpa using h
structure eqNames_ok_L0 (a b : List Str) where
 pre : List Str
 rest : List Str
 pre2 : List Str
 rest2 : List Str
 hx : a = pre ++ rest
 hy : b = pre2 ++ rest2
 hp : pre = pre2
 hlp : pre2.length = pre.length
 hlr : rest2.length = rest.length
theorem eqNames_ok (a b : List Str) : Fc Tryz.prog 19 [sStrs a, sStrs b] (.b (eqL a b)) := by
 refine Fc.mk' [4] func19 rfl ntmps19 rfl rfl rfl (fun t w => results_tmp results19 t _ w) ?_
 refine Run.bSnap 0 rfl (fun hb => ?_)
 simp only [List.length_map, big] at hb
 refine Run.bSnap 1 rfl (fun hb2 => ?_)
 simp only [List.length_map, big] at hb2
 refine go [] ?_
 refine br (fun h1 => ?_) (fun h1 => ?_)
 ·exact rx1 rfl (Sub.bool (by exact eq_len (by have h9 := h1; simp at h9; omega)))
 ·refine Run.loop (ι := eqNames_ok_L0 a b) (fun sx => [(0, sStrs a), (1, sStrs b), (12, .i a.length), (13, .i sx.pre.length)]) (fun sx => []) (fun sx => sx.rest.length) ⟨[], a, [], b, rfl, rfl, rfl, rfl, by simp at h1; omega⟩ ?_ ?_
  ·exact Le.mk rfl (.s rfl rfl (.s rfl rfl (.cons rfl (Sub.int (by simp)) rfl (.s rfl rfl .nil)))) .nil
  ·rintro ⟨pre, rest, pre2, rest2, hx, hy, hp, hlp, hlr⟩
   show Run _ _ _ _ [(0, sStrs a), (1, sStrs b), (12, .i a.length), (13, .i pre.length)] []
   have hl := congrArg List.length hx
   simp only [List.length_append] at hl
   rcases rest with _ | ⟨x, rest⟩
   ·obtain rfl : rest2 = [] := List.length_eq_zero_iff.1 (by simpa using hlr)
    refine go [] ?_
    refine brF (by simp at hl ⊢; omega) ?_
    refine go [] ?_
    exact rx1 rfl (Sub.bool (by exact eq_all hx hy hp))
   ·simp only [List.length_cons] at hl
    obtain ⟨y, rest2, rfl⟩ := cons_of_len (n := rest.length) (by simpa using hlr)
    refine go [] ?_
    refine brT (by simp; omega) ?_
    refine ix (by omega) (iMd (fun s : Str => [D.str s]) hx rfl) ?_
    refine ix (by omega) (iMd (fun s : Str => [D.str s]) hy (by omega)) ?_
    refine ord ?_
    refine br (fun h2 => ?_) (fun h2 => ?_)
    ·exact rx1 rfl (Sub.bool (by exact eq_ne hx hy hlp (strE_T h2)))
    ·refine sd (w64 (by omega)) ?_
     exact nx ⟨pre ++ [x], rest, pre2 ++ [y], rest2, by simp [hx], by simp [hy], by rw [hp, strE_F h2], by simp [hlp], by simpa using hlr⟩ (by simp) (Le.mk rfl (.s rfl rfl (.s rfl rfl (.s rfl rfl (.cons rfl (Sub.int (by simp)) rfl .nil)))) .nil)
structure indexGr_ok_L0 (l : List (List Str)) (P : (List Str) → Bool) where
 pre : List (List Str)
 rest : List (List Str)
 hx : l = pre ++ rest
 hp : pre.any P = false
theorem indexGr_ok (l : List (List Str)) (f : FuncId) (caps : List D) (hcap : D.pureB.pureL caps = true) (P : (List Str) → Bool) (hcall : ∀ (args : Array Value) (w : World), (callFunc f args).run Tryz.prog w = .ok (.enter f args) w) (hP : ∀ x ∈ l, Fc Tryz.prog f (sStrs x :: caps) (.b (P x))) : Fc Tryz.prog 48 [.snap 1 false (l.map fun v => [sStrs v]), .fn (.func f) [] caps] (.i (findI P l)) := by
 refine Fc.mk' [4] func48 rfl ntmps48 rfl (by simp [D.pureB, D.pureB.pureL, hcap]) rfl (fun t w => results_tmp results48 t _ w) ?_
 refine Run.bSnap 0 rfl (fun hb => ?_)
 simp only [List.length_map, big] at hb
 refine go [] ?_
 refine Run.loop (ι := indexGr_ok_L0 l P) (fun sx => [(0, .snap 1 false (l.map fun v => [sStrs v])), (1, .fn (.func f) [] caps), (6, .snap 1 false (l.map fun v => [sStrs v])), (7, .i l.length), (8, .i sx.pre.length)]) (fun sx => []) (fun sx => sx.rest.length) ⟨[], l, rfl, rfl⟩ ?_ ?_
 ·exact Le.mk rfl (.s rfl rfl (.cons rfl (Sub.refl _) (okB_fn hcap) (.s rfl rfl (.cons rfl (Sub.int (by simp)) rfl (.s rfl rfl .nil))))) .nil
 ·rintro ⟨pre, rest, hx, hp⟩
  show Run _ _ _ _ [(0, .snap 1 false (l.map fun v => [sStrs v])), (1, .fn (.func f) [] caps), (6, .snap 1 false (l.map fun v => [sStrs v])), (7, .i l.length), (8, .i pre.length)] []
  have hl := congrArg List.length hx
  simp only [List.length_append] at hl
  rcases rest with _ | ⟨x, rest⟩
  ·skip
   refine go [] ?_
   refine brF (by simp at hl ⊢; omega) ?_
   refine go [] ?_
   exact rx1 rfl (Sub.int (by exact find_F hx hp))
  ·simp only [List.length_cons] at hl
   refine go [] ?_
   refine brT (by simp; omega) ?_
   refine ix (by omega) (iMd (fun v => [sStrs v]) hx rfl) ?_
   refine oP (qCf hcall rfl rfl (hP x (by rw [hx]; simp))) ?_
   refine br (fun h1 => ?_) (fun h1 => ?_)
   ·exact rx1 rfl (Sub.int (by exact find_T hx hp h1))
   ·refine sd (w64 (by omega)) ?_
    exact nx ⟨pre ++ [x], rest, by simp [hx], any_S hp h1⟩ (by simp) (Le.mk rfl (.s rfl rfl (.cons rfl (Sub.refl _) (okB_fn hcap) (.s rfl rfl (.s rfl rfl (.cons rfl (Sub.int (by simp)) rfl .nil))))) .nil)
theorem containsGr_ok (l : List (List Str)) (f : FuncId) (caps : List D) (hcap : D.pureB.pureL caps = true) (P : (List Str) → Bool) (hcall : ∀ (args : Array Value) (w : World), (callFunc f args).run Tryz.prog w = .ok (.enter f args) w) (hP : ∀ x ∈ l, Fc Tryz.prog f (sStrs x :: caps) (.b (P x))) : Fc Tryz.prog 16 [.snap 1 false (l.map fun v => [sStrs v]), .fn (.func f) [] caps] (.b (l.any P)) := by
 refine Fc.mk' [4] func16 rfl ntmps16 rfl (by simp [D.pureB, D.pureB.pureL, hcap]) rfl (fun t w => results_tmp results16 t _ w) ?_
 refine go [] ?_
 refine oP (qCa call48 rfl (indexGr_ok l f caps hcap P hcall hP)) ?_
 exact rx1 rfl (Sub.bool (by exact findI_ge P l))
end Go.T
namespace Go.T
open Go
abbrev encGrp (l : List (List Str)) : D := .snap 1 false (l.map fun v => [D.snap 1 false (rowsS v)])
theorem Sub.row1 {w : World} {O : Nat → Prop} {b off : Nat} {d d' : D} {rows : List (List D)} (s : Sub d d') (h : Vr w O b off 1 ([d] :: rows)) : Vr w O b off 1 ([d'] :: rows) := by
 refine Vr1_mk _ _ fun i r hr => ?_
 cases i with
 | zero =>
  simp only [List.getElem?_cons_zero, Option.some.injEq] at hr
  subst hr
  obtain ⟨u, h1, h2, h3⟩ := Vr1_get _ _ h 0 d rfl
  exact ⟨d', u, rfl, h1, h2, s.out _ _ _ _ h3⟩
 | succ i =>
  simp only [Vr] at h
  simp only [List.getElem?_cons_succ] at hr
  have hl : ∀ (l : List (List D)) (o : Nat), Vr w O b o 1 l → ∀ (i : Nat) (r : List D), l[i]? = some r → ∃ d, r = [d] := by
   intro l
   induction l with
   | nil => intro o _ i r h; simp at h
   | cons a l ih =>
    intro o hv i r h
    simp only [Vr] at hv
    cases i with
    | zero => simp only [List.getElem?_cons_zero, Option.some.injEq] at h; subst h; exact List.length_eq_one_iff.1 hv.1.1
    | succ i => exact ih _ hv.2 i r (by simpa using h)
  obtain ⟨e, rfl⟩ := hl _ _ h.2 i r hr
  obtain ⟨u, h1, h2, h3⟩ := Vr1_get _ _ h.2 i e hr
  exact ⟨e, u, rfl, by rwa [show off + (i + 1) = off + 1 + i by omega], h2, h3⟩
theorem Sub.groups (gs : List (List Str)) : Sub (encGroups gs) (encGrp ([] :: gs)) := by
 refine ⟨fun w O ρ v h => ?_⟩
 simp only [V] at h ⊢
 obtain ⟨a, cap, rfl, h1, h2, h3⟩ := h
 refine ⟨a, cap, by simp, by simpa using h1, by simp, fun _ => ?_⟩
 obtain ⟨b, off, e, h4, h5⟩ := h3 (by simp)
 exact ⟨b, off, e, h4, Sub.row1 (Sub.nil _ _) h5⟩
open Go.Proofs Go.Proofs.Tryz
set_option maxRecDepth 20000
theorem grE_F {x y : List Str} (h : (!eqL x y) = false) : x = y := by simpa [eqL] using h
theorem grE_T {x y : List Str} (h : (!eqL x y) = true) : x ≠ y := by simpa [eqL] using h
structure eqGroups_ok_L0 (a b : List (List Str)) where
 pre : List (List Str)
 rest : List (List Str)
 pre2 : List (List Str)
 rest2 : List (List Str)
 hx : a = pre ++ rest
 hy : b = pre2 ++ rest2
 hp : pre = pre2
 hlp : pre2.length = pre.length
 hlr : rest2.length = rest.length
theorem eqGroups_ok (a b : List (List Str)) : Fc Tryz.prog 18 [.snap 1 false (a.map fun v => [sStrs v]), .snap 1 false (b.map fun v => [sStrs v]), .fn (.func 19) [] []] (.b (eqL a b)) := by
 refine Fc.mk' [6] func18 rfl ntmps18 rfl rfl rfl (fun t w => results_tmp results18 t _ w) ?_
 refine Run.bSnap 0 rfl (fun hb => ?_)
 simp only [List.length_map, big] at hb
 refine Run.bSnap 1 rfl (fun hb2 => ?_)
 simp only [List.length_map, big] at hb2
 refine go [] ?_
 refine br (fun h1 => ?_) (fun h1 => ?_)
 ·exact rx1 rfl (Sub.bool (by exact eq_len (by have h9 := h1; simp at h9; omega)))
 ·refine Run.loop (ι := eqGroups_ok_L0 a b) (fun sx => [(0, .snap 1 false (a.map fun v => [sStrs v])), (1, .snap 1 false (b.map fun v => [sStrs v])), (2, .fn (.func 19) [] []), (15, .snap 1 false (a.map fun v => [sStrs v])), (16, .i a.length), (17, .i sx.pre.length)]) (fun sx => []) (fun sx => sx.rest.length) ⟨[], a, [], b, rfl, rfl, rfl, rfl, by simp at h1; omega⟩ ?_ ?_
  ·exact Le.mk rfl (.s rfl rfl (.s rfl rfl (.s rfl rfl (.s rfl rfl (.cons rfl (Sub.int (by simp)) rfl (.s rfl rfl .nil)))))) .nil
  ·rintro ⟨pre, rest, pre2, rest2, hx, hy, hp, hlp, hlr⟩
   show Run _ _ _ _ [(0, .snap 1 false (a.map fun v => [sStrs v])), (1, .snap 1 false (b.map fun v => [sStrs v])), (2, .fn (.func 19) [] []), (15, .snap 1 false (a.map fun v => [sStrs v])), (16, .i a.length), (17, .i pre.length)] []
   have hl := congrArg List.length hx
   simp only [List.length_append] at hl
   rcases rest with _ | ⟨x, rest⟩
   ·obtain rfl : rest2 = [] := List.length_eq_zero_iff.1 (by simpa using hlr)
    refine go [] ?_
    refine brF (by simp at hl ⊢; omega) ?_
    refine go [] ?_
    exact rx1 rfl (Sub.bool (by exact eq_all hx hy hp))
   ·simp only [List.length_cons] at hl
    obtain ⟨y, rest2, rfl⟩ := cons_of_len (n := rest.length) (by simpa using hlr)
    refine go [] ?_
    refine brT (by simp; omega) ?_
    refine ix (by omega) (iMd (fun v : List Str => [sStrs v]) hx rfl) ?_
    refine ix (by omega) (iMd (fun v : List Str => [sStrs v]) hy (by omega)) ?_
    refine oP (qCf call19 rfl rfl (eqNames_ok x y)) ?_
    refine br (fun h2 => ?_) (fun h2 => ?_)
    ·exact rx1 rfl (Sub.bool (by exact eq_ne hx hy hlp (grE_T h2)))
    ·refine sd (w64 (by omega)) ?_
     exact nx ⟨pre ++ [x], rest, pre2 ++ [y], rest2, by simp [hx], by simp [hy], by rw [hp, grE_F h2], by simp [hlp], by simpa using hlr⟩ (by simp) (Le.mk rfl (.s rfl rfl (.s rfl rfl (.s rfl rfl (.s rfl rfl (.s rfl rfl (.cons rfl (Sub.int (by simp)) rfl .nil)))))) .nil)
def zeroFact : Fact := ⟨[], 0, false, 0, 0, [], [], [], [], [], [], [], ⟨[], []⟩, ⟨[], []⟩, ⟨[], []⟩, [], [], 0⟩
def buyF (k c : Str) : Fact := { zeroFact with key := k, day := 20, kind := 3, instr := c, qty := [49] }
theorem buy_ok (k c : Str) : Fc Tryz.prog 40 [.str k, .str c] (.agg (encFact (buyF k c))) := by
 refine Fc.mkR func40 rfl ntmps40 rfl rfl rfl ?_
 refine go [99999] ?_
 refine Run.ret (?_)
 exact Rd.cA results40 isAgg39 sizeOf39 rfl rfl rfl (Sub.agg (.r (.cons (Sub.refl _) (.r (.cons (Sub.refl _) (.r (.cons (Sub.refl _) (.r (.cons (Sub.refl _) (.r (.cons (Sub.refl _) (.r (.cons (Sub.refl _) (.r (.cons (Sub.refl _) (.r (.cons (Sub.refl _) (.r (.cons (Sub.refl _) (.cons ((Sub.nil _ false).trans (Sub.refl _)) (.cons ((Sub.nil _ false).trans (Sub.refl _)) (.r .nil))))))))))))))))))))))
end Go.T
namespace Go.T
open Go
variable [Noise]
theorem Fc.res {P : Program} {f : FuncId} {ds : List D} {r r' : D} (h : Fc P f ds r) (s : Sub r r') : Fc P f ds r' :=
 ⟨fun w O ρ vals hO hg hv => (h.out w O ρ vals hO hg hv).mono fun _ _ hx => by
  obtain ⟨v, e1, h1, h2⟩ := hx
  exact ⟨v, e1, s.out _ _ _ _ h1, h2⟩⟩
theorem FcO.freeze {P : Program} {f : FuncId} {a r : D} {id sz n : Nat} {rows : List (List D)} (h : Fc P f [a, .snap sz false rows] r) (hn : rows.length = n) : FcO P f [a, .gs id n] [(id, .arr sz rows)] r [(id, .dead)] := ⟨fun w O ρ vals hok hg hv => by
 have htr := Tr.die id hok
 have e : Obs.set [(id, Ob.arr sz rows)] id .dead = [(id, .dead)] := by simp [Obs.set]
 have hgs : ∀ v, V w (Ot O ρ [(id, Ob.arr sz rows)]) ρ (.gs id n) v → V w (Ot O ρ [(id, Ob.dead)]) ρ (.snap sz false rows) v := fun v hv => by
  have := gs_snap hok (show Obs.get [(id, Ob.arr sz rows)] id = some (.arr sz rows) by simp [Obs.get]) hn hv
  rwa [e] at this
 rw [e] at htr
 simp only [Vs] at hv
 obtain ⟨u, us, rfl, h1, u2, us2, rfl, h2, rfl⟩ := hv
 have hlt : ∀ b, Ot O ρ [(id, Ob.dead)] b → b < w.heap.size := fun b hb => by
  rcases hb with hb | ⟨i, o, l, g1, g2, g3⟩
  ·exact hok.lt b hb
  ·have c : (i = id ∧ Ob.dead = o) ∨ False := by
    simp only [Obs.get] at g1
    cases hb2 : id.beq i with
    | true => rw [hb2] at g1; exact .inl ⟨(Nat.eq_of_beq_eq_true hb2).symm, Option.some.inj g1⟩
    | false => rw [hb2] at g1; cases g1
   rcases c with ⟨_, rfl⟩ | c
   ·cases g2
   ·exact c.elim
 refine (h.out w (Ot O ρ [(id, .dead)]) ρ [u, u2] hlt (hg.mono htr.kept) ?_).mono fun ex w' hx => ?_
 ·simp only [Vs]
  exact ⟨u, _, rfl, htr.V h1, u2, [], rfl, hgs u2 h2, rfl⟩
 ·obtain ⟨v, e1, h3, h4⟩ := hx
  exact ⟨v, ρ, e1, htr.trans (Tr.of_keep h4 htr.ok), h3⟩⟩
theorem Vc_subs {w : World} {O : Nat → Prop} {b : Nat} {ds ds' : List D} (h : Subs ds ds') : ∀ off, Vc w O b off ds → Vc w O b off ds' := by
 induction h with
 | nil => exact fun _ h => h
 | cons s _ ih =>
  intro off hv
  simp only [Vc] at hv ⊢
  obtain ⟨⟨u, h1, h2⟩, h3⟩ := hv
  exact ⟨⟨u, h1, s.out _ _ _ _ h2⟩, ih _ h3⟩
theorem Subs.len {ds ds' : List D} (h : Subs ds ds') : ds.length = ds'.length := by
 induction h with
 | nil => rfl
 | cons _ _ ih => simp [ih]
inductive RSubs : List (List D) → List (List D) → Prop
 | nil : RSubs [] []
 | cons {r r' : List D} {rs rs' : List (List D)} (h : Subs r r') (k : RSubs rs rs') : RSubs (r :: rs) (r' :: rs')
theorem RSubs.len {rs rs' : List (List D)} (h : RSubs rs rs') : rs.length = rs'.length := by
 induction h with
 | nil => rfl
 | cons _ _ ih => simp [ih]
theorem Vr_subs {w : World} {O : Nat → Prop} {b sz : Nat} {rs rs' : List (List D)} (h : RSubs rs rs') : ∀ off, Vr w O b off sz rs → Vr w O b off sz rs' := by
 induction h with
 | nil => exact fun _ h => h
 | cons s _ ih =>
  intro off hv
  simp only [Vr] at hv ⊢
  exact ⟨⟨s.len ▸ hv.1.1, Vc_subs s _ hv.1.2⟩, ih _ hv.2⟩
theorem Sub.rows {sz : Nat} {f : Bool} {rs rs' : List (List D)} (h : RSubs rs rs') : Sub (.snap sz f rs) (.snap sz false rs') := by
 have hl := h.len
 refine ⟨fun w O ρ v hv => ?_⟩
 simp only [V] at hv ⊢
 obtain ⟨a, cap, rfl, h1, _, h3⟩ := hv
 rw [hl] at h1
 refine ⟨a, cap, by rw [hl], h1, by simp, fun hne => ?_⟩
 obtain ⟨b, off, e, h4, h5⟩ := h3 (by
  cases rs with
  | nil => cases h; exact absurd rfl hne
  | cons => simp)
 exact ⟨b, off, e, h4, Vr_subs h _ h5⟩
end Go.T
namespace Go.T
open Go
theorem says_all : ∀ Ls : List (List Str), ∃ u, SaysU u Ls
 | [] => ⟨[], says_nil⟩
 | l :: Ls => by obtain ⟨u, h⟩ := says_all Ls; exact ⟨joinU u l, says_join h l⟩
theorem groupsU_mem {u : UM} {g : List Str} (h : g ∈ groupsU u) : ∃ x ∈ keysU u, ∀ y, y ∈ g ↔ (y ∈ keysU u ∧ rootU u y = rootU u x) := by
 unfold groupsU at h
 obtain ⟨x, hx, rfl⟩ := List.mem_map.1 h
 refine ⟨x, (mem_leads.1 hx).1, fun y => ?_⟩
 unfold classU
 rw [mem_sortN, List.mem_filter]
 simp
theorem groupsU_of {u : UM} {x : Str} (hx : x ∈ keysU u) : ∃ g ∈ groupsU u, ∀ y, y ∈ g ↔ (y ∈ keysU u ∧ rootU u y = rootU u x) := by
 have hne : ((keysU u).filter fun y => decide (rootU u y = rootU u x)) ≠ [] := List.ne_nil_of_mem (class_mem hx)
 obtain ⟨h1, h2⟩ := sortN_head hne
 generalize (sortN ((keysU u).filter fun y => decide (rootU u y = rootU u x))).headD [] = z at h1 h2
 obtain ⟨h3, h4⟩ := List.mem_filter.1 h1
 have h4 : rootU u z = rootU u x := of_decide_eq_true h4
 refine ⟨classU u z, ?_, fun y => ?_⟩
 ·unfold groupsU
  refine List.mem_map.2 ⟨z, mem_leads.2 ⟨h3, ?_⟩, rfl⟩
  unfold leadU
  simp only [List.all_eq_true, decide_eq_true_eq]
  exact fun y hy e => h2 y (List.mem_filter.2 ⟨hy, by rw [e, h4]; exact decide_eq_true rfl⟩)
 ·unfold classU
  rw [mem_sortN, List.mem_filter, h4]
  simp
theorem groups_more {Ls Ls' : List (List Str)} (hs : ∀ l ∈ Ls, ∃ l' ∈ Ls', ∀ x ∈ l, x ∈ l') : ∀ g ∈ groupsL Ls, ∃ g' ∈ groupsL Ls', ∀ x ∈ g, x ∈ g' := by
 obtain ⟨u, hu⟩ := says_all Ls
 obtain ⟨u', hu'⟩ := says_all Ls'
 rw [← groups_eq hu, ← groups_eq hu']
 intro g hg
 obtain ⟨x, hx, hm⟩ := groupsU_mem hg
 have up : ∀ y, y ∈ keysU u → y ∈ keysU u' := fun y hy => by
  obtain ⟨l, hl, hy⟩ := (hu.keys y).1 hy
  obtain ⟨l', hl', h⟩ := hs l hl
  exact (hu'.keys y).2 ⟨l', hl', h y hy⟩
 obtain ⟨g', hg', hm'⟩ := groupsU_of (up x hx)
 refine ⟨g', hg', fun y hy => ?_⟩
 obtain ⟨h1, h2⟩ := (hm y).1 hy
 exact (hm' y).2 ⟨up y h1, (hu'.conn y x (up y h1) (up x hx)).2 (((hu.conn y x h1 hx).1 h2).mono hs)⟩
theorem groups_same {Ls Ls' : List (List Str)} (h1 : ∀ l ∈ Ls, ∃ l' ∈ Ls', ∀ x ∈ l, x ∈ l') (h2 : ∀ l ∈ Ls', ∃ l' ∈ Ls, ∀ x ∈ l, x ∈ l') : groupsL Ls = groupsL Ls' := by
 obtain ⟨u, hu⟩ := says_all Ls
 rw [← groups_eq hu, ← groups_eq (hu.mono h1 h2)]
theorem day_mono {l l' : List Fact} (h : ∀ f ∈ l, f ∈ l') {k x : Str} (hx : x ∈ dayNames l k) : x ∈ dayNames l' k := by
 unfold dayNames at hx ⊢
 obtain ⟨r, hr, hx⟩ := List.mem_flatten.1 hx
 obtain ⟨f, hf, rfl⟩ := List.mem_map.1 hr
 obtain ⟨h1, h2⟩ := List.mem_filter.1 hf
 exact List.mem_flatten.2 ⟨_, List.mem_map.2 ⟨f, List.mem_filter.2 ⟨h f h1, h2⟩, rfl⟩, hx⟩
theorem div_mono {s : Setup} {l l' : List Fact} (h : ∀ f ∈ l, f ∈ l') : ∀ r ∈ divLists s l, ∃ r' ∈ divLists s l', ∀ x ∈ r, x ∈ r' := by
 intro r hr
 unfold divLists at hr
 rw [List.mem_append, List.mem_append] at hr
 rcases hr with (hr | hr) | hr
 ·exact ⟨r, by unfold divLists; rw [List.mem_append, List.mem_append]; exact .inl (.inl hr), fun _ => id⟩
 ·obtain ⟨f, hf, rfl⟩ := List.mem_map.1 hr
  exact ⟨instrsS f, by unfold divLists; rw [List.mem_append, List.mem_append]; exact .inl (.inr (List.mem_map.2 ⟨f, h f hf, rfl⟩)), fun _ => id⟩
 ·obtain ⟨f, hf, rfl⟩ := List.mem_map.1 hr
  exact ⟨dayNames l' f.key, by unfold divLists; rw [List.mem_append]; exact .inr (List.mem_map.2 ⟨f, h f hf, rfl⟩), fun x hx => day_mono h hx⟩
theorem depend_more (s : Setup) (l : List Fact) (f : Fact) : ∀ g ∈ groupsL (divLists s l), ∃ g' ∈ groupsL (divLists s (l ++ [f])), ∀ x ∈ g, x ∈ g' := groups_more (div_mono fun g hg => List.mem_append_left _ hg)
theorem depend_turn (s : Setup) (l : List Fact) (n : Nat) : groupsL (divLists s (l.drop n ++ l.take n)) = groupsL (divLists s l) :=
 groups_same (div_mono fun f hf => (List.mem_append.1 hf).elim List.mem_of_mem_drop List.mem_of_mem_take) (div_mono fun f hf => by
  have : f ∈ l.take n ++ l.drop n := by rw [List.take_append_drop]; exact hf
  rcases List.mem_append.1 this with h | h
  ·exact List.mem_append_right _ h
  ·exact List.mem_append_left _ h)
theorem flat_uniq {gs : List (List Str)} (hnd : gs.flatten.Nodup) {g g' : List Str} (hg : g ∈ gs) (hg' : g' ∈ gs) {x : Str} (hx : x ∈ g) (hx' : x ∈ g') : g = g' := by
 induction gs with
 | nil => cases hg
 | cons a r ih =>
  rw [List.flatten_cons, List.nodup_append] at hnd
  rcases List.mem_cons.1 hg with e | hg <;> rcases List.mem_cons.1 hg' with e' | hg'
  ·rw [e, e']
  ·exact absurd rfl (hnd.2.2 x (e ▸ hx) x (List.mem_flatten.2 ⟨g', hg', hx'⟩))
  ·exact absurd rfl (hnd.2.2 x (e' ▸ hx') x (List.mem_flatten.2 ⟨g, hg, hx⟩))
  ·exact ih hnd.2.1 hg hg'
theorem flat_nd {gs : List (List Str)} (hnd : gs.flatten.Nodup) {g : List Str} (hg : g ∈ gs) : g.Nodup := by
 induction gs with
 | nil => cases hg
 | cons a r ih =>
  rw [List.flatten_cons, List.nodup_append] at hnd
  rcases List.mem_cons.1 hg with rfl | hg
  ·exact hnd.1
  ·exact ih hnd.2.1 hg
theorem groupsL_is {Ls gs : List (List Str)} (hne : ∀ g ∈ gs, g ≠ []) (hs : ∀ g ∈ gs, g.Pairwise fun a b => a ≤ b) (hnd : gs.flatten.Nodup) (hh : (gs.map (·.headD [])).Pairwise fun a b => a ≤ b)
  (hin : ∀ r ∈ Ls, r ≠ [] → ∃ g ∈ gs, ∀ x ∈ r, x ∈ g) (hcon : ∀ g ∈ gs, ∀ x ∈ g, Conn Ls (g.headD []) x ∧ named Ls x) : groupsL Ls = gs := by
 obtain ⟨u, hu⟩ := says_all Ls
 rw [← groups_eq hu]
 have stay : ∀ {x y : Str}, Conn Ls x y → x = y ∨ ∃ g ∈ gs, x ∈ g ∧ y ∈ g := by
  intro x y hc
  induction hc with
  | refl x => exact .inl rfl
  | one hl hx hy =>
   obtain ⟨g, hg, h⟩ := hin _ hl (List.ne_nil_of_mem hx)
   exact .inr ⟨g, hg, h _ hx, h _ hy⟩
  | symm _ ih => exact ih.imp Eq.symm fun ⟨g, a, b, c⟩ => ⟨g, a, c, b⟩
  | trans _ _ ih ih' =>
   rcases ih with rfl | ⟨g, a, b, c⟩
   ·exact ih'
   ·rcases ih' with rfl | ⟨g', a', b', c'⟩
    ·exact .inr ⟨g, a, b, c⟩
    ·obtain rfl := flat_uniq hnd a a' c b'
     exact .inr ⟨g, a, b, c'⟩
 have nk : ∀ g ∈ gs, ∀ x ∈ g, x ∈ keysU u := fun g hg x hx => (hu.keys x).2 (hcon g hg x hx).2
 -- the class of a name of g is g
 have cls : ∀ g ∈ gs, ∀ x ∈ g, classU u x = g := by
  intro g hg x hx
  refine sorted_eq ?_ (sortN_pw _) (hs g hg)
  refine (sortN_perm _).trans ((List.perm_ext_iff_of_nodup (hu.nd.filter _) (flat_nd hnd hg)).2 fun y => ?_)
  rw [List.mem_filter, decide_eq_true_eq]
  constructor
  ·rintro ⟨h1, h2⟩
   rcases stay ((hu.conn y x h1 (nk g hg x hx)).1 h2) with rfl | ⟨g', a, b, c⟩
   ·exact hx
   ·rw [flat_uniq hnd hg a hx c]; exact b
  ·intro hy
   exact ⟨nk g hg y hy, (hu.conn y x (nk g hg y hy) (nk g hg x hx)).2 ((hcon g hg y hy).1.symm.trans (hcon g hg x hx).1)⟩
 have hd : ∀ g ∈ gs, g.headD [] ∈ g := fun g hg => by
  cases g with
  | nil => exact absurd rfl (hne _ hg)
  | cons a r => exact List.mem_cons_self
 have n1 : (groupsU u).Nodup := by
  have : ((groupsU u).map (·.headD [])).Nodup := by
   rw [groups_heads]
   exact (sortN_perm _).nodup_iff.2 (hu.nd.filter _)
  exact (List.pairwise_map.1 this).imp fun hne e => hne (by rw [e])
 have n2 : gs.Nodup := by
  clear hs hh hin hcon stay nk cls
  induction gs with
  | nil => exact List.nodup_nil
  | cons a r ih =>
   have h2 := hnd
   rw [List.flatten_cons, List.nodup_append] at h2
   rw [List.nodup_cons]
   refine ⟨fun ha => ?_, ih (fun g hg => hne g (List.mem_cons_of_mem _ hg)) h2.2.1 (fun g hg => hd g (List.mem_cons_of_mem _ hg))⟩
   have hx := hd a List.mem_cons_self
   exact h2.2.2 _ hx _ (List.mem_flatten.2 ⟨a, ha, hx⟩) rfl
 have hp : (groupsU u).Perm gs := (List.perm_ext_iff_of_nodup n1 n2).2 fun g => by
  constructor
  ·intro hg
   unfold groupsU at hg
   obtain ⟨x, hx, rfl⟩ := List.mem_map.1 hg
   have hx := (mem_leads.1 hx).1
   obtain ⟨r, hr, hxr⟩ := (hu.keys x).1 hx
   obtain ⟨g, hg, h⟩ := hin r hr (List.ne_nil_of_mem hxr)
   rw [cls g hg x (h x hxr)]; exact hg
  ·intro hg
   have h1 := hd g hg
   obtain ⟨g', hg', hm⟩ := groupsU_of (nk g hg _ h1)
   have : g' = g := by
    unfold groupsU at hg'
    obtain ⟨z, hz, rfl⟩ := List.mem_map.1 hg'
    have hz' := (mem_leads.1 hz).1
    have hzc : z ∈ classU u z := by unfold classU; rw [mem_sortN]; exact class_mem hz'
    have e := ((hm z).1 hzc).2
    have : z ∈ classU u (g.headD []) := by unfold classU; rw [mem_sortN]; exact List.mem_filter.2 ⟨hz', decide_eq_true e⟩
    rw [cls g hg _ h1] at this
    exact cls g hg z this
   exact this ▸ hg'
 refine List.Perm.eq_of_pairwise (le := fun x y => x.headD [] ≤ y.headD []) (fun a b ha hb h1 h2 => ?_) (List.pairwise_map.1 (groups_sorted u)) (List.pairwise_map.1 hh) hp
 have e := List.le_antisymm h1 h2
 have ha' := hp.mem_iff.1 ha
 exact flat_uniq hnd ha' hb (hd a ha') (e ▸ hd b hb)
def instA (x : Str) : Inst := { (default : Inst) with id := x, kind := 1, cur := [69, 85, 82], issued := 1 }
def setupA : Setup := { (default : Setup) with curs := [⟨[69, 85, 82], 0⟩], insts := [instA [97], instA [98], instA [99], instA [100]] }
def splitF : Fact := { zeroFact with key := [115], day := 30, kind := 9, instr := [97], other := [98], ratio := ⟨[49], []⟩ }
theorem instrs_split : instrsS splitF = [[97], [98]] := by
 have h1 : sureNames splitF = [[97], [98]] := by decide
 unfold instrsS; rw [h1]
 have h2 : sortN [[97], [98]] = [[97], [98]] := sorted_eq (sortN_perm _) (sortN_pw _) (by decide)
 rw [h2]; decide
theorem instrs_buy (k : Str) (c : UInt8) : instrsS (buyF k [c]) = [[c]] := by
 have h1 : sureNames (buyF k [c]) = [[c]] := by simp [sureNames, instrNames, headNames, kind912, buyF, zeroFact]
 unfold instrsS; rw [h1]
 have h2 : sortN [[c]] = [[c]] := sorted_eq (sortN_perm _) (sortN_pw _) (by simp)
 rw [h2]; simp [Lib.compact, Lib.compactUpTo, Lib.keeps]
theorem groups_one {Ls gs : List (List Str)} (h : ∀ g ∈ gs, g ∈ Ls) (hne : ∀ g ∈ gs, g ≠ []) : ∀ g ∈ gs, ∀ x ∈ g, Conn Ls (g.headD []) x ∧ named Ls x := fun g hg x hx => ⟨.one (h g hg) (by
 cases g with
 | nil => exact absurd rfl (hne _ hg)
 | cons a r => exact List.mem_cons_self) hx, ⟨g, h g hg, hx⟩⟩
theorem divA1 : divLists setupA [splitF, buyF [107] [99]] = [[[97]], [[98]], [[99]], [[100]], [[97], [98]], [[99]], [[97], [98]], [[99]]] := by
 have e1 : splitF.key = [115] := rfl
 have e2 : (buyF [107] [99]).key = [107] := rfl
 simp [divLists, dayNames, instrs_split, instrs_buy, setupA, instA, e1, e2]
theorem groupsA1 : groupsL (divLists setupA [splitF, buyF [107] [99]]) = [[[97], [98]], [[99]], [[100]]] := by
 rw [divA1]
 exact groupsL_is (by decide) (by decide) (by decide) (by decide) (by decide) (groups_one (by decide) (by decide))
theorem divA2 : divLists setupA [splitF, buyF [107] [99], buyF [107] [100]] = [[[97]], [[98]], [[99]], [[100]], [[97], [98]], [[99]], [[100]], [[97], [98]], [[99], [100]], [[99], [100]]] := by
 have e1 : splitF.key = [115] := rfl
 have e2 : ∀ c, (buyF [107] c).key = [107] := fun _ => rfl
 simp [divLists, dayNames, instrs_split, instrs_buy, setupA, instA, e1, e2]
theorem groupsA2 : groupsL (divLists setupA [splitF, buyF [107] [99], buyF [107] [100]]) = [[[97], [98]], [[99], [100]]] := by
 rw [divA2]
 exact groupsL_is (by decide) (by decide) (by decide) (by decide) (by decide) (groups_one (by decide) (by decide))
set_option maxRecDepth 100000 in
theorem okA_buy : chkFact (buyF [107] [99]) = 0 := by decide +kernel
set_option maxRecDepth 100000 in
theorem okA_buy2 : chkFact (buyF [107] [100]) = 0 := by decide +kernel
set_option maxRecDepth 100000 in
theorem okA_split : chkFact splitF = 0 := by decide +kernel
set_option maxRecDepth 100000 in
theorem okA_set : checkInsts setupA.insts setupA.curs = 0 := by decide +kernel
theorem wrongA1 : wrongG setupA [splitF, buyF [107] [99]] = false := by simp [wrongG, okA_set, okA_buy, okA_split]
theorem wrongA2 : wrongG setupA [splitF, buyF [107] [99], buyF [107] [100]] = false := by simp [wrongG, okA_set, okA_buy, okA_buy2, okA_split]
open Go.Proofs
structure okG (s : Setup) (l : List Fact) : Prop where
 insts : ∀ x ∈ s.insts, smallInst x
 facts : ∀ f ∈ l, factOK f
 ilen : s.insts.length ≤ 1000
 ids : ∀ x ∈ s.insts, okStr x.id
 flen : l.length ≤ 500
 opts : ∀ f ∈ l, f.opts.length ≤ 1000 ∧ ∀ s ∈ instrNames f, okStr s
theorem gt_F {n : Int} {s : Str} (h : gt n s = false) : (s.length : Int) ≤ n := by simpa [gt] using h
theorem greatFr_F {f : Frac} (h : greatFr f = false) : smallFr f := by
 simp only [greatFr, Bool.or_eq_false_iff] at h
 have h1 := gt_F h.1
 have h2 := gt_F h.2
 unfold smallFr; omega
theorem longFr_F {f : Frac} (h : longFr f = false) : smallFr f := by
 simp only [longFr, Bool.or_eq_false_iff] at h
 have h1 := gt_F h.1
 have h2 := gt_F h.2
 unfold smallFr; omega
theorem any_no {α : Type} {l : List α} {p : α → Bool} (h : l.any p = false) {x : α} (hx : x ∈ l) : p x = false := by
 have := List.any_eq_false.1 h x hx
 simpa using this
theorem inst_small {x : Inst} (h : greatInst x = false) : smallInst x ∧ okStr x.id := by
 simp only [greatInst, Bool.or_eq_false_iff, List.any_cons, List.any_nil] at h
 obtain ⟨⟨⟨h1, h2⟩, h3⟩, h4, h5, h6, _⟩ := h
 refine ⟨⟨greatFr_F h4, greatFr_F h5, greatFr_F h6⟩, ?_⟩
 have := gt_F h1
 unfold okStr big; omega
theorem fact_small {f : Fact} (h : greatFact f = false) : factOK f ∧ f.opts.length ≤ 1000 ∧ ∀ s ∈ instrNames f, okStr s := by
 simp only [greatFact, Bool.or_eq_false_iff] at h
 obtain ⟨g1, g2, g3, g4⟩ := h
 simp only [greatFact1, Bool.or_eq_false_iff, decide_eq_false_iff_not, Nat.not_lt] at g1
 obtain ⟨⟨⟨⟨⟨⟨⟨⟨⟨⟨a1, a2⟩, a3⟩, a4⟩, a5⟩, a6⟩, a7⟩, a8⟩, a9⟩, a10⟩, a11⟩ := g1
 have ho : f.opts.length ≤ 10 := by
  simp only [greatFact2, Bool.or_eq_false_iff, decide_eq_false_iff_not] at g2
  have := g2.2
  omega
 have hop : ∀ o ∈ f.opts, greatOpt o = false := fun o hx => any_no g4 hx
 refine ⟨⟨fun p hp => ?_, by omega, by omega, by omega, longFr_F a9, longFr_F a10, longFr_F a11, fun o hx => ?_⟩, by omega, fun s hs => ?_⟩
 ·have := any_no g3 hp
  simp only [greatPick, Bool.or_eq_false_iff, decide_eq_false_iff_not] at this
  have h2 := this.1
  omega
 ·have := hop o hx
  simp only [greatOpt, Bool.or_eq_false_iff] at this
  exact ⟨longFr_F this.1.1.2, longFr_F this.1.2, longFr_F this.2⟩
 ·unfold instrNames headNames at hs
  have b1 := a2
  have b2 := a3
  rw [List.mem_append] at hs
  unfold okStr big
  rcases hs with hs | hs
  ·have : s = f.instr ∨ s = f.other := by
    split at hs
    ·simpa using hs
    ·exact .inl (by simpa using hs)
   rcases this with rfl | rfl <;> omega
  ·obtain ⟨o, hx, rfl⟩ := List.mem_map.1 hs
   have := hop o hx
   simp only [greatOpt, Bool.or_eq_false_iff] at this
   have := gt_F this.1.1.1
   omega
theorem view_small {l : List Fact} (h : greatView l = false) : l.length ≤ 8 ∧ ∀ f ∈ l, greatFact f = false := by
 simp only [greatView, greatFacts, Bool.or_eq_false_iff, decide_eq_false_iff_not] at h
 exact ⟨by have := h.1; omega, fun f hf => any_no h.2.2 hf⟩
theorem okG_of {s : Setup} {l : List Fact} (h : greatSetup s = false) (h2 : greatView l = false) : okG s l := by
 obtain ⟨v1, v2⟩ := view_small h2
 simp only [greatSetup, Bool.or_eq_false_iff] at h
 have hi : greatInsts s.insts = false := h.2.1.1.1.1
 simp only [greatInsts, Bool.or_eq_false_iff, decide_eq_false_iff_not] at hi
 have hx : ∀ x ∈ s.insts, smallInst x ∧ okStr x.id := fun x hx => inst_small (any_no hi.1 hx)
 exact ⟨fun x k => (hx x k).1, fun f hf => (fact_small (v2 f hf)).1, by have := hi.2.2; omega, fun x k => (hx x k).2, by omega, fun f hf => (fact_small (v2 f hf)).2⟩
theorem okG.app {s : Setup} {l : List Fact} (h : okG s l) (hl : l.length ≤ 8) {f : Fact} (hf : greatFact f = false) : okG s (l ++ [f]) := by
 have hm : ∀ {g : Fact}, g ∈ l ++ [f] → g ∈ l ∨ g = f := fun k => by simpa using k
 refine ⟨h.insts, fun g k => ?_, h.ilen, h.ids, by simp; omega, fun g k => ?_⟩
 ·rcases hm k with k | rfl
  ·exact h.facts g k
  ·exact (fact_small hf).1
 ·rcases hm k with k | rfl
  ·exact h.opts g k
  ·exact (fact_small hf).2
theorem mem_turn {α : Type} {l : List α} {n : Nat} {x : α} : x ∈ l.drop n ++ l.take n ↔ x ∈ l := by
 constructor
 ·exact fun h => (List.mem_append.1 h).elim List.mem_of_mem_drop List.mem_of_mem_take
 ·intro h
  rw [← List.take_append_drop n l] at h
  exact List.mem_append.2 (List.mem_append.1 h).symm
theorem okG.turn {s : Setup} {l : List Fact} (h : okG s l) (n : Nat) : okG s (l.drop n ++ l.take n) :=
 ⟨h.insts, fun f k => h.facts f (mem_turn.1 k), h.ilen, h.ids, by
  have := h.flen
  simp only [List.length_append, List.length_drop, List.length_take]; omega, fun f k => h.opts f (mem_turn.1 k)⟩
theorem wrong_less {s : Setup} {l : List Fact} {f : Fact} (h : wrongG s (l ++ [f]) = false) : wrongG s l = false := by
 simp only [wrongG, Bool.or_eq_false_iff, List.any_append] at h ⊢
 exact ⟨h.1, h.2.1⟩
theorem wrong_turn {s : Setup} {l : List Fact} (n : Nat) (h : wrongG s l = false) : wrongG s (l.drop n ++ l.take n) = false := by
 simp only [wrongG, Bool.or_eq_false_iff] at h ⊢
 exact ⟨h.1, List.any_eq_false.2 fun f hf => List.any_eq_false.1 h.2 f (mem_turn.1 hf)⟩
theorem good_ok {s : Setup} {l : List Fact} (h : okG s l) (hb : wrongG s l = false) : Fc Tryz.prog 10 [.agg (encSetup s), sFacts l] (.tup [encGroups (groupsL (divLists s l)), .i 0]) :=
 groupsGood_ok s l h.insts h.facts h.ilen h.ids h.flen h.opts hb
theorem bad_ok {s : Setup} {l : List Fact} (h : okG s l) (hb : wrongG s l = true) : Fc Tryz.prog 10 [.agg (encSetup s), sFacts l] (.tup [.raw (.slice none 0 0), .i 1]) :=
 groupsBad_ok s l h.insts h.facts h.ilen h.ids h.flen h.opts hb
noncomputable abbrev grpOf (s : Setup) (l : List Fact) : List (List Str) := [] :: groupsL (divLists s l)
theorem goodG_ok {s : Setup} {l : List Fact} (h : okG s l) (hb : wrongG s l = false) : Fc Tryz.prog 10 [.agg (encSetup s), sFacts l] (.tup [encGrp (grpOf s l), .i 0]) :=
 (good_ok h hb).res (Sub.tup2 (Sub.groups _) (Sub.refl _))
theorem more_inside {s : Setup} {l : List Fact} {f : Fact} {g : List Str} (hg : g ∈ grpOf s l) : (grpOf s (l ++ [f])).any (fun h => !g.any (lackS h)) = true := by
 rw [List.any_eq_true]
 have key : ∃ h ∈ grpOf s (l ++ [f]), ∀ x ∈ g, x ∈ h := by
  rcases List.mem_cons.1 hg with rfl | hg
  ·exact ⟨[], List.mem_cons_self, fun x hx => by cases hx⟩
  ·obtain ⟨h, h1, h2⟩ := depend_more s l f g hg
   exact ⟨h, List.mem_cons_of_mem _ h1, h2⟩
 obtain ⟨h, h1, h2⟩ := key
 refine ⟨h, h1, ?_⟩
 simp only [Bool.not_eq_true', List.any_eq_false, lackS, Bool.not_eq_true, Bool.not_eq_false', List.any_eq_true, decide_eq_true_eq]
 intro x hx
 simpa using h2 x hx
theorem turn_same (s : Setup) (l : List Fact) (n : Nat) : grpOf s (l.drop n ++ l.take n) = grpOf s l := by
 unfold grpOf; rw [depend_turn]
open Go.Proofs.Tryz
set_option maxRecDepth 20000
@[reducible] def namesA : List Str := [[97], [98], [99], [100]]
theorem okGA1 : okG setupA [splitF, buyF [107] [99]] := okG_of (by decide) (by decide)
theorem okGA2 : okG setupA [splitF, buyF [107] [99], buyF [107] [100]] := okG_of (by decide) (by decide)
@[reducible] def setA0 : List D := [.snap 2 true [[.str [69, 85, 82], .i 0]], .snap 15 false (namesA.map fun x => encInst (instA x)), .raw (.slice none 0 0), .raw (.slice none 0 0), .raw (.slice none 0 0), .raw (.slice none 0 0), .i 0]
@[reducible] def splitA0 : List D := [.str [115], .i 0, .b false, .i 30, .i 9, .str [97], .str [98], .str [], .str [], .str [], .str [], .str [], .str [], .str [], .str [49], .str [], .str [], .str [], .raw (.slice none 0 0), .raw (.slice none 0 0), .i 0]
theorem setA_le : Sub (.agg setA0) (.agg (encSetup setupA)) := .agg (.cons (Sub.unfull _ _ _) (.r (.cons (Sub.nil _ _) (.cons (Sub.nil _ _) (.cons (Sub.nil _ _) (.cons (Sub.nil _ _) (.r .nil)))))))
theorem splitA_le : Subs splitA0 (encFact splitF) := .cons (Sub.refl _) (.r (.cons (Sub.refl _) (.r (.cons (Sub.refl _) (.r (.cons (Sub.refl _) (.r (.cons (Sub.refl _) (.r (.cons (Sub.refl _) (.r (.cons (Sub.refl _) (.r (.cons (Sub.refl _) (.r (.cons (Sub.refl _) (.r (.cons (Sub.nil _ _) (.cons (Sub.nil _ _) (.r .nil))))))))))))))))))))
theorem Subs.refl : ∀ ds : List D, Subs ds ds
 | [] => .nil
 | _ :: ds => .cons (Sub.refl _) (Subs.refl ds)
@[reducible] def gA1 : List (List Str) := [[], [[97], [98]], [[99]], [[100]]]
@[reducible] def gA2 : List (List Str) := [[], [[97], [98]], [[99], [100]]]
theorem groupsA1_ok : Fc Tryz.prog 10 [.agg setA0, .snap 21 true [splitA0, encFact (buyF [107] [99])]] (.tup [encGrp gA1, .i 0]) :=
 ((goodG_ok okGA1 wrongA1).sub (.cons setA_le (.cons (Sub.rows (.cons splitA_le (.cons (Subs.refl _) .nil))) .nil))).res (Sub.of_eq (by unfold grpOf; rw [groupsA1]))
theorem groupsA2_ok : Fc Tryz.prog 10 [.agg setA0, .snap 21 true [splitA0, encFact (buyF [107] [99]), encFact (buyF [107] [100])]] (.tup [encGrp gA2, .i 0]) :=
 ((goodG_ok okGA2 wrongA2).sub (.cons setA_le (.cons (Sub.rows (.cons splitA_le (.cons (Subs.refl _) (.cons (Subs.refl _) .nil)))) .nil))).res (Sub.of_eq (by unfold grpOf; rw [groupsA2]))
theorem eqA1_ok : Fc Tryz.prog 18 [encGrp gA1, .snap 1 true [[.raw (.slice none 0 0)], [.snap 1 true [[.str [97]], [.str [98]]]], [.snap 1 true [[.str [99]]]], [.snap 1 true [[.str [100]]]]], .fn (.func 19) [] []] (.b true) :=
 ((eqGroups_ok gA1 gA1).sub (.r (.cons (Sub.rows (.cons (.cons (Sub.nil _ _) .nil) (.cons (.cons (Sub.unfull _ _ _) .nil) (.cons (.cons (Sub.unfull _ _ _) .nil) (.cons (.cons (Sub.unfull _ _ _) .nil) .nil))))) (.r .nil)))).res (Sub.bool (by decide))
theorem eqA2_ok : Fc Tryz.prog 18 [encGrp gA2, .snap 1 true [[.raw (.slice none 0 0)], [.snap 1 true [[.str [97]], [.str [98]]]], [.snap 1 true [[.str [99]], [.str [100]]]]], .fn (.func 19) [] []] (.b true) :=
 ((eqGroups_ok gA2 gA2).sub (.r (.cons (Sub.rows (.cons (.cons (Sub.nil _ _) .nil) (.cons (.cons (Sub.unfull _ _ _) .nil) (.cons (.cons (Sub.unfull _ _ _) .nil) .nil)))) (.r .nil)))).res (Sub.bool (by decide))
structure awake_ok_L0  where
 pre : List Str
 rest : List Str
 hx : namesA = pre ++ rest
theorem awake_ok  : Fc Tryz.prog 9 [] (.b true) := by
 refine Fc.mk' [0] func9 rfl ntmps9 rfl rfl rfl (fun t w => results_tmp results9 t _ w) ?_
 refine Run.seq (Run.reg [.p] ?_)
 refine .ag rfl rfl <| .nil ?_
 refine Run.seq (Run.reg [.p, .p, .p, .w, .w] ?_)
 refine .P rfl (q_build (pl := #[(0, 1), (1, 1)]) underlying89 zeroValue89 (fun w => by kernel_rfl) rfl rfl) <| .P rfl (qBu (n := 1) (rows := [[.str [69, 85, 82], .i 0]]) underlying22 sizeOf89 rfl rfl rfl zeroValue89 rfl rfl rfl rfl rfl rfl rfl) <| .P rfl (q_build (pl := #[(0, 1), (1, 1), (2, 1), (3, 2), (5, 1), (6, 1)]) underlying30 zeroValue30 (fun w => by kernel_rfl) rfl rfl) <| .W rfl (q_alloc 0 zeroValue30 rfl) <| .W rfl (q_storeW sizeOf30 rfl rfl rfl rfl rfl rfl) <| .nil ?_
 refine Run.seq (Run.seq (Run.reg [.p, .p, .p] ?_))
 refine .P rfl (qBu (n := 4) (rows := [[.str [97]], [.str [98]], [.str [99]], [.str [100]]]) underlying48 sizeOf9 rfl rfl rfl zeroValue9 rfl rfl rfl rfl rfl rfl rfl) <| .P rfl (qLe underlying48 rfl) <| .mv rfl rfl <| .nil ?_
 refine Run.block ?_
 refine Run.loop (ι := awake_ok_L0) (fun sx => [(1, .box 0 0), (12, .snap 1 true (namesA.map fun s => [.str s])), (13, .i namesA.length), (14, .i sx.pre.length)]) (fun sx => [(0, .cells [.snap 2 true [[.str [69, 85, 82], .i 0]], .gs 1 sx.pre.length, .raw (.slice none 0 0), .raw (.slice none 0 0), .raw (.slice none 0 0), .raw (.slice none 0 0), .i 0]), (1, .arr 15 (sx.pre.map fun x => encInst (instA x)))]) (fun sx => sx.rest.length) ⟨[], namesA, rfl⟩ ?_ ?_
 ·exact (Le.own0 1 15).trans <| (Le.subO 0 1 rfl rfl (Sub.gsNil _)).trans <| Le.mk rfl (.s rfl rfl (.s rfl rfl (.s rfl rfl (.s rfl rfl .nil)))) (.cons rfl rfl (.arr rfl (by simp) .nil))
 ·rintro ⟨pre, rest, hx⟩
  show Run _ _ _ _ [(1, .box 0 0), (12, .snap 1 true (namesA.map fun s => [.str s])), (13, .i namesA.length), (14, .i pre.length)] [(0, .cells [.snap 2 true [[.str [69, 85, 82], .i 0]], .gs 1 pre.length, .raw (.slice none 0 0), .raw (.slice none 0 0), .raw (.slice none 0 0), .raw (.slice none 0 0), .i 0]), (1, .arr 15 (pre.map fun x => encInst (instA x)))]
  have hl := congrArg List.length hx
  simp only [List.length_append] at hl
  have hl4 : pre.length + rest.length = 4 := by have h9 := congrArg List.length hx; simp at h9; omega
  rcases rest with _ | ⟨x, rest⟩
  ·obtain rfl : pre = namesA := by simpa using hx.symm
   refine Run.seq (Run.reg [.p] ?_)
   refine .P rfl (q_lss rfl rfl) <| .nil ?_
   refine Run.seq ?_
   refine Run.condF rfl (by simp) ?_
   refine Run.exit (tX0 (bX0 ?_))
   refine Run.seq (Run.reg [.p, .p, .w, .w] ?_)
   refine .P rfl (q_build (pl := #[(0, 1), (1, 1)]) underlying35 zeroValue35 (fun w => by kernel_rfl) rfl rfl) <| .P rfl (q_build (pl := #[(0, 1), (1, 1), (2, 1), (3, 1), (4, 1), (5, 1), (6, 1), (7, 1), (8, 1), (9, 1), (10, 1), (11, 1), (12, 2), (14, 2), (16, 2), (18, 1), (19, 1), (20, 1)]) underlying39 zeroValue39 (fun w => by kernel_rfl) rfl rfl) <| .W rfl (q_alloc 2 zeroValue39 rfl) <| .W rfl (q_storeW sizeOf39 rfl rfl rfl rfl rfl rfl) <| .nil ?_
   refine Run.weak (Le.freezeO 0 1 1 rfl rfl rfl (by simp)) ?_
   refine Run.weak (Le.freezeB 1 0 rfl rfl rfl rfl) ?_
   refine Run.weak (Le.freezeB 4 2 rfl rfl rfl rfl) ?_
   refine Run.seq (Run.regD [.p, .p, .p, .p, .p, .p, .p, .p, .p, .p] Tryz_mixed (by decide +kernel) ?_)
   refine .P rfl (q_loadIA isAgg30 sizeOf30 rfl rfl) <| .P rfl (q_loadIA isAgg39 sizeOf39 rfl rfl) <| .P rfl (qCa call40 rfl (buy_ok _ _)) <| .P rfl (qBu (n := 2) (rows := [splitA0, encFact (buyF [107] [99])]) underlying31 sizeOf39 rfl rfl rfl zeroValue39 rfl rfl rfl rfl rfl rfl rfl) <| .P rfl (qCa call10 rfl groupsA1_ok) <| .mv rfl rfl <| .P rfl (qEx rfl rfl) <| .P rfl (qEx rfl rfl) <| .ag rfl rfl <| .ag rfl rfl <| .nil ?_
   refine Run.seq (Run.regD [.p, .p, .p, .p, .p, .p, .p, .p, .p, .p, .p] Tryz_mixed (by decide +kernel) ?_)
   refine .P rfl (q_loadIA isAgg30 sizeOf30 rfl rfl) <| .P rfl (q_loadIA isAgg39 sizeOf39 rfl rfl) <| .P rfl (qCa call40 rfl (buy_ok _ _)) <| .P rfl (qCa call40 rfl (buy_ok _ _)) <| .P rfl (qBu (n := 3) (rows := [splitA0, encFact (buyF [107] [99]), encFact (buyF [107] [100])]) underlying31 sizeOf39 rfl rfl rfl zeroValue39 rfl rfl rfl rfl rfl rfl rfl) <| .P rfl (qCa call10 rfl groupsA2_ok) <| .mv rfl rfl <| .P rfl (qEx rfl rfl) <| .P rfl (qEx rfl rfl) <| .ag rfl rfl <| .ag rfl rfl <| .nil ?_
   refine Run.seq (Run.reg [.p, .p, .p, .p, .p, .p, .p, .p, .p, .p, .p, .p, .p, .p, .p, .p, .p, .p, .p, .p, .p, .p] ?_)
   refine .mv rfl rfl <| .P rfl (q_eql rfl rfl) <| .mv rfl rfl <| .gT rfl (.inl rfl) rfl rfl rfl (fun hg => pk (fun _ => qMv rfl _)) <| .gT rfl (.inl rfl) rfl rfl rfl (fun hg => pk (fun _ => q_eql (opT rfl hg) rfl _)) <| .P rfl (q_and rfl rfl) <| .mv rfl rfl <| .gT rfl (.inl rfl) rfl rfl rfl (fun hg => pk (fun _ => qMv rfl _)) <| .gT rfl (.inl rfl) rfl rfl rfl (fun hg => pk (fun _ => qBu (n := 2) (rows := [[.str [97]], [.str [98]]]) underlying48 sizeOf9 rfl rfl rfl zeroValue9 rfl rfl rfl rfl rfl rfl rfl _)) <| .gT rfl (.inl rfl) rfl rfl rfl (fun hg => pk (fun _ => qBu (n := 1) (rows := [[.str [99]]]) underlying48 sizeOf9 rfl rfl rfl zeroValue9 rfl rfl rfl rfl rfl rfl rfl _)) <| .gT rfl (.inl rfl) rfl rfl rfl (fun hg => pk (fun _ => qBu (n := 1) (rows := [[.str [100]]]) underlying48 sizeOf9 rfl rfl rfl zeroValue9 rfl rfl rfl rfl rfl rfl rfl _)) <| .gT rfl (.inl rfl) rfl rfl rfl (fun hg => pk (fun _ => qBu (n := 4) (rows := [[.raw (.slice none 0 0)], [.snap 1 true [[.str [97]], [.str [98]]]], [.snap 1 true [[.str [99]]]], [.snap 1 true [[.str [100]]]]]) underlying43 sizeOf48 rfl rfl rfl zeroValue48 rfl rfl rfl rfl rfl rfl rfl _)) <| .gT rfl (.inl rfl) rfl rfl rfl (fun hg => pk (fun _ => qCa call18 (opsC (opT rfl hg) (opsC (opT rfl hg) (opsC rfl (rfl)))) eqA1_ok _)) <| .P rfl (q_and rfl rfl) <| .mv rfl rfl <| .gT rfl (.inl rfl) rfl rfl rfl (fun hg => pk (fun _ => qMv rfl _)) <| .gT rfl (.inl rfl) rfl rfl rfl (fun hg => pk (fun _ => qBu (n := 2) (rows := [[.str [97]], [.str [98]]]) underlying48 sizeOf9 rfl rfl rfl zeroValue9 rfl rfl rfl rfl rfl rfl rfl _)) ?_
   refine .gT rfl (.inl rfl) rfl rfl rfl (fun hg => pk (fun _ => qBu (n := 2) (rows := [[.str [99]], [.str [100]]]) underlying48 sizeOf9 rfl rfl rfl zeroValue9 rfl rfl rfl rfl rfl rfl rfl _)) <| .gT rfl (.inl rfl) rfl rfl rfl (fun hg => pk (fun _ => qBu (n := 3) (rows := [[.raw (.slice none 0 0)], [.snap 1 true [[.str [97]], [.str [98]]]], [.snap 1 true [[.str [99]], [.str [100]]]]]) underlying43 sizeOf48 rfl rfl rfl zeroValue48 rfl rfl rfl rfl rfl rfl rfl _)) <| .gT rfl (.inl rfl) rfl rfl rfl (fun hg => pk (fun _ => qCa call18 (opsC (opT rfl hg) (opsC (opT rfl hg) (opsC rfl (rfl)))) eqA2_ok _)) <| .P rfl (q_and rfl rfl) <| .ag rfl rfl <| .nil ?_
   refine Run.ret (?_)
   exact ret1 rfl (Sub.refl _)
  ·simp only [List.length_cons] at hl
   simp only [List.length_cons] at hl4
   refine Run.seq (Run.reg [.p] ?_)
   refine .P rfl (q_lss rfl rfl) <| .nil ?_
   refine Run.seq ?_
   refine Run.condT rfl (by simp; omega) ?_
   refine Run.skip ?_
   refine Run.seq ?_
   refine Run.block ?_
   refine Run.seq (Run.reg [.p, .p, .p] ?_)
   refine .P rfl (qIi underlying48 sizeOf9 rfl rfl (by omega) (iMd (fun s : Str => [D.str s]) hx rfl)) <| .P rfl (qLo isAgg9 rfl) <| .ag rfl rfl <| .nil ?_
   refine Run.reg [.p, .r, .p, .p, .p, .w, .p, .w] ?_
   refine .P rfl (q_fieldB (n := 0) 23 1 underlying30 sizeOf23 rfl rfl) <| .R rfl (q_load1 isAgg23 rfl rfl rfl) <| .mv rfl rfl <| .P rfl (q_build (pl := #[(0, 1), (1, 1), (2, 1), (3, 1), (4, 1), (5, 1), (6, 2), (8, 2), (10, 1), (11, 1), (12, 1), (13, 2)]) underlying65 zeroValue65 (fun w => by kernel_rfl) rfl rfl) <| .P rfl (qBu (n := 1) (rows := [encInst (instA x)]) underlying23 sizeOf65 rfl rfl rfl zeroValue65 rfl rfl rfl rfl rfl rfl rfl) <| .W rfl (q_append 2 underlying23 underlying23 sizeOf65 typeInfo65 zeroValue65 rfl (bt := 192) rfl rfl rfl rfl (by simp) rfl rfl (by simp; omega)) <| .P rfl (q_fieldB (n := 0) 23 1 underlying30 sizeOf23 rfl rfl) <| .W rfl (q_store1 sizeOf23 rfl rfl rfl rfl (by simp)) <| .nil ?_
   refine Run.nil (bN0 ?_)
   refine Run.reg [.p, .p] ?_
   refine .P rfl (q_add rfl rfl (w64 (by omega))) <| .mv rfl rfl <| .nil ?_
   refine Run.nil (tN0 ?_)
   exact ⟨⟨pre ++ [x], rest, by simp [hx]⟩, by simp, (Le.mk (obs' := [(0, _), (2, _)]) rfl (show EnvLe _ _ [(1, _), (12, _), (13, _), (14, _)] from (.s rfl rfl (.s rfl rfl (.s rfl rfl (.s rfl rfl .nil))))) (.cons (i := 0) rfl rfl (.cons (i := 2) rfl rfl .nil))).trans <| (Le.renO 0 1 2 1 rfl rfl rfl (by simp) rfl).trans <| Le.mk rfl (.s rfl rfl (.s rfl rfl (.s rfl rfl (.cons rfl (Sub.int (by simp)) rfl .nil)))) (.eq rfl (by simp) rfl (.arr rfl (by simp) .nil))⟩
end Go.T
namespace Go.T
open Go
variable [Noise] {P : Program} {dst : Option Tmp} {ty : TypeId} {pos : String} {aft : Array Edge} {g : Option (Nat × Bool)} {env : Env}
theorem q_buildRow {t e : TypeId} {sz : Nat} {z : Value} {x : Operand} {ds : List D} (hu : P.underlying t = some (.slice e)) (hs : ∀ w, (sizeOf e).run P w = .ok sz w) (hnb : Nat.ble sz 16777216 = true)
  (hn0 : Nat.beq sz 0 = false) (hz : ∀ w, (zeroValue e).run P w = .ok z w) (hx : env.op x = some (.agg ds)) (hl : Nat.beq ds.length sz = true) (h1 : oneL ds = true) (hp : D.pureB.pureL ds = true) (obs : Obs) :
  QStep P ⟨dst, .buildSlice t 1 #[(0, x)], ty, pos, aft, g⟩ env obs (.snap sz true [ds]) obs := by
 have hl' := Nat.eq_of_beq_eq_true hl
 refine qBu (n := 1) (xs := [(0, x)]) (pds := [(0, .agg ds)]) (cs := ds) (rows := [ds]) hu hs (by simpa using hnb) rfl (by simpa using hn0) hz (by simp [Env.partsD, hx]) ?_ (by simp) rfl (by simpa using hl) h1 hp obs
 have hlen : (((List.range (1 * sz)).map fun x => (z.cells.toList[x % z.cells.toList.length]?).getD default).map rawD).length = sz := by simp
 generalize (((List.range (1 * sz)).map fun x => (z.cells.toList[x % z.cells.toList.length]?).getD default).map rawD) = zs at hlen
 have e1 : setL zs 0 ds = ds := by
  have := setL_all ds zs [] (by omega)
  simpa using this
 have e2 : (Nat.beq (D.agg ds).cellsL.length sz && Nat.ble (0 * sz + sz) zs.length && (D.agg ds).okc) = true := by
  rw [show (D.agg ds).cellsL = ds from rfl, show (D.agg ds).okc = oneL ds from rfl, hl, h1, hlen]
  simp
 unfold fillD
 simp only [e2, cond_true]
 rw [Nat.zero_mul, show (D.agg ds).cellsL = ds from rfl, e1]
 rfl
end Go.T
