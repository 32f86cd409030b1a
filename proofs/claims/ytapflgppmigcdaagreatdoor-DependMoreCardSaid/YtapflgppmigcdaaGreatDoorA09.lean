/-
  Contracts of the functions that the statement reaches, and the logic in which they are proved (no condition): parts W22, W23, W24, W25, W26, W71, Div1, Div2, Div3, Div4, Div5, Core43.
-/
import Derived.Test.YtapflgppmigcdaaGreatDoorA08
set_option linter.all false
namespace Go.T
open Go Go.Proofs Go.Proofs.Tryz
set_option maxRecDepth 20000
theorem neg_ok (s : Str) (hs : s.length ≤ 9000) : Fc Tryz.prog 311 [.str s] (.str (textM (!(digits s).2) (groupsOf (digits s).1))) := by
 refine Fc.mk' [2] func311 rfl ntmps311 rfl rfl rfl (fun t w => results_tmp results311 t _ w) ?_
 have hdl := digits_len s
 have hgl := groupsOf_len (digits s).1
 have hgo := (groupsOf_spec _ (digits_dig s)).1
 refine go [] ?_
 refine oP (qCa call238 rfl (read_ok _ (by omega))) ?_
 refine oP (qCa call239 rfl (text_ok _ _ (by assumption) (by omega))) ?_
 exact rx1 rfl (Sub.refl _)
structure compareM_ok_L0 (x y : List Nat) where
 lx : List Nat
 rx : List Nat
 ly : List Nat
 ry : List Nat
 ex : x = lx ++ rx
 ey : y = ly ++ ry
 el : lx.length = ly.length
 er : cmpR lx.reverse ly.reverse = cmpM x y
theorem compareM_ok (x y : List Nat) (hx : x.length ≤ 20000) (hy : y.length ≤ 20000) : Fc Tryz.prog 240 [sMag x, sMag y] (.i (cmpM x y)) := by
 refine Fc.mk' [4] func240 rfl ntmps240 rfl rfl rfl (fun t w => results_tmp results240 t _ w) ?_
 refine go [] ?_
 refine br (fun h1 => ?_) (fun h1 => ?_)
 ·refine sd (wrap64_ok (by simp; omega) (by simp; omega)) ?_
  exact rx1 rfl (Sub.int (by unfold cmpM; rw [if_pos (by simp at *; omega)]; simp))
 ·refine sd (wrap64_ok (by omega) (by simp; omega)) ?_
  refine Run.loop (ι := compareM_ok_L0 x y) (fun sx => [(0, sMag x), (1, sMag y), (5, .i ((sx.lx.length : Int) - 1))]) (fun sx => []) (fun sx => sx.lx.length) ⟨x, [], y, [], by simp, by simp, by simp at *; omega, (cmpM_eq (by simp at *; omega)).symm⟩ ?_ ?_
  ·exact Le.mk rfl (.s rfl rfl (.s rfl rfl (.cons rfl (Sub.int (by simp)) rfl .nil))) .nil
  ·rintro ⟨lx, rx, ly, ry, ex, ey, el, er⟩
   show Run _ _ _ _ [(0, sMag x), (1, sMag y), (5, .i ((lx.length : Int) - 1))] []
   have exl := congrArg List.length ex
   have eyl := congrArg List.length ey
   simp only [List.length_append] at exl eyl
   have es := fun h => cmpR_step (x := lx) (y := ly) h el
   refine go [] ?_
   refine br (fun h2 => ?_) (fun h2 => ?_)
   ·have ph2 := h2; try simp only [bs] at ph2
    refine ix (by omega) (idx_lastN ex (by omega) rfl) ?_
    refine ix (by omega) (idx_lastN ey (by omega) (by omega)) ?_
    refine ord ?_
    refine br (fun h3 => ?_) (fun h3 => ?_)
    ·have ph3 := h3; try simp only [bs] at ph3
     exact rx1 rfl (Sub.int (by (rw [← er, es (by omega)]; rw [if_pos (by omega)])))
    ·have ph3 := h3; try simp only [bs] at ph3
     refine ix (by omega) (idx_lastN ex (by omega) rfl) ?_
     refine ix (by omega) (idx_lastN ey (by omega) (by omega)) ?_
     refine ord ?_
     refine br (fun h4 => ?_) (fun h4 => ?_)
     ·have ph4 := h4; try simp only [bs] at ph4
      exact rx1 rfl (Sub.int (by (rw [← er, es (by omega)]; rw [if_neg (by omega), if_pos (by omega)])))
     ·have ph4 := h4; try simp only [bs] at ph4
      refine sd (w64 (by omega)) ?_
      exact nx ⟨lx.dropLast, lastN lx :: rx, ly.dropLast, lastN ly :: ry, by rw [ex]; conv => { lhs; rw [dropLast_eq (l := lx) (by omega)] }; simp, by rw [ey]; conv => { lhs; rw [dropLast_eq (l := ly) (by omega)] }; simp, by simp; omega, by rw [← er, cmpR_step (by omega) el, if_neg (by omega), if_neg (by omega)]⟩ (by simp; omega) (Le.mk rfl (.s rfl rfl (.s rfl rfl (.cons rfl (Sub.int (by simp; omega)) rfl .nil))) .nil)
   ·have ph2 := h2; try simp only [bs] at ph2
    refine go [] ?_
    exact rx1 rfl (Sub.int (by rw [← er, cmpR_nil (by omega)]))
theorem cloneM_ok (m : List Nat) (hm : m.length ≠ 0) (hs : m.length ≤ 20000) : FcO Tryz.prog 323 [sMag m] [] (.gs 7100 m.length) [(7100, .arr 1 (encMag m))] := by
 refine FcO.mk' [2] func323 rfl ntmps323 rfl rfl rfl (fun t w => results_tmp results323 t _ w) ?_
 refine Run.seq (Run.reg [.p] ?_)
 refine .ag rfl rfl <| .nil ?_
 refine Run.seq (Run.seq (Run.reg [.p, .p] ?_))
 refine .mv rfl rfl <| .P rfl (q_eqlNilF underlying244 rfl rfl (by intro e; apply hm; simpa using congrArg List.length e)) <| .nil ?_
 refine Run.condF rfl rfl ?_
 refine Run.skip ?_
 refine Run.seq (Run.reg [.p, .p, .w, .p] ?_)
 refine .P rfl (q_buildSlice0 underlying244 sizeOf184) <| .mv rfl rfl <| .W rfl (QStep.own0 7099 1 (t := 5) rfl (Sub.gsEmpty _ _) (q_append 7100 underlying244 underlying244 sizeOf184 typeInfo184 zeroValue184 rfl (bt := 8) rfl rfl rfl rfl rfl rfl rfl (by simp; omega))) <| .ag rfl rfl <| .nil ?_
 refine Run.ret (?_)
 exact retO1 rfl (by exact Sub.gs (by simp)) (.eq rfl (by simp) rfl .nil)
structure minusM_ok_L0 (x y : List Nat) where
 out : List Nat
 rest : List Nat
 c : Nat
 hl : x.length = out.length + rest.length
 hc : c ≤ 1
 ho : magOK rest
 hr : out ++ subC rest (y.drop out.length) c = subC x y 0
theorem minusM_ok (x y : List Nat) (hx : x.length ≠ 0) (hxs : x.length ≤ 20000) (hys : y.length ≤ 20000) (hxo : magOK x) (hyo : magOK y) : Fc Tryz.prog 281 [sMag x, sMag y] (sMag (cutM (subC x y 0))) := by
 refine Fc.mk' [4] func281 rfl ntmps281 rfl rfl rfl (fun t w => results_tmp results281 t _ w) ?_
 refine Run.seq (Run.reg [.p] ?_)
 refine .ag rfl rfl <| .nil ?_
 refine Run.seq (Run.reg [.p, .w, .p] ?_)
 refine .mv rfl rfl <| .W rfl (q_callO call323 rfl (cloneM_ok _ (by omega) (by omega)) .nil rfl rfl) <| .ag rfl rfl <| .nil ?_
 refine Run.seq (Run.reg [.p] ?_)
 refine .ag rfl rfl <| .nil ?_
 refine Run.seq (Run.seq (Run.reg [.p, .p, .p] ?_))
 refine .mv rfl rfl <| .P rfl (q_lenG underlying244 rfl) <| .mv rfl rfl <| .nil ?_
 refine Run.block ?_
 refine Run.loop (ι := minusM_ok_L0 x y) (fun sx => [(1, sMag y), (5, .gs 7100 x.length), (6, .raw (.int .u64 (sx.c : Int))), (12, .i x.length), (13, .i sx.out.length)]) (fun sx => [(7100, .arr 1 (encMag (sx.out ++ sx.rest)))]) (fun sx => sx.rest.length) ⟨[], x, 0, by simp, by omega, hxo, by simp⟩ ?_ ?_
 ·exact Le.mk rfl (.s rfl rfl (.cons rfl (Sub.gs (by simp)) rfl (.s rfl rfl (.s rfl rfl (.s rfl rfl .nil))))) (.arr rfl (by rfl) .nil)
 ·rintro ⟨out, rest, c, hl, hc, ho, hr⟩
  show Run _ _ _ _ [(1, sMag y), (5, .gs 7100 x.length), (6, .raw (.int .u64 (c : Int))), (12, .i x.length), (13, .i out.length)] [(7100, .arr 1 (encMag (out ++ rest)))]
  rcases rest with _ | ⟨a, rest⟩
  ·skip
   refine Run.seq (Run.reg [.p] ?_)
   refine .P rfl (q_lss rfl rfl) <| .nil ?_
   refine Run.seq ?_
   refine Run.condF rfl (by simp at hl ⊢; omega) ?_
   refine Run.exit (tX0 (bX0 ?_))
   refine Run.weak (Le.freeze 5 7100 rfl rfl (by simp at hl ⊢; omega)) ?_
   refine Run.seq (Run.reg [.p, .p, .p] ?_)
   refine .mv rfl rfl <| .P rfl (qCa call284 rfl (cut_ok _)) <| .ag rfl rfl <| .nil ?_
   refine Run.ret (?_)
   exact ret1 rfl (Sub.snap (by simp [subC] at hr; simp [hr]))
  ·simp only [List.length_cons] at hl
   have ha := ho a (by simp)
   have hb := nthN_ok (k := out.length) hyo
   refine Run.seq (Run.reg [.p] ?_)
   refine .P rfl (q_lss rfl rfl) <| .nil ?_
   refine Run.seq ?_
   refine Run.condT rfl (by simp; omega) ?_
   refine Run.skip ?_
   refine Run.seq ?_
   refine Run.block ?_
   refine Run.seq (Run.reg [.p, .p] ?_)
   refine .mv rfl rfl <| .ag rfl rfl <| .nil ?_
   refine Run.seq (Run.reg [.p, .p] ?_)
   refine .mv rfl rfl <| .ag rfl rfl <| .nil ?_
   refine Run.seq (Run.seq (Run.reg [.p, .p, .p, .p] ?_))
   refine .mv rfl rfl <| .mv rfl rfl <| .P rfl (qLe underlying244 rfl) <| .P rfl (q_lss rfl rfl) <| .nil ?_
   refine Run.cond rfl (fun h1 => ?_) (fun h1 => ?_)
   ·refine Run.reg [.p, .p, .p, .p, .p, .p, .p] ?_
    refine .mv rfl rfl <| .mv rfl rfl <| .mv rfl rfl <| .P rfl (qIi underlying244 sizeOf184 rfl rfl (by omega) (idx_mag (nthN_drop (by simp at *; omega)) rfl)) <| .P rfl (qLo isAgg184 rfl) <| .P rfl (q_add rfl rfl (addN (by unfold gB at *; omega))) <| .ag rfl rfl <| .nil ?_
    refine Run.seq (Run.reg [.p] ?_)
    refine .ag rfl rfl <| .nil ?_
    refine Run.seq (Run.seq (Run.reg [.p, .p, .p, .r, .p, .p] ?_))
    refine .mv rfl rfl <| .mv rfl rfl <| .P rfl (qIx (off := (out.length) * 1) underlying244 sizeOf184 rfl rfl (by omega) (by simp; omega) (by omega)) <| .R rfl (qG1 (r := _) (out.length) 0 isAgg184 rfl rfl rfl (enc_mid _ _ _) rfl) <| .mv rfl rfl <| .P rfl (q_lss rfl rfl) <| .nil ?_
    refine Run.cond rfl (fun h2 => ?_) (fun h2 => ?_)
    ·have ph2 := h2; try simp only [bs] at ph2
     refine Run.seq (Run.reg [.p, .p, .p, .r, .p, .p, .w] ?_)
     refine .mv rfl rfl <| .mv rfl rfl <| .P rfl (qIx (off := (out.length) * 1) underlying244 sizeOf184 rfl rfl (by omega) (by simp; omega) (by omega)) <| .R rfl (qG1 (r := _) (out.length) 0 isAgg184 rfl rfl rfl (enc_mid _ _ _) rfl) <| .P rfl (q_add rfl rfl (addN (b := gB) (by unfold gB at *; omega))) <| .P rfl (qIx (off := (out.length) * 1) underlying244 sizeOf184 rfl rfl (by omega) (by simp; omega) (by omega)) <| .W rfl (qS1 (r := _) (out.length) 0 sizeOf184 rfl rfl rfl rfl rfl rfl (enc_mid _ _ _) (by simp)) <| .nil ?_
     refine Run.reg [.p] ?_
     refine .ag rfl rfl <| .nil ?_
     refine Run.reg [.p, .p, .p, .r, .p, .p, .p, .w] ?_
     refine .mv rfl rfl <| .mv rfl rfl <| .P rfl (qIx (off := (out.length) * 1) underlying244 sizeOf184 rfl rfl (by omega) (by simp; omega) (by omega)) <| .R rfl (qG1 (r := _) (out.length) 0 isAgg184 rfl rfl rfl (row_set (enc_mid _ _ _)) rfl) <| .mv rfl rfl <| .P rfl (q_sub rfl rfl (subN (by omega) (by unfold gB at *; omega))) <| .P rfl (qIx (off := (out.length) * 1) underlying244 sizeOf184 rfl rfl (by omega) (by simp; omega) (by omega)) <| .W rfl (qS1 (r := _) (out.length) 0 sizeOf184 rfl rfl rfl rfl rfl rfl (row_set (enc_mid _ _ _)) (by simp)) <| .nil ?_
     refine Run.nil (bN0 ?_)
     refine Run.reg [.p, .p] ?_
     refine .P rfl (q_add rfl rfl (w64 (by omega))) <| .mv rfl rfl <| .nil ?_
     refine Run.nil (tN0 ?_)
     exact ⟨⟨out ++ [a + gB - (c + nthN y out.length)], rest, 1, by simp; omega, by omega, fun u hu => ho u (by simp [hu]), by rw [← hr, subC_stepT (by simp at *; omega), if_pos (by omega), if_pos (by omega)]; simp⟩, by simp, Le.mk rfl (.s rfl rfl (.cons rfl (Sub.gs (by simp)) rfl (.s rfl rfl (.s rfl rfl (.cons rfl (Sub.int (by simp)) rfl .nil))))) (.arr rfl (by skip; simp only [List.set_set, List.set_cons_zero]; exact (enc_set _ _ _ _).trans (by simp)) .nil)⟩
    ·have ph2 := h2; try simp only [bs] at ph2
     refine Run.skip ?_
     refine Run.reg [.p, .p, .p, .r, .p, .p, .p, .w] ?_
     refine .mv rfl rfl <| .mv rfl rfl <| .P rfl (qIx (off := (out.length) * 1) underlying244 sizeOf184 rfl rfl (by omega) (by simp; omega) (by omega)) <| .R rfl (qG1 (r := _) (out.length) 0 isAgg184 rfl rfl rfl (enc_mid _ _ _) rfl) <| .mv rfl rfl <| .P rfl (q_sub rfl rfl (subN (by omega) (by unfold gB at *; omega))) <| .P rfl (qIx (off := (out.length) * 1) underlying244 sizeOf184 rfl rfl (by omega) (by simp; omega) (by omega)) <| .W rfl (qS1 (r := _) (out.length) 0 sizeOf184 rfl rfl rfl rfl rfl rfl (enc_mid _ _ _) (by simp)) <| .nil ?_
     refine Run.nil (bN0 ?_)
     refine Run.reg [.p, .p] ?_
     refine .P rfl (q_add rfl rfl (w64 (by omega))) <| .mv rfl rfl <| .nil ?_
     refine Run.nil (tN0 ?_)
     exact ⟨⟨out ++ [a - (c + nthN y out.length)], rest, 0, by simp; omega, by omega, fun u hu => ho u (by simp [hu]), by rw [← hr, subC_stepT (by simp at *; omega), if_neg (by omega), if_neg (by omega)]; simp⟩, by simp, Le.mk rfl (.s rfl rfl (.cons rfl (Sub.gs (by simp)) rfl (.s rfl rfl (.s rfl rfl (.cons rfl (Sub.int (by simp)) rfl .nil))))) (.arr rfl (by skip; simp only [List.set_set, List.set_cons_zero]; exact (enc_set _ _ _ _).trans (by simp)) .nil)⟩
   ·refine Run.skip ?_
    refine Run.seq (Run.reg [.p] ?_)
    refine .ag rfl rfl <| .nil ?_
    refine Run.seq (Run.seq (Run.reg [.p, .p, .p, .r, .p, .p] ?_))
    refine .mv rfl rfl <| .mv rfl rfl <| .P rfl (qIx (off := (out.length) * 1) underlying244 sizeOf184 rfl rfl (by omega) (by simp; omega) (by omega)) <| .R rfl (qG1 (r := _) (out.length) 0 isAgg184 rfl rfl rfl (enc_mid _ _ _) rfl) <| .mv rfl rfl <| .P rfl (q_lss rfl rfl) <| .nil ?_
    refine Run.cond rfl (fun h3 => ?_) (fun h3 => ?_)
    ·have ph3 := h3; try simp only [bs] at ph3
     refine Run.seq (Run.reg [.p, .p, .p, .r, .p, .p, .w] ?_)
     refine .mv rfl rfl <| .mv rfl rfl <| .P rfl (qIx (off := (out.length) * 1) underlying244 sizeOf184 rfl rfl (by omega) (by simp; omega) (by omega)) <| .R rfl (qG1 (r := _) (out.length) 0 isAgg184 rfl rfl rfl (enc_mid _ _ _) rfl) <| .P rfl (q_add rfl rfl (addN (b := gB) (by unfold gB at *; omega))) <| .P rfl (qIx (off := (out.length) * 1) underlying244 sizeOf184 rfl rfl (by omega) (by simp; omega) (by omega)) <| .W rfl (qS1 (r := _) (out.length) 0 sizeOf184 rfl rfl rfl rfl rfl rfl (enc_mid _ _ _) (by simp)) <| .nil ?_
     refine Run.reg [.p] ?_
     refine .ag rfl rfl <| .nil ?_
     refine Run.reg [.p, .p, .p, .r, .p, .p, .p, .w] ?_
     refine .mv rfl rfl <| .mv rfl rfl <| .P rfl (qIx (off := (out.length) * 1) underlying244 sizeOf184 rfl rfl (by omega) (by simp; omega) (by omega)) <| .R rfl (qG1 (r := _) (out.length) 0 isAgg184 rfl rfl rfl (row_set (enc_mid _ _ _)) rfl) <| .mv rfl rfl <| .P rfl (q_sub rfl rfl (subN (by omega) (by unfold gB at *; omega))) <| .P rfl (qIx (off := (out.length) * 1) underlying244 sizeOf184 rfl rfl (by omega) (by simp; omega) (by omega)) <| .W rfl (qS1 (r := _) (out.length) 0 sizeOf184 rfl rfl rfl rfl rfl rfl (row_set (enc_mid _ _ _)) (by simp)) <| .nil ?_
     refine Run.nil (bN0 ?_)
     refine Run.reg [.p, .p] ?_
     refine .P rfl (q_add rfl rfl (w64 (by omega))) <| .mv rfl rfl <| .nil ?_
     refine Run.nil (tN0 ?_)
     exact ⟨⟨out ++ [a + gB - c], rest, 1, by simp; omega, by omega, fun u hu => ho u (by simp [hu]), by rw [← hr, subC_stepF (by simp at *; omega), if_pos (by omega), if_pos (by omega)]; simp⟩, by simp, Le.mk rfl (.s rfl rfl (.cons rfl (Sub.gs (by simp)) rfl (.s rfl rfl (.s rfl rfl (.cons rfl (Sub.int (by simp)) rfl .nil))))) (.arr rfl (by skip; simp only [List.set_set, List.set_cons_zero]; exact (enc_set _ _ _ _).trans (by simp)) .nil)⟩
    ·have ph3 := h3; try simp only [bs] at ph3
     refine Run.skip ?_
     refine Run.reg [.p, .p, .p, .r, .p, .p, .p, .w] ?_
     refine .mv rfl rfl <| .mv rfl rfl <| .P rfl (qIx (off := (out.length) * 1) underlying244 sizeOf184 rfl rfl (by omega) (by simp; omega) (by omega)) <| .R rfl (qG1 (r := _) (out.length) 0 isAgg184 rfl rfl rfl (enc_mid _ _ _) rfl) <| .mv rfl rfl <| .P rfl (q_sub rfl rfl (subN (by omega) (by unfold gB at *; omega))) <| .P rfl (qIx (off := (out.length) * 1) underlying244 sizeOf184 rfl rfl (by omega) (by simp; omega) (by omega)) <| .W rfl (qS1 (r := _) (out.length) 0 sizeOf184 rfl rfl rfl rfl rfl rfl (enc_mid _ _ _) (by simp)) <| .nil ?_
     refine Run.nil (bN0 ?_)
     refine Run.reg [.p, .p] ?_
     refine .P rfl (q_add rfl rfl (w64 (by omega))) <| .mv rfl rfl <| .nil ?_
     refine Run.nil (tN0 ?_)
     exact ⟨⟨out ++ [a - c], rest, 0, by simp; omega, by omega, fun u hu => ho u (by simp [hu]), by rw [← hr, subC_stepF (by simp at *; omega), if_neg (by omega), if_neg (by omega)]; simp⟩, by simp, Le.mk rfl (.s rfl rfl (.cons rfl (Sub.gs (by simp)) rfl (.s rfl rfl (.s rfl rfl (.cons rfl (Sub.int (by simp)) rfl .nil))))) (.arr rfl (by skip; simp only [List.set_set, List.set_cons_zero]; exact (enc_set _ _ _ _).trans (by simp)) .nil)⟩
structure plusMag_ok_L0  (p q : List Nat) where
 out : List Nat
 rest : List Nat
 c : Nat
 hl : p.length = out.length + rest.length
 hc : c ≤ 1
 ho : magOK rest
 hr : out ++ addC rest (q.drop out.length) c = addC p q 0
theorem plusMag_ok (x y : List Nat) (hne : x.length ≠ 0 ∨ y.length ≠ 0) (hxs : x.length ≤ 20000) (hys : y.length ≤ 20000) (hxo : magOK x) (hyo : magOK y) : Fc Tryz.prog 280 [sMag x, sMag y] (sMag (plusM x y)) := by
 refine Fc.mk' [4] func280 rfl ntmps280 rfl rfl rfl (fun t w => results_tmp results280 t _ w) ?_
 refine Run.seq (Run.reg [.p] ?_)
 refine .ag rfl rfl <| .nil ?_
 refine Run.seq (Run.seq (Run.reg [.p, .p, .p, .p, .p] ?_))
 refine .mv rfl rfl <| .P rfl (qLe underlying244 rfl) <| .mv rfl rfl <| .P rfl (qLe underlying244 rfl) <| .P rfl (q_lss rfl rfl) <| .nil ?_
 refine Run.cond rfl (fun h1 => ?_) (fun h1 => ?_)
 ·have ph1 := h1; try simp only [bs] at ph1
  refine Run.reg [.p, .p, .p, .p] ?_
  refine .mv rfl rfl <| .mv rfl rfl <| .ag rfl rfl <| .ag rfl rfl <| .nil ?_
  refine Run.seq (Run.reg [.p, .p, .p, .p, .p, .w, .p] ?_)
  refine .mv rfl rfl <| .P rfl (qLe underlying244 rfl) <| .mv rfl rfl <| .P rfl (qLe underlying244 rfl) <| .P rfl (q_add rfl rfl (wrap64_ok (by omega) (by simp; omega))) <| .W rfl (q_makeSlice1 (bt := 8) 0 _ underlying244 sizeOf184 typeInfo184 zeroValue184 rfl rfl rfl rfl rfl rfl (Int.natCast_succ _).symm (by omega) (by rw [List.length_map]; omega) (by simp; omega) (by simp; omega) rfl) <| .ag rfl rfl <| .nil ?_
  refine Run.seq (Run.reg [.p, .p, .w] ?_)
  refine .mv rfl rfl <| .mv rfl rfl <| .W rfl (q_copy1 underlying244 sizeOf184 rfl rfl rfl (by simp) (by simp) (by rw [List.length_map]; omega)) <| .nil ?_
  refine Run.seq (Run.reg [.p] ?_)
  refine .ag rfl rfl <| .nil ?_
  refine Run.seq (Run.seq (Run.reg [.p, .p, .p] ?_))
  refine .mv rfl rfl <| .P rfl (q_lenG underlying244 rfl) <| .mv rfl rfl <| .nil ?_
  refine Run.block ?_
  refine Run.loop (ι := plusMag_ok_L0 y x) (fun sx => [(1, sMag x), (5, .gs 0 y.length), (6, .raw (.int .u64 (sx.c : Int))), (25, .i y.length), (26, .i sx.out.length)]) (fun sx => [(0, .arr 1 (encMag (sx.out ++ sx.rest)))]) (fun sx => sx.rest.length) ⟨[], y, 0, by simp, by omega, hyo, by simp⟩ ?_ ?_
  ·exact Le.mk rfl (.s rfl rfl (.cons rfl (Sub.gs (by simp)) rfl (.s rfl rfl (.cons rfl (Sub.int (by simp)) rfl (.s rfl rfl .nil))))) (.arr rfl (by rfl) .nil)
  ·rintro ⟨out, rest, c, hl, hc, ho, hr⟩
   show Run _ _ _ _ [(1, sMag x), (5, .gs 0 y.length), (6, .raw (.int .u64 (c : Int))), (25, .i y.length), (26, .i out.length)] [(0, .arr 1 (encMag (out ++ rest)))]
   rcases rest with _ | ⟨a, rest⟩
   ·skip
    refine Run.seq (Run.reg [.p] ?_)
    refine .P rfl (q_lss rfl rfl) <| .nil ?_
    refine Run.seq ?_
    refine Run.condF rfl (by simp at hl ⊢; omega) ?_
    refine Run.exit (tX0 (bX0 ?_))
    refine Run.seq (Run.seq (Run.reg [.p, .p] ?_))
    refine .mv rfl rfl <| .P rfl (q_gtr rfl rfl) <| .nil ?_
    refine Run.cond rfl (fun h2 => ?_) (fun h2 => ?_)
    ·have ph2 := h2; try simp only [bs] at ph2
     refine Run.reg [.p, .p, .p, .w, .p] ?_
     refine .mv rfl rfl <| .mv rfl rfl <| .P rfl (qBu (n := 1) (rows := encMag [c]) underlying244 sizeOf184 rfl rfl rfl zeroValue184 rfl rfl rfl rfl rfl rfl rfl) <| .W rfl (q_append 1 underlying244 underlying244 sizeOf184 typeInfo184 zeroValue184 rfl (bt := 8) rfl rfl rfl rfl (by simp at hl ⊢; omega) rfl rfl (by simp at *; omega)) <| .ag rfl rfl <| .nil ?_
     refine Run.seq (Run.reg [.p, .p] ?_)
     refine .mv rfl rfl <| .ag rfl rfl <| .nil ?_
     refine Run.weak (Le.freeze 4 1 rfl rfl (by simp at hl ⊢; omega)) ?_
     refine Run.ret (?_)
     exact ret1 rfl (Sub.snap (by (rw [plusM_T (by simp at *; omega)]); rw [← hr]; simp only [addC]; (rw [if_pos (by omega)]); try simp))
    ·have ph2 := h2; try simp only [bs] at ph2
     refine Run.skip ?_
     refine Run.seq (Run.reg [.p, .p] ?_)
     refine .mv rfl rfl <| .ag rfl rfl <| .nil ?_
     refine Run.weak (Le.freeze 4 0 rfl rfl (by simp at hl ⊢; omega)) ?_
     refine Run.ret (?_)
     exact ret1 rfl (Sub.snap (by (rw [plusM_T (by simp at *; omega)]); rw [← hr]; simp only [addC]; (rw [if_neg (by omega)]); try simp))
   ·simp only [List.length_cons] at hl
    have ha := ho a (by simp)
    have hb := nthN_ok (k := out.length) hxo
    refine Run.seq (Run.reg [.p] ?_)
    refine .P rfl (q_lss rfl rfl) <| .nil ?_
    refine Run.seq ?_
    refine Run.condT rfl (by simp; omega) ?_
    refine Run.skip ?_
    refine Run.seq ?_
    refine Run.block ?_
    refine Run.seq (Run.reg [.p, .p] ?_)
    refine .mv rfl rfl <| .ag rfl rfl <| .nil ?_
    refine Run.seq (Run.reg [.p, .p, .p, .r, .p, .p, .p, .w] ?_)
    refine .mv rfl rfl <| .mv rfl rfl <| .P rfl (qIx (off := (out.length) * 1) underlying244 sizeOf184 rfl rfl (by omega) (by simp; omega) (by omega)) <| .R rfl (qG1 (r := _) (out.length) 0 isAgg184 rfl rfl rfl (enc_mid _ _ _) rfl) <| .mv rfl rfl <| .P rfl (q_add rfl rfl (addN (by unfold gB at *; omega))) <| .P rfl (qIx (off := (out.length) * 1) underlying244 sizeOf184 rfl rfl (by omega) (by simp; omega) (by omega)) <| .W rfl (qS1 (r := _) (out.length) 0 sizeOf184 rfl rfl rfl rfl rfl rfl (enc_mid _ _ _) (by simp)) <| .nil ?_
    refine Run.seq (Run.seq (Run.reg [.p, .p, .p, .p] ?_))
    refine .mv rfl rfl <| .mv rfl rfl <| .P rfl (qLe underlying244 rfl) <| .P rfl (q_lss rfl rfl) <| .nil ?_
    refine Run.cond rfl (fun h3 => ?_) (fun h3 => ?_)
    ·refine Run.regD [.p, .p, .p, .r, .p, .p, .p, .p, .p, .p, .w] Tryz_mixed (by decide +kernel) ?_
     refine .mv rfl rfl <| .mv rfl rfl <| .P rfl (qIx (off := (out.length) * 1) underlying244 sizeOf184 rfl rfl (by omega) (by simp; omega) (by omega)) <| .R rfl (qG1 (r := _) (out.length) 0 isAgg184 rfl rfl rfl (row_set (enc_mid _ _ _)) rfl) <| .mv rfl rfl <| .mv rfl rfl <| .P rfl (qIi underlying244 sizeOf184 rfl rfl (by omega) (idx_mag (nthN_drop (by simp at *; omega)) rfl)) <| .P rfl (qLo isAgg184 rfl) <| .P rfl (q_add rfl rfl (addN (by unfold gB at *; omega))) <| .P rfl (qIx (off := (out.length) * 1) underlying244 sizeOf184 rfl rfl (by omega) (by simp; omega) (by omega)) <| .W rfl (qS1 (r := _) (out.length) 0 sizeOf184 rfl rfl rfl rfl rfl rfl (row_set (enc_mid _ _ _)) (by simp)) <| .nil ?_
     refine Run.seq (Run.reg [.p, .p, .p, .r, .p, .p] ?_)
     refine .mv rfl rfl <| .mv rfl rfl <| .P rfl (qIx (off := (out.length) * 1) underlying244 sizeOf184 rfl rfl (by omega) (by simp; omega) (by omega)) <| .R rfl (qG1 (r := _) (out.length) 0 isAgg184 rfl rfl rfl (row_set (row_set (enc_mid _ _ _))) rfl) <| .P rfl (q_quo rfl rfl (by decide) (quoN (by unfold gB at *; omega))) <| .ag rfl rfl <| .nil ?_
     refine Run.reg [.p, .p, .p, .r, .p, .p, .w] ?_
     refine .mv rfl rfl <| .mv rfl rfl <| .P rfl (qIx (off := (out.length) * 1) underlying244 sizeOf184 rfl rfl (by omega) (by simp; omega) (by omega)) <| .R rfl (qG1 (r := _) (out.length) 0 isAgg184 rfl rfl rfl (row_set (row_set (enc_mid _ _ _))) rfl) <| .P rfl (q_rem rfl rfl (by decide) (remN _)) <| .P rfl (qIx (off := (out.length) * 1) underlying244 sizeOf184 rfl rfl (by omega) (by simp; omega) (by omega)) <| .W rfl (qS1 (r := _) (out.length) 0 sizeOf184 rfl rfl rfl rfl rfl rfl (row_set (row_set (enc_mid _ _ _))) (by simp)) <| .nil ?_
     refine Run.nil (bN0 ?_)
     refine Run.reg [.p, .p] ?_
     refine .P rfl (q_add rfl rfl (w64 (by omega))) <| .mv rfl rfl <| .nil ?_
     refine Run.nil (tN0 ?_)
     exact ⟨⟨out ++ [(a + c + nthN x out.length) % gB], rest, (a + c + nthN x out.length) / gB, by simp; omega, by rw [Nat.div_le_iff_le_mul_add_pred gB_pos]; unfold gB at *; omega, fun u hu => ho u (by simp [hu]), by rw [← hr, addC_stepT (by simp at *; omega)]; simp⟩, by simp, Le.mk rfl (.s rfl rfl (.cons rfl (Sub.gs (by simp)) rfl (.s rfl rfl (.s rfl rfl (.cons rfl (Sub.int (by simp)) rfl .nil))))) (.arr rfl (by skip; simp only [List.set_set, List.set_cons_zero]; exact (enc_set _ _ _ _).trans (by simp)) .nil)⟩
    ·refine Run.skip ?_
     refine Run.seq (Run.reg [.p, .p, .p, .r, .p, .p] ?_)
     refine .mv rfl rfl <| .mv rfl rfl <| .P rfl (qIx (off := (out.length) * 1) underlying244 sizeOf184 rfl rfl (by omega) (by simp; omega) (by omega)) <| .R rfl (qG1 (r := _) (out.length) 0 isAgg184 rfl rfl rfl (row_set (enc_mid _ _ _)) rfl) <| .P rfl (q_quo rfl rfl (by decide) (quoN (by unfold gB at *; omega))) <| .ag rfl rfl <| .nil ?_
     refine Run.reg [.p, .p, .p, .r, .p, .p, .w] ?_
     refine .mv rfl rfl <| .mv rfl rfl <| .P rfl (qIx (off := (out.length) * 1) underlying244 sizeOf184 rfl rfl (by omega) (by simp; omega) (by omega)) <| .R rfl (qG1 (r := _) (out.length) 0 isAgg184 rfl rfl rfl (row_set (enc_mid _ _ _)) rfl) <| .P rfl (q_rem rfl rfl (by decide) (remN _)) <| .P rfl (qIx (off := (out.length) * 1) underlying244 sizeOf184 rfl rfl (by omega) (by simp; omega) (by omega)) <| .W rfl (qS1 (r := _) (out.length) 0 sizeOf184 rfl rfl rfl rfl rfl rfl (row_set (enc_mid _ _ _)) (by simp)) <| .nil ?_
     refine Run.nil (bN0 ?_)
     refine Run.reg [.p, .p] ?_
     refine .P rfl (q_add rfl rfl (w64 (by omega))) <| .mv rfl rfl <| .nil ?_
     refine Run.nil (tN0 ?_)
     exact ⟨⟨out ++ [(a + c) % gB], rest, (a + c) / gB, by simp; omega, by rw [Nat.div_le_iff_le_mul_add_pred gB_pos]; unfold gB at *; omega, fun u hu => ho u (by simp [hu]), by rw [← hr, addC_stepF (by simp at *; omega)]; simp⟩, by simp, Le.mk rfl (.s rfl rfl (.cons rfl (Sub.gs (by simp)) rfl (.s rfl rfl (.s rfl rfl (.cons rfl (Sub.int (by simp)) rfl .nil))))) (.arr rfl (by skip; simp only [List.set_set, List.set_cons_zero]; exact (enc_set _ _ _ _).trans (by simp)) .nil)⟩
 ·have ph1 := h1; try simp only [bs] at ph1
  refine Run.skip ?_
  refine Run.seq (Run.reg [.p, .p, .p, .p, .p, .w, .p] ?_)
  refine .mv rfl rfl <| .P rfl (qLe underlying244 rfl) <| .mv rfl rfl <| .P rfl (qLe underlying244 rfl) <| .P rfl (q_add rfl rfl (wrap64_ok (by omega) (by simp; omega))) <| .W rfl (q_makeSlice1 (bt := 8) 0 _ underlying244 sizeOf184 typeInfo184 zeroValue184 rfl rfl rfl rfl rfl rfl (Int.natCast_succ _).symm (by omega) (by rw [List.length_map]; omega) (by simp; omega) (by simp; omega) rfl) <| .ag rfl rfl <| .nil ?_
  refine Run.seq (Run.reg [.p, .p, .w] ?_)
  refine .mv rfl rfl <| .mv rfl rfl <| .W rfl (q_copy1 underlying244 sizeOf184 rfl rfl rfl (by simp) (by simp) (by rw [List.length_map]; omega)) <| .nil ?_
  refine Run.seq (Run.reg [.p] ?_)
  refine .ag rfl rfl <| .nil ?_
  refine Run.seq (Run.seq (Run.reg [.p, .p, .p] ?_))
  refine .mv rfl rfl <| .P rfl (q_lenG underlying244 rfl) <| .mv rfl rfl <| .nil ?_
  refine Run.block ?_
  refine Run.loop (ι := plusMag_ok_L0 x y) (fun sx => [(1, sMag y), (5, .gs 0 x.length), (6, .raw (.int .u64 (sx.c : Int))), (25, .i x.length), (26, .i sx.out.length)]) (fun sx => [(0, .arr 1 (encMag (sx.out ++ sx.rest)))]) (fun sx => sx.rest.length) ⟨[], x, 0, by simp, by omega, hxo, by simp⟩ ?_ ?_
  ·exact Le.mk rfl (.s rfl rfl (.cons rfl (Sub.gs (by simp)) rfl (.s rfl rfl (.cons rfl (Sub.int (by simp)) rfl (.s rfl rfl .nil))))) (.arr rfl (by rfl) .nil)
  ·rintro ⟨out, rest, c, hl, hc, ho, hr⟩
   show Run _ _ _ _ [(1, sMag y), (5, .gs 0 x.length), (6, .raw (.int .u64 (c : Int))), (25, .i x.length), (26, .i out.length)] [(0, .arr 1 (encMag (out ++ rest)))]
   rcases rest with _ | ⟨a, rest⟩
   ·skip
    refine Run.seq (Run.reg [.p] ?_)
    refine .P rfl (q_lss rfl rfl) <| .nil ?_
    refine Run.seq ?_
    refine Run.condF rfl (by simp at hl ⊢; omega) ?_
    refine Run.exit (tX0 (bX0 ?_))
    refine Run.seq (Run.seq (Run.reg [.p, .p] ?_))
    refine .mv rfl rfl <| .P rfl (q_gtr rfl rfl) <| .nil ?_
    refine Run.cond rfl (fun h4 => ?_) (fun h4 => ?_)
    ·have ph4 := h4; try simp only [bs] at ph4
     refine Run.reg [.p, .p, .p, .w, .p] ?_
     refine .mv rfl rfl <| .mv rfl rfl <| .P rfl (qBu (n := 1) (rows := encMag [c]) underlying244 sizeOf184 rfl rfl rfl zeroValue184 rfl rfl rfl rfl rfl rfl rfl) <| .W rfl (q_append 1 underlying244 underlying244 sizeOf184 typeInfo184 zeroValue184 rfl (bt := 8) rfl rfl rfl rfl (by simp at hl ⊢; omega) rfl rfl (by simp at *; omega)) <| .ag rfl rfl <| .nil ?_
     refine Run.seq (Run.reg [.p, .p] ?_)
     refine .mv rfl rfl <| .ag rfl rfl <| .nil ?_
     refine Run.weak (Le.freeze 4 1 rfl rfl (by simp at hl ⊢; omega)) ?_
     refine Run.ret (?_)
     exact ret1 rfl (Sub.snap (by (rw [plusM_F (by simp at *; omega)]); rw [← hr]; simp only [addC]; (rw [if_pos (by omega)]); try simp))
    ·have ph4 := h4; try simp only [bs] at ph4
     refine Run.skip ?_
     refine Run.seq (Run.reg [.p, .p] ?_)
     refine .mv rfl rfl <| .ag rfl rfl <| .nil ?_
     refine Run.weak (Le.freeze 4 0 rfl rfl (by simp at hl ⊢; omega)) ?_
     refine Run.ret (?_)
     exact ret1 rfl (Sub.snap (by (rw [plusM_F (by simp at *; omega)]); rw [← hr]; simp only [addC]; (rw [if_neg (by omega)]); try simp))
   ·simp only [List.length_cons] at hl
    have ha := ho a (by simp)
    have hb := nthN_ok (k := out.length) hyo
    refine Run.seq (Run.reg [.p] ?_)
    refine .P rfl (q_lss rfl rfl) <| .nil ?_
    refine Run.seq ?_
    refine Run.condT rfl (by simp; omega) ?_
    refine Run.skip ?_
    refine Run.seq ?_
    refine Run.block ?_
    refine Run.seq (Run.reg [.p, .p] ?_)
    refine .mv rfl rfl <| .ag rfl rfl <| .nil ?_
    refine Run.seq (Run.reg [.p, .p, .p, .r, .p, .p, .p, .w] ?_)
    refine .mv rfl rfl <| .mv rfl rfl <| .P rfl (qIx (off := (out.length) * 1) underlying244 sizeOf184 rfl rfl (by omega) (by simp; omega) (by omega)) <| .R rfl (qG1 (r := _) (out.length) 0 isAgg184 rfl rfl rfl (enc_mid _ _ _) rfl) <| .mv rfl rfl <| .P rfl (q_add rfl rfl (addN (by unfold gB at *; omega))) <| .P rfl (qIx (off := (out.length) * 1) underlying244 sizeOf184 rfl rfl (by omega) (by simp; omega) (by omega)) <| .W rfl (qS1 (r := _) (out.length) 0 sizeOf184 rfl rfl rfl rfl rfl rfl (enc_mid _ _ _) (by simp)) <| .nil ?_
    refine Run.seq (Run.seq (Run.reg [.p, .p, .p, .p] ?_))
    refine .mv rfl rfl <| .mv rfl rfl <| .P rfl (qLe underlying244 rfl) <| .P rfl (q_lss rfl rfl) <| .nil ?_
    refine Run.cond rfl (fun h5 => ?_) (fun h5 => ?_)
    ·refine Run.regD [.p, .p, .p, .r, .p, .p, .p, .p, .p, .p, .w] Tryz_mixed (by decide +kernel) ?_
     refine .mv rfl rfl <| .mv rfl rfl <| .P rfl (qIx (off := (out.length) * 1) underlying244 sizeOf184 rfl rfl (by omega) (by simp; omega) (by omega)) <| .R rfl (qG1 (r := _) (out.length) 0 isAgg184 rfl rfl rfl (row_set (enc_mid _ _ _)) rfl) <| .mv rfl rfl <| .mv rfl rfl <| .P rfl (qIi underlying244 sizeOf184 rfl rfl (by omega) (idx_mag (nthN_drop (by simp at *; omega)) rfl)) <| .P rfl (qLo isAgg184 rfl) <| .P rfl (q_add rfl rfl (addN (by unfold gB at *; omega))) <| .P rfl (qIx (off := (out.length) * 1) underlying244 sizeOf184 rfl rfl (by omega) (by simp; omega) (by omega)) <| .W rfl (qS1 (r := _) (out.length) 0 sizeOf184 rfl rfl rfl rfl rfl rfl (row_set (enc_mid _ _ _)) (by simp)) <| .nil ?_
     refine Run.seq (Run.reg [.p, .p, .p, .r, .p, .p] ?_)
     refine .mv rfl rfl <| .mv rfl rfl <| .P rfl (qIx (off := (out.length) * 1) underlying244 sizeOf184 rfl rfl (by omega) (by simp; omega) (by omega)) <| .R rfl (qG1 (r := _) (out.length) 0 isAgg184 rfl rfl rfl (row_set (row_set (enc_mid _ _ _))) rfl) <| .P rfl (q_quo rfl rfl (by decide) (quoN (by unfold gB at *; omega))) <| .ag rfl rfl <| .nil ?_
     refine Run.reg [.p, .p, .p, .r, .p, .p, .w] ?_
     refine .mv rfl rfl <| .mv rfl rfl <| .P rfl (qIx (off := (out.length) * 1) underlying244 sizeOf184 rfl rfl (by omega) (by simp; omega) (by omega)) <| .R rfl (qG1 (r := _) (out.length) 0 isAgg184 rfl rfl rfl (row_set (row_set (enc_mid _ _ _))) rfl) <| .P rfl (q_rem rfl rfl (by decide) (remN _)) <| .P rfl (qIx (off := (out.length) * 1) underlying244 sizeOf184 rfl rfl (by omega) (by simp; omega) (by omega)) <| .W rfl (qS1 (r := _) (out.length) 0 sizeOf184 rfl rfl rfl rfl rfl rfl (row_set (row_set (enc_mid _ _ _))) (by simp)) <| .nil ?_
     refine Run.nil (bN0 ?_)
     refine Run.reg [.p, .p] ?_
     refine .P rfl (q_add rfl rfl (w64 (by omega))) <| .mv rfl rfl <| .nil ?_
     refine Run.nil (tN0 ?_)
     exact ⟨⟨out ++ [(a + c + nthN y out.length) % gB], rest, (a + c + nthN y out.length) / gB, by simp; omega, by rw [Nat.div_le_iff_le_mul_add_pred gB_pos]; unfold gB at *; omega, fun u hu => ho u (by simp [hu]), by rw [← hr, addC_stepT (by simp at *; omega)]; simp⟩, by simp, Le.mk rfl (.s rfl rfl (.cons rfl (Sub.gs (by simp)) rfl (.s rfl rfl (.s rfl rfl (.cons rfl (Sub.int (by simp)) rfl .nil))))) (.arr rfl (by skip; simp only [List.set_set, List.set_cons_zero]; exact (enc_set _ _ _ _).trans (by simp)) .nil)⟩
    ·refine Run.skip ?_
     refine Run.seq (Run.reg [.p, .p, .p, .r, .p, .p] ?_)
     refine .mv rfl rfl <| .mv rfl rfl <| .P rfl (qIx (off := (out.length) * 1) underlying244 sizeOf184 rfl rfl (by omega) (by simp; omega) (by omega)) <| .R rfl (qG1 (r := _) (out.length) 0 isAgg184 rfl rfl rfl (row_set (enc_mid _ _ _)) rfl) <| .P rfl (q_quo rfl rfl (by decide) (quoN (by unfold gB at *; omega))) <| .ag rfl rfl <| .nil ?_
     refine Run.reg [.p, .p, .p, .r, .p, .p, .w] ?_
     refine .mv rfl rfl <| .mv rfl rfl <| .P rfl (qIx (off := (out.length) * 1) underlying244 sizeOf184 rfl rfl (by omega) (by simp; omega) (by omega)) <| .R rfl (qG1 (r := _) (out.length) 0 isAgg184 rfl rfl rfl (row_set (enc_mid _ _ _)) rfl) <| .P rfl (q_rem rfl rfl (by decide) (remN _)) <| .P rfl (qIx (off := (out.length) * 1) underlying244 sizeOf184 rfl rfl (by omega) (by simp; omega) (by omega)) <| .W rfl (qS1 (r := _) (out.length) 0 sizeOf184 rfl rfl rfl rfl rfl rfl (row_set (enc_mid _ _ _)) (by simp)) <| .nil ?_
     refine Run.nil (bN0 ?_)
     refine Run.reg [.p, .p] ?_
     refine .P rfl (q_add rfl rfl (w64 (by omega))) <| .mv rfl rfl <| .nil ?_
     refine Run.nil (tN0 ?_)
     exact ⟨⟨out ++ [(a + c) % gB], rest, (a + c) / gB, by simp; omega, by rw [Nat.div_le_iff_le_mul_add_pred gB_pos]; unfold gB at *; omega, fun u hu => ho u (by simp [hu]), by rw [← hr, addC_stepF (by simp at *; omega)]; simp⟩, by simp, Le.mk rfl (.s rfl rfl (.cons rfl (Sub.gs (by simp)) rfl (.s rfl rfl (.s rfl rfl (.cons rfl (Sub.int (by simp)) rfl .nil))))) (.arr rfl (by skip; simp only [List.set_set, List.set_cons_zero]; exact (enc_set _ _ _ _).trans (by simp)) .nil)⟩
structure plusNil_ok_L0  where
 u : Unit
theorem plusNil_ok  : Fc Tryz.prog 280 [.snap 1 false [], .snap 1 false []] (.snap 1 false []) := by
 refine Fc.mk' [4] func280 rfl ntmps280 rfl rfl rfl (fun t w => results_tmp results280 t _ w) ?_
 refine go [] ?_
 refine brF (rfl) ?_
 refine sd (wrap64_ok (by omega) (by simp)) ?_
 refine oP (q_makeSlice0 (bt := 8) underlying244 sizeOf184 typeInfo184 zeroValue184 rfl rfl rfl rfl (m := 1) rfl (by decide) (by decide) (by decide)) ?_
 refine oP (q_copy0 underlying244 sizeOf184 rfl rfl) ?_
 refine Run.loop (ι := plusNil_ok_L0) (fun sx => [(5, .snap 1 false []), (6, .raw (.int .u64 ((0 : Nat) : Int))), (25, .i 0), (26, .i 0)]) (fun sx => []) (fun sx => 0) ⟨()⟩ ?_ ?_
 ·exact Le.mk rfl (.s rfl rfl (.s rfl rfl (.s rfl rfl (.s rfl rfl .nil)))) .nil
 ·rintro ⟨u⟩
  show Run _ _ _ _ [(5, .snap 1 false []), (6, .raw (.int .u64 ((0 : Nat) : Int))), (25, .i 0), (26, .i 0)] []
  skip
  ·skip
   refine go [] ?_
   refine brF (rfl) ?_
   refine go [] ?_
   refine brF (rfl) ?_
   exact rx1 rfl (Sub.refl _)
theorem plusAll_ok (x y : List Nat) (hxs : x.length ≤ 20000) (hys : y.length ≤ 20000) (hxo : magOK x) (hyo : magOK y) : Fc Tryz.prog 280 [sMag x, sMag y] (sMag (plusM x y)) := by
 by_cases h : x.length ≠ 0 ∨ y.length ≠ 0
 ·exact plusMag_ok x y h hxs hys hxo hyo
 ·have e1 : x = [] := List.length_eq_zero_iff.1 (by omega)
  have e2 : y = [] := List.length_eq_zero_iff.1 (by omega)
  subst e1; subst e2
  exact plusNil_ok
theorem addNum_ok (n1 : Bool) (x : List Nat) (n2 : Bool) (y : List Nat) (k1 : numOK n1 x) (k2 : numOK n2 y) (hx : x.length ≤ 9000) (hy : y.length ≤ 9000) : Fc Tryz.prog 237 [.agg (encNum n1 x), .agg (encNum n2 y)] (.agg (encNum (addM n1 x n2 y).1 (addM n1 x n2 y).2)) := by
 refine Fc.mkR func237 rfl ntmps237 rfl rfl rfl ?_
 refine go [99999] ?_
 refine br (fun h1 => ?_) (fun h1 => ?_)
 ·refine oP (qCa call280 rfl (plusAll_ok _ _ (by omega) (by omega) k1.ok k2.ok)) ?_
  refine ord ?_
  refine Run.ret (?_)
  exact Rd.cA results237 isAgg246 sizeOf246 rfl rfl rfl (Sub.agg (.cons (Sub.bool (by unfold addM; (rw [if_pos (by assumption)]; done))) (.cons (Sub.snap (by unfold addM; (rw [if_pos (by assumption)]; done))) .nil)))
 ·refine oP (qCa call240 rfl (compareM_ok _ _ (by omega) (by omega))) ?_
  refine br (fun h2 => ?_) (fun h2 => ?_)
  ·have ph2 := h2; try simp only [bs] at ph2
   refine oP (qCa call281 rfl (minusM_ok _ _ (by exact cmpM_ne2 (by omega)) (by omega) (by omega) (by exact k2.ok) (by exact k1.ok))) ?_
   refine ord ?_
   refine Run.ret (?_)
   exact Rd.cA results237 isAgg246 sizeOf246 rfl rfl rfl (Sub.agg (.cons (Sub.bool (by unfold addM; (rw [if_neg (by simpa using ‹(n1 == n2) = false›)]; (rw [if_pos (by omega)]; done)))) (.cons (Sub.snap (by unfold addM; (rw [if_neg (by simpa using ‹(n1 == n2) = false›)]; (rw [if_pos (by omega)]; done)))) .nil)))
  ·have ph2 := h2; try simp only [bs] at ph2
   refine oP (qCa call281 rfl (minusM_ok _ _ (by exact cmpM_ne1 k1 k2 (by assumption) (by omega)) (by omega) (by omega) (by exact k1.ok) (by exact k2.ok))) ?_
   refine ord ?_
   refine Run.ret (?_)
   exact Rd.cA results237 isAgg246 sizeOf246 rfl rfl rfl (Sub.agg (.cons (Sub.bool (by unfold addM; (rw [if_neg (by simpa using ‹(n1 == n2) = false›)]; (rw [if_neg (by omega)]; done)))) (.cons (Sub.snap (by unfold addM; (rw [if_neg (by simpa using ‹(n1 == n2) = false›)]; (rw [if_neg (by omega)]; done)))) .nil)))
theorem add_ok (s t : Str) (hs : s.length ≤ 4000) (ht : t.length ≤ 4000) : Fc Tryz.prog 185 [.str s, .str t] (.str (addS s t)) := by
 refine Fc.mk' [4] func185 rfl ntmps185 rfl rfl rfl (fun t w => results_tmp results185 t _ w) ?_
 have hdl := digits_len s
 have hgl := groupsOf_len (digits s).1
 have hdl2 := digits_len t
 have hgl2 := groupsOf_len (digits t).1
 have h1 := numOK_digits s
 have h2 := numOK_digits t
 have h3 := addM_ok h1 h2
 have h4 := addM_len (digits s).2 (digits t).2 (groupsOf (digits s).1) (groupsOf (digits t).1)
 have h5 := addM_val h1 h2
 refine go [] ?_
 refine oP (qCa call238 rfl (read_ok _ (by omega))) ?_
 refine oP (qCa call238 rfl (read_ok _ (by omega))) ?_
 refine oP (qCa call237 rfl (addNum_ok _ _ _ _ (by assumption) (by assumption) (by omega) (by omega))) ?_
 refine oP (qCa call239 rfl (text_ok _ _ (by assumption) (by omega))) ?_
 exact rx1 rfl (Sub.str (by rw [textM_ofInt _ h3]; unfold addS; rw [← numV_digits s, ← numV_digits t, ← h5]; rfl))
theorem compare_ok (s t : Str) (hs : s.length ≤ 4000) (ht : t.length ≤ 4000) : Fc Tryz.prog 186 [.str s, .str t] (.i (signI (val s - val t))) := by
 refine Fc.mk' [4] func186 rfl ntmps186 rfl rfl rfl (fun t w => results_tmp results186 t _ w) ?_
 have hdl := digits_len s
 have hgl := groupsOf_len (digits s).1
 have hdl2 := digits_len t
 have hgl2 := groupsOf_len (digits t).1
 have hb := cmpM_bd (groupsOf (digits s).1) (groupsOf (digits t).1) (by omega) (by omega)
 refine Run.seq (Run.reg [.p] ?_)
 refine .ag rfl rfl <| .nil ?_
 refine Run.seq (Run.reg [.p, .p, .p, .p, .w, .w, .w, .w] ?_)
 refine .mv rfl rfl <| .P rfl (qCa call238 rfl (read_ok _ (by omega))) <| .mv rfl rfl <| .P rfl (qCa call238 rfl (read_ok _ (by omega))) <| .W rfl (q_alloc 0 zeroValue246 rfl) <| .W rfl (q_alloc 1 zeroValue246 rfl) <| .W rfl (q_storeW sizeOf246 rfl rfl rfl rfl rfl rfl) <| .W rfl (q_storeW sizeOf246 rfl rfl rfl rfl rfl rfl) <| .nil ?_
 refine Run.seq (Run.reg [.p, .r, .p, .r, .p, .p] ?_)
 refine .P rfl (q_fieldB (n := 0) 244 1 underlying246 sizeOf244 rfl rfl) <| .R rfl (q_load1 isAgg244 rfl rfl rfl) <| .P rfl (q_fieldB (n := 0) 244 1 underlying246 sizeOf244 rfl rfl) <| .R rfl (q_load1 isAgg244 rfl rfl rfl) <| .P rfl (qCa call240 rfl (compareM_ok _ _ (by omega) (by omega))) <| .ag rfl rfl <| .nil ?_
 refine Run.seq ?_
 refine Run.block ?_
 refine Run.seq (Run.reg [.p, .r, .p, .r, .p, .p] ?_)
 refine .P rfl (q_fieldB (n := 0) 4 0 underlying246 sizeOf4 rfl rfl) <| .R rfl (q_load1 isAgg4 rfl rfl rfl) <| .P rfl (q_fieldB (n := 0) 4 0 underlying246 sizeOf4 rfl rfl) <| .R rfl (q_load1 isAgg4 rfl rfl rfl) <| .P rfl (q_neqB underlying4 rfl rfl) <| .ag rfl rfl <| .nil ?_
 refine Run.cond rfl (fun h1 => ?_) (fun h1 => ?_)
 ·refine Run.seq (Run.reg [.p] ?_)
  refine .ag rfl rfl <| .nil ?_
  refine Run.seq (Run.reg [.p, .r] ?_)
  refine .P rfl (q_fieldB (n := 0) 4 0 underlying246 sizeOf4 rfl rfl) <| .R rfl (q_load1 isAgg4 rfl rfl rfl) <| .nil ?_
  refine Run.cond rfl (fun h2 => ?_) (fun h2 => ?_)
  ·refine Run.reg [.p] ?_
   refine .ag rfl rfl <| .nil ?_
   refine Run.nil (bN0 ?_)
   refine Run.seq (Run.reg [.p, .p, .p, .p] ?_)
   refine .mv rfl rfl <| .P rfl (q_min rfl rfl rfl) <| .P rfl (q_max rfl rfl rfl) <| .ag rfl rfl <| .nil ?_
   refine Run.ret (?_)
   exact ret1 rfl (Sub.int (by rw [← numV_digits s, ← numV_digits t, ← cmpN_sign (numOK_digits s) (numOK_digits t)]; unfold cmpN; rw [if_pos h1, if_pos h2]))
  ·refine Run.skip ?_
   refine Run.nil (bN0 ?_)
   refine Run.seq (Run.reg [.p, .p, .p, .p] ?_)
   refine .mv rfl rfl <| .P rfl (q_min rfl rfl rfl) <| .P rfl (q_max rfl rfl rfl) <| .ag rfl rfl <| .nil ?_
   refine Run.ret (?_)
   exact ret1 rfl (Sub.int (by rw [← numV_digits s, ← numV_digits t, ← cmpN_sign (numOK_digits s) (numOK_digits t)]; unfold cmpN; rw [if_pos h1, if_neg (by simp [h2])]))
 ·refine Run.seq (Run.reg [.p, .r, .p] ?_)
  refine .P rfl (q_fieldB (n := 0) 4 0 underlying246 sizeOf4 rfl rfl) <| .R rfl (q_load1 isAgg4 rfl rfl rfl) <| .ag rfl rfl <| .nil ?_
  refine Run.cond rfl (fun h3 => ?_) (fun h3 => ?_)
  ·refine Run.reg [.p, .p, .p] ?_
   refine .mv rfl rfl <| .P rfl (q_neg rfl (w64 (by omega))) <| .ag rfl rfl <| .nil ?_
   refine Run.nil (bN0 ?_)
   refine Run.seq (Run.reg [.p, .p, .p, .p] ?_)
   refine .mv rfl rfl <| .P rfl (q_min rfl rfl rfl) <| .P rfl (q_max rfl rfl rfl) <| .ag rfl rfl <| .nil ?_
   refine Run.ret (?_)
   exact ret1 rfl (Sub.int (by rw [← numV_digits s, ← numV_digits t, ← cmpN_sign (numOK_digits s) (numOK_digits t)]; unfold cmpN; rw [if_neg (by simp [h1]), if_pos h3]))
  ·refine Run.skip ?_
   refine Run.nil (bN0 ?_)
   refine Run.seq (Run.reg [.p, .p, .p, .p] ?_)
   refine .mv rfl rfl <| .P rfl (q_min rfl rfl rfl) <| .P rfl (q_max rfl rfl rfl) <| .ag rfl rfl <| .nil ?_
   refine Run.ret (?_)
   exact ret1 rfl (Sub.int (by rw [← numV_digits s, ← numV_digits t, ← cmpN_sign (numOK_digits s) (numOK_digits t)]; unfold cmpN; rw [if_neg (by simp [h1]), if_neg (by simp [h3])]))
theorem cut0_ok (s : Str) (c : UInt8) : Fc Tryz.prog 276 [.str s, .str [c]] (.tup [.str (cutI s c).1, .str (cutI s c).2.1, .b (cutI s c).2.2]) := by
 refine Fc.mk' [4, 5, 6] func276 rfl ntmps276 rfl rfl rfl (fun t w => results_tmp3 results276 t _ w) ?_
 refine Run.bStr 0 rfl (fun hb => ?_)
 simp only [big] at hb
 have hi := indexByte_spec c s
 refine go [] ?_
 refine oP (qCa call265 rfl (index1_ok _ _)) ?_
 refine br (fun h1 => ?_) (fun h1 => ?_)
 ·have ph1 := h1; try simp only [bs] at ph1
  refine oP (q_sliceS underlying9 rfl (h := (Lib.indexByte s c).toNat) (r := s.take (Lib.indexByte s c).toNat) (.inl ⟨rfl, rfl⟩) (.inr ⟨_, _, rfl, opI rfl (by omega)⟩) (by omega) (by omega) (by simp)) ?_
  refine sd (wrap64_ok (by omega) (by simp; omega)) ?_
  refine oP (q_sliceS underlying9 rfl (l := (Lib.indexByte s c).toNat + 1) (r := s.drop ((Lib.indexByte s c).toNat + 1)) (.inr ⟨_, _, rfl, opI rfl (by simp; omega)⟩) (.inl ⟨rfl, rfl⟩) (by omega) (by omega) (List.take_of_length_le (by simp))) ?_
  refine ord ?_
  exact rx3 rfl rfl rfl (Sub.str (by unfold cutI; rw [if_pos (by omega)])) (Sub.str (by unfold cutI; rw [if_pos (by omega)])) (Sub.bool (by unfold cutI; rw [if_pos (by omega)]))
 ·have ph1 := h1; try simp only [bs] at ph1
  exact rx3 rfl rfl rfl (Sub.str (by unfold cutI; rw [if_neg (by omega)])) (Sub.str (by unfold cutI; rw [if_neg (by omega)])) (Sub.bool (by unfold cutI; rw [if_neg (by omega)]))
theorem strCut_ok (s : Str) (c : UInt8) : Fc Tryz.prog 233 [.str s, .str [c]] (.tup [.str (cutI s c).1, .str (cutI s c).2.1, .b (cutI s c).2.2]) := by
 refine Fc.mk' [4, 5, 6] func233 rfl ntmps233 rfl rfl rfl (fun t w => results_tmp3 results233 t _ w) ?_
 refine go [] ?_
 refine oP (qCa call276 rfl (cut0_ok _ _)) ?_
 exact rx3 rfl rfl rfl (Sub.refl _) (Sub.refl _) (Sub.refl _)
structure name_ok_L0 (s : Str) where
 pre : List UInt8
 rest : List UInt8
 hx : s = pre ++ rest
 hp : pre.all nameChar = true
 hs : 1 ≤ s.length ∧ s.length ≤ 16
theorem name_ok (s : Str) : Fc Tryz.prog 86 [.str s] (.b (isName s)) := by
 refine Fc.mk' [2] func86 rfl ntmps86 rfl rfl rfl (fun t w => results_tmp results86 t _ w) ?_
 refine Run.bStr 0 rfl (fun hb => ?_)
 simp only [big] at hb
 refine Run.seq (Run.reg [.p] ?_)
 refine .ag rfl rfl <| .nil ?_
 refine Run.seq (Run.seq (Run.reg [.p, .p, .p, .p, .p, .p, .p, .p] ?_))
 refine .mv rfl rfl <| .P rfl (q_lenS underlying9 rfl) <| .P rfl (q_eql rfl rfl) <| .mv rfl rfl <| .gF rfl (.inl rfl) rfl rfl rfl (fun hg => pk (fun _ => qMv rfl _)) <| .gF rfl (.inl rfl) rfl rfl rfl (fun hg => pk (fun _ => q_lenS underlying9 (opT rfl (nt hg)) _)) <| .gF rfl (.inl rfl) rfl rfl rfl (fun hg => pk (fun _ => q_gtr (opT rfl (nt hg)) rfl _)) <| .P rfl (q_or rfl rfl) <| .nil ?_
 refine Run.cond rfl (fun h1 => ?_) (fun h1 => ?_)
 ·refine Run.seq (Run.reg [.p] ?_)
  refine .ag rfl rfl <| .nil ?_
  refine Run.ret (?_)
  exact ret1 rfl (Sub.bool (by grind [isName, nameChar]))
 ·refine Run.skip ?_
  refine Run.seq (Run.seq (Run.reg [.p, .p, .p, .p] ?_))
  refine .mv rfl rfl <| .P rfl (q_bytes (u := .string) underlying9 underlying152 underlying5 rfl) <| .P rfl (qLe underlying152 rfl) <| .mv rfl rfl <| .nil ?_
  refine Run.block ?_
  refine Run.loop (ι := name_ok_L0 s) (fun sx => [(14, .snap 1 false (s.map fun c => [.raw (.int .u8 (UInt8.toNat c : Int))])), (15, .i s.length), (16, .i sx.pre.length)]) (fun sx => []) (fun sx => sx.rest.length) ⟨[], s, rfl, rfl, by grind⟩ ?_ ?_
  ·exact Le.mk rfl (.s rfl rfl (.cons rfl (Sub.int (by simp)) rfl (.s rfl rfl .nil))) .nil
  ·rintro ⟨pre, rest, hx, hp, hs⟩
   show Run _ _ _ _ [(14, .snap 1 false (s.map fun c => [.raw (.int .u8 (UInt8.toNat c : Int))])), (15, .i s.length), (16, .i pre.length)] []
   have hl := congrArg List.length hx
   simp only [List.length_append] at hl
   rcases rest with _ | ⟨x, rest⟩
   ·skip
    refine Run.seq (Run.reg [.p] ?_)
    refine .P rfl (q_lss rfl rfl) <| .nil ?_
    refine Run.seq ?_
    refine Run.condF rfl (by simp at hl ⊢; omega) ?_
    refine Run.exit (tX0 (bX0 ?_))
    refine Run.seq (Run.reg [.p] ?_)
    refine .ag rfl rfl <| .nil ?_
    refine Run.ret (?_)
    exact ret1 rfl (Sub.bool (by grind [isName, nameChar]))
   ·simp only [List.length_cons] at hl
    refine Run.seq (Run.reg [.p] ?_)
    refine .P rfl (q_lss rfl rfl) <| .nil ?_
    refine Run.seq ?_
    refine Run.condT rfl (by simp; omega) ?_
    refine Run.skip ?_
    refine Run.seq ?_
    refine Run.block ?_
    refine Run.seq (Run.reg [.p, .p, .p] ?_)
    refine .P rfl (qIi underlying152 sizeOf5 rfl rfl (by omega) (iMd (fun c => [D.raw (.int .u8 (UInt8.toNat c : Int))]) hx rfl)) <| .P rfl (qLo isAgg5 rfl) <| .ag rfl rfl <| .nil ?_
    refine Run.seq (Run.reg [.p, .p, .p, .p, .p, .p, .p, .p, .p, .p, .p, .p, .p, .p, .p, .p, .p, .p] ?_)
    refine .mv rfl rfl <| .P rfl (q_lss rfl rfl) <| .mv rfl rfl <| .gF rfl (.inl rfl) rfl rfl rfl (fun hg => pk (fun _ => qMv rfl _)) <| .gF rfl (.inl rfl) rfl rfl rfl (fun hg => pk (fun _ => q_gtr (opT rfl (nt hg)) rfl _)) <| .P rfl (q_or rfl rfl) <| .mv rfl rfl <| .gT rfl (.inl rfl) rfl rfl rfl (fun hg => pk (fun _ => qMv rfl _)) <| .gT rfl (.inl rfl) rfl rfl rfl (fun hg => pk (fun _ => q_lss (opT rfl hg) rfl _)) <| .gT rfl (.inl rfl) rfl rfl rfl (fun hg => pk (fun _ => qMv (opT rfl hg) _)) ?_
    refine .nF rfl (.inl rfl) rfl rfl rfl (fun hc hg => pk (fun _ => qMv rfl _)) ?_
    refine .nF rfl (.inl rfl) rfl rfl rfl (fun hc hg => pk (fun _ => q_gtr (opT rfl (bF hc hg)) rfl _)) ?_
    refine .gT rfl (.inl rfl) rfl rfl rfl (fun hg => pk (fun _ => q_or (opT rfl hg) (opA rfl hg) _)) <| .P rfl (q_and rfl rfl) <| .mv rfl rfl <| .gT rfl (.inl rfl) rfl rfl rfl (fun hg => pk (fun _ => qMv rfl _)) <| .gT rfl (.inl rfl) rfl rfl rfl (fun hg => pk (fun _ => q_neq (opT rfl hg) rfl _)) <| .P rfl (q_and rfl rfl) <| .nil ?_
    refine Run.cond rfl (fun h2 => ?_) (fun h2 => ?_)
    ·refine Run.seq (Run.reg [.p] ?_)
     refine .ag rfl rfl <| .nil ?_
     refine Run.ret (bq_ret (tq_ret (bq_ret (?_))))
     exact ret1 rfl (Sub.bool (by grind [isName, nameChar]))
    ·refine Run.skip ?_
     refine Run.nil (bN0 ?_)
     refine Run.reg [.p, .p] ?_
     refine .P rfl (q_add rfl rfl (w64 (by omega))) <| .mv rfl rfl <| .nil ?_
     refine Run.nil (tN0 ?_)
     exact ⟨⟨pre ++ [x], rest, by simp [hx], by grind [nameChar], hs⟩, by simp, Le.mk rfl (.s rfl rfl (.s rfl rfl (.cons rfl (Sub.int (by simp)) rfl .nil))) .nil⟩
structure greatFacts_ok_L0 (l : List Fact) (h1' : (gtL 12 l && leL 1000 l || gtL 1002 l) = false) where
 pre : List Fact
 rest : List Fact
 hx : l = pre ++ rest
 hp : pre.any greatFact = false
theorem greatFacts_ok (l : List Fact) : Fc Tryz.prog 83 [sFacts l] (.b (greatFacts l)) := by
 refine Fc.mk' [2] func83 rfl ntmps83 rfl rfl rfl (fun t w => results_tmp results83 t _ w) ?_
 refine Run.bSnap 0 rfl (fun hb => ?_)
 simp only [List.length_map, big] at hb
 refine go [] ?_
 refine br (fun h1 => ?_) (fun h1 => ?_)
 ·exact rx1 rfl (Sub.bool (by exact or1 (by simpa using h1)))
 ·have h1' : (gtL 12 l && leL 1000 l || gtL 1002 l) = false := by simpa using h1
  refine Run.loop (ι := greatFacts_ok_L0 l h1') (fun sx => [(0, sFacts l), (2, .b false), (3, .i sx.pre.length)]) (fun sx => []) (fun sx => sx.rest.length) ⟨[], _, rfl, rfl⟩ ?_ ?_
  ·exact Le.mk rfl (.s rfl rfl (.s rfl rfl (.s rfl rfl .nil))) .nil
  ·rintro ⟨pre, rest, hx, hp⟩
   show Run _ _ _ _ [(0, sFacts l), (2, .b false), (3, .i pre.length)] []
   have hl := congrArg List.length hx
   simp only [List.length_append] at hl
   rcases rest with _ | ⟨x, rest⟩
   ·skip
    refine go [] ?_
    refine brF (by simp at hl ⊢; omega) ?_
    refine go [] ?_
    exact rx1 rfl (Sub.bool (by exact or2 h1' (any_F hx hp).symm))
   ·simp only [List.length_cons] at hl
    refine go [] ?_
    refine brT (by simp; omega) ?_
    refine ix (by omega) (iMd encFact hx rfl) ?_
    refine oP (qCa call8 rfl (greatFact_ok _)) ?_
    refine br (fun h2 => ?_) (fun h2 => ?_)
    ·exact rx1 rfl (Sub.bool (by exact or2 h1' (any_T hx h2).symm))
    ·refine sd (w64 (by omega)) ?_
     exact nx ⟨pre ++ [x], rest, by simp [hx], any_S hp h2⟩ (by simp) (Le.mk rfl (.s rfl rfl (.s rfl rfl (.cons rfl (Sub.int (by simp)) rfl .nil))) .nil)
theorem greatView_ok (l : List Fact) : Fc Tryz.prog 37 [sFacts l] (.b (greatView l)) := by
 refine Fc.mk' [2] func37 rfl ntmps37 rfl rfl rfl (fun t w => results_tmp results37 t _ w) ?_
 refine go [] ?_
 refine gP (fun hg => qCa call83 rfl (greatFacts_ok _)) ?_
 exact rx1 rfl (Sub.bool (by simp [greatView]))
structure indexFF_ok_L0 (l : List (List Fact)) (P : (List Fact) → Bool) where
 pre : List (List Fact)
 rest : List (List Fact)
 hx : l = pre ++ rest
 hp : pre.any P = false
theorem indexFF_ok (l : List (List Fact)) (f : FuncId) (caps : List D) (hcap : D.pureB.pureL caps = true) (P : (List Fact) → Bool) (hcall : ∀ (args : Array Value) (w : World), (callFunc f args).run Tryz.prog w = .ok (.enter f args) w) (hP : ∀ x ∈ l, Fc Tryz.prog f (sFacts x :: caps) (.b (P x))) : Fc Tryz.prog 82 [.snap 1 false (l.map fun v => [sFacts v]), .fn (.func f) [] caps] (.i (findI P l)) := by
 refine Fc.mk' [4] func82 rfl ntmps82 rfl (by simp [D.pureB, D.pureB.pureL, hcap]) rfl (fun t w => results_tmp results82 t _ w) ?_
 refine Run.bSnap 0 rfl (fun hb => ?_)
 simp only [List.length_map, big] at hb
 refine go [] ?_
 refine Run.loop (ι := indexFF_ok_L0 l P) (fun sx => [(0, .snap 1 false (l.map fun v => [sFacts v])), (1, .fn (.func f) [] caps), (6, .snap 1 false (l.map fun v => [sFacts v])), (7, .i l.length), (8, .i sx.pre.length)]) (fun sx => []) (fun sx => sx.rest.length) ⟨[], l, rfl, rfl⟩ ?_ ?_
 ·exact Le.mk rfl (.s rfl rfl (.cons rfl (Sub.refl _) (okB_fn hcap) (.s rfl rfl (.cons rfl (Sub.int (by simp)) rfl (.s rfl rfl .nil))))) .nil
 ·rintro ⟨pre, rest, hx, hp⟩
  show Run _ _ _ _ [(0, .snap 1 false (l.map fun v => [sFacts v])), (1, .fn (.func f) [] caps), (6, .snap 1 false (l.map fun v => [sFacts v])), (7, .i l.length), (8, .i pre.length)] []
  have hl := congrArg List.length hx
  simp only [List.length_append] at hl
  rcases rest with _ | ⟨x, rest⟩
  ·skip
   refine go [] ?_
   refine brF (by simp at hl ⊢; omega) ?_
   refine go [] ?_
   exact rx1 rfl (Sub.int (by exact find_F hx hp))
  ·simp only [List.length_cons] at hl
   refine go [] ?_
   refine brT (by simp; omega) ?_
   refine ix (by omega) (iMd (fun v => [sFacts v]) hx rfl) ?_
   refine oP (qCf hcall rfl rfl (hP x (by rw [hx]; simp))) ?_
   refine br (fun h1 => ?_) (fun h1 => ?_)
   ·exact rx1 rfl (Sub.int (by exact find_T hx hp h1))
   ·refine sd (w64 (by omega)) ?_
    exact nx ⟨pre ++ [x], rest, by simp [hx], any_S hp h1⟩ (by simp) (Le.mk rfl (.s rfl rfl (.cons rfl (Sub.refl _) (okB_fn hcap) (.s rfl rfl (.s rfl rfl (.cons rfl (Sub.int (by simp)) rfl .nil))))) .nil)
theorem containsFF_ok (l : List (List Fact)) (f : FuncId) (caps : List D) (hcap : D.pureB.pureL caps = true) (P : (List Fact) → Bool) (hcall : ∀ (args : Array Value) (w : World), (callFunc f args).run Tryz.prog w = .ok (.enter f args) w) (hP : ∀ x ∈ l, Fc Tryz.prog f (sFacts x :: caps) (.b (P x))) : Fc Tryz.prog 36 [.snap 1 false (l.map fun v => [sFacts v]), .fn (.func f) [] caps] (.b (l.any P)) := by
 refine Fc.mk' [4] func36 rfl ntmps36 rfl (by simp [D.pureB, D.pureB.pureL, hcap]) rfl (fun t w => results_tmp results36 t _ w) ?_
 refine go [] ?_
 refine oP (qCa call82 rfl (indexFF_ok l f caps hcap P hcall hP)) ?_
 exact rx1 rfl (Sub.bool (by exact findI_ge P l))
theorem great52_ok (s : Setup) (l : List (List Fact)) : Fc Tryz.prog 7 [.agg (encSetup s), .snap 1 false (l.map fun v => [sFacts v])] (.b (greatSetup s || l.any greatView)) := by
 refine Fc.mk' [4] func7 rfl ntmps7 rfl rfl rfl (fun t w => results_tmp results7 t _ w) ?_
 refine go [] ?_
 refine oP (qCa call35 rfl (greatSetup_ok _)) ?_
 refine gP (fun hg => qCa call36 rfl (containsFF_ok l _ [] rfl greatView call37 (fun x _ => greatView_ok x))) ?_
 exact rx1 rfl (Sub.refl _)
theorem isCur_ok (c : Cur) (code : Str) : Fc Tryz.prog 217 [.agg (encCur c), .iptr [.str code]] (.b (decide (c.code = code))) := by
 refine Fc.mk' [3] func217 rfl ntmps217 rfl rfl rfl (fun t w => results_tmp results217 t _ w) ?_
 refine go [] ?_
 exact rx1 rfl (Sub.refl _)
structure findCurF_ok_L0 (l : List Cur) (code : Str) where
 pre : List Cur
 rest : List Cur
 hx : l = pre ++ rest
 hp : ∀ c ∈ pre, c.code ≠ code
theorem findCurF_ok (l : List Cur) (code : Str) : Fc Tryz.prog 216 [sCurs l, .fn (.func 217) [] [.iptr [.str code]]] (.tup [.agg (encCur (findCur code l).1), .b (findCur code l).2]) := by
 refine Fc.mkR func216 rfl ntmps216 rfl rfl rfl ?_
 refine Run.bSnap 0 rfl (fun hb => ?_)
 simp only [List.length_map, big] at hb
 refine go [99999] ?_
 refine Run.loop (ι := findCurF_ok_L0 l code) (fun sx => [(0, sCurs l), (1, .fn (.func 217) [] [.iptr [.str code]]), (4, .box 0 0), (9, sCurs l), (10, .i l.length), (11, .i sx.pre.length)]) (fun sx => [(0, .cells [.str [], .raw (.int .i64 0)])]) (fun sx => sx.rest.length) ⟨[], l, rfl, by simp⟩ ?_ ?_
 ·exact Le.mk rfl (.s rfl rfl (.s rfl rfl (.s rfl rfl (.s rfl rfl (.cons rfl (Sub.int (by simp)) rfl (.s rfl rfl .nil)))))) (.cons rfl rfl .nil)
 ·rintro ⟨pre, rest, hx, hp⟩
  show Run _ _ _ _ [(0, sCurs l), (1, .fn (.func 217) [] [.iptr [.str code]]), (4, .box 0 0), (9, sCurs l), (10, .i l.length), (11, .i pre.length)] [(0, .cells [.str [], .raw (.int .i64 0)])]
  have hl := congrArg List.length hx
  simp only [List.length_append] at hl
  rcases rest with _ | ⟨x, rest⟩
  ·skip
   refine go [99999] ?_
   refine brF (by simp at hl ⊢; omega) ?_
   refine go [99999] ?_
   refine Run.ret (?_)
   exact Rd.cAt results216 isAgg89 sizeOf89 rfl rfl rfl rfl (Sub.agg (.cons (Sub.str (by rw [findCur_F hx hp])) (.cons (Sub.int (by rw [findCur_F hx hp])) .nil))) (Sub.bool (by rw [findCur_F hx hp]))
  ·simp only [List.length_cons] at hl
   refine go [99999] ?_
   refine brT (by simp; omega) ?_
   refine ix (by omega) (iMd encCur hx rfl) ?_
   refine oP (qCf call217 rfl rfl (isCur_ok _ _)) ?_
   refine br (fun h1 => ?_) (fun h1 => ?_)
   ·refine Run.ret (bq_ret (tq_ret (bq_ret (?_))))
    exact Rd.cAt results216 isAgg89 sizeOf89 rfl rfl rfl rfl (Sub.agg (.cons (Sub.str (by rw [findCur_T hx hp (by simpa using h1)])) (.cons (Sub.int (by rw [findCur_T hx hp (by simpa using h1)])) .nil))) (Sub.bool (by rw [findCur_T hx hp (by simpa using h1)]))
   ·refine sd (w64 (by omega)) ?_
    exact nx ⟨pre ++ [x], rest, by simp [hx], by intro c hc; rcases List.mem_append.1 hc with hc | hc; exact hp c hc; simp at hc; subst hc; simpa using h1⟩ (by simp) (Le.mk rfl (.s rfl rfl (.s rfl rfl (.s rfl rfl (.s rfl rfl (.s rfl rfl (.cons rfl (Sub.int (by simp)) rfl .nil)))))) (.cons rfl rfl .nil))
theorem findCur_ok (l : List Cur) (code : Str) : Fc Tryz.prog 170 [sCurs l, .str code] (.tup [.agg (encCur (findCur code l).1), .b (findCur code l).2]) := by
 refine Fc.mkR func170 rfl ntmps170 rfl rfl rfl ?_
 refine go [1, 99999] ?_
 refine Run.weak (Le.freezeB 3 0 rfl rfl rfl rfl) ?_
 refine go [99999] ?_
 refine oP (qCa call216 rfl (findCurF_ok _ _)) ?_
 refine Run.ret (?_)
 exact Rd.cAt results170 isAgg89 sizeOf89 rfl rfl rfl rfl (Sub.agg (.r (.r .nil))) (Sub.refl _)
structure checkTab_ok_L0 (l : List Cur) where
 pre : List Cur
 rest : List Cur
 hx : l = pre ++ rest
 h16 : l.length ≤ 16
 hp : checkTabFrom [] l = checkTabFrom pre rest
theorem checkTab_ok (l : List Cur) : Fc Tryz.prog 117 [sCurs l] (.i (checkTab l)) := by
 refine Fc.mk' [2] func117 rfl ntmps117 rfl rfl rfl (fun t w => results_tmp results117 t _ w) ?_
 refine Run.bSnap 0 rfl (fun hb => ?_)
 simp only [List.length_map, big] at hb
 refine go [10] ?_
 refine br (fun h1 => ?_) (fun h1 => ?_)
 ·exact rx1 rfl (Sub.int (by unfold checkTab; rw [if_pos (by simp only [bs] at h1; omega)]))
 ·refine Run.loop (ι := checkTab_ok_L0 l) (fun sx => [(0, sCurs l), (10, sCurs l), (11, .i l.length), (12, .i sx.pre.length)]) (fun sx => []) (fun sx => sx.rest.length) ⟨[], l, rfl, by simp only [bs] at h1; omega, rfl⟩ ?_ ?_
  ·exact Le.mk rfl (.s rfl rfl (.s rfl rfl (.cons rfl (Sub.int (by simp)) rfl (.s rfl rfl .nil)))) .nil
  ·rintro ⟨pre, rest, hx, h16, hp⟩
   show Run _ _ _ _ [(0, sCurs l), (10, sCurs l), (11, .i l.length), (12, .i pre.length)] []
   have hl := congrArg List.length hx
   simp only [List.length_append] at hl
   rcases rest with _ | ⟨x, rest⟩
   ·have hp' : checkTab l = 0 := by rw [show (0 : Int) = checkTabFrom pre [] from rfl, ← hp]; unfold checkTab; rw [if_neg (by omega)]
    refine go [10] ?_
    refine brF (by simp at hl ⊢; omega) ?_
    refine go [10] ?_
    exact rx1 rfl (Sub.int (by exact hp'.symm))
   ·simp only [List.length_cons] at hl
    have hp' : checkTab l = checkTabFrom pre (x :: rest) := by rw [← hp]; unfold checkTab; rw [if_neg (by omega)]
    refine go [10] ?_
    refine brT (by simp; omega) ?_
    refine ix (by omega) (iMd encCur hx rfl) ?_
    refine oP (qCa call169 rfl (isCode_ok _)) ?_
    refine br (fun h2 => ?_) (fun h2 => ?_)
    ·exact rx1 rfl (Sub.int (by exact checkTab_err hp' (curErr1 h2) (by decide)))
    ·refine br (fun h3 => ?_) (fun h3 => ?_)
     ·exact rx1 rfl (Sub.int (by exact checkTab_err hp' (curErr2 h2 h3) (by decide)))
     ·refine Run.weak (Le.freezeB 4 0 rfl rfl rfl rfl) ?_
      refine go [] ?_
      refine oP (q_sliceI underlying22 sizeOf89 rfl (l := 0) (h := pre.length) (r := pre.map encCur) (.inl ⟨rfl, rfl⟩) (.inr ⟨_, _, rfl, rfl⟩) (by omega) (by simp [hx]) (by rw [hx]; simp)) ?_
      refine oP (qCa call170 rfl (findCur_ok pre x.code)) ?_
      refine ord ?_
      refine br (fun h4 => ?_) (fun h4 => ?_)
      ·exact rx1 rfl (Sub.int (by exact checkTab_err hp' (curErr3 h2 h3 h4) (by decide)))
      ·refine go [10] ?_
       refine sd (w64 (by omega)) ?_
       exact nx ⟨pre ++ [x], rest, by simp [hx], h16, checkTab_next hp (curErr0 h2 h3 h4)⟩ (by simp) (Le.mk rfl (.s rfl rfl (.s rfl rfl (.s rfl rfl (.cons rfl (Sub.int (by simp)) rfl .nil)))) .nil)
theorem valid_ok (d : Int) : Fc Tryz.prog 172 [.i d] (.b (validDay d)) := by
 refine Fc.mk' [2] func172 rfl ntmps172 rfl rfl rfl (fun t w => results_tmp results172 t _ w) ?_
 refine go [] ?_
 exact rx1 rfl (Sub.refl _)
end Go.T
namespace Go.T
open Go
def magN (n : Nat) : List Nat := if h : n = 0 then [] else (n % gB) :: magN (n / gB)
decreasing_by
 unfold gB; omega
theorem magN_zero : magN 0 = [] := by rw [magN]; simp
theorem magN_step {n : Nat} (h : n ≠ 0) : magN n = (n % gB) :: magN (n / gB) := by rw [magN]; simp [h]
theorem magN_val (n : Nat) : mVa (magN n) = n := by
 induction n using Nat.strongRecOn with
 | _ n ih =>
  by_cases e : n = 0
  ·subst e; rw [magN_zero]; rfl
  ·rw [magN_step e, mVa, ih (n / gB) (by unfold gB; omega)]
   have := Nat.mod_add_div n gB
   omega
theorem magN_ok (n : Nat) : magOK (magN n) := by
 induction n using Nat.strongRecOn with
 | _ n ih =>
  by_cases e : n = 0
  ·subst e; rw [magN_zero]; intro x hx; simp at hx
  ·rw [magN_step e]
   intro x hx
   rcases List.mem_cons.1 hx with rfl | hx
   ·exact Nat.mod_lt _ gB_pos
   ·exact ih (n / gB) (by unfold gB; omega) x hx
theorem magN_cut (n : Nat) : cutM (magN n) = magN n := by
 refine cutM_id fun h0 hl => ?_
 have key : ∀ n, n ≠ 0 → lastN (magN n) ≠ 0 := by
  intro n
  induction n using Nat.strongRecOn with
  | _ n ih =>
   intro e
   rw [magN_step e]
   by_cases e2 : n / gB = 0
   ·rw [e2, magN_zero]
    have : n < gB := by
     rcases Nat.lt_or_ge n gB with h | h
     ·exact h
     ·have := Nat.div_pos h gB_pos; omega
    simp [lastN, Nat.mod_eq_of_lt this, e]
   ·rw [lastN_cons (by rw [magN_step e2]; simp)]
    exact ih (n / gB) (by unfold gB; omega) e2
 by_cases e : n = 0
 ·subst e; rw [magN_zero] at h0; simp at h0
 ·exact key n e hl
theorem mag_unique : ∀ {x y : List Nat}, magOK x → magOK y → cutM x = x → cutM y = y → mVa x = mVa y → x = y := by
 intro x
 induction x with
 | nil =>
  intro y _ _ _ cy hv
  cases y with
  | nil => rfl
  | cons b y => have := magVal_pos cy (by simp); simp [mVa] at *; omega
 | cons a x ih =>
  intro y ox oy cx cy hv
  cases y with
  | nil => have := magVal_pos cx (by simp); simp [mVa] at *; omega
  | cons b y =>
   simp only [mVa] at hv
   have ha := ox a (by simp)
   have hb := oy b (by simp)
   have e1 : a = b := by
    have h1 : (a + gB * mVa x) % gB = a := by rw [Nat.add_mul_mod_self_left]; exact Nat.mod_eq_of_lt ha
    have h2 : (b + gB * mVa y) % gB = b := by rw [Nat.add_mul_mod_self_left]; exact Nat.mod_eq_of_lt hb
    rw [← h1, ← h2, hv]
   subst e1
   have e2 : mVa x = mVa y := by
    have : gB * mVa x = gB * mVa y := by omega
    exact Nat.eq_of_mul_eq_mul_left gB_pos this
   have tl : ∀ {z : List Nat}, cutM (a :: z) = a :: z → cutM z = z := by
    intro z hz
    refine cutM_id fun h0 hl => ?_
    rcases snoc_cases z with rfl | ⟨i, t, rfl⟩
    ·simp at h0
    ·have : lastN (i ++ [t]) = t := by simp [lastN, List.getLastD_eq_getLast?]
     rw [this] at hl; subst hl
     have h := cutM_zero (a :: i)
     rw [List.cons_append] at h
     rw [h] at hz
     have := congrArg List.length hz
     have h3 := cutM_len (a :: i)
     simp at this h3; omega
   rw [ih (fun q hq => ox q (by simp [hq])) (fun q hq => oy q (by simp [hq])) (tl cx) (tl cy) e2]
theorem mag_eq {x : List Nat} (ox : magOK x) (cx : cutM x = x) : x = magN (mVa x) := mag_unique ox (magN_ok _) cx (magN_cut _) (magN_val _).symm
theorem dropWhile_twice {α : Type} (p : α → Bool) (l : List α) : (l.dropWhile p).dropWhile p = l.dropWhile p := by
 induction l with
 | nil => rfl
 | cons a l ih =>
  rw [List.dropWhile_cons]
  split
  ·exact ih
  ·rename_i h; rw [List.dropWhile_cons]; simp [h]
theorem cut_eq {x : List Nat} (ox : magOK x) : cutM x = magN (mVa x) := by
 refine mag_unique (cutM_ok ox) (magN_ok _) ?_ (magN_cut _) (by rw [cutM_val, magN_val])
 unfold cutM
 simp [dropWhile_twice]
section
variable {B P v1 v2 Vr u3 Ur top q g : Nat}
theorem guess0 (hP : 0 < P) (hq : q * ((v1 * B + v2) * P + Vr) ≤ (top * B + u3) * P + Ur) (hU : u3 * P + Ur < B * P) (hv1 : 0 < v1) (hqB : q ≤ B - 1) : q ≤ min (top / v1) (B - 1) := by
 refine Nat.le_min.2 ⟨?_, hqB⟩
 rw [Nat.le_div_iff_mul_le hv1]
 rcases Nat.lt_or_ge top (q * v1) with h | h
 ·exfalso
  have h1 : (top + 1) * (B * P) ≤ q * v1 * (B * P) := Nat.mul_le_mul_right _ h
  have h2 : q * v1 * (B * P) ≤ q * ((v1 * B + v2) * P + Vr) := by
   have : q * ((v1 * B + v2) * P + Vr) = q * v1 * (B * P) + (q * v2 * P + q * Vr) := by
    simp only [Nat.mul_add, Nat.add_mul, Nat.mul_assoc, Nat.add_assoc]
   omega
  have h3 : (top * B + u3) * P + Ur = top * (B * P) + (u3 * P + Ur) := by
   simp only [Nat.add_mul, Nat.mul_assoc, Nat.add_assoc]
  have h4 : (top + 1) * (B * P) = top * (B * P) + B * P := by rw [Nat.add_mul, Nat.one_mul]
  omega
 ·exact h
theorem guess_less (hU : Ur < P) (hg : g * v1 ≤ top) (ht : (top - g * v1) * B + u3 < g * v2) (hq : q * ((v1 * B + v2) * P + Vr) ≤ (top * B + u3) * P + Ur) : q ≤ g - 1 := by
 have h1 : top * B + u3 < g * (v1 * B + v2) := by
  have e1 : (top - g * v1) * B = top * B - g * v1 * B := Nat.sub_mul _ _ _
  have e2 : g * (v1 * B + v2) = g * v1 * B + g * v2 := by rw [Nat.mul_add, Nat.mul_assoc]
  have e3 : g * v1 * B ≤ top * B := Nat.mul_le_mul_right _ hg
  omega
 have h2 : (top * B + u3) * P + Ur < g * ((v1 * B + v2) * P + Vr) := by
  have e1 : (top * B + u3 + 1) * P ≤ g * (v1 * B + v2) * P := Nat.mul_le_mul_right _ h1
  have e2 : g * ((v1 * B + v2) * P + Vr) = g * (v1 * B + v2) * P + g * Vr := by rw [Nat.mul_add, Nat.mul_assoc]
  have e3 : (top * B + u3 + 1) * P = (top * B + u3) * P + P := by rw [Nat.add_mul, Nat.one_mul]
  omega
 have h3 : q < g := by
  rcases Nat.lt_or_ge q g with h | h
  ·exact h
  ·have := Nat.mul_le_mul_right ((v1 * B + v2) * P + Vr) h
   omega
 omega
theorem guess_near (hv1 : 0 < v1) (hB : 0 < B) (hg : g * v1 ≤ top) (hgB : g ≤ B - 1) (hv2 : v2 ≤ B - 1) (hVr : Vr < P) (ht : B ≤ top - g * v1 ∨ g * v2 ≤ (top - g * v1) * B + u3) : (g - 1) * ((v1 * B + v2) * P + Vr) ≤ (top * B + u3) * P + Ur := by
 have e2 : g * (v1 * B + v2) = g * v1 * B + g * v2 := by rw [Nat.mul_add, Nat.mul_assoc]
 have e3 : g * v1 * B ≤ top * B := Nat.mul_le_mul_right _ hg
 have e1 : (top - g * v1) * B = top * B - g * v1 * B := Nat.sub_mul _ _ _
 have h1 : g * (v1 * B + v2) ≤ top * B + u3 := by
  rcases ht with ht | ht
  ·have h2 : B * B ≤ (top - g * v1) * B := Nat.mul_le_mul_right _ ht
   have h3 : g * v2 ≤ B * B := Nat.mul_le_mul (by omega) (by omega)
   omega
  ·omega
 have h2 : g * (v1 * B + v2) * P ≤ (top * B + u3) * P := Nat.mul_le_mul_right _ h1
 have h3 : g * Vr ≤ B * P := Nat.mul_le_mul (by omega) (by omega)
 have h4 : B * P ≤ (v1 * B + v2) * P := Nat.mul_le_mul_right _ (by
  have : 1 * B ≤ v1 * B := Nat.mul_le_mul_right _ hv1
  omega)
 have h5 : g * ((v1 * B + v2) * P + Vr) = g * (v1 * B + v2) * P + g * Vr := by rw [Nat.mul_add, Nat.mul_assoc]
 have h6 : (g - 1) * ((v1 * B + v2) * P + Vr) = g * ((v1 * B + v2) * P + Vr) - ((v1 * B + v2) * P + Vr) := by rw [Nat.sub_mul, Nat.one_mul]
 omega
end
def nth (l : List Nat) (j : Nat) : Nat := (l[j]?).getD 0
theorem nth_lt {l : List Nat} {j : Nat} (h : j < l.length) : l[j]? = some (nth l j) := by
 unfold nth; rw [List.getElem?_eq_getElem h]; rfl
theorem nth_ok {l : List Nat} (h : magOK l) (j : Nat) : nth l j < gB := by
 unfold nth
 cases e : l[j]? with
 | none => exact gB_pos
 | some x => exact h x (List.mem_of_getElem? e)
theorem nth_set {l : List Nat} {i j v : Nat} (h : i < l.length) : nth (l.set i v) j = if i = j then v else nth l j := by
 unfold nth
 rw [List.getElem?_set]
 by_cases e : i = j
 ·subst e; simp [h]
 ·simp [e]
theorem nth_mid {p r : List Nat} {x : Nat} : nth (p ++ x :: r) p.length = x := by simp [nth]
theorem magVal_set {l : List Nat} {j v : Nat} (h : j < l.length) : mVa (l.set j v) + nth l j * gB ^ j = mVa l + v * gB ^ j := by
 induction l generalizing j with
 | nil => simp at h
 | cons a l ih =>
  cases j with
  | zero => simp only [List.set_cons_zero, mVa, nth, List.getElem?_cons_zero, Option.getD_some, Nat.pow_zero, Nat.mul_one]; omega
  | succ j =>
   have h2 := ih (j := j) (by simpa using h)
   have e1 : nth (a :: l) (j + 1) = nth l j := by simp [nth]
   simp only [List.set_cons_succ, mVa, e1, Nat.pow_succ]
   have e2 : nth l j * (gB ^ j * gB) = gB * (nth l j * gB ^ j) := by rw [← Nat.mul_assoc, Nat.mul_comm]
   have e3 : v * (gB ^ j * gB) = gB * (v * gB ^ j) := by rw [← Nat.mul_assoc, Nat.mul_comm]
   rw [e2, e3]
   have e4 : gB * (mVa (l.set j v) + nth l j * gB ^ j) = gB * (mVa l + v * gB ^ j) := by rw [h2]
   rw [Nat.mul_add, Nat.mul_add] at e4
   omega
theorem magOK_set {l : List Nat} (h : magOK l) {j v : Nat} (hv : v < gB) : magOK (l.set j v) := by
 intro x hx
 rcases List.mem_or_eq_of_mem_set hx with hx | rfl
 ·exact h x hx
 ·exact hv
theorem magOK_append {a b : List Nat} (ha : magOK a) (hb : magOK b) : magOK (a ++ b) := fun x hx => (List.mem_append.1 hx).elim (ha x) (hb x)
theorem magOK_zeros (n : Nat) : magOK (List.replicate n 0) := fun x hx => by rw [(List.mem_replicate.1 hx).2]; exact gB_pos
theorem magVal_zeros (n : Nat) : mVa (List.replicate n 0) = 0 := by
 induction n with
 | zero => rfl
 | succ n ih => rw [List.replicate_succ, mVa, ih]; rfl
theorem magVal_take_drop (l : List Nat) (k : Nat) (h : k ≤ l.length) : mVa l = mVa (l.take k) + gB ^ k * mVa (l.drop k) := by
 conv => lhs; rw [← List.take_append_drop k l]
 rw [magVal_append, List.length_take, Nat.min_eq_left h]
theorem magVal_snoc (p : List Nat) (x : Nat) : mVa (p ++ [x]) = mVa p + x * gB ^ p.length := by
 rw [magVal_append]; simp only [mVa, Nat.mul_zero, Nat.add_zero]; rw [Nat.mul_comm]
theorem carry_step {l : List Nat} {j t c a : Nat} (h : j < l.length) (ha : nth l j = a) (ht : t = c + a) : mVa (l.set j (t % gB)) + (t / gB) * gB ^ (j + 1) = mVa l + c * gB ^ j := by
 have h1 := magVal_set (v := t % gB) h
 have h2 : t % gB * gB ^ j + t / gB * gB ^ (j + 1) = t * gB ^ j := by
  rw [Nat.pow_succ, ← Nat.mul_assoc, Nat.mul_right_comm, ← Nat.add_mul]
  congr 1
  have := Nat.mod_add_div t gB
  rw [Nat.mul_comm (t / gB)]; exact this
 rw [ha] at h1
 subst ht
 rw [Nat.add_mul] at h2
 omega
theorem magVal_zero_tail {l : List Nat} {k : Nat} (h : ∀ j, k ≤ j → nth l j = 0) : mVa l = mVa (l.take k) := by
 induction l generalizing k with
 | nil => simp
 | cons a l ih =>
  cases k with
  | zero =>
   have h1 : a = 0 := by simpa [nth] using h 0 (Nat.le_refl _)
   have h2 := ih (k := 0) (fun j _ => by simpa [nth] using h (j + 1) (Nat.zero_le _))
   simp only [List.take_zero] at h2 ⊢
   simp [mVa, h1, h2]
  | succ k =>
   have h2 := ih (k := k) (fun j hj => by simpa [nth] using h (j + 1) (by omega))
   simp only [List.take_succ_cons, mVa, h2]
theorem nth_le_val (l : List Nat) (j : Nat) : nth l j * gB ^ j ≤ mVa l := by
 induction l generalizing j with
 | nil => simp [nth, mVa]
 | cons a l ih =>
  cases j with
  | zero => simp [nth, mVa]
  | succ j =>
   have h := ih j
   have e1 : nth (a :: l) (j + 1) = nth l j := by simp [nth]
   rw [e1, mVa, Nat.pow_succ]
   have e2 : nth l j * (gB ^ j * gB) = gB * (nth l j * gB ^ j) := by rw [← Nat.mul_assoc, Nat.mul_comm]
   rw [e2]
   have := Nat.mul_le_mul_left gB h
   omega
theorem nth_zero {l : List Nat} {n j : Nat} (h : mVa l < gB ^ n) (hj : n ≤ j) : nth l j = 0 := by
 have h1 := nth_le_val l j
 rcases Nat.eq_zero_or_pos (nth l j) with h2 | h2
 ·exact h2
 ·have h3 : gB ^ n ≤ gB ^ j := Nat.pow_le_pow_right gB_pos hj
  have h4 : 1 * gB ^ j ≤ nth l j * gB ^ j := Nat.mul_le_mul_right _ h2
  omega
theorem magVal_drop_div {l : List Nat} (h : magOK l) (i : Nat) : mVa (l.drop i) = mVa l / gB ^ i := by
 rcases Nat.lt_or_ge l.length i with g | g
 ·rw [List.drop_of_length_le (by omega)]
  have h1 := magVal_lt h
  have h2 : gB ^ l.length ≤ gB ^ i := Nat.pow_le_pow_right gB_pos (by omega)
  rw [Nat.div_eq_of_lt (by omega)]; rfl
 ·have h1 := magVal_take_drop l i g
  have h2 := magVal_lt (m := l.take i) (fun x hx => h x (List.mem_of_mem_take hx))
  rw [List.length_take, Nat.min_eq_left g] at h2
  rw [h1, Nat.add_mul_div_left _ _ (Nat.pow_pos gB_pos), Nat.div_eq_of_lt h2]; omega
theorem drop_nth {l : List Nat} {i : Nat} (h : i < l.length) : l.drop i = nth l i :: l.drop (i + 1) := by
 rw [List.drop_eq_getElem_cons h]
 simp [nth, h]
theorem top3 {l : List Nat} {n : Nat} (h : n + 3 = l.length) : mVa l = ((nth l (n + 2) * gB + nth l (n + 1)) * gB + nth l n) * gB ^ n + mVa (l.take n) := by
 rw [magVal_take_drop l n (by omega), drop_nth (by omega), drop_nth (by omega), drop_nth (by omega), List.drop_of_length_le (by omega)]
 simp only [mVa, Nat.mul_zero, Nat.add_zero]
 rw [Nat.mul_comm (gB ^ n)]
 have : nth l n + gB * (nth l (n + 1) + gB * nth l (n + 2)) = (nth l (n + 2) * gB + nth l (n + 1)) * gB + nth l n := by
  rw [Nat.mul_add, Nat.add_mul, Nat.mul_comm gB (nth l (n + 1)), Nat.mul_comm (nth l (n + 2)) gB, Nat.mul_comm (gB * nth l (n + 2)) gB]; omega
 rw [this]; omega
theorem top2 {l : List Nat} {n : Nat} (h : n + 2 = l.length) : mVa l = (nth l (n + 1) * gB + nth l n) * gB ^ n + mVa (l.take n) := by
 rw [magVal_take_drop l n (by omega), drop_nth (by omega), drop_nth (by omega), List.drop_of_length_le (by omega)]
 simp only [mVa, Nat.mul_zero, Nat.add_zero]
 rw [Nat.mul_comm (gB ^ n)]
 have : nth l n + gB * nth l (n + 1) = nth l (n + 1) * gB + nth l n := by rw [Nat.mul_comm gB]; omega
 rw [this]; omega
def sgl : List Nat → Nat → List Nat × Nat
 | [], _ => ([], 0)
 | a :: l, d => (((sgl l d).2 * gB + a) / d :: (sgl l d).1, ((sgl l d).2 * gB + a) % d)
theorem sgl_lt (l : List Nat) {d : Nat} (hd : 0 < d) : (sgl l d).2 < d := by
 cases l with
 | nil => exact hd
 | cons a l => exact Nat.mod_lt _ hd
theorem sgl_len (l : List Nat) (d : Nat) : (sgl l d).1.length = l.length := by
 induction l with
 | nil => rfl
 | cons a l ih => simp [sgl, ih]
theorem sgl_big {r a d : Nat} (hr : r < d) (hd : d < gB) (ha : a < gB) : r * gB + a < 18446744073709551616 := by
 have : r * gB ≤ 999999999 * gB := Nat.mul_le_mul_right _ (by unfold gB at *; omega)
 unfold gB at *; omega
theorem sgl_ok {l : List Nat} {d : Nat} (hl : magOK l) (hd : 0 < d) : magOK (sgl l d).1 := by
 induction l with
 | nil => intro x hx; simp [sgl] at hx
 | cons a l ih =>
  intro x hx
  simp only [sgl, List.mem_cons] at hx
  rcases hx with rfl | hx
  ·have h1 := sgl_lt l hd
   have h2 := hl a (by simp)
   rw [Nat.div_lt_iff_lt_mul hd]
   have h3 : ((sgl l d).2 + 1) * gB ≤ d * gB := Nat.mul_le_mul_right _ h1
   rw [Nat.add_mul] at h3
   rw [Nat.mul_comm gB d]; omega
  ·exact ih (fun y hy => hl y (by simp [hy])) x hx
theorem sgl_val (l : List Nat) (d : Nat) : mVa l = mVa (sgl l d).1 * d + (sgl l d).2 := by
 induction l with
 | nil => simp [sgl, mVa]
 | cons a l ih =>
  have h := Nat.div_add_mod ((sgl l d).2 * gB + a) d
  simp only [sgl, mVa]
  rw [ih]
  generalize (sgl l d).2 = r at *
  generalize mVa (sgl l d).1 = q at *
  generalize (r * gB + a) / d = u at *
  generalize (r * gB + a) % d = v at *
  rw [Nat.mul_add, Nat.add_mul, Nat.mul_comm u d, ← Nat.mul_assoc, Nat.mul_comm gB r]
  omega
theorem mulN {a : Nat} {b : Int} {c : Nat} (hb : b = (c : Int)) (h : a * c < 18446744073709551616) : IntKind.u64.wrap ((a : Int) * b) = ((a * c : Nat) : Int) := by
 subst hb
 have e : (a : Int) * (c : Int) = ((a * c : Nat) : Int) := by simp
 rw [e]; exact wrapu64_ok (by omega) (by omega)
theorem quoNN {a d : Nat} (h : a < 18446744073709551616) : IntKind.u64.wrap ((a : Int).tdiv (d : Int)) = ((a / d : Nat) : Int) := by
 have e : (a : Int).tdiv (d : Int) = ((a / d : Nat) : Int) := by
  rw [Int.tdiv_eq_ediv_of_nonneg (by omega)]; simp
 rw [e]
 have : a / d ≤ a := Nat.div_le_self _ _
 generalize a / d = q at this ⊢
 exact wrapu64_ok (by omega) (by omega)
theorem remNN (a d : Nat) : (a : Int).tmod (d : Int) = ((a % d : Nat) : Int) := by
 rw [Int.tmod_eq_emod_of_nonneg (by omega)]; simp
theorem rep_snoc (i : List Nat) (x : Nat) (s : List Nat) : List.replicate (i ++ [x]).length 0 ++ s = List.replicate i.length 0 ++ 0 :: s := by simp [List.replicate_succ']
theorem enc_midZ {i : List Nat} {x : Nat} {s : List Nat} : (encMag (List.replicate (i ++ [x]).length 0 ++ s))[i.length]? = some [.raw (.int .u64 ((0 : Nat) : Int))] := by
 rw [rep_snoc]
 have h := enc_mid (List.replicate i.length 0) 0 s
 rw [List.length_replicate] at h; exact h
theorem enc_setZ {i : List Nat} {x : Nat} {s : List Nat} {q : Nat} : (encMag (List.replicate (i ++ [x]).length 0 ++ s)).set i.length [.raw (.int .u64 (q : Int))] = encMag (List.replicate i.length 0 ++ q :: s) := by
 rw [rep_snoc]
 have h := enc_set (List.replicate i.length 0) 0 q s
 rw [List.length_replicate] at h; exact h
theorem enc_nth {out : List Nat} {j : Nat} (h : j < out.length) : (encMag out)[j]? = some [.raw (.int .u64 (nth out j : Int))] := by
 simp [encMag, nth_lt h]
theorem enc_setJ {out : List Nat} {j v : Nat} : (encMag out).set j [.raw (.int .u64 (v : Int))] = encMag (out.set j v) := by
 simp [encMag, List.map_set]
def TI (out : List Nat) (c i k V a : Nat) (pre : List Nat) : Prop :=
 magOK out ∧ c < gB ∧ mVa out + c * gB ^ (i + pre.length) = V + a * mVa pre * gB ^ i ∧ ∀ j, i + k ≤ j → nth out j = 0
def TO (out : List Nat) (i k V : Nat) : Prop := magOK out ∧ mVa out = V ∧ ∀ j, i + k ≤ j → nth out j = 0
theorem TI0 {out : List Nat} {i k V : Nat} (a : Nat) (h : TO out i k V) : TI out 0 i k V a [] := ⟨h.1, gB_pos, by simp [mVa, h.2.1], h.2.2⟩
theorem TO0 (x y : List Nat) (n : Nat) : TO (List.replicate n 0) 0 y.length (mVa [] * mVa y) := ⟨magOK_zeros n, by rw [magVal_zeros]; simp [mVa], fun j _ => by
 unfold nth
 rw [List.getElem?_replicate]; split <;> rfl⟩
theorem TI_big {c n a b : Nat} (hc : c < gB) (hn : n < gB) (ha : a < gB) (hb : b < gB) : c + (n + a * b) < gB * gB := by
 have h1 : a * b ≤ (gB - 1) * (gB - 1) := Nat.mul_le_mul (by omega) (by omega)
 unfold gB at *; omega
theorem TI_wrap {c n a b : Nat} (hc : c < gB) (hn : n < gB) (ha : a < gB) (hb : b < gB) : a * b < 18446744073709551616 ∧ n + a * b < 18446744073709551616 ∧ c + (n + a * b) < 18446744073709551616 := by
 have h := TI_big hc hn ha hb
 have h2 : gB * gB < 18446744073709551616 := by decide
 omega
theorem TI1 {out pre : List Nat} {c i k V a b : Nat} (h : TI out c i k V a pre) (ha : a < gB) (hb : b < gB) (hk : pre.length < k) (hl : i + pre.length < out.length) :
  TI (out.set (i + pre.length) ((c + (nth out (i + pre.length) + a * b)) % gB)) ((c + (nth out (i + pre.length) + a * b)) / gB) i k V a (pre ++ [b]) := by
 obtain ⟨h1, h2, h3, h4⟩ := h
 have hb2 := TI_big h2 (nth_ok h1 (i + pre.length)) ha hb
 refine ⟨magOK_set h1 (Nat.mod_lt _ gB_pos), ?_, ?_, fun j hj => ?_⟩
 ·rw [Nat.div_lt_iff_lt_mul gB_pos]; exact hb2
 ·have hs := carry_step (t := c + (nth out (i + pre.length) + a * b)) (c := c + a * b) hl rfl (by omega)
  rw [List.length_append, show i + (pre.length + [b].length) = i + pre.length + 1 by simp; omega, hs, Nat.add_mul, ← Nat.add_assoc, h3, magVal_snoc, Nat.mul_add, Nat.add_mul, Nat.pow_add]
  rw [Nat.add_assoc]
  congr 2
  rw [Nat.mul_comm (gB ^ i), ← Nat.mul_assoc, ← Nat.mul_assoc]
 ·rw [nth_set hl, if_neg (by omega)]; exact h4 j hj
theorem TI2 {out pre y : List Nat} {c a k : Nat} (h : TI out c pre.length y.length (mVa pre * mVa y) a y) (hk : 0 < y.length) (hl : pre.length + y.length < out.length) (hn : k = nth out (pre.length + y.length) + c) :
  TO (out.set (pre.length + y.length) k) (pre ++ [a]).length y.length (mVa (pre ++ [a]) * mVa y) := by
 obtain ⟨h1, h2, h3, h4⟩ := h
 have h0 := h4 (pre.length + y.length) (Nat.le_refl _)
 subst hn
 have hs := magVal_set (v := nth out (pre.length + y.length) + c) hl
 rw [h0] at hs
 rw [h0]
 refine ⟨magOK_set h1 (by omega), ?_, fun j hj => ?_⟩
 ·simp only [Nat.zero_mul, Nat.zero_add, Nat.add_zero] at hs ⊢
  rw [hs, h3, magVal_snoc, Nat.add_mul]
  congr 1
  rw [Nat.mul_right_comm]
 ·simp only [List.length_append, List.length_cons, List.length_nil] at hj
  rw [nth_set hl, if_neg (by omega)]; exact h4 j (by omega)
theorem TI3 {out pre y : List Nat} {c a : Nat} (h : TI out c pre.length y.length (mVa pre * mVa y) a y) (hk : y.length = 0) :
  TO out (pre ++ [a]).length y.length (mVa (pre ++ [a]) * mVa y) := by
 obtain ⟨h1, h2, h3, h4⟩ := h
 have e := List.eq_nil_of_length_eq_zero hk
 subst e
 refine ⟨h1, ?_, fun j hj => h4 j (by simp at hj ⊢; omega)⟩
 simp only [mVa, Nat.mul_zero, Nat.zero_mul] at h3 ⊢
 omega
theorem TO_cut {out x y : List Nat} {i k : Nat} (h : TO out i k (mVa x * mVa y)) : cutM out = magN (mVa x * mVa y) := by rw [cut_eq h.1, h.2.1]
variable [Noise]
theorem Vr.of_Vc {w : World} {O : Nat → Prop} {b sz : Nat} : ∀ (rows : List (List D)) (off : Nat), rows.all (fun r => Nat.beq r.length sz) = true → Vc w O b off rows.flatten → Vr w O b off sz rows
 | [], off, _, _ => by simp [Vr]
 | r :: rs, off, hl, h => by
  simp only [List.all_cons, Bool.and_eq_true, Nat.beq_eq] at hl
  have h1 := h.take r.length
  have h2 := h.drop r.length
  simp only [List.flatten_cons, List.take_left, List.drop_left] at h1 h2
  simp only [Vr]
  exact ⟨⟨hl.1, h1⟩, Vr.of_Vc rs (off + sz) hl.2 (hl.1 ▸ h2)⟩
theorem q_sliceIA {P : Program} {env : Env} {dst : Option Tmp} {ty : TypeId} {pos : String} {aft : Array Edge} {g : Option (Nat × Bool)} {t e : TypeId} {x : Operand} {n sz : Nat} {cs : List D} {rows : List (List D)} (hu : P.underlying t = some (.array n e)) (hs : ∀ w, (sizeOf e).run P w = .ok sz w) (hx : env.op x = some (.iptr cs)) (hn : 0 < n) (hn2 : n < 4611686018427387904)
  (hr : rows.flatten = cs) (hl : rows.length = n) (hrl : rows.all (fun r => Nat.beq r.length sz) = true) (hb : n ≤ big) (obs : Obs) :
  QStep P ⟨dst, .slice t x none none none, ty, pos, aft, g⟩ env obs (.snap sz true rows) obs :=
 .val fun O ρ a w _ hv => by
  have h1 := hv x (by simp [Op.operands]) _ hx
  simp only [V] at h1
  obtain ⟨b, off, e1, ho, h2⟩ := h1
  have hbd : (Instr.sliceBounds false n n none none none).run P w = .ok (0, n, n) w := by simp [Instr.sliceBounds]
  refine ⟨.slice (some ⟨b, off, none⟩) n n, ?_, ?_⟩
  ·simp [execOp, Instr.sliceAt, Instr.sureAddr, run_und hu, e1, hbd, hs, addr_add']
  ·simp only [V]
   refine ⟨_, n, by rw [hl], ⟨by omega, by omega⟩, fun _ => hl.symm, fun _ => ⟨b, off, rfl, ho, ?_⟩⟩
   exact Vr.of_Vc rows off hrl (hr ▸ h2)
theorem q_indexA {P : Program} {env : Env} {dst : Option Tmp} {ty : TypeId} {pos : String} {aft : Array Edge} {g : Option (Nat × Bool)} {t e : TypeId} {x y : Operand} {n sz : Nat} {k : IntKind} {i : Int} {cs r : List D} (hu : P.underlying t = some (.array n e)) (ha : ∀ w, (isAgg e).run P w = .ok true w) (hs : ∀ w, (sizeOf e).run P w = .ok sz w)
  (hx : env.op x = some (.agg cs)) (hy : env.op y = some (.raw (.int k i))) (h0 : 0 ≤ i) (hi : i < n) (hl : i.toNat * sz + sz ≤ cs.length) (hr : (cs.drop (i.toNat * sz)).take sz = r) (obs : Obs) :
  QStep P ⟨dst, .index t x y, ty, pos, aft, g⟩ env obs (.agg r) obs :=
 .val fun O ρ a w _ hv => by
  have h1 := hv x (by simp [Op.operands]) _ hx
  have h2 := hv y (by simp [Op.operands]) _ hy
  simp only [V] at h1 h2
  obtain ⟨vs, e1, h3⟩ := h1
  refine ⟨.agg (vs.extract (i.toNat * sz) (i.toNat * sz + sz)), ?_, ?_⟩
  ·simp [execOp, Instr.index, h2, asIntOf, run_und hu, e1, h0, hi, hs, part, ha]
  ·simp only [V]
   refine ⟨_, rfl, ?_⟩
   rw [Array.toList_extract, List.extract_eq_take_drop, ← hr, Nat.add_sub_cancel_left]
   exact Vs.take sz (Vs.drop (i.toNat * sz) h3)
end Go.T
