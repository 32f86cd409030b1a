/-
  Contracts of the functions that the statement reaches, and the logic in which they are proved (no condition): parts W24, W25, W26, W27.
-/
import Derived.Test.YtlhemheagekhaaaGreatDoorA09
set_option linter.all false
namespace Go.T
open Go Go.Proofs
set_option maxRecDepth 20000
structure plusMag_ok_L0  (p q : List Nat) where
 out : List Nat
 rest : List Nat
 c : Nat
 hl : p.length = out.length + rest.length
 hc : c ≤ 1
 ho : magOK rest
 hr : out ++ addC rest (q.drop out.length) c = addC p q 0
theorem plusMag_ok (x y : List Nat) (hne : x.length ≠ 0 ∨ y.length ≠ 0) (hxs : x.length ≤ 20000) (hys : y.length ≤ 20000) (hxo : magOK x) (hyo : magOK y) : Fc Tryz.prog 127 [sMag x, sMag y] (sMag (plusM x y)) := by
 refine Fc.mk' [4] Tryz.func127 rfl Tryz.ntmps127 rfl rfl rfl (fun t w => results_tmp Tryz.results127 t _ w) ?_
 refine Run.seq (Run.reg [.p] ?_)
 refine .ag rfl rfl <| .nil ?_
 refine Run.seq (Run.seq (Run.reg [.p, .p, .p, .p, .p] ?_))
 refine .mv rfl rfl <| .P rfl (q_lenI Tryz.underlying114 rfl) <| .mv rfl rfl <| .P rfl (q_lenI Tryz.underlying114 rfl) <| .P rfl (q_lss rfl rfl) <| .nil ?_
 refine Run.cond rfl (fun h1 => ?_) (fun h1 => ?_)
 ·have ph1 := h1; try simp only [bs] at ph1
  refine Run.reg [.p, .p, .p, .p] ?_
  refine .mv rfl rfl <| .mv rfl rfl <| .ag rfl rfl <| .ag rfl rfl <| .nil ?_
  refine Run.seq (Run.reg [.p, .p, .p, .p, .p, .w, .p] ?_)
  refine .mv rfl rfl <| .P rfl (q_lenI Tryz.underlying114 rfl) <| .mv rfl rfl <| .P rfl (q_lenI Tryz.underlying114 rfl) <| .P rfl (q_add rfl rfl (wrap64_ok (by first | omega | (simp; done) | (simp; omega) | (simp at *; omega)) (by first | omega | (simp; done) | (simp; omega) | (simp at *; omega)))) <| .W rfl (q_makeSlice1 (bt := 8) 0 _ Tryz.underlying114 Tryz.sizeOf171 Tryz.typeInfo171 Tryz.zeroValue171 rfl rfl rfl rfl rfl rfl (Int.natCast_succ _).symm (by omega) (by rw [List.length_map]; omega) (by simp; omega) (by simp; omega) rfl) <| .ag rfl rfl <| .nil ?_
  refine Run.seq (Run.reg [.p, .p, .w] ?_)
  refine .mv rfl rfl <| .mv rfl rfl <| .W rfl (q_copy1 Tryz.underlying114 Tryz.sizeOf171 rfl rfl rfl (by simp) (by simp) (by rw [List.length_map]; omega)) <| .nil ?_
  refine Run.seq (Run.reg [.p] ?_)
  refine .ag rfl rfl <| .nil ?_
  refine Run.seq (Run.seq (Run.reg [.p, .p, .p] ?_))
  refine .mv rfl rfl <| .P rfl (q_lenG Tryz.underlying114 rfl) <| .mv rfl rfl <| .nil ?_
  refine Run.block ?_
  refine Run.loop (ι := plusMag_ok_L0 y x) (fun sx => [(1, sMag x), (5, .gs 0 y.length), (6, .raw (.int .u64 (sx.c : Int))), (25, .i y.length), (26, .i sx.out.length)]) (fun sx => [(0, .arr 1 (encMag (sx.out ++ sx.rest)))]) (fun sx => sx.rest.length) ⟨[], y, 0, by simp, by omega, hyo, by simp⟩ ?_ ?_
  ·exact Le.mk rfl (.same rfl rfl (.cons rfl (Sub.gs (by simp)) rfl (.cons rfl Sub.intA rfl (.cons rfl Sub.intA rfl (.cons rfl Sub.intA rfl .nil))))) (.arr rfl (by first | rfl | skip; simp only [List.set_set, List.set_cons_zero]; exact (enc_set _ _ _ _).trans (by simp)) .nil)
  ·rintro ⟨out, rest, c, hl, hc, ho, hr⟩
   show Run _ _ _ _ [(1, sMag x), (5, .gs 0 y.length), (6, .raw (.int .u64 (c : Int))), (25, .i y.length), (26, .i out.length)] [(0, .arr 1 (encMag (out ++ rest)))]
   rcases rest with _ | ⟨a, rest⟩
   ·skip
    refine Run.seq (Run.reg [.p] ?_)
    refine .P rfl (q_lss rfl rfl) <| .nil ?_
    refine Run.seq ?_
    refine Run.condF rfl (by simp at hl ⊢; omega) ?_
    refine Run.exit (tq_exit (bq_exit ?_))
    refine Run.seq (Run.seq (Run.reg [.p, .p] ?_))
    refine .mv rfl rfl <| .P rfl (q_gtr rfl rfl) <| .nil ?_
    refine Run.cond rfl (fun h2 => ?_) (fun h2 => ?_)
    ·have ph2 := h2; try simp only [bs] at ph2
     refine Run.reg [.p, .p, .p, .w, .p] ?_
     refine .mv rfl rfl <| .mv rfl rfl <| .P rfl (q_buildSlice' (n := 1) (rows := encMag [c]) Tryz.underlying114 Tryz.sizeOf171 rfl rfl rfl Tryz.zeroValue171 rfl rfl rfl rfl rfl rfl rfl) <| .W rfl (q_append 1 Tryz.underlying114 Tryz.underlying114 Tryz.sizeOf171 Tryz.typeInfo171 Tryz.zeroValue171 rfl (bt := 8) rfl rfl rfl rfl (by first | (simp; done) | (simp at hl ⊢; omega)) rfl rfl (by simp at *; omega)) <| .ag rfl rfl <| .nil ?_
     refine Run.seq (Run.reg [.p, .p] ?_)
     refine .mv rfl rfl <| .ag rfl rfl <| .nil ?_
     refine Run.weak (Le.freeze 4 1 rfl rfl (by first | (simp; done) | (simp at hl ⊢; omega))) ?_
     refine Run.ret (?_)
     exact ret1 rfl (Sub.snap (by (first | rw [plusM_T (by simp at *; omega)] | rw [plusM_F (by simp at *; omega)]); rw [← hr]; simp only [addC]; (first | rw [if_pos (by omega)] | rw [if_neg (by omega)]); try simp))
    ·have ph2 := h2; try simp only [bs] at ph2
     refine Run.skip ?_
     refine Run.seq (Run.reg [.p, .p] ?_)
     refine .mv rfl rfl <| .ag rfl rfl <| .nil ?_
     refine Run.weak (Le.freeze 4 0 rfl rfl (by first | (simp; done) | (simp at hl ⊢; omega))) ?_
     refine Run.ret (?_)
     exact ret1 rfl (Sub.snap (by (first | rw [plusM_T (by simp at *; omega)] | rw [plusM_F (by simp at *; omega)]); rw [← hr]; simp only [addC]; (first | rw [if_pos (by omega)] | rw [if_neg (by omega)]); try simp))
   ·simp only [List.length_cons] at hl
    have ha := ho a (by simp)
    have hb := nthN_ok (k := out.length) hxo
    refine Run.seq (Run.reg [.p] ?_)
    refine .P rfl (q_lss rfl rfl) <| .nil ?_
    refine Run.seq ?_
    refine Run.condT rfl (by simp; omega) ?_
    refine Run.skip ?_
    refine Run.seq ?_
    refine Run.block ?_
    refine Run.seq (Run.reg [.p, .p] ?_)
    refine .mv rfl rfl <| .ag rfl rfl <| .nil ?_
    refine Run.seq (Run.reg [.p, .p, .p, .r, .p, .p, .p, .w] ?_)
    refine .mv rfl rfl <| .mv rfl rfl <| .P rfl (q_indexG (off := (out.length) * 1) Tryz.underlying114 Tryz.sizeOf171 rfl rfl (by first | omega | (simp; done) | (simp; omega) | (simp at *; omega)) (by simp; omega) (by first | omega | (simp; done) | (simp; omega) | (simp at *; omega))) <| .R rfl (q_loadG1 (r := _) (out.length) 0 Tryz.isAgg171 rfl rfl rfl (enc_mid _ _ _) rfl) <| .mv rfl rfl <| .P rfl (q_add rfl rfl (addN (by unfold gB at *; omega))) <| .P rfl (q_indexG (off := (out.length) * 1) Tryz.underlying114 Tryz.sizeOf171 rfl rfl (by first | omega | (simp; done) | (simp; omega) | (simp at *; omega)) (by simp; omega) (by first | omega | (simp; done) | (simp; omega) | (simp at *; omega))) <| .W rfl (q_storeG1 (r := _) (out.length) 0 Tryz.sizeOf171 rfl rfl rfl rfl rfl rfl (enc_mid _ _ _) (by simp)) <| .nil ?_
    refine Run.seq (Run.seq (Run.reg [.p, .p, .p, .p] ?_))
    refine .mv rfl rfl <| .mv rfl rfl <| .P rfl (q_lenI Tryz.underlying114 rfl) <| .P rfl (q_lss rfl rfl) <| .nil ?_
    refine Run.cond rfl (fun h3 => ?_) (fun h3 => ?_)
    ·have ph3 := h3; try simp only [bs] at ph3
     refine Run.regD [.p, .p, .p, .r, .p, .p, .p, .p, .p, .p, .w] Tryz_mixed (by decide +kernel) ?_
     refine .mv rfl rfl <| .mv rfl rfl <| .P rfl (q_indexG (off := (out.length) * 1) Tryz.underlying114 Tryz.sizeOf171 rfl rfl (by first | omega | (simp; done) | (simp; omega) | (simp at *; omega)) (by simp; omega) (by first | omega | (simp; done) | (simp; omega) | (simp at *; omega))) <| .R rfl (q_loadG1 (r := _) (out.length) 0 Tryz.isAgg171 rfl rfl rfl (row_set (enc_mid _ _ _)) rfl) <| .mv rfl rfl <| .mv rfl rfl <| .P rfl (q_indexI Tryz.underlying114 Tryz.sizeOf171 rfl rfl (by omega) (idx_mag (nthN_drop (by simp at *; omega)) rfl)) <| .P rfl (q_loadI Tryz.isAgg171 rfl) <| .P rfl (q_add rfl rfl (addN (by unfold gB at *; omega))) <| .P rfl (q_indexG (off := (out.length) * 1) Tryz.underlying114 Tryz.sizeOf171 rfl rfl (by first | omega | (simp; done) | (simp; omega) | (simp at *; omega)) (by simp; omega) (by first | omega | (simp; done) | (simp; omega) | (simp at *; omega))) <| .W rfl (q_storeG1 (r := _) (out.length) 0 Tryz.sizeOf171 rfl rfl rfl rfl rfl rfl (row_set (enc_mid _ _ _)) (by simp)) <| .nil ?_
     refine Run.seq (Run.reg [.p, .p, .p, .r, .p, .p] ?_)
     refine .mv rfl rfl <| .mv rfl rfl <| .P rfl (q_indexG (off := (out.length) * 1) Tryz.underlying114 Tryz.sizeOf171 rfl rfl (by first | omega | (simp; done) | (simp; omega) | (simp at *; omega)) (by simp; omega) (by first | omega | (simp; done) | (simp; omega) | (simp at *; omega))) <| .R rfl (q_loadG1 (r := _) (out.length) 0 Tryz.isAgg171 rfl rfl rfl (row_set (row_set (enc_mid _ _ _))) rfl) <| .P rfl (q_quo rfl rfl (by decide) (quoN (by unfold gB at *; omega))) <| .ag rfl rfl <| .nil ?_
     refine Run.reg [.p, .p, .p, .r, .p, .p, .w] ?_
     refine .mv rfl rfl <| .mv rfl rfl <| .P rfl (q_indexG (off := (out.length) * 1) Tryz.underlying114 Tryz.sizeOf171 rfl rfl (by first | omega | (simp; done) | (simp; omega) | (simp at *; omega)) (by simp; omega) (by first | omega | (simp; done) | (simp; omega) | (simp at *; omega))) <| .R rfl (q_loadG1 (r := _) (out.length) 0 Tryz.isAgg171 rfl rfl rfl (row_set (row_set (enc_mid _ _ _))) rfl) <| .P rfl (q_rem rfl rfl (by decide) (remN _)) <| .P rfl (q_indexG (off := (out.length) * 1) Tryz.underlying114 Tryz.sizeOf171 rfl rfl (by first | omega | (simp; done) | (simp; omega) | (simp at *; omega)) (by simp; omega) (by first | omega | (simp; done) | (simp; omega) | (simp at *; omega))) <| .W rfl (q_storeG1 (r := _) (out.length) 0 Tryz.sizeOf171 rfl rfl rfl rfl rfl rfl (row_set (row_set (enc_mid _ _ _))) (by simp)) <| .nil ?_
     refine Run.nil (bq_norm ?_)
     refine Run.reg [.p, .p] ?_
     refine .P rfl (q_add rfl rfl (wrap64_ok (by first | omega | (simp; done) | (simp; omega) | (simp at *; omega)) (by first | omega | (simp; done) | (simp; omega) | (simp at *; omega)))) <| .mv rfl rfl <| .nil ?_
     refine Run.nil (tq_norm ?_)
     exact ⟨⟨out ++ [(a + c + nthN x out.length) % gB], rest, (a + c + nthN x out.length) / gB, by simp; omega, by rw [Nat.div_le_iff_le_mul_add_pred gB_pos]; unfold gB at *; omega, fun u hu => ho u (by simp [hu]), by rw [← hr, addC_stepT (by simp at *; omega)]; simp⟩, by simp, Le.mk rfl (.same rfl rfl (.cons rfl (Sub.gs (by simp)) rfl (.cons rfl Sub.intA rfl (.cons rfl Sub.intA rfl (.cons rfl Sub.intA rfl .nil))))) (.arr rfl (by first | rfl | skip; simp only [List.set_set, List.set_cons_zero]; exact (enc_set _ _ _ _).trans (by simp)) .nil)⟩
    ·have ph3 := h3; try simp only [bs] at ph3
     refine Run.skip ?_
     refine Run.seq (Run.reg [.p, .p, .p, .r, .p, .p] ?_)
     refine .mv rfl rfl <| .mv rfl rfl <| .P rfl (q_indexG (off := (out.length) * 1) Tryz.underlying114 Tryz.sizeOf171 rfl rfl (by first | omega | (simp; done) | (simp; omega) | (simp at *; omega)) (by simp; omega) (by first | omega | (simp; done) | (simp; omega) | (simp at *; omega))) <| .R rfl (q_loadG1 (r := _) (out.length) 0 Tryz.isAgg171 rfl rfl rfl (row_set (enc_mid _ _ _)) rfl) <| .P rfl (q_quo rfl rfl (by decide) (quoN (by unfold gB at *; omega))) <| .ag rfl rfl <| .nil ?_
     refine Run.reg [.p, .p, .p, .r, .p, .p, .w] ?_
     refine .mv rfl rfl <| .mv rfl rfl <| .P rfl (q_indexG (off := (out.length) * 1) Tryz.underlying114 Tryz.sizeOf171 rfl rfl (by first | omega | (simp; done) | (simp; omega) | (simp at *; omega)) (by simp; omega) (by first | omega | (simp; done) | (simp; omega) | (simp at *; omega))) <| .R rfl (q_loadG1 (r := _) (out.length) 0 Tryz.isAgg171 rfl rfl rfl (row_set (enc_mid _ _ _)) rfl) <| .P rfl (q_rem rfl rfl (by decide) (remN _)) <| .P rfl (q_indexG (off := (out.length) * 1) Tryz.underlying114 Tryz.sizeOf171 rfl rfl (by first | omega | (simp; done) | (simp; omega) | (simp at *; omega)) (by simp; omega) (by first | omega | (simp; done) | (simp; omega) | (simp at *; omega))) <| .W rfl (q_storeG1 (r := _) (out.length) 0 Tryz.sizeOf171 rfl rfl rfl rfl rfl rfl (row_set (enc_mid _ _ _)) (by simp)) <| .nil ?_
     refine Run.nil (bq_norm ?_)
     refine Run.reg [.p, .p] ?_
     refine .P rfl (q_add rfl rfl (wrap64_ok (by first | omega | (simp; done) | (simp; omega) | (simp at *; omega)) (by first | omega | (simp; done) | (simp; omega) | (simp at *; omega)))) <| .mv rfl rfl <| .nil ?_
     refine Run.nil (tq_norm ?_)
     exact ⟨⟨out ++ [(a + c) % gB], rest, (a + c) / gB, by simp; omega, by rw [Nat.div_le_iff_le_mul_add_pred gB_pos]; unfold gB at *; omega, fun u hu => ho u (by simp [hu]), by rw [← hr, addC_stepF (by simp at *; omega)]; simp⟩, by simp, Le.mk rfl (.same rfl rfl (.cons rfl (Sub.gs (by simp)) rfl (.cons rfl Sub.intA rfl (.cons rfl Sub.intA rfl (.cons rfl Sub.intA rfl .nil))))) (.arr rfl (by first | rfl | skip; simp only [List.set_set, List.set_cons_zero]; exact (enc_set _ _ _ _).trans (by simp)) .nil)⟩
 ·have ph1 := h1; try simp only [bs] at ph1
  refine Run.skip ?_
  refine Run.seq (Run.reg [.p, .p, .p, .p, .p, .w, .p] ?_)
  refine .mv rfl rfl <| .P rfl (q_lenI Tryz.underlying114 rfl) <| .mv rfl rfl <| .P rfl (q_lenI Tryz.underlying114 rfl) <| .P rfl (q_add rfl rfl (wrap64_ok (by first | omega | (simp; done) | (simp; omega) | (simp at *; omega)) (by first | omega | (simp; done) | (simp; omega) | (simp at *; omega)))) <| .W rfl (q_makeSlice1 (bt := 8) 0 _ Tryz.underlying114 Tryz.sizeOf171 Tryz.typeInfo171 Tryz.zeroValue171 rfl rfl rfl rfl rfl rfl (Int.natCast_succ _).symm (by omega) (by rw [List.length_map]; omega) (by simp; omega) (by simp; omega) rfl) <| .ag rfl rfl <| .nil ?_
  refine Run.seq (Run.reg [.p, .p, .w] ?_)
  refine .mv rfl rfl <| .mv rfl rfl <| .W rfl (q_copy1 Tryz.underlying114 Tryz.sizeOf171 rfl rfl rfl (by simp) (by simp) (by rw [List.length_map]; omega)) <| .nil ?_
  refine Run.seq (Run.reg [.p] ?_)
  refine .ag rfl rfl <| .nil ?_
  refine Run.seq (Run.seq (Run.reg [.p, .p, .p] ?_))
  refine .mv rfl rfl <| .P rfl (q_lenG Tryz.underlying114 rfl) <| .mv rfl rfl <| .nil ?_
  refine Run.block ?_
  refine Run.loop (ι := plusMag_ok_L0 x y) (fun sx => [(1, sMag y), (5, .gs 0 x.length), (6, .raw (.int .u64 (sx.c : Int))), (25, .i x.length), (26, .i sx.out.length)]) (fun sx => [(0, .arr 1 (encMag (sx.out ++ sx.rest)))]) (fun sx => sx.rest.length) ⟨[], x, 0, by simp, by omega, hxo, by simp⟩ ?_ ?_
  ·exact Le.mk rfl (.same rfl rfl (.cons rfl (Sub.gs (by simp)) rfl (.cons rfl Sub.intA rfl (.cons rfl Sub.intA rfl (.cons rfl Sub.intA rfl .nil))))) (.arr rfl (by first | rfl | skip; simp only [List.set_set, List.set_cons_zero]; exact (enc_set _ _ _ _).trans (by simp)) .nil)
  ·rintro ⟨out, rest, c, hl, hc, ho, hr⟩
   show Run _ _ _ _ [(1, sMag y), (5, .gs 0 x.length), (6, .raw (.int .u64 (c : Int))), (25, .i x.length), (26, .i out.length)] [(0, .arr 1 (encMag (out ++ rest)))]
   rcases rest with _ | ⟨a, rest⟩
   ·skip
    refine Run.seq (Run.reg [.p] ?_)
    refine .P rfl (q_lss rfl rfl) <| .nil ?_
    refine Run.seq ?_
    refine Run.condF rfl (by simp at hl ⊢; omega) ?_
    refine Run.exit (tq_exit (bq_exit ?_))
    refine Run.seq (Run.seq (Run.reg [.p, .p] ?_))
    refine .mv rfl rfl <| .P rfl (q_gtr rfl rfl) <| .nil ?_
    refine Run.cond rfl (fun h4 => ?_) (fun h4 => ?_)
    ·have ph4 := h4; try simp only [bs] at ph4
     refine Run.reg [.p, .p, .p, .w, .p] ?_
     refine .mv rfl rfl <| .mv rfl rfl <| .P rfl (q_buildSlice' (n := 1) (rows := encMag [c]) Tryz.underlying114 Tryz.sizeOf171 rfl rfl rfl Tryz.zeroValue171 rfl rfl rfl rfl rfl rfl rfl) <| .W rfl (q_append 1 Tryz.underlying114 Tryz.underlying114 Tryz.sizeOf171 Tryz.typeInfo171 Tryz.zeroValue171 rfl (bt := 8) rfl rfl rfl rfl (by first | (simp; done) | (simp at hl ⊢; omega)) rfl rfl (by simp at *; omega)) <| .ag rfl rfl <| .nil ?_
     refine Run.seq (Run.reg [.p, .p] ?_)
     refine .mv rfl rfl <| .ag rfl rfl <| .nil ?_
     refine Run.weak (Le.freeze 4 1 rfl rfl (by first | (simp; done) | (simp at hl ⊢; omega))) ?_
     refine Run.ret (?_)
     exact ret1 rfl (Sub.snap (by (first | rw [plusM_T (by simp at *; omega)] | rw [plusM_F (by simp at *; omega)]); rw [← hr]; simp only [addC]; (first | rw [if_pos (by omega)] | rw [if_neg (by omega)]); try simp))
    ·have ph4 := h4; try simp only [bs] at ph4
     refine Run.skip ?_
     refine Run.seq (Run.reg [.p, .p] ?_)
     refine .mv rfl rfl <| .ag rfl rfl <| .nil ?_
     refine Run.weak (Le.freeze 4 0 rfl rfl (by first | (simp; done) | (simp at hl ⊢; omega))) ?_
     refine Run.ret (?_)
     exact ret1 rfl (Sub.snap (by (first | rw [plusM_T (by simp at *; omega)] | rw [plusM_F (by simp at *; omega)]); rw [← hr]; simp only [addC]; (first | rw [if_pos (by omega)] | rw [if_neg (by omega)]); try simp))
   ·simp only [List.length_cons] at hl
    have ha := ho a (by simp)
    have hb := nthN_ok (k := out.length) hyo
    refine Run.seq (Run.reg [.p] ?_)
    refine .P rfl (q_lss rfl rfl) <| .nil ?_
    refine Run.seq ?_
    refine Run.condT rfl (by simp; omega) ?_
    refine Run.skip ?_
    refine Run.seq ?_
    refine Run.block ?_
    refine Run.seq (Run.reg [.p, .p] ?_)
    refine .mv rfl rfl <| .ag rfl rfl <| .nil ?_
    refine Run.seq (Run.reg [.p, .p, .p, .r, .p, .p, .p, .w] ?_)
    refine .mv rfl rfl <| .mv rfl rfl <| .P rfl (q_indexG (off := (out.length) * 1) Tryz.underlying114 Tryz.sizeOf171 rfl rfl (by first | omega | (simp; done) | (simp; omega) | (simp at *; omega)) (by simp; omega) (by first | omega | (simp; done) | (simp; omega) | (simp at *; omega))) <| .R rfl (q_loadG1 (r := _) (out.length) 0 Tryz.isAgg171 rfl rfl rfl (enc_mid _ _ _) rfl) <| .mv rfl rfl <| .P rfl (q_add rfl rfl (addN (by unfold gB at *; omega))) <| .P rfl (q_indexG (off := (out.length) * 1) Tryz.underlying114 Tryz.sizeOf171 rfl rfl (by first | omega | (simp; done) | (simp; omega) | (simp at *; omega)) (by simp; omega) (by first | omega | (simp; done) | (simp; omega) | (simp at *; omega))) <| .W rfl (q_storeG1 (r := _) (out.length) 0 Tryz.sizeOf171 rfl rfl rfl rfl rfl rfl (enc_mid _ _ _) (by simp)) <| .nil ?_
    refine Run.seq (Run.seq (Run.reg [.p, .p, .p, .p] ?_))
    refine .mv rfl rfl <| .mv rfl rfl <| .P rfl (q_lenI Tryz.underlying114 rfl) <| .P rfl (q_lss rfl rfl) <| .nil ?_
    refine Run.cond rfl (fun h5 => ?_) (fun h5 => ?_)
    ·have ph5 := h5; try simp only [bs] at ph5
     refine Run.regD [.p, .p, .p, .r, .p, .p, .p, .p, .p, .p, .w] Tryz_mixed (by decide +kernel) ?_
     refine .mv rfl rfl <| .mv rfl rfl <| .P rfl (q_indexG (off := (out.length) * 1) Tryz.underlying114 Tryz.sizeOf171 rfl rfl (by first | omega | (simp; done) | (simp; omega) | (simp at *; omega)) (by simp; omega) (by first | omega | (simp; done) | (simp; omega) | (simp at *; omega))) <| .R rfl (q_loadG1 (r := _) (out.length) 0 Tryz.isAgg171 rfl rfl rfl (row_set (enc_mid _ _ _)) rfl) <| .mv rfl rfl <| .mv rfl rfl <| .P rfl (q_indexI Tryz.underlying114 Tryz.sizeOf171 rfl rfl (by omega) (idx_mag (nthN_drop (by simp at *; omega)) rfl)) <| .P rfl (q_loadI Tryz.isAgg171 rfl) <| .P rfl (q_add rfl rfl (addN (by unfold gB at *; omega))) <| .P rfl (q_indexG (off := (out.length) * 1) Tryz.underlying114 Tryz.sizeOf171 rfl rfl (by first | omega | (simp; done) | (simp; omega) | (simp at *; omega)) (by simp; omega) (by first | omega | (simp; done) | (simp; omega) | (simp at *; omega))) <| .W rfl (q_storeG1 (r := _) (out.length) 0 Tryz.sizeOf171 rfl rfl rfl rfl rfl rfl (row_set (enc_mid _ _ _)) (by simp)) <| .nil ?_
     refine Run.seq (Run.reg [.p, .p, .p, .r, .p, .p] ?_)
     refine .mv rfl rfl <| .mv rfl rfl <| .P rfl (q_indexG (off := (out.length) * 1) Tryz.underlying114 Tryz.sizeOf171 rfl rfl (by first | omega | (simp; done) | (simp; omega) | (simp at *; omega)) (by simp; omega) (by first | omega | (simp; done) | (simp; omega) | (simp at *; omega))) <| .R rfl (q_loadG1 (r := _) (out.length) 0 Tryz.isAgg171 rfl rfl rfl (row_set (row_set (enc_mid _ _ _))) rfl) <| .P rfl (q_quo rfl rfl (by decide) (quoN (by unfold gB at *; omega))) <| .ag rfl rfl <| .nil ?_
     refine Run.reg [.p, .p, .p, .r, .p, .p, .w] ?_
     refine .mv rfl rfl <| .mv rfl rfl <| .P rfl (q_indexG (off := (out.length) * 1) Tryz.underlying114 Tryz.sizeOf171 rfl rfl (by first | omega | (simp; done) | (simp; omega) | (simp at *; omega)) (by simp; omega) (by first | omega | (simp; done) | (simp; omega) | (simp at *; omega))) <| .R rfl (q_loadG1 (r := _) (out.length) 0 Tryz.isAgg171 rfl rfl rfl (row_set (row_set (enc_mid _ _ _))) rfl) <| .P rfl (q_rem rfl rfl (by decide) (remN _)) <| .P rfl (q_indexG (off := (out.length) * 1) Tryz.underlying114 Tryz.sizeOf171 rfl rfl (by first | omega | (simp; done) | (simp; omega) | (simp at *; omega)) (by simp; omega) (by first | omega | (simp; done) | (simp; omega) | (simp at *; omega))) <| .W rfl (q_storeG1 (r := _) (out.length) 0 Tryz.sizeOf171 rfl rfl rfl rfl rfl rfl (row_set (row_set (enc_mid _ _ _))) (by simp)) <| .nil ?_
     refine Run.nil (bq_norm ?_)
     refine Run.reg [.p, .p] ?_
     refine .P rfl (q_add rfl rfl (wrap64_ok (by first | omega | (simp; done) | (simp; omega) | (simp at *; omega)) (by first | omega | (simp; done) | (simp; omega) | (simp at *; omega)))) <| .mv rfl rfl <| .nil ?_
     refine Run.nil (tq_norm ?_)
     exact ⟨⟨out ++ [(a + c + nthN y out.length) % gB], rest, (a + c + nthN y out.length) / gB, by simp; omega, by rw [Nat.div_le_iff_le_mul_add_pred gB_pos]; unfold gB at *; omega, fun u hu => ho u (by simp [hu]), by rw [← hr, addC_stepT (by simp at *; omega)]; simp⟩, by simp, Le.mk rfl (.same rfl rfl (.cons rfl (Sub.gs (by simp)) rfl (.cons rfl Sub.intA rfl (.cons rfl Sub.intA rfl (.cons rfl Sub.intA rfl .nil))))) (.arr rfl (by first | rfl | skip; simp only [List.set_set, List.set_cons_zero]; exact (enc_set _ _ _ _).trans (by simp)) .nil)⟩
    ·have ph5 := h5; try simp only [bs] at ph5
     refine Run.skip ?_
     refine Run.seq (Run.reg [.p, .p, .p, .r, .p, .p] ?_)
     refine .mv rfl rfl <| .mv rfl rfl <| .P rfl (q_indexG (off := (out.length) * 1) Tryz.underlying114 Tryz.sizeOf171 rfl rfl (by first | omega | (simp; done) | (simp; omega) | (simp at *; omega)) (by simp; omega) (by first | omega | (simp; done) | (simp; omega) | (simp at *; omega))) <| .R rfl (q_loadG1 (r := _) (out.length) 0 Tryz.isAgg171 rfl rfl rfl (row_set (enc_mid _ _ _)) rfl) <| .P rfl (q_quo rfl rfl (by decide) (quoN (by unfold gB at *; omega))) <| .ag rfl rfl <| .nil ?_
     refine Run.reg [.p, .p, .p, .r, .p, .p, .w] ?_
     refine .mv rfl rfl <| .mv rfl rfl <| .P rfl (q_indexG (off := (out.length) * 1) Tryz.underlying114 Tryz.sizeOf171 rfl rfl (by first | omega | (simp; done) | (simp; omega) | (simp at *; omega)) (by simp; omega) (by first | omega | (simp; done) | (simp; omega) | (simp at *; omega))) <| .R rfl (q_loadG1 (r := _) (out.length) 0 Tryz.isAgg171 rfl rfl rfl (row_set (enc_mid _ _ _)) rfl) <| .P rfl (q_rem rfl rfl (by decide) (remN _)) <| .P rfl (q_indexG (off := (out.length) * 1) Tryz.underlying114 Tryz.sizeOf171 rfl rfl (by first | omega | (simp; done) | (simp; omega) | (simp at *; omega)) (by simp; omega) (by first | omega | (simp; done) | (simp; omega) | (simp at *; omega))) <| .W rfl (q_storeG1 (r := _) (out.length) 0 Tryz.sizeOf171 rfl rfl rfl rfl rfl rfl (row_set (enc_mid _ _ _)) (by simp)) <| .nil ?_
     refine Run.nil (bq_norm ?_)
     refine Run.reg [.p, .p] ?_
     refine .P rfl (q_add rfl rfl (wrap64_ok (by first | omega | (simp; done) | (simp; omega) | (simp at *; omega)) (by first | omega | (simp; done) | (simp; omega) | (simp at *; omega)))) <| .mv rfl rfl <| .nil ?_
     refine Run.nil (tq_norm ?_)
     exact ⟨⟨out ++ [(a + c) % gB], rest, (a + c) / gB, by simp; omega, by rw [Nat.div_le_iff_le_mul_add_pred gB_pos]; unfold gB at *; omega, fun u hu => ho u (by simp [hu]), by rw [← hr, addC_stepF (by simp at *; omega)]; simp⟩, by simp, Le.mk rfl (.same rfl rfl (.cons rfl (Sub.gs (by simp)) rfl (.cons rfl Sub.intA rfl (.cons rfl Sub.intA rfl (.cons rfl Sub.intA rfl .nil))))) (.arr rfl (by first | rfl | skip; simp only [List.set_set, List.set_cons_zero]; exact (enc_set _ _ _ _).trans (by simp)) .nil)⟩
structure plusNil_ok_L0  where
 u : Unit
theorem plusNil_ok  : Fc Tryz.prog 127 [.snap 1 false [], .snap 1 false []] (.snap 1 false []) := by
 refine Fc.mk' [4] Tryz.func127 rfl Tryz.ntmps127 rfl rfl rfl (fun t w => results_tmp Tryz.results127 t _ w) ?_
 refine Run.seq (Run.reg [.p] ?_)
 refine .ag rfl rfl <| .nil ?_
 refine Run.seq (Run.seq (Run.reg [.p, .p, .p, .p, .p] ?_))
 refine .mv rfl rfl <| .P rfl (q_lenI Tryz.underlying114 rfl) <| .mv rfl rfl <| .P rfl (q_lenI Tryz.underlying114 rfl) <| .P rfl (q_lss rfl rfl) <| .nil ?_
 refine Run.condF rfl (rfl) ?_
 refine Run.skip ?_
 refine Run.seq (Run.reg [.p, .p, .p, .p, .p, .p, .p] ?_)
 refine .mv rfl rfl <| .P rfl (q_lenI Tryz.underlying114 rfl) <| .mv rfl rfl <| .P rfl (q_lenI Tryz.underlying114 rfl) <| .P rfl (q_add rfl rfl (wrap64_ok (by first | omega | (simp; done) | (simp; omega) | (simp at *; omega)) (by first | omega | (simp; done) | (simp; omega) | (simp at *; omega)))) <| .P rfl (q_makeSlice0 (bt := 8) Tryz.underlying114 Tryz.sizeOf171 Tryz.typeInfo171 Tryz.zeroValue171 rfl rfl rfl rfl (m := 1) rfl (by decide) (by decide) (by decide)) <| .ag rfl rfl <| .nil ?_
 refine Run.seq (Run.reg [.p, .p, .p] ?_)
 refine .mv rfl rfl <| .mv rfl rfl <| .P rfl (q_copy0 Tryz.underlying114 Tryz.sizeOf171 rfl rfl) <| .nil ?_
 refine Run.seq (Run.reg [.p] ?_)
 refine .ag rfl rfl <| .nil ?_
 refine Run.seq (Run.seq (Run.reg [.p, .p, .p] ?_))
 refine .mv rfl rfl <| .P rfl (q_lenI Tryz.underlying114 rfl) <| .mv rfl rfl <| .nil ?_
 refine Run.block ?_
 refine Run.loop (ι := plusNil_ok_L0) (fun sx => [(5, .snap 1 false []), (6, .raw (.int .u64 ((0 : Nat) : Int))), (25, .i 0), (26, .i 0)]) (fun sx => []) (fun sx => 0) ⟨()⟩ ?_ ?_
 ·exact Le.mk rfl (.same rfl rfl (.cons rfl Sub.intA rfl (.cons rfl Sub.intA rfl (.cons rfl Sub.intA rfl .nil)))) .nil
 ·rintro ⟨u⟩
  show Run _ _ _ _ [(5, .snap 1 false []), (6, .raw (.int .u64 ((0 : Nat) : Int))), (25, .i 0), (26, .i 0)] []
  skip
  ·skip
   refine Run.seq (Run.reg [.p] ?_)
   refine .P rfl (q_lss rfl rfl) <| .nil ?_
   refine Run.seq ?_
   refine Run.condF rfl (rfl) ?_
   refine Run.exit (tq_exit (bq_exit ?_))
   refine Run.seq (Run.seq (Run.reg [.p, .p] ?_))
   refine .mv rfl rfl <| .P rfl (q_gtr rfl rfl) <| .nil ?_
   refine Run.condF rfl (rfl) ?_
   refine Run.skip ?_
   refine Run.seq (Run.reg [.p, .p] ?_)
   refine .mv rfl rfl <| .ag rfl rfl <| .nil ?_
   refine Run.ret (?_)
   exact ret1 rfl (Sub.snap (by rfl))
end Go.T
namespace Go.T
open Go Go.Proofs
set_option maxRecDepth 20000
theorem plusAll_ok (x y : List Nat) (hxs : x.length ≤ 20000) (hys : y.length ≤ 20000) (hxo : magOK x) (hyo : magOK y) : Fc Tryz.prog 127 [sMag x, sMag y] (sMag (plusM x y)) := by
 by_cases h : x.length ≠ 0 ∨ y.length ≠ 0
 ·exact plusMag_ok x y h hxs hys hxo hyo
 ·have e1 : x = [] := List.length_eq_zero_iff.1 (by omega)
  have e2 : y = [] := List.length_eq_zero_iff.1 (by omega)
  subst e1; subst e2
  exact plusNil_ok
theorem addNum_ok (n1 : Bool) (x : List Nat) (n2 : Bool) (y : List Nat) (k1 : numOK n1 x) (k2 : numOK n2 y) (hx : x.length ≤ 9000) (hy : y.length ≤ 9000) : Fc Tryz.prog 78 [.agg (encNum n1 x), .agg (encNum n2 y)] (.agg (encNum (addM n1 x n2 y).1 (addM n1 x n2 y).2)) := by
 refine Fc.mkR Tryz.func78 rfl Tryz.ntmps78 rfl rfl rfl ?_
 refine Run.seq (Run.reg [.w, .w, .w] ?_)
 refine .W rfl (q_boxA 0 rfl rfl) <| .W rfl (q_boxA 1 rfl rfl) <| .W rfl (q_alloc 2 Tryz.zeroValue116 rfl) <| .nil ?_
 refine Run.seq (Run.seq (Run.reg [.p, .r, .p, .r, .p] ?_))
 refine .P rfl (q_fieldB (n := 0) 4 0 Tryz.underlying116 Tryz.sizeOf4 rfl rfl) <| .R rfl (q_load1 Tryz.isAgg4 rfl rfl rfl) <| .P rfl (q_fieldB (n := 0) 4 0 Tryz.underlying116 Tryz.sizeOf4 rfl rfl) <| .R rfl (q_load1 Tryz.isAgg4 rfl rfl rfl) <| .P rfl (q_eqlB Tryz.underlying4 rfl rfl) <| .nil ?_
 refine Run.cond rfl (fun h1 => ?_) (fun h1 => ?_)
 ·have ph1 := h1; try simp only [bs] at ph1
  refine Run.seq (Run.regD [.p, .r, .p, .r, .p, .r, .p, .p, .w] Tryz_mixed (by decide +kernel) ?_)
  refine .P rfl (q_fieldB (n := 0) 4 0 Tryz.underlying116 Tryz.sizeOf4 rfl rfl) <| .R rfl (q_load1 Tryz.isAgg4 rfl rfl rfl) <| .P rfl (q_fieldB (n := 0) 114 1 Tryz.underlying116 Tryz.sizeOf114 rfl rfl) <| .R rfl (q_load1 Tryz.isAgg114 rfl rfl rfl) <| .P rfl (q_fieldB (n := 0) 114 1 Tryz.underlying116 Tryz.sizeOf114 rfl rfl) <| .R rfl (q_load1 Tryz.isAgg114 rfl rfl rfl) <| .P rfl (q_call Tryz.call127 rfl (plusAll_ok _ _ (by omega) (by omega) k1.ok k2.ok)) <| .P rfl (q_build (pl := #[(0, 1), (1, 1)]) Tryz.underlying116 Tryz.zeroValue116 (fun w => by kernel_rfl) rfl rfl) <| .W rfl (q_storeW Tryz.sizeOf116 rfl rfl rfl rfl rfl rfl) <| .nil ?_
  refine Run.ret (?_)
  exact Rd.cA Tryz.results78 Tryz.isAgg116 Tryz.sizeOf116 rfl rfl rfl (Sub.agg (.cons (Sub.bool (by unfold addM; first | (rw [if_pos (by assumption)]; done) | (rw [if_neg (by simpa using ‹(n1 == n2) = false›)]; first | (rw [if_pos (by omega)]; done) | (rw [if_neg (by omega)]; done)))) (.cons (Sub.snap (by unfold addM; first | (rw [if_pos (by assumption)]; done) | (rw [if_neg (by simpa using ‹(n1 == n2) = false›)]; first | (rw [if_pos (by omega)]; done) | (rw [if_neg (by omega)]; done)))) .nil)))
 ·have ph1 := h1; try simp only [bs] at ph1
  refine Run.skip ?_
  refine Run.seq (Run.seq (Run.reg [.p, .r, .p, .r, .p, .p] ?_))
  refine .P rfl (q_fieldB (n := 0) 114 1 Tryz.underlying116 Tryz.sizeOf114 rfl rfl) <| .R rfl (q_load1 Tryz.isAgg114 rfl rfl rfl) <| .P rfl (q_fieldB (n := 0) 114 1 Tryz.underlying116 Tryz.sizeOf114 rfl rfl) <| .R rfl (q_load1 Tryz.isAgg114 rfl rfl rfl) <| .P rfl (q_call Tryz.call81 rfl (compareM_ok _ _ (by first | assumption | omega | (simp at *; omega)) (by first | assumption | omega | (simp at *; omega)))) <| .P rfl (q_lss rfl rfl) <| .nil ?_
  refine Run.cond rfl (fun h2 => ?_) (fun h2 => ?_)
  ·have ph2 := h2; try simp only [bs] at ph2
   refine Run.reg [.r, .r, .w, .w] ?_
   refine .R rfl (q_loadW Tryz.isAgg116 Tryz.sizeOf116 rfl rfl rfl) <| .R rfl (q_loadW Tryz.isAgg116 Tryz.sizeOf116 rfl rfl rfl) <| .W rfl (q_storeW Tryz.sizeOf116 rfl rfl rfl rfl rfl rfl) <| .W rfl (q_storeW Tryz.sizeOf116 rfl rfl rfl rfl rfl rfl) <| .nil ?_
   refine Run.seq (Run.regD [.p, .r, .p, .r, .p, .r, .p, .p, .w] Tryz_mixed (by decide +kernel) ?_)
   refine .P rfl (q_fieldB (n := 0) 4 0 Tryz.underlying116 Tryz.sizeOf4 rfl rfl) <| .R rfl (q_load1 Tryz.isAgg4 rfl rfl rfl) <| .P rfl (q_fieldB (n := 0) 114 1 Tryz.underlying116 Tryz.sizeOf114 rfl rfl) <| .R rfl (q_load1 Tryz.isAgg114 rfl rfl rfl) <| .P rfl (q_fieldB (n := 0) 114 1 Tryz.underlying116 Tryz.sizeOf114 rfl rfl) <| .R rfl (q_load1 Tryz.isAgg114 rfl rfl rfl) <| .P rfl (q_call Tryz.call128 rfl (minusM_ok _ _ (by first | exact cmpM_ne2 (by omega) | exact cmpM_ne1 k1 k2 (by assumption) (by omega)) (by omega) (by omega) (by first | exact k1.ok | exact k2.ok) (by first | exact k1.ok | exact k2.ok))) <| .P rfl (q_build (pl := #[(0, 1), (1, 1)]) Tryz.underlying116 Tryz.zeroValue116 (fun w => by kernel_rfl) rfl rfl) <| .W rfl (q_storeW Tryz.sizeOf116 rfl rfl rfl rfl rfl rfl) <| .nil ?_
   refine Run.ret (?_)
   exact Rd.cA Tryz.results78 Tryz.isAgg116 Tryz.sizeOf116 rfl rfl rfl (Sub.agg (.cons (Sub.bool (by unfold addM; first | (rw [if_pos (by assumption)]; done) | (rw [if_neg (by simpa using ‹(n1 == n2) = false›)]; first | (rw [if_pos (by omega)]; done) | (rw [if_neg (by omega)]; done)))) (.cons (Sub.snap (by unfold addM; first | (rw [if_pos (by assumption)]; done) | (rw [if_neg (by simpa using ‹(n1 == n2) = false›)]; first | (rw [if_pos (by omega)]; done) | (rw [if_neg (by omega)]; done)))) .nil)))
  ·have ph2 := h2; try simp only [bs] at ph2
   refine Run.skip ?_
   refine Run.seq (Run.regD [.p, .r, .p, .r, .p, .r, .p, .p, .w] Tryz_mixed (by decide +kernel) ?_)
   refine .P rfl (q_fieldB (n := 0) 4 0 Tryz.underlying116 Tryz.sizeOf4 rfl rfl) <| .R rfl (q_load1 Tryz.isAgg4 rfl rfl rfl) <| .P rfl (q_fieldB (n := 0) 114 1 Tryz.underlying116 Tryz.sizeOf114 rfl rfl) <| .R rfl (q_load1 Tryz.isAgg114 rfl rfl rfl) <| .P rfl (q_fieldB (n := 0) 114 1 Tryz.underlying116 Tryz.sizeOf114 rfl rfl) <| .R rfl (q_load1 Tryz.isAgg114 rfl rfl rfl) <| .P rfl (q_call Tryz.call128 rfl (minusM_ok _ _ (by first | exact cmpM_ne2 (by omega) | exact cmpM_ne1 k1 k2 (by assumption) (by omega)) (by omega) (by omega) (by first | exact k1.ok | exact k2.ok) (by first | exact k1.ok | exact k2.ok))) <| .P rfl (q_build (pl := #[(0, 1), (1, 1)]) Tryz.underlying116 Tryz.zeroValue116 (fun w => by kernel_rfl) rfl rfl) <| .W rfl (q_storeW Tryz.sizeOf116 rfl rfl rfl rfl rfl rfl) <| .nil ?_
   refine Run.ret (?_)
   exact Rd.cA Tryz.results78 Tryz.isAgg116 Tryz.sizeOf116 rfl rfl rfl (Sub.agg (.cons (Sub.bool (by unfold addM; first | (rw [if_pos (by assumption)]; done) | (rw [if_neg (by simpa using ‹(n1 == n2) = false›)]; first | (rw [if_pos (by omega)]; done) | (rw [if_neg (by omega)]; done)))) (.cons (Sub.snap (by unfold addM; first | (rw [if_pos (by assumption)]; done) | (rw [if_neg (by simpa using ‹(n1 == n2) = false›)]; first | (rw [if_pos (by omega)]; done) | (rw [if_neg (by omega)]; done)))) .nil)))
theorem add_ok (s t : Str) (hs : s.length ≤ 4000) (ht : t.length ≤ 4000) : Fc Tryz.prog 27 [.str s, .str t] (.str (addS s t)) := by
 refine Fc.mk' [4] Tryz.func27 rfl Tryz.ntmps27 rfl rfl rfl (fun t w => results_tmp Tryz.results27 t _ w) ?_
 have hdl := digits_len s
 have hgl := groupsOf_len (digits s).1
 have hdl2 := digits_len t
 have hgl2 := groupsOf_len (digits t).1
 have h1 := numOK_digits s
 have h2 := numOK_digits t
 have h3 := addM_ok h1 h2
 have h4 := addM_len (digits s).2 (digits t).2 (groupsOf (digits s).1) (groupsOf (digits t).1)
 have h5 := addM_val h1 h2
 refine Run.seq (Run.reg [.p] ?_)
 refine .ag rfl rfl <| .nil ?_
 refine Run.seq (Run.reg [.p, .p, .p, .p, .p, .p, .p] ?_)
 refine .mv rfl rfl <| .P rfl (q_call Tryz.call79 rfl (read_ok _ (by first | assumption | omega | (simp at *; omega)))) <| .mv rfl rfl <| .P rfl (q_call Tryz.call79 rfl (read_ok _ (by first | assumption | omega | (simp at *; omega)))) <| .P rfl (q_call Tryz.call78 rfl (addNum_ok _ _ _ _ (by first | assumption | omega | (simp at *; omega)) (by first | assumption | omega | (simp at *; omega)) (by first | assumption | omega | (simp at *; omega)) (by first | assumption | omega | (simp at *; omega)))) <| .P rfl (q_call Tryz.call80 rfl (text_ok _ _ (by first | assumption | omega | (simp at *; omega)) (by first | assumption | omega | (simp at *; omega)))) <| .ag rfl rfl <| .nil ?_
 refine Run.ret (?_)
 exact ret1 rfl (Sub.str (by rw [textM_ofInt _ h3]; unfold addS; rw [← numV_digits s, ← numV_digits t, ← h5]; rfl))
theorem compare_ok (s t : Str) (hs : s.length ≤ 4000) (ht : t.length ≤ 4000) : Fc Tryz.prog 28 [.str s, .str t] (.i (signI (val s - val t))) := by
 refine Fc.mk' [4] Tryz.func28 rfl Tryz.ntmps28 rfl rfl rfl (fun t w => results_tmp Tryz.results28 t _ w) ?_
 have hdl := digits_len s
 have hgl := groupsOf_len (digits s).1
 have hdl2 := digits_len t
 have hgl2 := groupsOf_len (digits t).1
 have hb := cmpM_bd (groupsOf (digits s).1) (groupsOf (digits t).1) (by omega) (by omega)
 refine Run.seq (Run.reg [.p] ?_)
 refine .ag rfl rfl <| .nil ?_
 refine Run.seq (Run.reg [.p, .p, .p, .p, .w, .w, .w, .w] ?_)
 refine .mv rfl rfl <| .P rfl (q_call Tryz.call79 rfl (read_ok _ (by first | assumption | omega | (simp at *; omega)))) <| .mv rfl rfl <| .P rfl (q_call Tryz.call79 rfl (read_ok _ (by first | assumption | omega | (simp at *; omega)))) <| .W rfl (q_alloc 0 Tryz.zeroValue116 rfl) <| .W rfl (q_alloc 1 Tryz.zeroValue116 rfl) <| .W rfl (q_storeW Tryz.sizeOf116 rfl rfl rfl rfl rfl rfl) <| .W rfl (q_storeW Tryz.sizeOf116 rfl rfl rfl rfl rfl rfl) <| .nil ?_
 refine Run.seq (Run.reg [.p, .r, .p, .r, .p, .p] ?_)
 refine .P rfl (q_fieldB (n := 0) 114 1 Tryz.underlying116 Tryz.sizeOf114 rfl rfl) <| .R rfl (q_load1 Tryz.isAgg114 rfl rfl rfl) <| .P rfl (q_fieldB (n := 0) 114 1 Tryz.underlying116 Tryz.sizeOf114 rfl rfl) <| .R rfl (q_load1 Tryz.isAgg114 rfl rfl rfl) <| .P rfl (q_call Tryz.call81 rfl (compareM_ok _ _ (by first | assumption | omega | (simp at *; omega)) (by first | assumption | omega | (simp at *; omega)))) <| .ag rfl rfl <| .nil ?_
 refine Run.seq ?_
 refine Run.block ?_
 refine Run.seq (Run.reg [.p, .r, .p, .r, .p, .p] ?_)
 refine .P rfl (q_fieldB (n := 0) 4 0 Tryz.underlying116 Tryz.sizeOf4 rfl rfl) <| .R rfl (q_load1 Tryz.isAgg4 rfl rfl rfl) <| .P rfl (q_fieldB (n := 0) 4 0 Tryz.underlying116 Tryz.sizeOf4 rfl rfl) <| .R rfl (q_load1 Tryz.isAgg4 rfl rfl rfl) <| .P rfl (q_neqB Tryz.underlying4 rfl rfl) <| .ag rfl rfl <| .nil ?_
 refine Run.cond rfl (fun h1 => ?_) (fun h1 => ?_)
 ·have ph1 := h1; try simp only [bs] at ph1
  refine Run.seq (Run.reg [.p] ?_)
  refine .ag rfl rfl <| .nil ?_
  refine Run.seq (Run.reg [.p, .r] ?_)
  refine .P rfl (q_fieldB (n := 0) 4 0 Tryz.underlying116 Tryz.sizeOf4 rfl rfl) <| .R rfl (q_load1 Tryz.isAgg4 rfl rfl rfl) <| .nil ?_
  refine Run.cond rfl (fun h2 => ?_) (fun h2 => ?_)
  ·have ph2 := h2; try simp only [bs] at ph2
   refine Run.reg [.p] ?_
   refine .ag rfl rfl <| .nil ?_
   refine Run.nil (bq_norm ?_)
   refine Run.seq (Run.reg [.p, .p, .p, .p] ?_)
   refine .mv rfl rfl <| .P rfl (q_min rfl rfl rfl) <| .P rfl (q_max rfl rfl rfl) <| .ag rfl rfl <| .nil ?_
   refine Run.ret (?_)
   exact ret1 rfl (Sub.int (by rw [← numV_digits s, ← numV_digits t, ← cmpN_sign (numOK_digits s) (numOK_digits t)]; unfold cmpN; first | rw [if_pos h1, if_pos h2] | rw [if_pos h1, if_neg (by simp [h2])] | rw [if_neg (by simp [h1]), if_pos h3] | rw [if_neg (by simp [h1]), if_neg (by simp [h3])]))
  ·have ph2 := h2; try simp only [bs] at ph2
   refine Run.skip ?_
   refine Run.nil (bq_norm ?_)
   refine Run.seq (Run.reg [.p, .p, .p, .p] ?_)
   refine .mv rfl rfl <| .P rfl (q_min rfl rfl rfl) <| .P rfl (q_max rfl rfl rfl) <| .ag rfl rfl <| .nil ?_
   refine Run.ret (?_)
   exact ret1 rfl (Sub.int (by rw [← numV_digits s, ← numV_digits t, ← cmpN_sign (numOK_digits s) (numOK_digits t)]; unfold cmpN; first | rw [if_pos h1, if_pos h2] | rw [if_pos h1, if_neg (by simp [h2])] | rw [if_neg (by simp [h1]), if_pos h3] | rw [if_neg (by simp [h1]), if_neg (by simp [h3])]))
 ·have ph1 := h1; try simp only [bs] at ph1
  refine Run.seq (Run.reg [.p, .r, .p] ?_)
  refine .P rfl (q_fieldB (n := 0) 4 0 Tryz.underlying116 Tryz.sizeOf4 rfl rfl) <| .R rfl (q_load1 Tryz.isAgg4 rfl rfl rfl) <| .ag rfl rfl <| .nil ?_
  refine Run.cond rfl (fun h3 => ?_) (fun h3 => ?_)
  ·have ph3 := h3; try simp only [bs] at ph3
   refine Run.reg [.p, .p, .p] ?_
   refine .mv rfl rfl <| .P rfl (q_neg rfl (wrap64_ok (by first | omega | (simp; done) | (simp; omega) | (simp at *; omega)) (by first | omega | (simp; done) | (simp; omega) | (simp at *; omega)))) <| .ag rfl rfl <| .nil ?_
   refine Run.nil (bq_norm ?_)
   refine Run.seq (Run.reg [.p, .p, .p, .p] ?_)
   refine .mv rfl rfl <| .P rfl (q_min rfl rfl rfl) <| .P rfl (q_max rfl rfl rfl) <| .ag rfl rfl <| .nil ?_
   refine Run.ret (?_)
   exact ret1 rfl (Sub.int (by rw [← numV_digits s, ← numV_digits t, ← cmpN_sign (numOK_digits s) (numOK_digits t)]; unfold cmpN; first | rw [if_pos h1, if_pos h2] | rw [if_pos h1, if_neg (by simp [h2])] | rw [if_neg (by simp [h1]), if_pos h3] | rw [if_neg (by simp [h1]), if_neg (by simp [h3])]))
  ·have ph3 := h3; try simp only [bs] at ph3
   refine Run.skip ?_
   refine Run.nil (bq_norm ?_)
   refine Run.seq (Run.reg [.p, .p, .p, .p] ?_)
   refine .mv rfl rfl <| .P rfl (q_min rfl rfl rfl) <| .P rfl (q_max rfl rfl rfl) <| .ag rfl rfl <| .nil ?_
   refine Run.ret (?_)
   exact ret1 rfl (Sub.int (by rw [← numV_digits s, ← numV_digits t, ← cmpN_sign (numOK_digits s) (numOK_digits t)]; unfold cmpN; first | rw [if_pos h1, if_pos h2] | rw [if_pos h1, if_neg (by simp [h2])] | rw [if_neg (by simp [h1]), if_pos h3] | rw [if_neg (by simp [h1]), if_neg (by simp [h3])]))
end Go.T
namespace Go.T
open Go Go.Proofs
set_option maxRecDepth 20000
theorem cut0_ok (s : Str) (c : UInt8) : Fc Tryz.prog 279 [.str s, .str [c]] (.tup [.str (cutI s c).1, .str (cutI s c).2.1, .b (cutI s c).2.2]) := by
 refine Fc.mk' [4, 5, 6] Tryz.func279 rfl Tryz.ntmps279 rfl rfl rfl (fun t w => results_tmp3 Tryz.results279 t _ w) ?_
 refine Run.bStr 0 rfl (fun hb => ?_)
 simp only [big] at hb
 have hi := indexByte_spec c s
 refine Run.seq (Run.reg [.p, .p, .p] ?_)
 refine .ag rfl rfl <| .ag rfl rfl <| .ag rfl rfl <| .nil ?_
 refine Run.seq (Run.seq (Run.reg [.p, .p, .p, .p] ?_))
 refine .mv rfl rfl <| .mv rfl rfl <| .P rfl (q_call Tryz.call289 rfl (index1_ok _ _)) <| .ag rfl rfl <| .nil ?_
 refine Run.seq (Run.reg [.p, .p] ?_)
 refine .mv rfl rfl <| .P rfl (q_geq rfl rfl) <| .nil ?_
 refine Run.cond rfl (fun h1 => ?_) (fun h1 => ?_)
 ·have ph1 := h1; try simp only [bs] at ph1
  refine Run.seq (Run.regD [.p, .p, .p, .p, .p, .p, .p, .p, .p, .p, .p, .p] Tryz_mixed (by decide +kernel) ?_)
  refine .mv rfl rfl <| .mv rfl rfl <| .P rfl (q_sliceS Tryz.underlying9 rfl (h := (Lib.indexByte s c).toNat) (r := s.take (Lib.indexByte s c).toNat) (.inl ⟨rfl, rfl⟩) (.inr ⟨_, _, rfl, opI rfl (by omega)⟩) (by omega) (by omega) (by simp)) <| .mv rfl rfl <| .mv rfl rfl <| .mv rfl rfl <| .P rfl (q_lenS Tryz.underlying9 rfl) <| .P rfl (q_add rfl rfl (wrap64_ok (by first | omega | (simp; done) | (simp; omega) | (simp at *; omega)) (by first | omega | (simp; done) | (simp; omega) | (simp at *; omega)))) <| .P rfl (q_sliceS Tryz.underlying9 rfl (l := (Lib.indexByte s c).toNat + 1) (r := s.drop ((Lib.indexByte s c).toNat + 1)) (.inr ⟨_, _, rfl, opI rfl (by simp; omega)⟩) (.inl ⟨rfl, rfl⟩) (by omega) (by omega) (List.take_of_length_le (by simp))) <| .ag rfl rfl <| .ag rfl rfl <| .ag rfl rfl <| .nil ?_
  refine Run.ret (?_)
  exact ret3 rfl rfl rfl (Sub.str (by unfold cutI; first | rw [if_pos (by omega)] | rw [if_neg (by omega)])) (Sub.str (by unfold cutI; first | rw [if_pos (by omega)] | rw [if_neg (by omega)])) (Sub.bool (by unfold cutI; first | rw [if_pos (by omega)] | rw [if_neg (by omega)]))
 ·have ph1 := h1; try simp only [bs] at ph1
  refine Run.skip ?_
  refine Run.seq (Run.reg [.p, .p, .p, .p] ?_)
  refine .mv rfl rfl <| .ag rfl rfl <| .ag rfl rfl <| .ag rfl rfl <| .nil ?_
  refine Run.ret (?_)
  exact ret3 rfl rfl rfl (Sub.str (by unfold cutI; first | rw [if_pos (by omega)] | rw [if_neg (by omega)])) (Sub.str (by unfold cutI; first | rw [if_pos (by omega)] | rw [if_neg (by omega)])) (Sub.bool (by unfold cutI; first | rw [if_pos (by omega)] | rw [if_neg (by omega)]))
theorem strCut_ok (s : Str) (c : UInt8) : Fc Tryz.prog 253 [.str s, .str [c]] (.tup [.str (cutI s c).1, .str (cutI s c).2.1, .b (cutI s c).2.2]) := by
 refine Fc.mk' [4, 5, 6] Tryz.func253 rfl Tryz.ntmps253 rfl rfl rfl (fun t w => results_tmp3 Tryz.results253 t _ w) ?_
 refine Run.seq (Run.reg [.p, .p, .p] ?_)
 refine .ag rfl rfl <| .ag rfl rfl <| .ag rfl rfl <| .nil ?_
 refine Run.seq (Run.reg [.p, .p, .p, .p, .p, .p, .p, .p, .p] ?_)
 refine .mv rfl rfl <| .mv rfl rfl <| .P rfl (q_call Tryz.call279 rfl (cut0_ok _ _)) <| .P rfl (q_extract rfl rfl) <| .P rfl (q_extract rfl rfl) <| .P rfl (q_extract rfl rfl) <| .ag rfl rfl <| .ag rfl rfl <| .ag rfl rfl <| .nil ?_
 refine Run.ret (?_)
 exact ret3 rfl rfl rfl (Sub.str (by rfl)) (Sub.str (by rfl)) (Sub.bool (by rfl))
structure name_ok_L0 (s : Str) where
 pre : List UInt8
 rest : List UInt8
 hx : s = pre ++ rest
 hp : pre.all nameChar = true
 hs : 1 ≤ s.length ∧ s.length ≤ 16
theorem name_ok (s : Str) : Fc Tryz.prog 45 [.str s] (.b (isName s)) := by
 refine Fc.mk' [2] Tryz.func45 rfl Tryz.ntmps45 rfl rfl rfl (fun t w => results_tmp Tryz.results45 t _ w) ?_
 refine Run.bStr 0 rfl (fun hb => ?_)
 simp only [big] at hb
 refine Run.seq (Run.reg [.p] ?_)
 refine .ag rfl rfl <| .nil ?_
 refine Run.seq (Run.seq (Run.reg [.p, .p, .p, .p, .p, .p, .p, .p] ?_))
 refine .mv rfl rfl <| .P rfl (q_lenS Tryz.underlying9 rfl) <| .P rfl (q_eql rfl rfl) <| .mv rfl rfl <| .gF rfl (.inl rfl) rfl rfl rfl (fun hg => pk (fun _ => q_move rfl _)) <| .gF rfl (.inl rfl) rfl rfl rfl (fun hg => pk (fun _ => q_lenS Tryz.underlying9 (opT rfl (nt hg)) _)) <| .gF rfl (.inl rfl) rfl rfl rfl (fun hg => pk (fun _ => q_gtr (opT rfl (nt hg)) rfl _)) <| .P rfl (q_or rfl rfl) <| .nil ?_
 refine Run.cond rfl (fun h1 => ?_) (fun h1 => ?_)
 ·have ph1 := h1; try simp only [bs] at ph1
  refine Run.seq (Run.reg [.p] ?_)
  refine .ag rfl rfl <| .nil ?_
  refine Run.ret (?_)
  exact ret1 rfl (Sub.bool (by grind [isName, nameChar]))
 ·have ph1 := h1; try simp only [bs] at ph1
  refine Run.skip ?_
  refine Run.seq (Run.seq (Run.reg [.p, .p, .p, .p] ?_))
  refine .mv rfl rfl <| .P rfl (q_bytes (u := .string) Tryz.underlying9 Tryz.underlying140 Tryz.underlying5 rfl) <| .P rfl (q_lenI Tryz.underlying140 rfl) <| .mv rfl rfl <| .nil ?_
  refine Run.block ?_
  refine Run.loop (ι := name_ok_L0 s) (fun sx => [(14, .snap 1 false (s.map fun c => [.raw (.int .u8 (UInt8.toNat c : Int))])), (15, .i s.length), (16, .i sx.pre.length)]) (fun sx => []) (fun sx => sx.rest.length) ⟨[], s, rfl, rfl, by grind⟩ ?_ ?_
  ·exact Le.mk rfl (.same rfl rfl (.cons rfl Sub.intA rfl (.cons rfl Sub.intA rfl .nil))) .nil
  ·rintro ⟨pre, rest, hx, hp, hs⟩
   show Run _ _ _ _ [(14, .snap 1 false (s.map fun c => [.raw (.int .u8 (UInt8.toNat c : Int))])), (15, .i s.length), (16, .i pre.length)] []
   have hl := congrArg List.length hx
   simp only [List.length_append] at hl
   rcases rest with _ | ⟨x, rest⟩
   ·skip
    refine Run.seq (Run.reg [.p] ?_)
    refine .P rfl (q_lss rfl rfl) <| .nil ?_
    refine Run.seq ?_
    refine Run.condF rfl (by simp at hl ⊢; omega) ?_
    refine Run.exit (tq_exit (bq_exit ?_))
    refine Run.seq (Run.reg [.p] ?_)
    refine .ag rfl rfl <| .nil ?_
    refine Run.ret (?_)
    exact ret1 rfl (Sub.bool (by grind [isName, nameChar]))
   ·simp only [List.length_cons] at hl
    refine Run.seq (Run.reg [.p] ?_)
    refine .P rfl (q_lss rfl rfl) <| .nil ?_
    refine Run.seq ?_
    refine Run.condT rfl (by simp; omega) ?_
    refine Run.skip ?_
    refine Run.seq ?_
    refine Run.block ?_
    refine Run.seq (Run.reg [.p, .p, .p] ?_)
    refine .P rfl (q_indexI Tryz.underlying140 Tryz.sizeOf5 rfl rfl (by omega) (idx_mid (fun c => [D.raw (.int .u8 (UInt8.toNat c : Int))]) hx rfl)) <| .P rfl (q_loadI Tryz.isAgg5 rfl) <| .ag rfl rfl <| .nil ?_
    refine Run.seq (Run.reg [.p, .p, .p, .p, .p, .p, .p, .p, .p, .p, .p, .p, .p, .p, .p, .p, .p, .p] ?_)
    refine .mv rfl rfl <| .P rfl (q_lss rfl rfl) <| .mv rfl rfl <| .gF rfl (.inl rfl) rfl rfl rfl (fun hg => pk (fun _ => q_move rfl _)) <| .gF rfl (.inl rfl) rfl rfl rfl (fun hg => pk (fun _ => q_gtr (opT rfl (nt hg)) rfl _)) <| .P rfl (q_or rfl rfl) <| .mv rfl rfl <| .gT rfl (.inl rfl) rfl rfl rfl (fun hg => pk (fun _ => q_move rfl _)) <| .gT rfl (.inl rfl) rfl rfl rfl (fun hg => pk (fun _ => q_lss (opT rfl hg) rfl _)) <| .gT rfl (.inl rfl) rfl rfl rfl (fun hg => pk (fun _ => q_move (opT rfl hg) _)) ?_
    refine .nF rfl (.inl rfl) rfl rfl rfl (fun hc hg => pk (fun _ => q_move rfl _)) ?_
    refine .nF rfl (.inl rfl) rfl rfl rfl (fun hc hg => pk (fun _ => q_gtr (opT rfl (bF hc hg)) rfl _)) ?_
    refine .gT rfl (.inl rfl) rfl rfl rfl (fun hg => pk (fun _ => q_or (opT rfl hg) (opA rfl hg) _)) <| .P rfl (q_and rfl rfl) <| .mv rfl rfl <| .gT rfl (.inl rfl) rfl rfl rfl (fun hg => pk (fun _ => q_move rfl _)) <| .gT rfl (.inl rfl) rfl rfl rfl (fun hg => pk (fun _ => q_neq (opT rfl hg) rfl _)) <| .P rfl (q_and rfl rfl) <| .nil ?_
    refine Run.cond rfl (fun h2 => ?_) (fun h2 => ?_)
    ·have ph2 := h2; try simp only [bs] at ph2
     refine Run.seq (Run.reg [.p] ?_)
     refine .ag rfl rfl <| .nil ?_
     refine Run.ret (bq_ret (tq_ret (bq_ret (?_))))
     exact ret1 rfl (Sub.bool (by grind [isName, nameChar]))
    ·have ph2 := h2; try simp only [bs] at ph2
     refine Run.skip ?_
     refine Run.nil (bq_norm ?_)
     refine Run.reg [.p, .p] ?_
     refine .P rfl (q_add rfl rfl (wrap64_ok (by omega) (by omega))) <| .mv rfl rfl <| .nil ?_
     refine Run.nil (tq_norm ?_)
     exact ⟨⟨pre ++ [x], rest, by simp [hx], by grind [nameChar], hs⟩, by simp, Le.mk rfl (.same rfl rfl (.cons rfl Sub.intA rfl (.cons rfl Sub.intA rfl .nil))) .nil⟩
end Go.T
namespace Go.T
open Go Go.Proofs
set_option maxRecDepth 20000
structure segsY_ok_L0 (s : Str) where
 pre : List Str
 r : Str
 hs : segments s = pre ++ segments r
theorem segsY_ok (s : Str) : FcY (α := Str) Tryz.prog 252 7200 [.box 7200 0] [(7200, .cells [.str s])] (fun s => [D.str s]) (fun p => p <+: segments s) (fun p => p = segments s) := by
 refine FcY.mk' Tryz.func252 rfl Tryz.ntmps252 rfl (fun t w => results_none Tryz.results252 t _ w) (fun idL lb ids B X Y => ?_)
 refine Run.block ?_
 refine Run.loop (ι := segsY_ok_L0 s) (fun sx => [(0, yv lb), (1, .box 7200 0)]) (fun sx => ([(7200, .cells [.str sx.r])] ++ B sx.pre)) (fun sx => sx.r.length) ⟨[], s, rfl⟩ ?_ ?_
 ·exact Le.mk (ps_ok (Y.has _) rfl) (.same rfl rfl (.same rfl rfl .nil)) (.eqA rfl rfl (.tail (tail_ok (own := [(7200, _)]) (own' := [(7200, _)]) rfl (Y.free _) (Y.okb _))))
 ·rintro ⟨pre, r, hs⟩
  show Run _ _ _ _ [(0, yv lb), (1, .box 7200 0)] ([(7200, .cells [.str r])] ++ B pre)
  refine Run.block ?_
  refine Run.seq (Run.reg [.r, .p, .p, .p, .p, .p, .p, .p, .p] ?_)
  refine .R rfl (q_load1 Tryz.isAgg9 rfl rfl rfl) <| .P rfl (q_call Tryz.call253 rfl (strCut_ok _ _)) <| .mv rfl rfl <| .P rfl (q_extract rfl rfl) <| .P rfl (q_extract rfl rfl) <| .P rfl (q_extract rfl rfl) <| .ag rfl rfl <| .ag rfl rfl <| .ag rfl rfl <| .nil ?_
  refine Run.seq (Run.seq (Run.regT ?_))
  refine Tx.q rfl trivial (q_move rfl _) ?_
  refine Tx.q rfl trivial (q_move rfl _) ?_
  refine Tx.weak (Le.mk (obs' := [(7200, _)] ++ B (pre)) (ps_ok (Y.has _) rfl) (show EnvLe _ _ [(0, _), (1, _), (7, _), (8, _), (6, _), (9, _), (10, _), (11, _), (3, _), (4, _), (5, _), (12, _), (13, _)] from (.same rfl rfl (.same rfl rfl (.same rfl rfl (.same rfl rfl (.same rfl rfl (.same rfl rfl (.same rfl rfl (.same rfl rfl (.same rfl rfl (.same rfl rfl (.same rfl rfl (.same rfl rfl (.same rfl rfl .nil)))))))))))))) (.cons (i := 7200) rfl rfl (.tail (tail_ok (own := [(7200, _)]) (own' := [(7200, _)]) rfl (Y.free _) (Y.okb _))))) ?_
  refine Tx.y Y (own := [(7200, _)]) (pre := pre) (env' := [(0, _), (1, _), (7, _), (8, _), (6, _), (9, _), (10, _), (11, _), (3, _), (4, _), (5, _), (12, _), (13, _)]) (cutI r 46).1 rfl rfl rfl trivial rfl rfl rfl (by rw [hs]; exact segs_pre pre r) rfl rfl (.cons rfl rfl (.cons rfl rfl (.cons rfl rfl (.cons rfl rfl (.cons rfl rfl (.cons rfl rfl (.cons rfl rfl (.cons rfl rfl (.cons rfl rfl (.cons rfl rfl (.cons rfl rfl (.cons rfl rfl (.cons rfl rfl .nil))))))))))))) ?_ (fun o hX => ?_)
  ·skip
   refine Tx.q rfl trivial (q_not rfl _) ?_
   refine Tx.q rfl trivial (q_move rfl _) ?_
   refine Tx.q rfl (on_of rfl rfl rfl rfl) (q_move rfl _) ?_
   refine Tx.q rfl (on_of rfl rfl rfl rfl) (q_not rfl _) ?_
   refine Tx.q rfl trivial (q_pickF rfl rfl rfl _) ?_
   refine Tx.nil ?_
   refine Run.cond rfl (fun h1 => ?_) (fun h1 => ?_)
   ·have ph1 := h1; try simp only [bs] at ph1
    refine Run.ret (bq_ret (tq_ret (bq_ret (?_))))
    exact retY_fin (.inl rfl) (pre ++ [(cutI r 46).1]) (by rw [hs, segments_F (by simpa using h1)]) (own_get (own := [(7200, _)]) rfl (Y.free _))
   ·have ph1 := h1; try simp only [bs] at ph1
    refine Run.skip ?_
    refine Run.reg [.p, .w] ?_
    refine .mv rfl rfl <| .W rfl (q_store1 Tryz.sizeOf9 rfl rfl rfl rfl (by first | (simp; done) | decide)) <| .nil ?_
    refine Run.nil (bq_norm ?_)
    refine Run.nil (tq_norm ?_)
    exact ⟨⟨pre ++ [(cutI r 46).1], (cutI r 46).2.1, by rw [hs, segments_T (by simpa using h1)]; simp⟩, by exact cutI_len _ _ (by simpa using h1), Le.mk (ps_ok (Y.has _) rfl) (.same rfl rfl (.same rfl rfl .nil)) (.eqA rfl rfl (.tail (tail_ok (own := [(7200, _)]) (own' := [(7200, _)]) rfl (Y.free _) (Y.okb _))))⟩
  ·skip
   refine Tx.q rfl trivial (q_not rfl _) ?_
   refine Tx.q rfl trivial (q_move rfl _) ?_
   refine Tx.off rfl (off_of rfl rfl rfl rfl) ?_
   refine Tx.off rfl (off_of rfl rfl rfl rfl) ?_
   refine Tx.q rfl trivial (q_pickT rfl rfl rfl _) ?_
   refine Tx.nil ?_
   refine Run.condT rfl rfl ?_
   refine Run.ret (bq_ret (tq_ret (bq_ret (?_))))
   exact retY_x (.inl rfl) o hX (own_get (own := [(7200, _)]) rfl (Y.freeX _ hX))
theorem segsF_ok (s : Str) : FcO Tryz.prog 208 [.str s] [] (.fn (.func 252) [] [.box 7200 0]) [(7200, .cells [.str s])] := by
 refine FcO.mk' [2] Tryz.func208 rfl Tryz.ntmps208 rfl rfl rfl (fun t w => results_tmp Tryz.results208 t _ w) ?_
 refine Run.seq (Run.reg [.w, .p] ?_)
 refine .W rfl (q_box1 7200 rfl rfl rfl) <| .ag rfl rfl <| .nil ?_
 refine Run.seq (Run.reg [.p, .p] ?_)
 refine .P rfl (q_makeFunc (xs := []) (ys := _) rfl rfl) <| .ag rfl rfl <| .nil ?_
 refine Run.ret (?_)
 exact retO1 rfl (by exact Sub.refl _) (.eq rfl (by rfl) rfl .nil)
theorem formed_ok (s : Str) : Fc Tryz.prog 164 [.str s, .fn (.func 45) [] []] (.b ((segments s).all isName && decide ((segments s).length ≤ 6))) := by
 refine Fc.mkR Tryz.func164 rfl Tryz.ntmps164 rfl rfl rfl ?_
 have hsl := segments_len s
 refine Run.bStr 0 rfl (fun hb => ?_)
 simp only [big] at hb
 refine Run.seq (Run.reg [.w, .w] ?_)
 refine .W rfl (q_box1 0 rfl rfl rfl) <| .W rfl (q_alloc 1 Tryz.zeroValue4 rfl) <| .nil ?_
 refine Run.seq (Run.reg [.w, .w] ?_)
 refine .W rfl (q_alloc 2 Tryz.zeroValue3 rfl) <| .W rfl (q_store1 Tryz.sizeOf3 rfl rfl rfl rfl (by first | (simp; done) | decide)) <| .nil ?_
 refine Run.seq (Run.seq (Run.reg [.p, .w] ?_))
 refine .mv rfl rfl <| .W rfl (q_callO Tryz.call208 rfl (segsF_ok _) .nil rfl rfl) <| .nil ?_
 refine Run.block ?_
 refine Run.rangeF (α := Str) 7900 [0, 1, 2] [(0, _), (1, _), (3, _), (4, _), (5, _), (7, _)] (fun (pre : List (Str)) => [(0, .cells [.fn (.func 45) [] []]), (1, .cells [.b false]), (2, .cells [.i pre.length]), (9, ghost (pre.all isName && decide (pre.length ≤ 6)))]) (fun j o => j = .ret ∧ ∃ n : Int, ((segments s).all isName && decide ((segments s).length ≤ 6)) = false ∧ o = [(0, .cells [.fn (.func 45) [] []]), (1, .cells [.b false]), (2, .cells [.i n])]) rfl Tryz.call252 (segsY_ok s) (env1 := [(0, _), (1, _), (3, _), (4, _), (5, _), (7, _), (8, _)]) ((Le.own0 9 1).trans <| Le.mk (obs' := [(7200, _)] ++ (fun (pre : List (Str)) => [(0, .cells [.fn (.func 45) [] []]), (1, .cells [.b false]), (2, .cells [.i pre.length]), (9, ghost (pre.all isName && decide (pre.length ≤ 6)))]) []) rfl (show EnvLe _ _ [(0, _), (1, _), (3, _), (4, _), (5, _), (7, _), (8, _)] from (.same rfl rfl (.same rfl rfl (.same rfl rfl (.same rfl rfl (.same rfl rfl (.same rfl rfl (.same rfl rfl .nil)))))))) (.cons (i := 7200) rfl rfl (.eqA rfl rfl (.eqA rfl rfl (.eqA rfl rfl (.eq rfl (by rfl) rfl .nil)))))) rfl rfl (fun _ => rfl) (.cons rfl rfl (.cons rfl rfl (.cons rfl rfl (.cons rfl rfl (.cons rfl rfl (.cons rfl rfl .nil)))))) rfl (fun _ => rfl) (by rintro j o ⟨rfl, n, _, rfl⟩; rfl) (fun _ => Obs.okB_get rfl) (by rintro j o ⟨rfl, n, _, rfl⟩; exact Obs.okB_get rfl) (fun _ => freeB_get rfl) (by rintro j o ⟨rfl, n, _, rfl⟩; exact freeB_get rfl) (by decide) rfl (fun pre x hok => ?_) (fun xs hfin => ?_) ?_
 ·skip
  refine Run.ghost 9 rfl (fun hinv1 => ?_)
  have hpl := hok.length_le
  simp only [List.length_append, List.length_singleton] at hpl
  refine Run.reg [.p] ?_
  refine .ag rfl rfl <| .nil ?_
  refine Run.nil ⟨rfl, ?_⟩
  refine Run.block ?_
  refine Run.seq (Run.reg [.r, .p, .w] ?_)
  refine .R rfl (q_load1 Tryz.isAgg3 rfl rfl rfl) <| .P rfl (q_add rfl rfl (wrap64_ok (by first | omega | (simp; done) | (simp; omega) | (simp at *; omega)) (by first | omega | (simp; done) | (simp; omega) | (simp at *; omega)))) <| .W rfl (q_store1 Tryz.sizeOf3 rfl rfl rfl rfl (by first | (simp; done) | decide)) <| .nil ?_
  refine Run.seq (Run.reg [.r, .p, .p, .r, .p, .p, .p, .p] ?_)
  refine .R rfl (q_load1 Tryz.isAgg3 rfl rfl rfl) <| .P rfl (q_gtr rfl rfl) <| .mv rfl rfl <| .gF rfl (.inr rfl) rfl rfl rfl (fun hg => rk (q_load1 Tryz.isAgg80 rfl rfl rfl)) <| .gF rfl (.inl rfl) rfl rfl rfl (fun hg => pk (fun _ => q_move rfl _)) <| .gF rfl (.inl rfl) rfl rfl rfl (fun hg => pk (fun _ => q_callF Tryz.call45 (opT rfl (nt hg)) (opsC (opT rfl (nt hg)) (rfl)) (name_ok _) _)) <| .gF rfl (.inl rfl) rfl rfl rfl (fun hg => pk (fun _ => q_not (opT rfl (nt hg)) _)) <| .P rfl (q_or rfl rfl) <| .nil ?_
  refine Run.cond rfl (fun h2 => ?_) (fun h2 => ?_)
  ·have ph2 := h2; try simp only [bs] at ph2
   refine Run.seq (Run.reg [.w] ?_)
   refine .W rfl (q_store1 Tryz.sizeOf4 rfl rfl rfl rfl (by first | (simp; done) | decide)) <| .nil ?_
   refine Run.ret (bq_ret (?_))
   exact ⟨rfl, _, ⟨rfl, _, pre_bad hok (by rcases ph2 with h | h; exact .inl (by omega); exact .inr h), rfl⟩, Le.mk rfl .nil (.cons rfl rfl (.eq rfl (by first | rfl | (simp; done) | (simp; omega)) rfl (.eq rfl (by first | rfl | (simp; done) | (simp; omega)) rfl (.eq rfl (by first | rfl | (simp; done) | (simp; omega)) rfl .nil))))⟩
  ·have ph2 := h2; try simp only [bs] at ph2
   refine Run.skip ?_
   refine Run.nil (bq_norm ?_)
   refine Run.nil ?_
   exact ⟨rfl, Le.mk rfl .nil (.cons rfl rfl (.eq rfl (by first | rfl | (simp; done) | (simp; omega)) rfl (.eq rfl (by first | rfl | (simp; done) | (simp; omega)) rfl (.eq rfl (by first | rfl | (simp; done) | (simp; omega)) rfl (.eq rfl (by exact ghost_step (by assumption) (by grind)) rfl .nil)))))⟩
 ·skip
  refine Run.nil (bq_norm ?_)
  refine Run.ghost 9 rfl (fun hinv3 => ?_)
  subst hfin
  refine Run.seq (Run.reg [.w] ?_)
  refine .W rfl (q_store1 Tryz.sizeOf4 rfl rfl rfl rfl (by first | (simp; done) | decide)) <| .nil ?_
  refine Run.ret (?_)
  exact Rd.c1 Tryz.results164 Tryz.isAgg4 rfl rfl (Sub.bool (by first | exact Eq.symm (by assumption) | exact hcond.symm))
 ·rintro j o ⟨rfl, n, hcond, rfl⟩
  dsimp only [stopQ]
  refine bq_ret (?_)
  exact Rd.c1 Tryz.results164 Tryz.isAgg4 rfl rfl (Sub.bool (by first | exact Eq.symm (by assumption) | exact hcond.symm))
end Go.T
