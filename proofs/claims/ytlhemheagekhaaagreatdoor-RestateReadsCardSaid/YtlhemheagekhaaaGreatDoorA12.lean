/-
  Contracts of the functions that the statement reaches, and the logic in which they are proved (no condition): parts W34, W35, W36, W37, W38, W39, W40.
-/
import Derived.Test.YtlhemheagekhaaaGreatDoorA11
set_option linter.all false
namespace Go.T
open Go Go.Proofs
set_option maxRecDepth 20000
structure cmpLs_ok_L0 (a b : List Line) where
 pre : List Line
 rest : List Line
 py : List Line
 ry : List Line
 hx : a = pre ++ rest
 hy : b = py ++ ry
 he : py.length = pre.length
 hp : cmpLs rest ry = cmpLs a b
theorem cmpLs_ok (a b : List Line) (ha : ∀ l ∈ a, l.amount.length ≤ 14) (hb : ∀ l ∈ b, l.amount.length ≤ 14) : Fc Tryz.prog 154 [sLines a, sLines b, .fn (.func 155) [] []] (.i (cmpLs a b)) := by
 refine Fc.mk' [6] Tryz.func154 rfl Tryz.ntmps154 rfl rfl rfl (fun t w => results_tmp Tryz.results154 t _ w) ?_
 refine Run.bSnap 0 rfl (fun hba => ?_)
 simp only [List.length_map, big] at hba
 refine Run.bSnap 1 rfl (fun hbb => ?_)
 simp only [List.length_map, big] at hbb
 refine Run.seq (Run.reg [.p] ?_)
 refine .ag rfl rfl <| .nil ?_
 refine Run.seq (Run.seq (Run.reg [.p, .p, .p] ?_))
 refine .mv rfl rfl <| .P rfl (q_lenI Tryz.underlying35 rfl) <| .mv rfl rfl <| .nil ?_
 refine Run.block ?_
 refine Run.loop (ι := cmpLs_ok_L0 a b) (fun sx => [(0, sLines a), (1, sLines b), (2, .fn (.func 155) [] []), (11, sLines a), (12, .i a.length), (13, .i sx.pre.length)]) (fun sx => []) (fun sx => sx.rest.length) ⟨[], a, [], b, rfl, rfl, rfl, rfl⟩ ?_ ?_
 ·exact Le.mk rfl (.same rfl rfl (.same rfl rfl (.same rfl rfl (.same rfl rfl (.cons rfl Sub.intA rfl (.cons rfl Sub.intA rfl .nil)))))) .nil
 ·rintro ⟨pre, rest, py, ry, hx, hy, he, hp⟩
  show Run _ _ _ _ [(0, sLines a), (1, sLines b), (2, .fn (.func 155) [] []), (11, sLines a), (12, .i a.length), (13, .i pre.length)] []
  have hl := congrArg List.length hx
  have hl2 := congrArg List.length hy
  simp only [List.length_append] at hl hl2
  rcases rest with _ | ⟨x, rest⟩ <;> rcases ry with _ | ⟨z, ry⟩
  ·simp only [List.length_cons, List.length_nil] at hl hl2
   refine Run.seq (Run.reg [.p] ?_)
   refine .P rfl (q_lss rfl rfl) <| .nil ?_
   refine Run.seq ?_
   refine Run.condF rfl (by simp; omega) ?_
   refine Run.exit (tq_exit (bq_exit ?_))
   refine Run.seq (Run.seq (Run.reg [.p, .p, .p, .p, .p] ?_))
   refine .mv rfl rfl <| .P rfl (q_lenI Tryz.underlying35 rfl) <| .mv rfl rfl <| .P rfl (q_lenI Tryz.underlying35 rfl) <| .P rfl (q_lss rfl rfl) <| .nil ?_
   refine Run.condF rfl (by simp; omega) ?_
   refine Run.skip ?_
   refine Run.seq (Run.reg [.p] ?_)
   refine .ag rfl rfl <| .nil ?_
   refine Run.ret (?_)
   exact ret1 rfl (Sub.int (by rw [← hp]; first | rfl | (simp only [cmpLs]; rw [if_pos (by omega)])))
  ·simp only [List.length_cons, List.length_nil] at hl hl2
   refine Run.seq (Run.reg [.p] ?_)
   refine .P rfl (q_lss rfl rfl) <| .nil ?_
   refine Run.seq ?_
   refine Run.condF rfl (by simp; omega) ?_
   refine Run.exit (tq_exit (bq_exit ?_))
   refine Run.seq (Run.seq (Run.reg [.p, .p, .p, .p, .p] ?_))
   refine .mv rfl rfl <| .P rfl (q_lenI Tryz.underlying35 rfl) <| .mv rfl rfl <| .P rfl (q_lenI Tryz.underlying35 rfl) <| .P rfl (q_lss rfl rfl) <| .nil ?_
   refine Run.condT rfl (by simp; omega) ?_
   refine Run.seq (Run.reg [.p] ?_)
   refine .ag rfl rfl <| .nil ?_
   refine Run.ret (?_)
   exact ret1 rfl (Sub.int (by rw [← hp]; first | rfl | (simp only [cmpLs]; rw [if_pos (by omega)])))
  ·simp only [List.length_cons, List.length_nil] at hl hl2
   refine Run.seq (Run.reg [.p] ?_)
   refine .P rfl (q_lss rfl rfl) <| .nil ?_
   refine Run.seq ?_
   refine Run.condT rfl (by simp; omega) ?_
   refine Run.skip ?_
   refine Run.seq ?_
   refine Run.block ?_
   refine Run.seq (Run.reg [.p, .p, .p, .w, .p, .w] ?_)
   refine .mv rfl rfl <| .P rfl (q_indexI Tryz.underlying35 Tryz.sizeOf92 rfl rfl (by omega) (idx_mid encLine hx rfl)) <| .P rfl (q_loadIA Tryz.isAgg92 Tryz.sizeOf92 rfl rfl) <| .W rfl (q_alloc 0 Tryz.zeroValue92 rfl) <| .ag rfl rfl <| .W rfl (q_storeW Tryz.sizeOf92 rfl rfl rfl rfl rfl rfl) <| .nil ?_
   refine Run.seq (Run.seq (Run.reg [.p, .p, .p, .p] ?_))
   refine .mv rfl rfl <| .mv rfl rfl <| .P rfl (q_lenI Tryz.underlying35 rfl) <| .P rfl (q_geq rfl rfl) <| .nil ?_
   refine Run.condT rfl (by simp; omega) ?_
   refine Run.seq (Run.reg [.p] ?_)
   refine .ag rfl rfl <| .nil ?_
   refine Run.ret (bq_ret (tq_ret (bq_ret (?_))))
   exact ret1 rfl (Sub.int (by rw [← hp]; first | rfl | (simp only [cmpLs]; rw [if_pos (by omega)])))
  ·simp only [List.length_cons, List.length_nil] at hl hl2
   refine Run.seq (Run.reg [.p] ?_)
   refine .P rfl (q_lss rfl rfl) <| .nil ?_
   refine Run.seq ?_
   refine Run.condT rfl (by simp; omega) ?_
   refine Run.skip ?_
   refine Run.seq ?_
   refine Run.block ?_
   refine Run.seq (Run.reg [.p, .p, .p, .w, .p, .w] ?_)
   refine .mv rfl rfl <| .P rfl (q_indexI Tryz.underlying35 Tryz.sizeOf92 rfl rfl (by omega) (idx_mid encLine hx rfl)) <| .P rfl (q_loadIA Tryz.isAgg92 Tryz.sizeOf92 rfl rfl) <| .W rfl (q_alloc 0 Tryz.zeroValue92 rfl) <| .ag rfl rfl <| .W rfl (q_storeW Tryz.sizeOf92 rfl rfl rfl rfl rfl rfl) <| .nil ?_
   refine Run.seq (Run.seq (Run.reg [.p, .p, .p, .p] ?_))
   refine .mv rfl rfl <| .mv rfl rfl <| .P rfl (q_lenI Tryz.underlying35 rfl) <| .P rfl (q_geq rfl rfl) <| .nil ?_
   refine Run.condF rfl (by simp; omega) ?_
   refine Run.skip ?_
   refine Run.seq (Run.reg [.p, .p, .p, .p, .w, .w] ?_)
   refine .mv rfl rfl <| .mv rfl rfl <| .P rfl (q_indexI Tryz.underlying35 Tryz.sizeOf92 rfl rfl (by omega) (idx_mid encLine hy (by omega))) <| .P rfl (q_loadIA Tryz.isAgg92 Tryz.sizeOf92 rfl rfl) <| .W rfl (q_alloc 1 Tryz.zeroValue92 rfl) <| .W rfl (q_storeW Tryz.sizeOf92 rfl rfl rfl rfl rfl rfl) <| .nil ?_
   refine Run.seq (Run.reg [.p, .r, .r, .p, .p] ?_)
   refine .mv rfl rfl <| .R rfl (q_loadW Tryz.isAgg92 Tryz.sizeOf92 rfl rfl rfl) <| .R rfl (q_loadW Tryz.isAgg92 Tryz.sizeOf92 rfl rfl rfl) <| .P rfl (q_callF Tryz.call155 rfl rfl (cmpLn_ok _ _ (by have := ha x (by rw [hx]; simp); omega) (by have := hb z (by rw [hy]; simp); omega))) <| .ag rfl rfl <| .nil ?_
   refine Run.seq (Run.reg [.p, .p] ?_)
   refine .mv rfl rfl <| .P rfl (q_neq rfl rfl) <| .nil ?_
   refine Run.cond rfl (fun h1 => ?_) (fun h1 => ?_)
   ·have ph1 := h1; try simp only [bs] at ph1
    refine Run.seq (Run.reg [.p, .p] ?_)
    refine .mv rfl rfl <| .ag rfl rfl <| .nil ?_
    refine Run.ret (bq_ret (tq_ret (bq_ret (?_))))
    exact ret1 rfl (Sub.int (by rw [← hp]; first | rfl | (simp only [cmpLs]; rw [if_pos (by omega)])))
   ·have ph1 := h1; try simp only [bs] at ph1
    refine Run.skip ?_
    refine Run.nil (bq_norm ?_)
    refine Run.reg [.p, .p] ?_
    refine .P rfl (q_add rfl rfl (wrap64_ok (by first | omega | (simp; done) | (simp; omega) | (simp at *; omega)) (by first | omega | (simp; done) | (simp; omega) | (simp at *; omega)))) <| .mv rfl rfl <| .nil ?_
    refine Run.nil (tq_norm ?_)
    exact ⟨⟨pre ++ [x], rest, py ++ [z], ry, by simp [hx], by simp [hy], by simp [he], by rw [← hp]; simp only [cmpLs]; rw [if_neg (by omega)]⟩, by simp, Le.mk rfl (.same rfl rfl (.same rfl rfl (.same rfl rfl (.same rfl rfl (.cons rfl Sub.intA rfl (.cons rfl Sub.intA rfl .nil)))))) .nil⟩
theorem cmpEn_ok (a b : Entry) (ha : ∀ l ∈ a.lines, l.amount.length ≤ 14) (hb : ∀ l ∈ b.lines, l.amount.length ≤ 14) : Fc Tryz.prog 99 [.agg (encEntry a), .agg (encEntry b)] (.i (cmpEn a b)) := by
 refine Fc.mk' [4] Tryz.func99 rfl Tryz.ntmps99 rfl rfl rfl (fun t w => results_tmp Tryz.results99 t _ w) ?_
 refine Run.seq (Run.reg [.w, .w, .p] ?_)
 refine .W rfl (q_boxA 0 rfl rfl) <| .W rfl (q_boxA 1 rfl rfl) <| .ag rfl rfl <| .nil ?_
 refine Run.seq (Run.regD [.p, .r, .p, .r, .p, .p, .r, .p, .r, .p, .p, .r, .p, .r, .p, .p, .p, .p] Tryz_mixed (by decide +kernel) ?_)
 refine .P rfl (q_fieldB (n := 0) 34 0 Tryz.underlying37 Tryz.sizeOf34 rfl rfl) <| .R rfl (q_load1 Tryz.isAgg34 rfl rfl rfl) <| .P rfl (q_fieldB (n := 0) 34 0 Tryz.underlying37 Tryz.sizeOf34 rfl rfl) <| .R rfl (q_load1 Tryz.isAgg34 rfl rfl rfl) <| .P rfl (q_call Tryz.call153 rfl (cmpD_ok _ _)) <| .P rfl (q_fieldB (n := 0) 9 1 Tryz.underlying37 Tryz.sizeOf9 rfl rfl) <| .R rfl (q_load1 Tryz.isAgg9 rfl rfl rfl) <| .P rfl (q_fieldB (n := 0) 9 1 Tryz.underlying37 Tryz.sizeOf9 rfl rfl) <| .R rfl (q_load1 Tryz.isAgg9 rfl rfl rfl) <| .P rfl (q_call Tryz.call119 rfl (cmpS_ok _ _)) <| .P rfl (q_fieldB (n := 0) 35 2 Tryz.underlying37 Tryz.sizeOf35 rfl rfl) <| .R rfl (q_load1 Tryz.isAgg35 rfl rfl rfl) <| .P rfl (q_fieldB (n := 0) 35 2 Tryz.underlying37 Tryz.sizeOf35 rfl rfl) <| .R rfl (q_load1 Tryz.isAgg35 rfl rfl rfl) <| .P rfl (q_call Tryz.call154 rfl (cmpLs_ok _ _ ha hb)) <| .P rfl (q_buildSlice' (n := 3) (rows := [cmpD a.day b.day, cmpT a.cause b.cause, cmpLs a.lines b.lines].map fun n => [.i n]) Tryz.underlying193 Tryz.sizeOf3 rfl rfl rfl Tryz.zeroValue3 rfl rfl rfl rfl rfl rfl rfl) <| .P rfl (q_call Tryz.call118 rfl (or_ok [cmpD a.day b.day, cmpT a.cause b.cause, cmpLs a.lines b.lines])) <| .ag rfl rfl <| .nil ?_
 refine Run.ret (?_)
 exact ret1 rfl (Sub.int (by rfl))
theorem bad_ok (e : Entry) (hs : smallE e) : Fc Tryz.prog 96 [.agg (encEntry e)] (.b (decide (checkE e ≠ 0))) := by
 refine Fc.mk' [2] Tryz.func96 rfl Tryz.ntmps96 rfl rfl rfl (fun t w => results_tmp Tryz.results96 t _ w) ?_
 refine Run.seq (Run.reg [.w, .p] ?_)
 refine .W rfl (q_boxA 0 rfl rfl) <| .ag rfl rfl <| .nil ?_
 refine Run.seq (Run.reg [.r, .p, .p, .p] ?_)
 refine .R rfl (q_loadW Tryz.isAgg37 Tryz.sizeOf37 rfl rfl rfl) <| .P rfl (q_call Tryz.call18 rfl (check_ok _ (by first | assumption | omega | (simp at *; omega)))) <| .P rfl (q_neq rfl rfl) <| .ag rfl rfl <| .nil ?_
 refine Run.ret (?_)
 exact ret1 rfl (Sub.bool (by rfl))
structure indexBad_ok_L0 (l : List Entry) where
 pre : List Entry
 rest : List Entry
 hx : l = pre ++ rest
 hp : pre.any (fun e => decide (checkE e ≠ 0)) = false
theorem indexBad_ok (l : List Entry) (hs : ∀ e ∈ l, smallE e) : Fc Tryz.prog 107 [sEntries l, .fn (.func 96) [] []] (.i (if l.any (fun e => decide (checkE e ≠ 0)) then (l.findIdx (fun e => decide (checkE e ≠ 0)) : Int) else -1)) := by
 refine Fc.mk' [4] Tryz.func107 rfl Tryz.ntmps107 rfl rfl rfl (fun t w => results_tmp Tryz.results107 t _ w) ?_
 refine Run.bSnap 0 rfl (fun hb => ?_)
 simp only [List.length_map, big] at hb
 refine Run.seq (Run.reg [.p] ?_)
 refine .ag rfl rfl <| .nil ?_
 refine Run.seq (Run.seq (Run.reg [.p, .p, .p] ?_))
 refine .mv rfl rfl <| .P rfl (q_lenI Tryz.underlying22 rfl) <| .mv rfl rfl <| .nil ?_
 refine Run.block ?_
 refine Run.loop (ι := indexBad_ok_L0 l) (fun sx => [(0, sEntries l), (1, .fn (.func 96) [] []), (6, sEntries l), (7, .i l.length), (8, .i sx.pre.length)]) (fun sx => []) (fun sx => sx.rest.length) ⟨[], l, rfl, rfl⟩ ?_ ?_
 ·exact Le.mk rfl (.same rfl rfl (.same rfl rfl (.same rfl rfl (.cons rfl Sub.intA rfl (.cons rfl Sub.intA rfl .nil))))) .nil
 ·rintro ⟨pre, rest, hx, hp⟩
  show Run _ _ _ _ [(0, sEntries l), (1, .fn (.func 96) [] []), (6, sEntries l), (7, .i l.length), (8, .i pre.length)] []
  have hl := congrArg List.length hx
  simp only [List.length_append] at hl
  rcases rest with _ | ⟨x, rest⟩
  ·skip
   refine Run.seq (Run.reg [.p] ?_)
   refine .P rfl (q_lss rfl rfl) <| .nil ?_
   refine Run.seq ?_
   refine Run.condF rfl (by simp at hl ⊢; omega) ?_
   refine Run.exit (tq_exit (bq_exit ?_))
   refine Run.seq (Run.reg [.p] ?_)
   refine .ag rfl rfl <| .nil ?_
   refine Run.ret (?_)
   exact ret1 rfl (Sub.int (by first | exact find_T hx hp (by assumption) | exact find_F hx hp))
  ·simp only [List.length_cons] at hl
   refine Run.seq (Run.reg [.p] ?_)
   refine .P rfl (q_lss rfl rfl) <| .nil ?_
   refine Run.seq ?_
   refine Run.condT rfl (by simp; omega) ?_
   refine Run.skip ?_
   refine Run.seq ?_
   refine Run.block ?_
   refine Run.seq (Run.reg [.p, .p] ?_)
   refine .mv rfl rfl <| .ag rfl rfl <| .nil ?_
   refine Run.seq (Run.reg [.p, .p, .p, .p, .p, .p] ?_)
   refine .mv rfl rfl <| .mv rfl rfl <| .mv rfl rfl <| .P rfl (q_indexI Tryz.underlying22 Tryz.sizeOf37 rfl rfl (by omega) (idx_mid encEntry hx rfl)) <| .P rfl (q_loadIA Tryz.isAgg37 Tryz.sizeOf37 rfl rfl) <| .P rfl (q_callF Tryz.call96 rfl rfl (bad_ok _ (hs x (by rw [hx]; simp)))) <| .nil ?_
   refine Run.cond rfl (fun h1 => ?_) (fun h1 => ?_)
   ·have ph1 := h1; try simp only [bs] at ph1
    refine Run.seq (Run.reg [.p, .p] ?_)
    refine .mv rfl rfl <| .ag rfl rfl <| .nil ?_
    refine Run.ret (bq_ret (tq_ret (bq_ret (?_))))
    exact ret1 rfl (Sub.int (by first | exact find_T hx hp (by assumption) | exact find_F hx hp))
   ·have ph1 := h1; try simp only [bs] at ph1
    refine Run.skip ?_
    refine Run.nil (bq_norm ?_)
    refine Run.reg [.p, .p] ?_
    refine .P rfl (q_add rfl rfl (wrap64_ok (by first | omega | (simp; done) | (simp; omega) | (simp at *; omega)) (by first | omega | (simp; done) | (simp; omega) | (simp at *; omega)))) <| .mv rfl rfl <| .nil ?_
    refine Run.nil (tq_norm ?_)
    exact ⟨⟨pre ++ [x], rest, by simp [hx], by simp at *; grind⟩, by simp, Le.mk rfl (.same rfl rfl (.same rfl rfl (.same rfl rfl (.cons rfl Sub.intA rfl (.cons rfl Sub.intA rfl .nil))))) .nil⟩
theorem containsBad_ok (l : List Entry) (hs : ∀ e ∈ l, smallE e) : Fc Tryz.prog 53 [sEntries l, .fn (.func 96) [] []] (.b (!validE l)) := by
 refine Fc.mk' [4] Tryz.func53 rfl Tryz.ntmps53 rfl rfl rfl (fun t w => results_tmp Tryz.results53 t _ w) ?_
 refine Run.seq (Run.reg [.p] ?_)
 refine .ag rfl rfl <| .nil ?_
 refine Run.seq (Run.reg [.p, .p, .p, .p, .p] ?_)
 refine .mv rfl rfl <| .mv rfl rfl <| .P rfl (q_call Tryz.call107 rfl (indexBad_ok _ (by first | assumption | omega | (simp at *; omega)))) <| .P rfl (q_geq rfl rfl) <| .ag rfl rfl <| .nil ?_
 refine Run.ret (?_)
 exact ret1 rfl (Sub.bool (by exact valid_close l))
end Go.T
namespace Go.T
open Go Go.Proofs
set_option maxRecDepth 20000
structure closes_ok_L0 (l : List Close) where
 pre : List Close
 rest : List Close
 hx : l = pre ++ rest
 hp : checkCl [] l = checkCl pre rest
 h0 : l.length ≤ 64
theorem closes_ok (l : List Close) : Fc Tryz.prog 44 [sCloses l] (.i (checkCloses l)) := by
 refine Fc.mk' [2] Tryz.func44 rfl Tryz.ntmps44 rfl rfl rfl (fun t w => results_tmp Tryz.results44 t _ w) ?_
 refine Run.bSnap 0 rfl (fun hb => ?_)
 simp only [List.length_map, big] at hb
 refine Run.seq (Run.reg [.p] ?_)
 refine .ag rfl rfl <| .nil ?_
 refine Run.seq (Run.seq (Run.reg [.p, .p, .p] ?_))
 refine .mv rfl rfl <| .P rfl (q_lenI Tryz.underlying23 rfl) <| .P rfl (q_gtr rfl rfl) <| .nil ?_
 refine Run.cond rfl (fun h1 => ?_) (fun h1 => ?_)
 ·have ph1 := h1; try simp only [bs] at ph1
  refine Run.seq (Run.reg [.p] ?_)
  refine .ag rfl rfl <| .nil ?_
  refine Run.ret (?_)
  exact ret1 rfl (Sub.int (by grind [checkCloses, checkCl]))
 ·have ph1 := h1; try simp only [bs] at ph1
  refine Run.skip ?_
  refine Run.seq (Run.seq (Run.reg [.p, .p, .p] ?_))
  refine .mv rfl rfl <| .P rfl (q_lenI Tryz.underlying23 rfl) <| .mv rfl rfl <| .nil ?_
  refine Run.block ?_
  refine Run.loop (ι := closes_ok_L0 l) (fun sx => [(0, sCloses l), (8, sCloses l), (9, .i l.length), (10, .i sx.pre.length)]) (fun sx => []) (fun sx => sx.rest.length) ⟨[], l, rfl, rfl, by omega⟩ ?_ ?_
  ·exact Le.mk rfl (.same rfl rfl (.same rfl rfl (.cons rfl Sub.intA rfl (.cons rfl Sub.intA rfl .nil)))) .nil
  ·rintro ⟨pre, rest, hx, hp, h0⟩
   show Run _ _ _ _ [(0, sCloses l), (8, sCloses l), (9, .i l.length), (10, .i pre.length)] []
   have hl := congrArg List.length hx
   simp only [List.length_append] at hl
   rcases rest with _ | ⟨x, rest⟩
   ·skip
    refine Run.seq (Run.reg [.p] ?_)
    refine .P rfl (q_lss rfl rfl) <| .nil ?_
    refine Run.seq ?_
    refine Run.condF rfl (by simp at hl ⊢; omega) ?_
    refine Run.exit (tq_exit (bq_exit ?_))
    refine Run.seq (Run.reg [.p] ?_)
    refine .ag rfl rfl <| .nil ?_
    refine Run.ret (?_)
    exact ret1 rfl (Sub.int (by grind [checkCloses, checkCl]))
   ·simp only [List.length_cons] at hl
    refine Run.seq (Run.reg [.p] ?_)
    refine .P rfl (q_lss rfl rfl) <| .nil ?_
    refine Run.seq ?_
    refine Run.condT rfl (by simp; omega) ?_
    refine Run.skip ?_
    refine Run.seq ?_
    refine Run.block ?_
    refine Run.seq (Run.reg [.p, .p, .p, .w, .p, .w] ?_)
    refine .mv rfl rfl <| .P rfl (q_indexI Tryz.underlying23 Tryz.sizeOf76 rfl rfl (by omega) (idx_mid encClose hx rfl)) <| .P rfl (q_loadIA Tryz.isAgg76 Tryz.sizeOf76 rfl rfl) <| .W rfl (q_alloc 0 Tryz.zeroValue76 rfl) <| .ag rfl rfl <| .W rfl (q_storeW Tryz.sizeOf76 rfl rfl rfl rfl rfl rfl) <| .nil ?_
    refine Run.block ?_
    refine Run.seq (Run.reg [.p, .r, .p, .p, .p, .r, .p, .p, .p] ?_)
    refine .P rfl (q_fieldB (n := 0) 34 0 Tryz.underlying76 Tryz.sizeOf34 rfl rfl) <| .R rfl (q_load1 Tryz.isAgg34 rfl rfl rfl) <| .P rfl (q_lss rfl rfl) <| .mv rfl rfl <| .gF rfl (.inl rfl) rfl rfl rfl (fun hg => pk (fun _ => q_fieldB (n := 0) 34 0 Tryz.underlying76 Tryz.sizeOf34 rfl rfl _)) <| .gF rfl (.inr rfl) rfl rfl rfl (fun hg => rk (q_load1 Tryz.isAgg34 (opT rfl (nt hg)) rfl rfl)) <| .gF rfl (.inl rfl) rfl rfl rfl (fun hg => pk (fun _ => q_geq (opT rfl (nt hg)) rfl _)) <| .P rfl (q_or rfl rfl) <| .ag rfl rfl <| .nil ?_
    refine Run.cond rfl (fun h2 => ?_) (fun h2 => ?_)
    ·have ph2 := h2; try simp only [bs] at ph2
     refine Run.seq (Run.reg [.p] ?_)
     refine .ag rfl rfl <| .nil ?_
     refine Run.ret (bq_ret (bq_ret (tq_ret (bq_ret (?_)))))
     exact ret1 rfl (Sub.int (by grind [checkCloses, checkCl]))
    ·have ph2 := h2; try simp only [bs] at ph2
     refine Run.seq (Run.reg [.p, .r, .p, .p] ?_)
     refine .P rfl (q_fieldB (n := 0) 3 1 Tryz.underlying76 Tryz.sizeOf3 rfl rfl) <| .R rfl (q_load1 Tryz.isAgg3 rfl rfl rfl) <| .P rfl (q_lss rfl rfl) <| .ag rfl rfl <| .nil ?_
     refine Run.cond rfl (fun h3 => ?_) (fun h3 => ?_)
     ·have ph3 := h3; try simp only [bs] at ph3
      refine Run.seq (Run.reg [.p] ?_)
      refine .ag rfl rfl <| .nil ?_
      refine Run.ret (bq_ret (bq_ret (tq_ret (bq_ret (?_)))))
      exact ret1 rfl (Sub.int (by grind [checkCloses, checkCl]))
     ·have ph3 := h3; try simp only [bs] at ph3
      refine Run.seq (Run.regD [.p, .p, .p, .p, .p, .p, .p, .p, .p, .p, .r, .p, .p, .p, .p, .p, .p, .p, .p, .p, .r, .p, .p, .p, .p] Tryz_mixed (by decide +kernel) ?_)
      refine .mv rfl rfl <| .P rfl (q_gtr rfl rfl) <| .mv rfl rfl ?_
      refine .split (t := 31) rfl (fun h4 => ?_) (fun h4 => ?_)
      ·have ph4 := h4; try simp only [bs] at ph4
       refine .p rfl (on_of rfl rfl rfl h4) (fun _ => q_move rfl _) <| .p rfl (on_of rfl rfl rfl h4) (fun _ => q_move rfl _) <| .p rfl (on_of rfl rfl rfl h4) (fun _ => q_sub rfl rfl (wrap64_ok (by first | omega | (simp; done) | (simp; omega) | (simp at *; omega)) (by first | omega | (simp; done) | (simp; omega) | (simp at *; omega))) _) <| .p rfl (on_of rfl rfl rfl h4) (fun _ => q_indexI Tryz.underlying23 Tryz.sizeOf76 rfl rfl (by omega) (idx_last encClose hx (by simp at *; omega) (by omega)) _) <| .p rfl (on_of rfl rfl rfl h4) (fun _ => q_fieldI (n := 0) 34 0 Tryz.underlying76 Tryz.sizeOf34 rfl rfl rfl _) <| .p rfl (on_of rfl rfl rfl h4) (fun _ => q_loadI Tryz.isAgg34 rfl _) <| .p rfl (on_of rfl rfl rfl h4) (fun _ => q_fieldB (n := 0) 34 0 Tryz.underlying76 Tryz.sizeOf34 rfl rfl _) <| .r rfl (on_of rfl rfl rfl h4) (q_load1 Tryz.isAgg34 rfl rfl rfl) <| .p rfl (on_of rfl rfl rfl h4) (fun _ => q_geq rfl rfl _) <| .p rfl (on_of rfl rfl rfl h4) (fun _ => q_move rfl _) <| .gF rfl (.inl rfl) rfl rfl rfl (fun hg => pk (fun _ => q_move rfl _)) <| .gF rfl (.inl rfl) rfl rfl rfl (fun hg => pk (fun _ => q_move rfl _)) <| .gF rfl (.inl rfl) rfl rfl rfl (fun hg => pk (fun _ => q_sub (opT rfl (nt hg)) rfl (wrap64_ok (by first | omega | (simp; done) | (simp; omega) | (simp at *; omega)) (by first | omega | (simp; done) | (simp; omega) | (simp at *; omega))) _)) <| .gF rfl (.inl rfl) rfl rfl rfl (fun hg => pk (fun _ => q_indexI Tryz.underlying23 Tryz.sizeOf76 (opT rfl (nt hg)) (opT rfl (nt hg)) (by omega) (idx_last encClose hx (by simp at *; omega) (by omega)) _)) ?_
       refine .gF rfl (.inl rfl) rfl rfl rfl (fun hg => pk (fun _ => q_fieldI (n := 0) 3 1 Tryz.underlying76 Tryz.sizeOf3 rfl (opT rfl (nt hg)) rfl _)) <| .gF rfl (.inl rfl) rfl rfl rfl (fun hg => pk (fun _ => q_loadI Tryz.isAgg3 (opT rfl (nt hg)) _)) <| .gF rfl (.inl rfl) rfl rfl rfl (fun hg => pk (fun _ => q_fieldB (n := 0) 3 1 Tryz.underlying76 Tryz.sizeOf3 rfl rfl _)) <| .gF rfl (.inr rfl) rfl rfl rfl (fun hg => rk (q_load1 Tryz.isAgg3 (opT rfl (nt hg)) rfl rfl)) <| .gF rfl (.inl rfl) rfl rfl rfl (fun hg => pk (fun _ => q_gtr (opT rfl (nt hg)) (opT rfl (nt hg)) _)) <| .p rfl (on_of rfl rfl rfl h4) (fun _ => q_or rfl rfl _) <| .P rfl (q_pickT rfl h4 rfl) <| .ag rfl rfl <| .nil ?_
       refine Run.cond rfl (fun h5 => ?_) (fun h5 => ?_)
       ·have ph5 := h5; try simp only [bs] at ph5
        refine Run.seq (Run.reg [.p] ?_)
        refine .ag rfl rfl <| .nil ?_
        refine Run.ret (bq_ret (bq_ret (tq_ret (bq_ret (?_)))))
        exact ret1 rfl (Sub.int (by grind [checkCloses, checkCl]))
       ·have ph5 := h5; try simp only [bs] at ph5
        refine Run.skip ?_
        refine Run.nil (bq_norm ?_)
        refine Run.nil (bq_norm ?_)
        refine Run.reg [.p, .p] ?_
        refine .P rfl (q_add rfl rfl (wrap64_ok (by first | omega | (simp; done) | (simp; omega) | (simp at *; omega)) (by first | omega | (simp; done) | (simp; omega) | (simp at *; omega)))) <| .mv rfl rfl <| .nil ?_
        refine Run.nil (tq_norm ?_)
        exact ⟨⟨pre ++ [x], rest, by simp [hx], by grind [checkCl], h0⟩, by simp, Le.mk rfl (.same rfl rfl (.same rfl rfl (.cons rfl Sub.intA rfl (.cons rfl Sub.intA rfl .nil)))) .nil⟩
      ·have ph4 := h4; try simp only [bs] at ph4
       refine .off rfl (off_of rfl rfl rfl h4) ?_
       refine .off rfl (off_of rfl rfl rfl h4) ?_
       refine .off rfl (off_of rfl rfl rfl h4) ?_
       refine .off rfl (off_of rfl rfl rfl h4) ?_
       refine .off rfl (off_of rfl rfl rfl h4) ?_
       refine .off rfl (off_of rfl rfl rfl h4) ?_
       refine .off rfl (off_of rfl rfl rfl h4) ?_
       refine .off rfl (off_of rfl rfl rfl h4) ?_
       refine .off rfl (off_of rfl rfl rfl h4) ?_
       refine .off rfl (off_of rfl rfl rfl h4) ?_
       refine .off rfl (off_un rfl rfl rfl) ?_
       refine .off rfl (off_un rfl rfl rfl) ?_
       refine .off rfl (off_un rfl rfl rfl) ?_
       refine .off rfl (off_un rfl rfl rfl) ?_
       refine .off rfl (off_un rfl rfl rfl) ?_
       refine .off rfl (off_un rfl rfl rfl) ?_
       refine .off rfl (off_un rfl rfl rfl) ?_
       refine .off rfl (off_un rfl rfl rfl) ?_
       refine .off rfl (off_un rfl rfl rfl) ?_
       refine .off rfl (off_of rfl rfl rfl h4) ?_
       refine .P rfl (q_pickF rfl h4 rfl) <| .ag rfl rfl <| .nil ?_
       refine Run.condF rfl rfl ?_
       refine Run.skip ?_
       refine Run.nil (bq_norm ?_)
       refine Run.nil (bq_norm ?_)
       refine Run.reg [.p, .p] ?_
       refine .P rfl (q_add rfl rfl (wrap64_ok (by first | omega | (simp; done) | (simp; omega) | (simp at *; omega)) (by first | omega | (simp; done) | (simp; omega) | (simp at *; omega)))) <| .mv rfl rfl <| .nil ?_
       refine Run.nil (tq_norm ?_)
       exact ⟨⟨pre ++ [x], rest, by simp [hx], by grind [checkCl], h0⟩, by simp, Le.mk rfl (.same rfl rfl (.same rfl rfl (.cons rfl Sub.intA rfl (.cons rfl Sub.intA rfl .nil)))) .nil⟩
theorem pcheck_ok (l : List Close) (known d : Int) : Fc Tryz.prog 57 [sCloses l, .i known, .i d] (.i (if checkCloses l ≠ 0 then 1 else if known < 0 then 2 else if d < -25567 ∨ 84005 < d then 13 else 0)) := by
 refine Fc.mk' [6] Tryz.func57 rfl Tryz.ntmps57 rfl rfl rfl (fun t w => results_tmp Tryz.results57 t _ w) ?_
 refine Run.seq (Run.reg [.p] ?_)
 refine .ag rfl rfl <| .nil ?_
 refine Run.seq ?_
 refine Run.block ?_
 refine Run.seq (Run.reg [.p, .p, .p, .p] ?_)
 refine .mv rfl rfl <| .P rfl (q_call Tryz.call44 rfl (closes_ok _)) <| .P rfl (q_neq rfl rfl) <| .ag rfl rfl <| .nil ?_
 refine Run.cond rfl (fun h1 => ?_) (fun h1 => ?_)
 ·have ph1 := h1; try simp only [bs] at ph1
  refine Run.seq (Run.reg [.p] ?_)
  refine .ag rfl rfl <| .nil ?_
  refine Run.ret (bq_ret (?_))
  exact ret1 rfl (Sub.int (by grind))
 ·have ph1 := h1; try simp only [bs] at ph1
  refine Run.seq (Run.reg [.p, .p, .p] ?_)
  refine .mv rfl rfl <| .P rfl (q_lss rfl rfl) <| .ag rfl rfl <| .nil ?_
  refine Run.cond rfl (fun h2 => ?_) (fun h2 => ?_)
  ·have ph2 := h2; try simp only [bs] at ph2
   refine Run.seq (Run.reg [.p] ?_)
   refine .ag rfl rfl <| .nil ?_
   refine Run.ret (bq_ret (?_))
   exact ret1 rfl (Sub.int (by grind))
  ·have ph2 := h2; try simp only [bs] at ph2
   refine Run.seq (Run.reg [.p, .p, .p, .p, .p, .p, .p] ?_)
   refine .mv rfl rfl <| .P rfl (q_lss rfl rfl) <| .mv rfl rfl <| .gF rfl (.inl rfl) rfl rfl rfl (fun hg => pk (fun _ => q_move rfl _)) <| .gF rfl (.inl rfl) rfl rfl rfl (fun hg => pk (fun _ => q_gtr (opT rfl (nt hg)) rfl _)) <| .P rfl (q_or rfl rfl) <| .ag rfl rfl <| .nil ?_
   refine Run.cond rfl (fun h3 => ?_) (fun h3 => ?_)
   ·have ph3 := h3; try simp only [bs] at ph3
    refine Run.seq (Run.reg [.p] ?_)
    refine .ag rfl rfl <| .nil ?_
    refine Run.ret (bq_ret (?_))
    exact ret1 rfl (Sub.int (by grind))
   ·have ph3 := h3; try simp only [bs] at ph3
    refine Run.skip ?_
    refine Run.nil (bq_norm ?_)
    refine Run.seq (Run.reg [.p] ?_)
    refine .ag rfl rfl <| .nil ?_
    refine Run.ret (?_)
    exact ret1 rfl (Sub.int (by grind))
end Go.T
namespace Go.T
open Go Go.Proofs
set_option maxRecDepth 20000
structure countY_ok_L0 (l : List Close) (known : Int) where
 pre : List Close
 rest : List Close
 hx : l = pre ++ rest
 hp : pre.all (fun c : Close => decide (c.known < known)) = true
theorem countY_ok (l : List Close) (known : Int) (hl : l.length ≤ 1000000) : FcY (α := Close) Tryz.prog 163 7400 [.box 7400 0, .box 7401 0] [(7400, .cells [sCloses l]), (7401, .cells [.i known])] (fun c => [.agg (encClose c)]) (fun p => p <+: l.takeWhile (fun c : Close => decide (c.known < known))) (fun p => p = l.takeWhile (fun c : Close => decide (c.known < known))) := by
 refine FcY.mk' Tryz.func163 rfl Tryz.ntmps163 rfl (fun t w => results_none Tryz.results163 t _ w) (fun idL lb ids B X Y => ?_)
 refine Run.seq (Run.reg [.r, .p, .p] ?_)
 refine .R rfl (q_load1 Tryz.isAgg23 rfl rfl rfl) <| .P rfl (q_lenI Tryz.underlying23 rfl) <| .mv rfl rfl <| .nil ?_
 refine Run.block ?_
 refine Run.loop (ι := countY_ok_L0 l known) (fun sx => [(0, yv lb), (1, .box 7400 0), (2, .box 7401 0), (6, sCloses l), (7, .i l.length), (8, .i sx.pre.length)]) (fun sx => ([(7400, .cells [sCloses l]), (7401, .cells [.i known])] ++ B sx.pre)) (fun sx => sx.rest.length) ⟨[], l, rfl, rfl⟩ ?_ ?_
 ·exact Le.mk (ps_ok (Y.has _) rfl) (.same rfl rfl (.same rfl rfl (.same rfl rfl (.same rfl rfl (.cons rfl Sub.intA rfl (.cons rfl Sub.intA rfl .nil)))))) (.eqA rfl rfl (.eqA rfl rfl (.tail (tail_ok (own := [(7400, _), (7401, _)]) (own' := [(7400, _), (7401, _)]) rfl (Y.free _) (Y.okb _)))))
 ·rintro ⟨pre, rest, hx, hp⟩
  show Run _ _ _ _ [(0, yv lb), (1, .box 7400 0), (2, .box 7401 0), (6, sCloses l), (7, .i l.length), (8, .i pre.length)] ([(7400, .cells [sCloses l]), (7401, .cells [.i known])] ++ B pre)
  have hl := congrArg List.length hx
  simp only [List.length_append] at hl
  rcases rest with _ | ⟨x, rest⟩
  ·skip
   refine Run.seq (Run.reg [.p] ?_)
   refine .P rfl (q_lss rfl rfl) <| .nil ?_
   refine Run.seq ?_
   refine Run.condF rfl (by simp at hl ⊢; omega) ?_
   refine Run.exit (tq_exit (bq_exit ?_))
   refine Run.nil ?_
   exact retY_fin (.inr rfl) (pre) (by first | exact tw_end hx hp | exact tw_stop hx hp (by simp at *; omega)) (own_get (own := [(7400, _), (7401, _)]) rfl (Y.free _))
  ·simp only [List.length_cons] at hl
   refine Run.seq (Run.reg [.p] ?_)
   refine .P rfl (q_lss rfl rfl) <| .nil ?_
   refine Run.seq ?_
   refine Run.condT rfl (by simp; omega) ?_
   refine Run.skip ?_
   refine Run.seq ?_
   refine Run.block ?_
   refine Run.seq (Run.reg [.p, .p, .w, .w] ?_)
   refine .P rfl (q_indexI Tryz.underlying23 Tryz.sizeOf76 rfl rfl (by omega) (idx_mid encClose hx rfl)) <| .P rfl (q_loadIA Tryz.isAgg76 Tryz.sizeOf76 rfl rfl) <| .W rfl (q_alloc 7402 Tryz.zeroValue76 (Y.free _ 7402 (by decide) (by decide))) <| .W rfl (q_storeW Tryz.sizeOf76 rfl rfl rfl rfl rfl rfl) <| .nil ?_
   refine Run.seq (Run.regT ?_)
   refine Tx.q rfl trivial (q_fieldB (n := 0) 3 1 Tryz.underlying76 Tryz.sizeOf3 rfl rfl _) ?_
   refine Tx.q rfl trivial (q_load1 Tryz.isAgg3 rfl rfl rfl) ?_
   refine Tx.q rfl trivial (q_load1 Tryz.isAgg3 rfl rfl rfl) ?_
   refine Tx.q rfl trivial (q_geq rfl rfl _) ?_
   refine Tx.q rfl trivial (q_move rfl _) ?_
   refine Tx.split (t := 16) rfl (fun h1 => ?_) (fun h1 => ?_)
   ·have ph1 := h1; try simp only [bs] at ph1
    refine Tx.off rfl (off_of rfl rfl rfl h1) ?_
    refine Tx.off rfl (off_of rfl rfl rfl h1) ?_
    refine Tx.off rfl (off_of rfl rfl rfl h1) ?_
    refine Tx.off rfl (off_of rfl rfl rfl h1) ?_
    refine Tx.q rfl trivial (q_pickT rfl h1 rfl _) ?_
    refine Tx.nil ?_
    refine Run.condT rfl rfl ?_
    refine Run.ret (bq_ret (tq_ret (bq_ret (?_))))
    exact retY_fin (.inl rfl) (pre) (by first | exact tw_end hx hp | exact tw_stop hx hp (by simp at *; omega)) (own_get (own := [(7402, _), (7400, _), (7401, _)]) rfl (Y.free _))
   ·have ph1 := h1; try simp only [bs] at ph1
    refine Tx.q rfl (on_of rfl rfl rfl h1) (q_move rfl _) ?_
    refine Tx.q rfl (on_of rfl rfl rfl h1) (q_loadW Tryz.isAgg76 Tryz.sizeOf76 rfl rfl rfl) ?_
    refine Tx.weak (Le.mk (obs' := [(7400, _), (7401, _)] ++ B (pre)) (ps_ok (Y.has _) rfl) (show EnvLe _ _ [(0, _), (1, _), (2, _), (6, _), (7, _), (8, _), (9, _), (10, _), (11, _), (13, _), (14, _), (15, _), (16, _), (17, _), (18, _)] from (.same rfl rfl (.same rfl rfl (.same rfl rfl (.same rfl rfl (.same rfl rfl (.same rfl rfl (.same rfl rfl (.same rfl rfl (.same rfl rfl (.same rfl rfl (.same rfl rfl (.same rfl rfl (.same rfl rfl (.same rfl rfl (.same rfl rfl .nil)))))))))))))))) (.cons (i := 7400) rfl rfl (.cons (i := 7401) rfl rfl (.tail (tail_ok (own := [(7402, _), (7400, _), (7401, _)]) (own' := [(7400, _), (7401, _)]) rfl (Y.free _) (Y.okb _)))))) ?_
    refine Tx.y Y (own := [(7400, _), (7401, _)]) (pre := pre) (env' := [(0, _), (1, _), (2, _), (6, _), (7, _), (8, _), (9, _), (10, _), (11, _), (13, _), (14, _), (15, _), (16, _), (17, _), (18, _)]) x rfl rfl rfl (on_of rfl rfl rfl h1) rfl rfl rfl (tw_pre hx hp (by simp at *; omega)) rfl rfl (.cons rfl rfl (.cons rfl rfl (.cons rfl rfl (.cons rfl rfl (.cons rfl rfl (.cons rfl rfl (.cons rfl rfl (.cons rfl rfl (.cons rfl rfl (.cons rfl rfl (.cons rfl rfl (.cons rfl rfl (.cons rfl rfl (.cons rfl rfl (.cons rfl rfl .nil))))))))))))))) ?_ (fun o hX => ?_)
    ·skip
     refine Tx.q rfl (on_of rfl rfl rfl h1) (q_not rfl _) ?_
     refine Tx.q rfl trivial (q_pickF rfl h1 rfl _) ?_
     refine Tx.nil ?_
     refine Run.condF rfl rfl ?_
     refine Run.skip ?_
     refine Run.nil (bq_norm ?_)
     refine Run.reg [.p, .p] ?_
     refine .P rfl (q_add rfl rfl (wrap64_ok (by omega) (by omega))) <| .mv rfl rfl <| .nil ?_
     refine Run.nil (tq_norm ?_)
     exact ⟨⟨pre ++ [x], rest, by simp [hx], by simp at *; grind⟩, by simp, Le.mk (ps_ok (Y.has _) rfl) (.same rfl rfl (.same rfl rfl (.same rfl rfl (.same rfl rfl (.cons rfl Sub.intA rfl (.cons rfl Sub.intA rfl .nil)))))) (.eqA rfl rfl (.eqA rfl rfl (.tail (tail_ok (own := [(7400, _), (7401, _)]) (own' := [(7400, _), (7401, _)]) rfl (Y.free _) (Y.okb _)))))⟩
    ·skip
     refine Tx.q rfl (on_of rfl rfl rfl h1) (q_not rfl _) ?_
     refine Tx.q rfl trivial (q_pickF rfl h1 rfl _) ?_
     refine Tx.nil ?_
     refine Run.condT rfl rfl ?_
     refine Run.ret (bq_ret (tq_ret (bq_ret (?_))))
     exact retY_x (.inl rfl) o hX (own_get (own := [(7400, _), (7401, _)]) rfl (Y.freeX _ hX))
theorem countF_ok (l : List Close) (known : Int) : FcO Tryz.prog 113 [sCloses l, .i known] [] (.fn (.func 163) [] [.box 7400 0, .box 7401 0]) [(7400, .cells [sCloses l]), (7401, .cells [.i known])] := by
 refine FcO.mk' [4] Tryz.func113 rfl Tryz.ntmps113 rfl rfl rfl (fun t w => results_tmp Tryz.results113 t _ w) ?_
 refine Run.seq (Run.reg [.w, .w, .p] ?_)
 refine .W rfl (q_box1 7400 rfl rfl rfl) <| .W rfl (q_box1 7401 rfl rfl rfl) <| .ag rfl rfl <| .nil ?_
 refine Run.seq (Run.reg [.p, .p] ?_)
 refine .P rfl (q_makeFunc (xs := []) (ys := _) rfl rfl) <| .ag rfl rfl <| .nil ?_
 refine Run.ret (?_)
 exact retO1 rfl (by exact Sub.refl _) (.eq rfl (by rfl) rfl (.eq rfl (by rfl) rfl .nil))
def lastOpen (p : List Close) : Int := p.foldl (fun _ c => c.day + 1) (-25567)
theorem opens_ok (l : List Close) (known : Int) (hl : l.length ≤ 1000000) (hd : ∀ c ∈ l, validDay c.day = true) : Fc Tryz.prog 58 [sCloses l, .i known] (.i (lastOpen (l.takeWhile (fun c : Close => decide (c.known < known))))) := by
 refine Fc.mk' [4] Tryz.func58 rfl Tryz.ntmps58 rfl rfl rfl (fun t w => results_tmp Tryz.results58 t _ w) ?_
 refine Run.seq (Run.reg [.p] ?_)
 refine .ag rfl rfl <| .nil ?_
 refine Run.seq (Run.reg [.w, .w] ?_)
 refine .W rfl (q_alloc 0 Tryz.zeroValue34 rfl) <| .W rfl (q_store1 Tryz.sizeOf34 rfl rfl rfl rfl (by first | (simp; done) | decide)) <| .nil ?_
 refine Run.seq (Run.seq (Run.reg [.p, .p, .w] ?_))
 refine .mv rfl rfl <| .mv rfl rfl <| .W rfl (q_callO Tryz.call113 rfl (countF_ok _ _) .nil rfl rfl) <| .nil ?_
 refine Run.block ?_
 refine Run.rangeF (α := Close) 7900 [0] [(0, _), (1, _), (4, _), (5, _), (7, _), (8, _)] (fun (pre : List (Close)) => [(0, .cells [.i (lastOpen pre)])]) (fun _ _ => False) rfl Tryz.call163 (countY_ok l known hl) (env1 := [(0, _), (1, _), (4, _), (5, _), (7, _), (8, _), (9, _)]) (Le.mk (obs' := [(7400, _), (7401, _)] ++ (fun (pre : List (Close)) => [(0, .cells [.i (lastOpen pre)])]) []) rfl (show EnvLe _ _ [(0, _), (1, _), (4, _), (5, _), (7, _), (8, _), (9, _)] from (.same rfl rfl (.same rfl rfl (.same rfl rfl (.same rfl rfl (.same rfl rfl (.same rfl rfl (.same rfl rfl .nil)))))))) (.cons (i := 7400) rfl rfl (.cons (i := 7401) rfl rfl (.eqA rfl rfl .nil)))) rfl rfl (fun _ => rfl) (.cons rfl rfl (.cons rfl rfl (.cons rfl rfl (.cons rfl rfl (.cons rfl rfl (.cons rfl rfl .nil)))))) rfl (fun _ => rfl) (by rintro j o h; exact h.elim) (fun _ => Obs.okB_get rfl) (by rintro j o h; exact h.elim) (fun _ => freeB_get rfl) (by rintro j o h; exact h.elim) (by decide) rfl (fun pre x hok => ?_) (fun xs hfin => ?_) (fun _ _ h => h.elim)
 ·skip
  have hxd := hd x ((List.takeWhile_prefix _).subset (hok.subset (by simp)))
  simp only [validDay, Bool.and_eq_true, decide_eq_true_eq] at hxd
  refine Run.reg [.w, .w] ?_
  refine .W rfl (q_alloc 1 Tryz.zeroValue76 rfl) <| .W rfl (q_storeW Tryz.sizeOf76 rfl rfl rfl rfl rfl rfl) <| .nil ?_
  refine Run.nil ⟨rfl, ?_⟩
  refine Run.block ?_
  refine Run.reg [.p, .r, .p, .w] ?_
  refine .P rfl (q_fieldB (n := 0) 34 0 Tryz.underlying76 Tryz.sizeOf34 rfl rfl) <| .R rfl (q_load1 Tryz.isAgg34 rfl rfl rfl) <| .P rfl (q_add rfl rfl (wrap64_ok (by omega) (by omega))) <| .W rfl (q_store1 Tryz.sizeOf34 rfl rfl rfl rfl (by first | (simp; done) | decide)) <| .nil ?_
  refine Run.nil (bq_norm ?_)
  refine Run.nil ?_
  exact ⟨rfl, Le.mk rfl .nil (.cons rfl rfl (.eq rfl (by simp [lastOpen]) rfl .nil))⟩
 ·skip
  subst hfin
  refine Run.nil (bq_norm ?_)
  refine Run.seq (Run.reg [.r, .p] ?_)
  refine .R rfl (q_load1 Tryz.isAgg34 rfl rfl rfl) <| .ag rfl rfl <| .nil ?_
  refine Run.ret (?_)
  exact ret1 rfl (Sub.int (by rfl))
end Go.T
namespace Go.T
open Go Go.Proofs
set_option maxRecDepth 20000
theorem posting_ok (l : List Close) (known d : Int) (hc : checkCloses l = 0) (hk : ¬ known < 0) (hd : ¬ (d < -25567 ∨ 84005 < d)) (hl : l.length ≤ 1000000) (hv : ∀ c ∈ l, validDay c.day = true) : Fc Tryz.prog 47 [sCloses l, .i known, .i d] (.tup [.i (max d (lastOpen (l.takeWhile (fun c : Close => decide (c.known < known))))), .i 0]) := by
 refine Fc.mk' [6, 7] Tryz.func47 rfl Tryz.ntmps47 rfl rfl rfl (fun t w => results_tmp2 Tryz.results47 t _ w) ?_
 refine Run.seq (Run.reg [.p, .p] ?_)
 refine .ag rfl rfl <| .ag rfl rfl <| .nil ?_
 refine Run.seq (Run.seq (Run.reg [.p, .p, .p, .p, .p] ?_))
 refine .mv rfl rfl <| .mv rfl rfl <| .mv rfl rfl <| .P rfl (q_call Tryz.call57 rfl (pcheck_ok _ _ _)) <| .ag rfl rfl <| .nil ?_
 refine Run.seq (Run.reg [.p, .p] ?_)
 refine .mv rfl rfl <| .P rfl (q_neq rfl rfl) <| .nil ?_
 refine Run.condF rfl (by simp [hc, hk]; omega) ?_
 refine Run.skip ?_
 refine Run.seq (Run.reg [.p, .p, .p, .p, .p, .p, .p] ?_)
 refine .mv rfl rfl <| .mv rfl rfl <| .mv rfl rfl <| .P rfl (q_call Tryz.call58 rfl (opens_ok _ _ (by first | assumption | omega | (simp at *; omega)) (by first | assumption | omega | (simp at *; omega)))) <| .P rfl (q_max rfl rfl rfl) <| .ag rfl rfl <| .ag rfl rfl <| .nil ?_
 refine Run.ret (?_)
 exact ret2 rfl rfl (Sub.int (by rfl)) (Sub.int (by rfl))
theorem neg2_ok (s : Str) (hs : s.length ≤ 9000) : Fc Tryz.prog 75 [.str s] (.str (negS s)) := by rw [← neg_textM]; exact neg_ok s hs
structure reverse_ok_L0 (e : Entry) where
 pre : List Line
 rest : List Line
 hx : e.lines = pre ++ rest
theorem reverse_ok (e : Entry) (hs : smallE e) (hv : checkE e = 0) : Fc Tryz.prog 102 [.agg (encEntry e)] (.tup [.agg (encEntry (opposite e)), .i 0]) := by
 refine Fc.mkR Tryz.func102 rfl Tryz.ntmps102 rfl rfl rfl ?_
 refine Run.bAgg 0 2 rfl rfl (fun hb => ?_)
 simp only [List.length_map, big] at hb
 have hs' := hs
 obtain ⟨hs1, hs2, hs3⟩ := hs
 refine Run.seq (Run.reg [.w, .w, .p] ?_)
 refine .W rfl (q_boxA 0 rfl rfl) <| .W rfl (q_alloc 1 Tryz.zeroValue37 rfl) <| .ag rfl rfl <| .nil ?_
 refine Run.seq (Run.seq (Run.reg [.r, .p, .p] ?_))
 refine .R rfl (q_loadW Tryz.isAgg37 Tryz.sizeOf37 rfl rfl rfl) <| .P rfl (q_call Tryz.call18 rfl (check_ok _ (by first | assumption | omega | (simp at *; omega)))) <| .P rfl (q_neq rfl rfl) <| .nil ?_
 refine Run.condF rfl (by simp [hv]) ?_
 refine Run.skip ?_
 refine Run.seq (Run.reg [.p, .r, .p, .r, .p, .w, .w] ?_)
 refine .P rfl (q_fieldB (n := 0) 34 0 Tryz.underlying37 Tryz.sizeOf34 rfl rfl) <| .R rfl (q_load1 Tryz.isAgg34 rfl rfl rfl) <| .P rfl (q_fieldB (n := 0) 9 1 Tryz.underlying37 Tryz.sizeOf9 rfl rfl) <| .R rfl (q_load1 Tryz.isAgg9 rfl rfl rfl) <| .P rfl (q_build (pl := #[(0, 1), (1, 1), (2, 1)]) Tryz.underlying37 Tryz.zeroValue37 (fun w => by kernel_rfl) rfl rfl) <| .W rfl (q_alloc 2 Tryz.zeroValue37 rfl) <| .W rfl (q_storeW Tryz.sizeOf37 rfl rfl rfl rfl rfl rfl) <| .nil ?_
 refine Run.seq (Run.seq (Run.reg [.p, .r, .p, .p] ?_))
 refine .P rfl (q_fieldB (n := 0) 35 2 Tryz.underlying37 Tryz.sizeOf35 rfl rfl) <| .R rfl (q_load1 Tryz.isAgg35 rfl rfl rfl) <| .P rfl (q_lenI Tryz.underlying35 rfl) <| .mv rfl rfl <| .nil ?_
 refine Run.block ?_
 refine Run.loop (ι := reverse_ok_L0 e) (fun sx => [(1, .box 0 0), (2, .box 1 0), (4, .box 2 0), (17, sLines e.lines), (18, .i e.lines.length), (19, .i sx.pre.length)]) (fun sx => [(0, .cells (encEntry e)), (1, .cells [.i 0, .str [], .raw (.slice none 0 0)]), (2, .cells [.i e.day, .str e.cause, .gs 3 sx.pre.length]), (3, .arr 3 (sx.pre.map fun l => encLine { l with amount := negS l.amount }))]) (fun sx => sx.rest.length) ⟨[], e.lines, rfl⟩ ?_ ?_
 ·exact (Le.own0 3 3).trans <| (Le.subO 2 2 rfl rfl (Sub.gsNil _)).trans <| Le.mk rfl (.same rfl rfl (.same rfl rfl (.same rfl rfl (.same rfl rfl (.cons rfl Sub.intA rfl (.cons rfl Sub.intA rfl .nil)))))) (.cons rfl rfl (.cons rfl rfl (.eq rfl (by first | rfl | simp) rfl (.arr rfl (by simp) .nil))))
 ·rintro ⟨pre, rest, hx⟩
  show Run _ _ _ _ [(1, .box 0 0), (2, .box 1 0), (4, .box 2 0), (17, sLines e.lines), (18, .i e.lines.length), (19, .i pre.length)] [(0, .cells (encEntry e)), (1, .cells [.i 0, .str [], .raw (.slice none 0 0)]), (2, .cells [.i e.day, .str e.cause, .gs 3 pre.length]), (3, .arr 3 (pre.map fun l => encLine { l with amount := negS l.amount }))]
  have hl := congrArg List.length hx
  simp only [List.length_append] at hl
  rcases rest with _ | ⟨x, rest⟩
  ·skip
   refine Run.seq (Run.reg [.p] ?_)
   refine .P rfl (q_lss rfl rfl) <| .nil ?_
   refine Run.seq ?_
   refine Run.condF rfl (by simp at hl ⊢; omega) ?_
   refine Run.exit (tq_exit (bq_exit ?_))
   refine Run.seq (Run.reg [.r, .w, .p] ?_)
   refine .R rfl (q_loadW Tryz.isAgg37 Tryz.sizeOf37 rfl rfl rfl) <| .W rfl (q_storeW Tryz.sizeOf37 rfl rfl rfl rfl rfl rfl) <| .ag rfl rfl <| .nil ?_
   refine Run.weak (Le.freezeO 1 2 3 rfl rfl rfl (by simp)) ?_
   refine Run.ret (?_)
   exact Rd.cAt Tryz.results102 Tryz.isAgg37 Tryz.sizeOf37 rfl rfl rfl rfl (Sub.agg (.cons (Sub.int (by rfl)) (.cons (Sub.str (by rfl)) (.cons (Sub.snap (by simp [opposite, hx])) .nil)))) (Sub.int (by rfl))
  ·simp only [List.length_cons] at hl
   refine Run.seq (Run.reg [.p] ?_)
   refine .P rfl (q_lss rfl rfl) <| .nil ?_
   refine Run.seq ?_
   refine Run.condT rfl (by simp; omega) ?_
   refine Run.skip ?_
   refine Run.seq ?_
   refine Run.block ?_
   refine Run.seq (Run.reg [.p, .p, .w, .w] ?_)
   refine .P rfl (q_indexI Tryz.underlying35 Tryz.sizeOf92 rfl rfl (by omega) (idx_mid encLine hx rfl)) <| .P rfl (q_loadIA Tryz.isAgg92 Tryz.sizeOf92 rfl rfl) <| .W rfl (q_alloc 4 Tryz.zeroValue92 rfl) <| .W rfl (q_storeW Tryz.sizeOf92 rfl rfl rfl rfl rfl rfl) <| .nil ?_
   refine Run.seq (Run.reg [.p, .r, .p, .p, .w] ?_)
   refine .P rfl (q_fieldB (n := 0) 54 2 Tryz.underlying92 Tryz.sizeOf54 rfl rfl) <| .R rfl (q_load1 Tryz.isAgg54 rfl rfl rfl) <| .P rfl (q_call Tryz.call75 rfl (neg2_ok _ (by have := (hs3 x (by rw [hx]; simp)).2.2; omega))) <| .P rfl (q_fieldB (n := 0) 54 2 Tryz.underlying92 Tryz.sizeOf54 rfl rfl) <| .W rfl (q_store1 Tryz.sizeOf54 rfl rfl rfl rfl (by first | (simp; done) | decide)) <| .nil ?_
   refine Run.reg [.p, .r, .r, .p, .w, .p, .w] ?_
   refine .P rfl (q_fieldB (n := 0) 35 2 Tryz.underlying37 Tryz.sizeOf35 rfl rfl) <| .R rfl (q_load1 Tryz.isAgg35 rfl rfl rfl) <| .R rfl (q_loadW Tryz.isAgg92 Tryz.sizeOf92 rfl rfl rfl) <| .P rfl (q_buildSlice' (n := 1) (rows := [encLine { x with amount := negS x.amount }]) Tryz.underlying35 Tryz.sizeOf92 rfl rfl rfl Tryz.zeroValue92 rfl rfl rfl rfl rfl rfl rfl) <| .W rfl (q_append 5 Tryz.underlying35 Tryz.underlying35 Tryz.sizeOf92 Tryz.typeInfo92 Tryz.zeroValue92 rfl (bt := 48) rfl rfl rfl rfl (by simp) rfl rfl (by simp; omega)) <| .P rfl (q_fieldB (n := 0) 35 2 Tryz.underlying37 Tryz.sizeOf35 rfl rfl) <| .W rfl (q_store1 Tryz.sizeOf35 rfl rfl rfl rfl (by first | (simp; done) | decide)) <| .nil ?_
   refine Run.nil (bq_norm ?_)
   refine Run.reg [.p, .p] ?_
   refine .P rfl (q_add rfl rfl (wrap64_ok (by omega) (by omega))) <| .mv rfl rfl <| .nil ?_
   refine Run.nil (tq_norm ?_)
   exact ⟨⟨pre ++ [x], rest, by simp [hx]⟩, by simp, (Le.mk (obs' := [(0, _), (1, _), (2, _), (5, _)]) rfl (show EnvLe _ _ [(1, _), (2, _), (4, _), (17, _), (18, _), (19, _)] from (.same rfl rfl (.same rfl rfl (.same rfl rfl (.same rfl rfl (.same rfl rfl (.same rfl rfl .nil))))))) (.cons (i := 0) rfl rfl (.cons (i := 1) rfl rfl (.cons (i := 2) rfl rfl (.cons (i := 5) rfl rfl .nil))))).trans <| (Le.renO 2 2 5 3 rfl rfl rfl (by simp) rfl).trans <| Le.mk rfl (.same rfl rfl (.same rfl rfl (.same rfl rfl (.same rfl rfl (.cons rfl Sub.intA rfl (.cons rfl Sub.intA rfl .nil)))))) (.cons rfl rfl (.cons rfl rfl (.eq rfl (by first | rfl | simp) rfl (.arr rfl (by simp) .nil))))⟩
end Go.T
namespace Go.T
open Go Go.Proofs
set_option maxRecDepth 20000
structure changeY_ok_L0 (a b : List Entry) where
 pre : List Entry
 rest : List Entry
 acc : List Entry
 hx : a = pre ++ rest
 hacc : acc = pre.map opposite
structure changeY_ok_L1 (a b : List Entry) where
 pre2 : List Entry
 rest2 : List Entry
 acc2 : List Entry
 hx2 : b = pre2 ++ rest2
 hacc2 : acc2 = a.map opposite ++ pre2
theorem changeY_ok (a b : List Entry) (ha : a.length ≤ 1000000) (hb : b.length ≤ 1000000) (has : ∀ e ∈ a, smallE e ∧ checkE e = 0) : FcY (α := Entry) Tryz.prog 101 7500 [.box 7500 0, .box 7501 0] [(7500, .cells [sEntries a]), (7501, .cells [sEntries b])] (fun e => [.agg (encEntry e)]) (fun p => p <+: a.map opposite ++ b) (fun p => p = a.map opposite ++ b) := by
 refine FcY.mk' Tryz.func101 rfl Tryz.ntmps101 rfl (fun t w => results_none Tryz.results101 t _ w) (fun idL lb ids B X Y => ?_)
 refine Run.seq (Run.seq (Run.reg [.r, .p, .p] ?_))
 refine .R rfl (q_load1 Tryz.isAgg22 rfl rfl rfl) <| .P rfl (q_lenI Tryz.underlying22 rfl) <| .mv rfl rfl <| .nil ?_
 refine Run.block ?_
 refine Run.loop (ι := changeY_ok_L0 a b) (fun sx => [(0, yv lb), (1, .box 7500 0), (2, .box 7501 0), (10, sEntries a), (11, .i a.length), (12, .i sx.pre.length)]) (fun sx => ([(7500, .cells [sEntries a]), (7501, .cells [sEntries b])] ++ B sx.acc)) (fun sx => sx.rest.length) ⟨[], a, [], rfl, rfl⟩ ?_ ?_
 ·exact Le.mk (ps_ok (Y.has _) rfl) (.same rfl rfl (.same rfl rfl (.same rfl rfl (.same rfl rfl (.cons rfl Sub.intA rfl (.cons rfl Sub.intA rfl .nil)))))) (.eqA rfl rfl (.eqA rfl rfl (.tail (tail_ok (own := [(7500, _), (7501, _)]) (own' := [(7500, _), (7501, _)]) rfl (Y.free _) (Y.okb _)))))
 ·rintro ⟨pre, rest, acc, hx, hacc⟩
  show Run _ _ _ _ [(0, yv lb), (1, .box 7500 0), (2, .box 7501 0), (10, sEntries a), (11, .i a.length), (12, .i pre.length)] ([(7500, .cells [sEntries a]), (7501, .cells [sEntries b])] ++ B acc)
  have hl := congrArg List.length hx
  simp only [List.length_append] at hl
  rcases rest with _ | ⟨x, rest⟩
  ·have hpa : a = pre := by simpa using hx
   refine Run.seq (Run.reg [.p] ?_)
   refine .P rfl (q_lss rfl rfl) <| .nil ?_
   refine Run.seq ?_
   refine Run.condF rfl (by simp at hl ⊢; omega) ?_
   refine Run.exit (tq_exit (bq_exit ?_))
   refine Run.seq (Run.reg [.r, .p, .p] ?_)
   refine .R rfl (q_load1 Tryz.isAgg22 rfl rfl rfl) <| .P rfl (q_lenI Tryz.underlying22 rfl) <| .mv rfl rfl <| .nil ?_
   refine Run.block ?_
   refine Run.loop (ι := changeY_ok_L1 a b) (fun sx => [(0, yv lb), (1, .box 7500 0), (2, .box 7501 0), (26, sEntries b), (27, .i b.length), (28, .i sx.pre2.length)]) (fun sx => ([(7500, .cells [sEntries a]), (7501, .cells [sEntries b])] ++ B sx.acc2)) (fun sx => sx.rest2.length) ⟨[], b, acc, rfl, by rw [hacc, hpa]; simp⟩ ?_ ?_
   ·exact Le.mk (ps_ok (Y.has _) rfl) (.same rfl rfl (.same rfl rfl (.same rfl rfl (.same rfl rfl (.cons rfl Sub.intA rfl (.cons rfl Sub.intA rfl .nil)))))) (.eqA rfl rfl (.eqA rfl rfl (.tail (tail_ok (own := [(7500, _), (7501, _)]) (own' := [(7500, _), (7501, _)]) rfl (Y.free _) (Y.okb _)))))
   ·rintro ⟨pre2, rest2, acc2, hx2, hacc2⟩
    show Run _ _ _ _ [(0, yv lb), (1, .box 7500 0), (2, .box 7501 0), (26, sEntries b), (27, .i b.length), (28, .i pre2.length)] ([(7500, .cells [sEntries a]), (7501, .cells [sEntries b])] ++ B acc2)
    have hl2 := congrArg List.length hx2
    simp only [List.length_append] at hl2
    rcases rest2 with _ | ⟨x2, rest2⟩
    ·skip
     refine Run.seq (Run.reg [.p] ?_)
     refine .P rfl (q_lss rfl rfl) <| .nil ?_
     refine Run.seq ?_
     refine Run.condF rfl (by simp at hl2 ⊢; omega) ?_
     refine Run.exit (tq_exit (bq_exit ?_))
     refine Run.nil ?_
     exact retY_fin (.inr rfl) (acc2) (by rw [hacc2, hx2]; simp) (own_get (own := [(7500, _), (7501, _)]) rfl (Y.free _))
    ·simp only [List.length_cons] at hl2
     refine Run.seq (Run.reg [.p] ?_)
     refine .P rfl (q_lss rfl rfl) <| .nil ?_
     refine Run.seq ?_
     refine Run.condT rfl (by simp; omega) ?_
     refine Run.skip ?_
     refine Run.seq ?_
     refine Run.block ?_
     refine Run.seq (Run.reg [.p, .p, .w, .w] ?_)
     refine .P rfl (q_indexI Tryz.underlying22 Tryz.sizeOf37 rfl rfl (by omega) (idx_mid encEntry hx2 rfl)) <| .P rfl (q_loadIA Tryz.isAgg37 Tryz.sizeOf37 rfl rfl) <| .W rfl (q_alloc 7502 Tryz.zeroValue37 (Y.free _ 7502 (by decide) (by decide))) <| .W rfl (q_storeW Tryz.sizeOf37 rfl rfl rfl rfl rfl rfl) <| .nil ?_
     refine Run.seq (Run.regT ?_)
     refine Tx.q rfl trivial (q_move rfl _) ?_
     refine Tx.q rfl trivial (q_loadW Tryz.isAgg37 Tryz.sizeOf37 rfl rfl rfl) ?_
     refine Tx.weak (Le.mk (obs' := [(7500, _), (7501, _)] ++ B (acc2)) (ps_ok (Y.has _) rfl) (show EnvLe _ _ [(0, _), (1, _), (2, _), (26, _), (27, _), (28, _), (29, _), (30, _), (31, _), (32, _), (33, _)] from (.same rfl rfl (.same rfl rfl (.same rfl rfl (.same rfl rfl (.same rfl rfl (.same rfl rfl (.same rfl rfl (.same rfl rfl (.same rfl rfl (.same rfl rfl (.same rfl rfl .nil)))))))))))) (.cons (i := 7500) rfl rfl (.cons (i := 7501) rfl rfl (.tail (tail_ok (own := [(7502, _), (7500, _), (7501, _)]) (own' := [(7500, _), (7501, _)]) rfl (Y.free _) (Y.okb _)))))) ?_
     refine Tx.y Y (own := [(7500, _), (7501, _)]) (pre := acc2) (env' := [(0, _), (1, _), (2, _), (26, _), (27, _), (28, _), (29, _), (30, _), (31, _), (32, _), (33, _)]) x2 rfl rfl rfl trivial rfl rfl rfl (⟨rest2, by rw [hacc2, hx2]; simp⟩) rfl rfl (.cons rfl rfl (.cons rfl rfl (.cons rfl rfl (.cons rfl rfl (.cons rfl rfl (.cons rfl rfl (.cons rfl rfl (.cons rfl rfl (.cons rfl rfl (.cons rfl rfl (.cons rfl rfl .nil))))))))))) ?_ (fun o hX => ?_)
     ·skip
      refine Tx.q rfl trivial (q_not rfl _) ?_
      refine Tx.nil ?_
      refine Run.condF rfl rfl ?_
      refine Run.skip ?_
      refine Run.nil (bq_norm ?_)
      refine Run.reg [.p, .p] ?_
      refine .P rfl (q_add rfl rfl (wrap64_ok (by omega) (by omega))) <| .mv rfl rfl <| .nil ?_
      refine Run.nil (tq_norm ?_)
      exact ⟨⟨pre2 ++ [x2], rest2, acc2 ++ [x2], by simp [hx2], by simp [hacc2]⟩, by simp, Le.mk (ps_ok (Y.has _) rfl) (.same rfl rfl (.same rfl rfl (.same rfl rfl (.same rfl rfl (.cons rfl Sub.intA rfl (.cons rfl Sub.intA rfl .nil)))))) (.eqA rfl rfl (.eqA rfl rfl (.tail (tail_ok (own := [(7500, _), (7501, _)]) (own' := [(7500, _), (7501, _)]) rfl (Y.free _) (Y.okb _)))))⟩
     ·skip
      refine Tx.q rfl trivial (q_not rfl _) ?_
      refine Tx.nil ?_
      refine Run.condT rfl rfl ?_
      refine Run.ret (bq_ret (tq_ret (bq_ret (?_))))
      exact retY_x (.inl rfl) o hX (own_get (own := [(7500, _), (7501, _)]) rfl (Y.freeX _ hX))
  ·simp only [List.length_cons] at hl
   refine Run.seq (Run.reg [.p] ?_)
   refine .P rfl (q_lss rfl rfl) <| .nil ?_
   refine Run.seq ?_
   refine Run.condT rfl (by simp; omega) ?_
   refine Run.skip ?_
   refine Run.seq ?_
   refine Run.block ?_
   refine Run.seq (Run.reg [.p, .p, .w, .w] ?_)
   refine .P rfl (q_indexI Tryz.underlying22 Tryz.sizeOf37 rfl rfl (by omega) (idx_mid encEntry hx rfl)) <| .P rfl (q_loadIA Tryz.isAgg37 Tryz.sizeOf37 rfl rfl) <| .W rfl (q_alloc 7502 Tryz.zeroValue37 (Y.free _ 7502 (by decide) (by decide))) <| .W rfl (q_storeW Tryz.sizeOf37 rfl rfl rfl rfl rfl rfl) <| .nil ?_
   refine Run.seq (Run.reg [.r, .p, .p, .p, .p, .w, .w, .p] ?_)
   refine .R rfl (q_loadW Tryz.isAgg37 Tryz.sizeOf37 rfl rfl rfl) <| .P rfl (q_call Tryz.call102 rfl (reverse_ok _ (has x (by rw [hx]; simp)).1 (has x (by rw [hx]; simp)).2)) <| .mv rfl rfl <| .P rfl (q_extract rfl rfl) <| .P rfl (q_extract rfl rfl) <| .W rfl (q_alloc 7503 Tryz.zeroValue37 (Y.free _ 7503 (by decide) (by decide))) <| .W rfl (q_storeW Tryz.sizeOf37 rfl rfl rfl rfl rfl rfl) <| .ag rfl rfl <| .nil ?_
   refine Run.seq (Run.regT ?_)
   refine Tx.q rfl trivial (q_move rfl _) ?_
   refine Tx.q rfl trivial (q_loadW Tryz.isAgg37 Tryz.sizeOf37 rfl rfl rfl) ?_
   refine Tx.weak (Le.mk (obs' := [(7500, _), (7501, _)] ++ B (acc)) (ps_ok (Y.has _) rfl) (show EnvLe _ _ [(0, _), (1, _), (2, _), (10, _), (11, _), (12, _), (13, _), (14, _), (15, _), (17, _), (18, _), (16, _), (19, _), (20, _), (7, _), (21, _), (22, _)] from (.same rfl rfl (.same rfl rfl (.same rfl rfl (.same rfl rfl (.same rfl rfl (.same rfl rfl (.same rfl rfl (.same rfl rfl (.same rfl rfl (.same rfl rfl (.same rfl rfl (.same rfl rfl (.same rfl rfl (.same rfl rfl (.same rfl rfl (.same rfl rfl (.same rfl rfl .nil)))))))))))))))))) (.cons (i := 7500) rfl rfl (.cons (i := 7501) rfl rfl (.tail (tail_ok (own := [(7503, _), (7502, _), (7500, _), (7501, _)]) (own' := [(7500, _), (7501, _)]) rfl (Y.free _) (Y.okb _)))))) ?_
   refine Tx.y Y (own := [(7500, _), (7501, _)]) (pre := acc) (env' := [(0, _), (1, _), (2, _), (10, _), (11, _), (12, _), (13, _), (14, _), (15, _), (17, _), (18, _), (16, _), (19, _), (20, _), (7, _), (21, _), (22, _)]) (opposite x) rfl rfl rfl trivial rfl rfl rfl (⟨rest.map opposite ++ b, by rw [hacc, hx]; simp⟩) rfl rfl (.cons rfl rfl (.cons rfl rfl (.cons rfl rfl (.cons rfl rfl (.cons rfl rfl (.cons rfl rfl (.cons rfl rfl (.cons rfl rfl (.cons rfl rfl (.cons rfl rfl (.cons rfl rfl (.cons rfl rfl (.cons rfl rfl (.cons rfl rfl (.cons rfl rfl (.cons rfl rfl (.cons rfl rfl .nil))))))))))))))))) ?_ (fun o hX => ?_)
   ·skip
    refine Tx.q rfl trivial (q_not rfl _) ?_
    refine Tx.nil ?_
    refine Run.condF rfl rfl ?_
    refine Run.skip ?_
    refine Run.nil (bq_norm ?_)
    refine Run.reg [.p, .p] ?_
    refine .P rfl (q_add rfl rfl (wrap64_ok (by omega) (by omega))) <| .mv rfl rfl <| .nil ?_
    refine Run.nil (tq_norm ?_)
    exact ⟨⟨pre ++ [x], rest, acc ++ [opposite x], by simp [hx], by simp [hacc]⟩, by simp, Le.mk (ps_ok (Y.has _) rfl) (.same rfl rfl (.same rfl rfl (.same rfl rfl (.same rfl rfl (.cons rfl Sub.intA rfl (.cons rfl Sub.intA rfl .nil)))))) (.eqA rfl rfl (.eqA rfl rfl (.tail (tail_ok (own := [(7500, _), (7501, _)]) (own' := [(7500, _), (7501, _)]) rfl (Y.free _) (Y.okb _)))))⟩
   ·skip
    refine Tx.q rfl trivial (q_not rfl _) ?_
    refine Tx.nil ?_
    refine Run.condT rfl rfl ?_
    refine Run.ret (bq_ret (tq_ret (bq_ret (?_))))
    exact retY_x (.inl rfl) o hX (own_get (own := [(7500, _), (7501, _)]) rfl (Y.freeX _ hX))
theorem changeF_ok (a b : List Entry) : FcO Tryz.prog 46 [sEntries a, sEntries b] [] (.fn (.func 101) [] [.box 7500 0, .box 7501 0]) [(7500, .cells [sEntries a]), (7501, .cells [sEntries b])] := by
 refine FcO.mk' [4] Tryz.func46 rfl Tryz.ntmps46 rfl rfl rfl (fun t w => results_tmp Tryz.results46 t _ w) ?_
 refine Run.seq (Run.reg [.w, .w, .p] ?_)
 refine .W rfl (q_box1 7500 rfl rfl rfl) <| .W rfl (q_box1 7501 rfl rfl rfl) <| .ag rfl rfl <| .nil ?_
 refine Run.seq (Run.reg [.p, .p] ?_)
 refine .P rfl (q_makeFunc (xs := []) (ys := _) rfl rfl) <| .ag rfl rfl <| .nil ?_
 refine Run.ret (?_)
 exact retO1 rfl (by exact Sub.refl _) (.eq rfl (by rfl) rfl (.eq rfl (by rfl) rfl .nil))
end Go.T
namespace Go.T
open Go Go.Proofs
set_option maxRecDepth 20000
structure merge_ok_L0 (a b : List Entry) where
 x : List Entry
 y : List Entry
 ra : List Entry
 rb : List Entry
 hr : (x ++ (mergeE cmpEn ra rb).1, y ++ (mergeE cmpEn ra rb).2) = mergeE cmpEn a b
 ma : ∀ e ∈ ra, smallE e
 mb : ∀ e ∈ rb, smallE e
 hxl : x.length + ra.length ≤ a.length
 hyl : y.length + rb.length ≤ b.length
theorem merge_ok (a b : List Entry) (hal : a.length ≤ 1000) (hbl : b.length ≤ 1000) (ha : ∀ e ∈ a, smallE e) (hb : ∀ e ∈ b, smallE e) : Fc Tryz.prog 100 [sEntries a, sEntries b, .fn (.func 99) [] []] (.tup [sEntries (mergeE cmpEn a b).1, sEntries (mergeE cmpEn a b).2]) := by
 refine Fc.mk' [6, 7] Tryz.func100 rfl Tryz.ntmps100 rfl rfl rfl (fun t w => results_tmp2 Tryz.results100 t _ w) ?_
 refine Run.seq (Run.reg [.p, .p] ?_)
 refine .ag rfl rfl <| .ag rfl rfl <| .nil ?_
 refine Run.seq (Run.reg [.p, .p] ?_)
 refine .ag rfl rfl <| .ag rfl rfl <| .nil ?_
 refine Run.seq ?_
 refine Run.block ?_
 refine Run.loop (ι := merge_ok_L0 a b) (fun sx => [(0, sEntries sx.ra), (1, sEntries sx.rb), (2, .fn (.func 99) [] []), (8, .gs 0 sx.x.length), (9, .gs 1 sx.y.length)]) (fun sx => [(0, .arr 3 (sx.x.map encEntry)), (1, .arr 3 (sx.y.map encEntry))]) (fun sx => sx.ra.length + sx.rb.length) ⟨[], [], a, b, by simp, ha, hb, by simp, by simp⟩ ?_ ?_
 ·exact (Le.own0 0 3).trans <| (Le.own0 1 3).trans <| Le.mk rfl (.same rfl rfl (.same rfl rfl (.same rfl rfl (.cons rfl (Sub.gsNil _) rfl (.cons rfl (Sub.gsNil _) rfl .nil))))) (.arr rfl (by simp) (.arr rfl (by simp) .nil))
 ·rintro ⟨x, y, ra, rb, hr, ma, mb, hxl, hyl⟩
  show Run _ _ _ _ [(0, sEntries ra), (1, sEntries rb), (2, .fn (.func 99) [] []), (8, .gs 0 x.length), (9, .gs 1 y.length)] [(0, .arr 3 (x.map encEntry)), (1, .arr 3 (y.map encEntry))]
  rcases ra with _ | ⟨u, ra⟩ <;> rcases rb with _ | ⟨v, rb⟩
  ·skip
   refine Run.seq (Run.seq (Run.reg [.p, .p, .p, .p, .p, .p, .p, .p] ?_))
   refine .mv rfl rfl <| .P rfl (q_lenI Tryz.underlying22 rfl) <| .P rfl (q_gtr rfl rfl) <| .mv rfl rfl <| .gT rfl (.inl rfl) rfl rfl rfl (fun hg => pk (fun _ => q_move rfl _)) <| .gT rfl (.inl rfl) rfl rfl rfl (fun hg => pk (fun _ => q_lenI Tryz.underlying22 (opT rfl hg) _)) <| .gT rfl (.inl rfl) rfl rfl rfl (fun hg => pk (fun _ => q_gtr (opT rfl hg) rfl _)) <| .P rfl (q_and rfl rfl) <| .nil ?_
   refine Run.condF rfl (by simp) ?_
   refine Run.exit (tq_exit (bq_exit ?_))
   refine Run.seq (Run.reg [.p, .p, .w, .p, .p, .w, .p, .p] ?_)
   refine .mv rfl rfl <| .mv rfl rfl <| .W rfl (q_append 2 Tryz.underlying22 Tryz.underlying22 Tryz.sizeOf37 Tryz.typeInfo37 Tryz.zeroValue37 rfl (bt := 48) rfl rfl rfl rfl (by simp) rfl rfl (by simp at *; omega)) <| .mv rfl rfl <| .mv rfl rfl <| .W rfl (q_append 3 Tryz.underlying22 Tryz.underlying22 Tryz.sizeOf37 Tryz.typeInfo37 Tryz.zeroValue37 rfl (bt := 48) rfl rfl rfl rfl (by simp) rfl rfl (by simp at *; omega)) <| .ag rfl rfl <| .ag rfl rfl <| .nil ?_
   refine Run.weak (Le.freeze 6 2 rfl rfl (by simp)) ?_
   refine Run.weak (Le.freeze 7 3 rfl rfl (by simp)) ?_
   refine Run.ret (?_)
   exact ret2 rfl rfl (Sub.snap (by rw [← hr]; simp [mergeE_nil1, mergeE_nil2])) (Sub.snap (by rw [← hr]; simp [mergeE_nil1, mergeE_nil2]))
  ·skip
   refine Run.seq (Run.seq (Run.reg [.p, .p, .p, .p, .p, .p, .p, .p] ?_))
   refine .mv rfl rfl <| .P rfl (q_lenI Tryz.underlying22 rfl) <| .P rfl (q_gtr rfl rfl) <| .mv rfl rfl <| .gT rfl (.inl rfl) rfl rfl rfl (fun hg => pk (fun _ => q_move rfl _)) <| .gT rfl (.inl rfl) rfl rfl rfl (fun hg => pk (fun _ => q_lenI Tryz.underlying22 (opT rfl hg) _)) <| .gT rfl (.inl rfl) rfl rfl rfl (fun hg => pk (fun _ => q_gtr (opT rfl hg) rfl _)) <| .P rfl (q_and rfl rfl) <| .nil ?_
   refine Run.condF rfl (by simp) ?_
   refine Run.exit (tq_exit (bq_exit ?_))
   refine Run.seq (Run.reg [.p, .p, .w, .p, .p, .w, .p, .p] ?_)
   refine .mv rfl rfl <| .mv rfl rfl <| .W rfl (q_append 2 Tryz.underlying22 Tryz.underlying22 Tryz.sizeOf37 Tryz.typeInfo37 Tryz.zeroValue37 rfl (bt := 48) rfl rfl rfl rfl (by simp) rfl rfl (by simp at *; omega)) <| .mv rfl rfl <| .mv rfl rfl <| .W rfl (q_append 3 Tryz.underlying22 Tryz.underlying22 Tryz.sizeOf37 Tryz.typeInfo37 Tryz.zeroValue37 rfl (bt := 48) rfl rfl rfl rfl (by simp) rfl rfl (by simp at *; omega)) <| .ag rfl rfl <| .ag rfl rfl <| .nil ?_
   refine Run.weak (Le.freeze 6 2 rfl rfl (by simp)) ?_
   refine Run.weak (Le.freeze 7 3 rfl rfl (by simp)) ?_
   refine Run.ret (?_)
   exact ret2 rfl rfl (Sub.snap (by rw [← hr]; simp [mergeE_nil1, mergeE_nil2])) (Sub.snap (by rw [← hr]; simp [mergeE_nil1, mergeE_nil2]))
  ·skip
   refine Run.seq (Run.seq (Run.reg [.p, .p, .p, .p, .p, .p, .p, .p] ?_))
   refine .mv rfl rfl <| .P rfl (q_lenI Tryz.underlying22 rfl) <| .P rfl (q_gtr rfl rfl) <| .mv rfl rfl <| .gT rfl (.inl rfl) rfl rfl rfl (fun hg => pk (fun _ => q_move rfl _)) <| .gT rfl (.inl rfl) rfl rfl rfl (fun hg => pk (fun _ => q_lenI Tryz.underlying22 (opT rfl hg) _)) <| .gT rfl (.inl rfl) rfl rfl rfl (fun hg => pk (fun _ => q_gtr (opT rfl hg) rfl _)) <| .P rfl (q_and rfl rfl) <| .nil ?_
   refine Run.condF rfl (by simp) ?_
   refine Run.exit (tq_exit (bq_exit ?_))
   refine Run.seq (Run.reg [.p, .p, .w, .p, .p, .w, .p, .p] ?_)
   refine .mv rfl rfl <| .mv rfl rfl <| .W rfl (q_append 2 Tryz.underlying22 Tryz.underlying22 Tryz.sizeOf37 Tryz.typeInfo37 Tryz.zeroValue37 rfl (bt := 48) rfl rfl rfl rfl (by simp) rfl rfl (by simp at *; omega)) <| .mv rfl rfl <| .mv rfl rfl <| .W rfl (q_append 3 Tryz.underlying22 Tryz.underlying22 Tryz.sizeOf37 Tryz.typeInfo37 Tryz.zeroValue37 rfl (bt := 48) rfl rfl rfl rfl (by simp) rfl rfl (by simp at *; omega)) <| .ag rfl rfl <| .ag rfl rfl <| .nil ?_
   refine Run.weak (Le.freeze 6 2 rfl rfl (by simp)) ?_
   refine Run.weak (Le.freeze 7 3 rfl rfl (by simp)) ?_
   refine Run.ret (?_)
   exact ret2 rfl rfl (Sub.snap (by rw [← hr]; simp [mergeE_nil1, mergeE_nil2])) (Sub.snap (by rw [← hr]; simp [mergeE_nil1, mergeE_nil2]))
  ·skip
   refine Run.seq (Run.seq (Run.reg [.p, .p, .p, .p, .p, .p, .p, .p] ?_))
   refine .mv rfl rfl <| .P rfl (q_lenI Tryz.underlying22 rfl) <| .P rfl (q_gtr rfl rfl) <| .mv rfl rfl <| .gT rfl (.inl rfl) rfl rfl rfl (fun hg => pk (fun _ => q_move rfl _)) <| .gT rfl (.inl rfl) rfl rfl rfl (fun hg => pk (fun _ => q_lenI Tryz.underlying22 (opT rfl hg) _)) <| .gT rfl (.inl rfl) rfl rfl rfl (fun hg => pk (fun _ => q_gtr (opT rfl hg) rfl _)) <| .P rfl (q_and rfl rfl) <| .nil ?_
   refine Run.condT rfl (by simp <;> omega) ?_
   refine Run.skip ?_
   refine Run.block ?_
   refine Run.seq (Run.regD [.p, .p, .p, .p, .p, .p, .p, .p, .p] Tryz_mixed (by decide +kernel) ?_)
   refine .mv rfl rfl <| .mv rfl rfl <| .P rfl (q_indexI Tryz.underlying22 Tryz.sizeOf37 rfl rfl (by decide) rfl) <| .P rfl (q_loadIA Tryz.isAgg37 Tryz.sizeOf37 rfl rfl) <| .mv rfl rfl <| .P rfl (q_indexI Tryz.underlying22 Tryz.sizeOf37 rfl rfl (by decide) rfl) <| .P rfl (q_loadIA Tryz.isAgg37 Tryz.sizeOf37 rfl rfl) <| .P rfl (q_callF Tryz.call99 rfl rfl (cmpEn_ok _ _ (fun l hl => ((ma u (by simp)).2.2 l hl).2.2) (fun l hl => ((mb v (by simp)).2.2 l hl).2.2))) <| .ag rfl rfl <| .nil ?_
   refine Run.block ?_
   refine Run.seq (Run.reg [.p, .p, .p] ?_)
   refine .mv rfl rfl <| .P rfl (q_lss rfl rfl) <| .ag rfl rfl <| .nil ?_
   refine Run.cond rfl (fun h1 => ?_) (fun h1 => ?_)
   ·have ph1 := h1; try simp only [bs] at ph1
    refine Run.regD [.p, .p, .p, .p, .p, .w, .p, .p, .p, .p] Tryz_mixed (by decide +kernel) ?_
    refine .mv rfl rfl <| .mv rfl rfl <| .P rfl (q_indexI Tryz.underlying22 Tryz.sizeOf37 rfl rfl (by decide) rfl) <| .P rfl (q_loadIA Tryz.isAgg37 Tryz.sizeOf37 rfl rfl) <| .P rfl (q_buildSlice' (n := 1) (rows := [u].map encEntry) Tryz.underlying22 Tryz.sizeOf37 rfl rfl rfl Tryz.zeroValue37 rfl rfl rfl rfl rfl rfl rfl) <| .W rfl (q_append 2 Tryz.underlying22 Tryz.underlying22 Tryz.sizeOf37 Tryz.typeInfo37 Tryz.zeroValue37 rfl (bt := 48) rfl rfl rfl rfl (by simp) rfl rfl (by simp at *; omega)) <| .mv rfl rfl <| .P rfl (q_sliceI Tryz.underlying22 Tryz.sizeOf37 rfl (l := 1) (r := ra.map encEntry) (.inr ⟨_, _, rfl, rfl⟩) (.inl ⟨rfl, rfl⟩) (by simp) (by simp) (List.take_of_length_le (by simp))) <| .ag rfl rfl <| .ag rfl rfl <| .nil ?_
    refine Run.nil (bq_norm ?_)
    refine Run.nil (bq_norm ?_)
    refine Run.nil (tq_norm ?_)
    exact ⟨⟨x ++ [u], y, ra, v :: rb, by rw [← hr, mergeE_step]; (first | rw [if_pos (by omega)] | rw [if_neg (by omega), if_pos (by omega)] | rw [if_neg (by omega), if_neg (by omega)]); simp, fun e he => ma e (by simp_all), fun e he => mb e (by simp_all), by first | omega | (simp only [List.length_append, List.length_cons, List.length_nil] at *; omega), by first | omega | (simp only [List.length_append, List.length_cons, List.length_nil] at *; omega)⟩, by first | (simp; done) | (simp; omega), (Le.mk (obs' := [(2, _), (1, _)]) rfl (show EnvLe _ _ [(0, _), (1, _), (2, _), (8, _), (9, _)] from (.same rfl rfl (.same rfl rfl (.same rfl rfl (.same rfl rfl (.same rfl rfl .nil)))))) (.cons (i := 2) rfl rfl (.cons (i := 1) rfl rfl .nil))).trans <| (Le.ren 8 2 0 rfl rfl (by simp) rfl).trans <| Le.mk rfl (.same rfl rfl (.same rfl rfl (.same rfl rfl (.cons rfl (Sub.gs (by simp)) rfl (.cons rfl (Sub.gs (by simp)) rfl .nil))))) (.arr rfl (by simp) (.arr rfl (by simp) .nil))⟩
   ·have ph1 := h1; try simp only [bs] at ph1
    refine Run.seq (Run.reg [.p, .p, .p] ?_)
    refine .mv rfl rfl <| .P rfl (q_gtr rfl rfl) <| .ag rfl rfl <| .nil ?_
    refine Run.cond rfl (fun h2 => ?_) (fun h2 => ?_)
    ·have ph2 := h2; try simp only [bs] at ph2
     refine Run.regD [.p, .p, .p, .p, .p, .w, .p, .p, .p, .p] Tryz_mixed (by decide +kernel) ?_
     refine .mv rfl rfl <| .mv rfl rfl <| .P rfl (q_indexI Tryz.underlying22 Tryz.sizeOf37 rfl rfl (by decide) rfl) <| .P rfl (q_loadIA Tryz.isAgg37 Tryz.sizeOf37 rfl rfl) <| .P rfl (q_buildSlice' (n := 1) (rows := [v].map encEntry) Tryz.underlying22 Tryz.sizeOf37 rfl rfl rfl Tryz.zeroValue37 rfl rfl rfl rfl rfl rfl rfl) <| .W rfl (q_append 2 Tryz.underlying22 Tryz.underlying22 Tryz.sizeOf37 Tryz.typeInfo37 Tryz.zeroValue37 rfl (bt := 48) rfl rfl rfl rfl (by simp) rfl rfl (by simp at *; omega)) <| .mv rfl rfl <| .P rfl (q_sliceI Tryz.underlying22 Tryz.sizeOf37 rfl (l := 1) (r := rb.map encEntry) (.inr ⟨_, _, rfl, rfl⟩) (.inl ⟨rfl, rfl⟩) (by simp) (by simp) (List.take_of_length_le (by simp))) <| .ag rfl rfl <| .ag rfl rfl <| .nil ?_
     refine Run.nil (bq_norm ?_)
     refine Run.nil (bq_norm ?_)
     refine Run.nil (tq_norm ?_)
     exact ⟨⟨x, y ++ [v], u :: ra, rb, by rw [← hr, mergeE_step]; (first | rw [if_pos (by omega)] | rw [if_neg (by omega), if_pos (by omega)] | rw [if_neg (by omega), if_neg (by omega)]); simp, fun e he => ma e (by simp_all), fun e he => mb e (by simp_all), by first | omega | (simp only [List.length_append, List.length_cons, List.length_nil] at *; omega), by first | omega | (simp only [List.length_append, List.length_cons, List.length_nil] at *; omega)⟩, by first | (simp; done) | (simp; omega), (Le.mk (obs' := [(0, _), (2, _)]) rfl (show EnvLe _ _ [(0, _), (1, _), (2, _), (8, _), (9, _)] from (.same rfl rfl (.same rfl rfl (.same rfl rfl (.same rfl rfl (.same rfl rfl .nil)))))) (.cons (i := 0) rfl rfl (.cons (i := 2) rfl rfl .nil))).trans <| (Le.ren 9 2 1 rfl rfl (by simp) rfl).trans <| Le.mk rfl (.same rfl rfl (.same rfl rfl (.same rfl rfl (.cons rfl (Sub.gs (by simp)) rfl (.cons rfl (Sub.gs (by simp)) rfl .nil))))) (.arr rfl (by simp) (.arr rfl (by simp) .nil))⟩
    ·have ph2 := h2; try simp only [bs] at ph2
     refine Run.regD [.p, .p, .p, .p, .p, .p] Tryz_mixed (by decide +kernel) ?_
     refine .mv rfl rfl <| .P rfl (q_sliceI Tryz.underlying22 Tryz.sizeOf37 rfl (l := 1) (r := ra.map encEntry) (.inr ⟨_, _, rfl, rfl⟩) (.inl ⟨rfl, rfl⟩) (by simp) (by simp) (List.take_of_length_le (by simp))) <| .mv rfl rfl <| .P rfl (q_sliceI Tryz.underlying22 Tryz.sizeOf37 rfl (l := 1) (r := rb.map encEntry) (.inr ⟨_, _, rfl, rfl⟩) (.inl ⟨rfl, rfl⟩) (by simp) (by simp) (List.take_of_length_le (by simp))) <| .ag rfl rfl <| .ag rfl rfl <| .nil ?_
     refine Run.nil (bq_norm ?_)
     refine Run.nil (bq_norm ?_)
     refine Run.nil (tq_norm ?_)
     exact ⟨⟨x, y, ra, rb, by rw [← hr, mergeE_step]; (first | rw [if_pos (by omega)] | rw [if_neg (by omega), if_pos (by omega)] | rw [if_neg (by omega), if_neg (by omega)]), fun e he => ma e (by simp_all), fun e he => mb e (by simp_all), by first | omega | (simp only [List.length_append, List.length_cons, List.length_nil] at *; omega), by first | omega | (simp only [List.length_append, List.length_cons, List.length_nil] at *; omega)⟩, by first | (simp; done) | (simp; omega), Le.mk rfl (.same rfl rfl (.same rfl rfl (.same rfl rfl (.cons rfl (Sub.gs (by simp)) rfl (.cons rfl (Sub.gs (by simp)) rfl .nil))))) (.arr rfl (by simp) (.arr rfl (by simp) .nil))⟩
end Go.T
namespace Go.T
open Go Go.Proofs
set_option maxRecDepth 20000
theorem clone7600_ok (l : List Entry) (hs : l.length ≤ 1000) : FcO Tryz.prog 97 [sEntries l] [] (.gs 7600 l.length) [(7600, .arr 3 (l.map encEntry))] := by
 refine FcO.mk' [2] Tryz.func97 rfl Tryz.ntmps97 rfl rfl rfl (fun t w => results_tmp Tryz.results97 t _ w) ?_
 refine Run.seq (Run.reg [.p] ?_)
 refine .ag rfl rfl <| .nil ?_
 refine Run.seq (Run.seq (Run.regT ?_))
 refine Tx.q rfl trivial (q_move rfl _) ?_
 refine Tx.n rfl trivial (q_eqlNilN Tryz.underlying22 rfl rfl _) (fun nb hnb => ?_)
 dsimp only
 refine Tx.nil ?_
 refine Run.cond rfl (fun h1 => ?_) (fun h1 => ?_)
 ·have ph1 := h1; try simp only [bs] at ph1
  refine Run.seq (Run.reg [.p] ?_)
  refine .ag rfl rfl <| .nil ?_
  have hl0 : l = [] := by
   by_cases hc : l = []
   ·exact hc
   ·have := hnb (by simpa using hc); simp_all
  subst hl0
  refine Run.weak (Le.own0 7600 3) ?_
  refine Run.ret (?_)
  exact retO1 rfl (by exact Sub.gsNil _) (.eq rfl (by first | rfl | simp) rfl .nil)
 ·have ph1 := h1; try simp only [bs] at ph1
  refine Run.skip ?_
  refine Run.seq (Run.reg [.p, .p, .w, .p] ?_)
  refine .P rfl (q_buildSlice0 Tryz.underlying22 Tryz.sizeOf37) <| .mv rfl rfl <| .W rfl (QStep.own0 7599 3 (t := 5) rfl (Sub.gsEmpty _ _) (q_append 7600 Tryz.underlying22 Tryz.underlying22 Tryz.sizeOf37 Tryz.typeInfo37 Tryz.zeroValue37 rfl (bt := 48) rfl rfl rfl rfl rfl rfl rfl (by simp; omega))) <| .ag rfl rfl <| .nil ?_
  refine Run.ret (?_)
  exact retO1 rfl (by exact Sub.gs (by simp)) (.eq rfl (by first | rfl | simp) rfl .nil)
theorem clone7700_ok (l : List Entry) (hs : l.length ≤ 1000) : FcO Tryz.prog 97 [sEntries l] [] (.gs 7700 l.length) [(7700, .arr 3 (l.map encEntry))] := by
 refine FcO.mk' [2] Tryz.func97 rfl Tryz.ntmps97 rfl rfl rfl (fun t w => results_tmp Tryz.results97 t _ w) ?_
 refine Run.seq (Run.reg [.p] ?_)
 refine .ag rfl rfl <| .nil ?_
 refine Run.seq (Run.seq (Run.regT ?_))
 refine Tx.q rfl trivial (q_move rfl _) ?_
 refine Tx.n rfl trivial (q_eqlNilN Tryz.underlying22 rfl rfl _) (fun nb hnb => ?_)
 dsimp only
 refine Tx.nil ?_
 refine Run.cond rfl (fun h1 => ?_) (fun h1 => ?_)
 ·have ph1 := h1; try simp only [bs] at ph1
  refine Run.seq (Run.reg [.p] ?_)
  refine .ag rfl rfl <| .nil ?_
  have hl0 : l = [] := by
   by_cases hc : l = []
   ·exact hc
   ·have := hnb (by simpa using hc); simp_all
  subst hl0
  refine Run.weak (Le.own0 7700 3) ?_
  refine Run.ret (?_)
  exact retO1 rfl (by exact Sub.gsNil _) (.eq rfl (by first | rfl | simp) rfl .nil)
 ·have ph1 := h1; try simp only [bs] at ph1
  refine Run.skip ?_
  refine Run.seq (Run.reg [.p, .p, .w, .p] ?_)
  refine .P rfl (q_buildSlice0 Tryz.underlying22 Tryz.sizeOf37) <| .mv rfl rfl <| .W rfl (QStep.own0 7699 3 (t := 5) rfl (Sub.gsEmpty _ _) (q_append 7700 Tryz.underlying22 Tryz.underlying22 Tryz.sizeOf37 Tryz.typeInfo37 Tryz.zeroValue37 rfl (bt := 48) rfl rfl rfl rfl rfl rfl rfl (by simp; omega))) <| .ag rfl rfl <| .nil ?_
  refine Run.ret (?_)
  exact retO1 rfl (by exact Sub.gs (by simp)) (.eq rfl (by first | rfl | simp) rfl .nil)
end Go.T
