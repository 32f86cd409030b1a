/-
  Contracts of the functions that the statement reaches, and the logic in which they are proved (no condition): parts W2, W3, W4, W5, W6, W7, W8, W9, W10, W11, W12, W13, W14.
-/
import Derived.Test.YtlhemheagekhaaaGreatDoorA04
import Derived.Test.YtlhemheagekhaaaGreatDoorProg
import Derived.KernelRfl
set_option linter.all false
namespace Go.T
open Go Go.Proofs
set_option maxRecDepth 20000
theorem Tryz_mixed : Tryz.prog.follows .mixedOrders = true := by kernel_rfl
theorem long01_ok (s : Str) : Fc Tryz.prog 95 [.str s] (.b (decide (13 < s.length))) := by
 refine Fc.mk' [2] Tryz.func95 rfl Tryz.ntmps95 rfl rfl rfl (fun t w => results_tmp Tryz.results95 t _ w) ?_
 refine Run.seq (Run.reg [.p] ?_)
 refine .ag rfl rfl <| .nil ?_
 refine Run.seq (Run.reg [.p, .p, .p, .p] ?_)
 refine .mv rfl rfl <| .P rfl (q_lenS Tryz.underlying54 rfl) <| .P rfl (q_gtr rfl rfl) <| .ag rfl rfl <| .nil ?_
 refine Run.ret (?_)
 exact ret1 rfl (Sub.bool (by grind))
structure greatOne_ok_L0 (e : Entry) where
 pre : List Line
 rest : List Line
 hx : e.lines = pre ++ rest
 hp : pre.any greatLine = false
 hs : (decide (60 < e.cause.length) || (decide (8 < e.lines.length) && decide (e.lines.length ≤ 64)) || decide (66 < e.lines.length)) = false
theorem greatOne_ok (e : Entry) : Fc Tryz.prog 41 [.agg (encEntry e)] (.b (greatOne e)) := by
 refine Fc.mk' [2] Tryz.func41 rfl Tryz.ntmps41 rfl rfl rfl (fun t w => results_tmp Tryz.results41 t _ w) ?_
 refine Run.bAgg 0 2 rfl rfl (fun hb => ?_)
 simp only [List.length_map, big] at hb
 refine Run.seq (Run.reg [.w, .p] ?_)
 refine .W rfl (q_boxA 0 rfl rfl) <| .ag rfl rfl <| .nil ?_
 refine Run.seq (Run.reg [.p, .r, .p, .p] ?_)
 refine .P rfl (q_fieldB (n := 0) 35 2 Tryz.underlying37 Tryz.sizeOf35 rfl rfl) <| .R rfl (q_load1 Tryz.isAgg35 rfl rfl rfl) <| .P rfl (q_lenI Tryz.underlying35 rfl) <| .ag rfl rfl <| .nil ?_
 refine Run.seq (Run.seq (Run.reg [.p, .r, .p, .p, .p, .p, .p, .p, .p, .p, .p, .p, .p, .p, .p, .p] ?_))
 refine .P rfl (q_fieldB (n := 0) 9 1 Tryz.underlying37 Tryz.sizeOf9 rfl rfl) <| .R rfl (q_load1 Tryz.isAgg9 rfl rfl rfl) <| .P rfl (q_lenS Tryz.underlying9 rfl) <| .P rfl (q_gtr rfl rfl) <| .mv rfl rfl <| .gF rfl (.inl rfl) rfl rfl rfl (fun hg => pk (fun _ => q_move rfl _)) <| .gF rfl (.inl rfl) rfl rfl rfl (fun hg => pk (fun _ => q_gtr (opT rfl (nt hg)) rfl _)) <| .gF rfl (.inl rfl) rfl rfl rfl (fun hg => pk (fun _ => q_move (opT rfl (nt hg)) _)) ?_
 refine .nT rfl (.inl rfl) rfl rfl rfl (fun hc hg => pk (fun _ => q_move rfl _)) ?_
 refine .nT rfl (.inl rfl) rfl rfl rfl (fun hc hg => pk (fun _ => q_leq (opT rfl (bT hc hg)) rfl _)) ?_
 refine .gF rfl (.inl rfl) rfl rfl rfl (fun hg => pk (fun _ => q_and (opT rfl (nt hg)) (opA rfl (nt hg)) _)) <| .P rfl (q_or rfl rfl) <| .mv rfl rfl <| .gF rfl (.inl rfl) rfl rfl rfl (fun hg => pk (fun _ => q_move rfl _)) <| .gF rfl (.inl rfl) rfl rfl rfl (fun hg => pk (fun _ => q_gtr (opT rfl (nt hg)) rfl _)) <| .P rfl (q_or rfl rfl) <| .nil ?_
 refine Run.cond rfl (fun h1 => ?_) (fun h1 => ?_)
 ·have ph1 := h1; try simp only [bs] at ph1
  refine Run.seq (Run.reg [.p] ?_)
  refine .ag rfl rfl <| .nil ?_
  refine Run.ret (?_)
  exact ret1 rfl (Sub.bool (by first | grind [greatOne, greatLine] | (simp only [greatOne, hx, List.any_append, List.any_cons]; grind [greatLine])))
 ·have ph1 := h1; try simp only [bs] at ph1
  refine Run.skip ?_
  refine Run.seq (Run.seq (Run.reg [.p] ?_))
  refine .ag rfl rfl <| .nil ?_
  refine Run.block ?_
  refine Run.loop (ι := greatOne_ok_L0 e) (fun sx => [(1, .box 0 0), (3, .i e.lines.length), (4, .i sx.pre.length)]) (fun sx => [(0, .cells (encEntry e))]) (fun sx => sx.rest.length) ⟨[], e.lines, rfl, rfl, by grind⟩ ?_ ?_
  ·exact Le.mk rfl (.same rfl rfl (.cons rfl Sub.intA rfl (.cons rfl Sub.intA rfl .nil))) (.cons rfl rfl .nil)
  ·rintro ⟨pre, rest, hx, hp, hs⟩
   show Run _ _ _ _ [(1, .box 0 0), (3, .i e.lines.length), (4, .i pre.length)] [(0, .cells (encEntry e))]
   have hl := congrArg List.length hx
   simp only [List.length_append] at hl
   rcases rest with _ | ⟨x, rest⟩
   ·skip
    refine Run.seq (Run.seq (Run.reg [.p, .p, .p] ?_))
    refine .mv rfl rfl <| .mv rfl rfl <| .P rfl (q_lss rfl rfl) <| .nil ?_
    refine Run.condF rfl (by simp at hl ⊢; omega) ?_
    refine Run.exit (tq_exit (bq_exit ?_))
    refine Run.seq (Run.reg [.p] ?_)
    refine .ag rfl rfl <| .nil ?_
    refine Run.ret (?_)
    exact ret1 rfl (Sub.bool (by first | grind [greatOne, greatLine] | (simp only [greatOne, hx, List.any_append, List.any_cons]; grind [greatLine])))
   ·simp only [List.length_cons] at hl
    refine Run.seq (Run.seq (Run.reg [.p, .p, .p] ?_))
    refine .mv rfl rfl <| .mv rfl rfl <| .P rfl (q_lss rfl rfl) <| .nil ?_
    refine Run.condT rfl (by simp; omega) ?_
    refine Run.skip ?_
    refine Run.seq ?_
    refine Run.block ?_
    refine Run.seq (Run.reg [.p, .r, .p, .p, .p, .p, .p, .p, .p, .p, .r, .p, .p, .p, .p, .p, .p, .p, .p, .p, .r, .p, .p, .p, .p, .p, .p] ?_)
    refine .P rfl (q_fieldB (n := 0) 35 2 Tryz.underlying37 Tryz.sizeOf35 rfl rfl) <| .R rfl (q_load1 Tryz.isAgg35 rfl rfl rfl) <| .mv rfl rfl <| .P rfl (q_indexI Tryz.underlying35 Tryz.sizeOf92 rfl rfl (by omega) (idx_mid encLine hx rfl)) <| .P rfl (q_fieldI (n := 0) 9 0 Tryz.underlying92 Tryz.sizeOf9 rfl rfl rfl) <| .P rfl (q_loadI Tryz.isAgg9 rfl) <| .P rfl (q_lenS Tryz.underlying9 rfl) <| .P rfl (q_gtr rfl rfl) <| .mv rfl rfl <| .gF rfl (.inl rfl) rfl rfl rfl (fun hg => pk (fun _ => q_fieldB (n := 0) 35 2 Tryz.underlying37 Tryz.sizeOf35 rfl rfl _)) <| .gF rfl (.inr rfl) rfl rfl rfl (fun hg => rk (q_load1 Tryz.isAgg35 (opT rfl (nt hg)) rfl rfl)) <| .gF rfl (.inl rfl) rfl rfl rfl (fun hg => pk (fun _ => q_move rfl _)) <| .gF rfl (.inl rfl) rfl rfl rfl (fun hg => pk (fun _ => q_indexI Tryz.underlying35 Tryz.sizeOf92 (opT rfl (nt hg)) (opT rfl (nt hg)) (by omega) (idx_mid encLine hx rfl) _)) <| .gF rfl (.inl rfl) rfl rfl rfl (fun hg => pk (fun _ => q_fieldI (n := 0) 9 1 Tryz.underlying92 Tryz.sizeOf9 rfl (opT rfl (nt hg)) rfl _)) <| .gF rfl (.inl rfl) rfl rfl rfl (fun hg => pk (fun _ => q_loadI Tryz.isAgg9 (opT rfl (nt hg)) _)) <| .gF rfl (.inl rfl) rfl rfl rfl (fun hg => pk (fun _ => q_lenS Tryz.underlying9 (opT rfl (nt hg)) _)) <| .gF rfl (.inl rfl) rfl rfl rfl (fun hg => pk (fun _ => q_gtr (opT rfl (nt hg)) rfl _)) <| .P rfl (q_or rfl rfl) <| .mv rfl rfl <| .gF rfl (.inl rfl) rfl rfl rfl (fun hg => pk (fun _ => q_fieldB (n := 0) 35 2 Tryz.underlying37 Tryz.sizeOf35 rfl rfl _)) ?_
    refine .gF rfl (.inr rfl) rfl rfl rfl (fun hg => rk (q_load1 Tryz.isAgg35 (opT rfl (nt hg)) rfl rfl)) <| .gF rfl (.inl rfl) rfl rfl rfl (fun hg => pk (fun _ => q_move rfl _)) <| .gF rfl (.inl rfl) rfl rfl rfl (fun hg => pk (fun _ => q_indexI Tryz.underlying35 Tryz.sizeOf92 (opT rfl (nt hg)) (opT rfl (nt hg)) (by omega) (idx_mid encLine hx rfl) _)) <| .gF rfl (.inl rfl) rfl rfl rfl (fun hg => pk (fun _ => q_fieldI (n := 0) 54 2 Tryz.underlying92 Tryz.sizeOf54 rfl (opT rfl (nt hg)) rfl _)) <| .gF rfl (.inl rfl) rfl rfl rfl (fun hg => pk (fun _ => q_loadI Tryz.isAgg54 (opT rfl (nt hg)) _)) <| .gF rfl (.inl rfl) rfl rfl rfl (fun hg => pk (fun _ => q_call Tryz.call95 (opsC (opT rfl (nt hg)) (rfl)) (long01_ok _) _)) <| .P rfl (q_or rfl rfl) <| .nil ?_
    refine Run.cond rfl (fun h2 => ?_) (fun h2 => ?_)
    ·have ph2 := h2; try simp only [bs] at ph2
     refine Run.seq (Run.reg [.p] ?_)
     refine .ag rfl rfl <| .nil ?_
     refine Run.ret (bq_ret (tq_ret (bq_ret (?_))))
     exact ret1 rfl (Sub.bool (by first | grind [greatOne, greatLine] | (simp only [greatOne, hx, List.any_append, List.any_cons]; grind [greatLine])))
    ·have ph2 := h2; try simp only [bs] at ph2
     refine Run.skip ?_
     refine Run.nil (bq_norm ?_)
     refine Run.reg [.p, .p, .p] ?_
     refine .mv rfl rfl <| .P rfl (q_add rfl rfl (wrap64_ok (by omega) (by omega))) <| .ag rfl rfl <| .nil ?_
     refine Run.nil (tq_norm ?_)
     exact ⟨⟨pre ++ [x], rest, by simp [hx], by grind [greatLine], hs⟩, by simp, Le.mk rfl (.same rfl rfl (.cons rfl Sub.intA rfl (.cons rfl Sub.intA rfl .nil))) (.cons rfl rfl .nil)⟩
structure cause35_ok_L0 (s : Str) where
 pre : List UInt8
 rest : List UInt8
 hx : s = pre ++ rest
 hp : pre.all causeChar = true
 hs : 1 ≤ s.length ∧ s.length ≤ 48
theorem cause35_ok (s : Str) : Fc Tryz.prog 158 [.str s] (.b (isCause s)) := by
 refine Fc.mk' [2] Tryz.func158 rfl Tryz.ntmps158 rfl rfl rfl (fun t w => results_tmp Tryz.results158 t _ w) ?_
 refine Run.bStr 0 rfl (fun hb => ?_)
 simp only [big] at hb
 refine Run.seq (Run.reg [.p] ?_)
 refine .ag rfl rfl <| .nil ?_
 refine Run.seq (Run.seq (Run.reg [.p, .p, .p, .p, .p, .p, .p, .p] ?_))
 refine .mv rfl rfl <| .P rfl (q_lenS Tryz.underlying9 rfl) <| .P rfl (q_lss rfl rfl) <| .mv rfl rfl <| .gF rfl (.inl rfl) rfl rfl rfl (fun hg => pk (fun _ => q_move rfl _)) <| .gF rfl (.inl rfl) rfl rfl rfl (fun hg => pk (fun _ => q_lenS Tryz.underlying9 (opT rfl (nt hg)) _)) <| .gF rfl (.inl rfl) rfl rfl rfl (fun hg => pk (fun _ => q_gtr (opT rfl (nt hg)) rfl _)) <| .P rfl (q_or rfl rfl) <| .nil ?_
 refine Run.cond rfl (fun h1 => ?_) (fun h1 => ?_)
 ·have ph1 := h1; try simp only [bs] at ph1
  refine Run.seq (Run.reg [.p] ?_)
  refine .ag rfl rfl <| .nil ?_
  refine Run.ret (?_)
  exact ret1 rfl (Sub.bool (by grind [isCause, causeChar]))
 ·have ph1 := h1; try simp only [bs] at ph1
  refine Run.skip ?_
  refine Run.seq (Run.seq (Run.reg [.p] ?_))
  refine .ag rfl rfl <| .nil ?_
  refine Run.block ?_
  refine Run.loop (ι := cause35_ok_L0 s) (fun sx => [(0, .str s), (3, .i sx.pre.length)]) (fun sx => []) (fun sx => sx.rest.length) ⟨[], s, rfl, rfl, by grind⟩ ?_ ?_
  ·exact Le.mk rfl (.cons rfl Sub.strA rfl (.cons rfl Sub.intA rfl .nil)) .nil
  ·rintro ⟨pre, rest, hx, hp, hs⟩
   show Run _ _ _ _ [(0, .str s), (3, .i pre.length)] []
   have hl := congrArg List.length hx
   simp only [List.length_append] at hl
   rcases rest with _ | ⟨x, rest⟩
   ·skip
    refine Run.seq (Run.seq (Run.reg [.p, .p, .p, .p] ?_))
    refine .mv rfl rfl <| .mv rfl rfl <| .P rfl (q_lenS Tryz.underlying9 rfl) <| .P rfl (q_lss rfl rfl) <| .nil ?_
    refine Run.condF rfl (by simp at hl ⊢; omega) ?_
    refine Run.exit (tq_exit (bq_exit ?_))
    refine Run.seq (Run.reg [.p] ?_)
    refine .ag rfl rfl <| .nil ?_
    refine Run.ret (?_)
    exact ret1 rfl (Sub.bool (by grind [isCause, causeChar]))
   ·simp only [List.length_cons] at hl
    refine Run.seq (Run.seq (Run.reg [.p, .p, .p, .p] ?_))
    refine .mv rfl rfl <| .mv rfl rfl <| .P rfl (q_lenS Tryz.underlying9 rfl) <| .P rfl (q_lss rfl rfl) <| .nil ?_
    refine Run.condT rfl (by simp; omega) ?_
    refine Run.skip ?_
    refine Run.seq ?_
    refine Run.block ?_
    refine Run.seq (Run.reg [.p, .p, .p, .p] ?_)
    refine .mv rfl rfl <| .mv rfl rfl <| .P rfl (q_indexS Tryz.underlying9 rfl rfl (by omega) (idx_midS hx rfl)) <| .ag rfl rfl <| .nil ?_
    refine Run.seq (Run.reg [.p, .p, .p, .p, .p, .p, .p, .p, .p, .p, .p, .p, .p, .p, .p, .p, .p, .p, .p, .p, .p, .p, .p, .p, .p, .p, .p] ?_)
    refine .mv rfl rfl <| .P rfl (q_geq rfl rfl) <| .mv rfl rfl <| .gT rfl (.inl rfl) rfl rfl rfl (fun hg => pk (fun _ => q_move rfl _)) <| .gT rfl (.inl rfl) rfl rfl rfl (fun hg => pk (fun _ => q_leq (opT rfl hg) rfl _)) <| .P rfl (q_and rfl rfl) <| .mv rfl rfl <| .gF rfl (.inl rfl) rfl rfl rfl (fun hg => pk (fun _ => q_move rfl _)) <| .gF rfl (.inl rfl) rfl rfl rfl (fun hg => pk (fun _ => q_geq (opT rfl (nt hg)) rfl _)) <| .gF rfl (.inl rfl) rfl rfl rfl (fun hg => pk (fun _ => q_move (opT rfl (nt hg)) _)) ?_
    refine .nT rfl (.inl rfl) rfl rfl rfl (fun hc hg => pk (fun _ => q_move rfl _)) ?_
    refine .nT rfl (.inl rfl) rfl rfl rfl (fun hc hg => pk (fun _ => q_leq (opT rfl (bT hc hg)) rfl _)) ?_
    refine .gF rfl (.inl rfl) rfl rfl rfl (fun hg => pk (fun _ => q_and (opT rfl (nt hg)) (opA rfl (nt hg)) _)) <| .P rfl (q_or rfl rfl) <| .mv rfl rfl <| .gF rfl (.inl rfl) rfl rfl rfl (fun hg => pk (fun _ => q_move rfl _)) <| .gF rfl (.inl rfl) rfl rfl rfl (fun hg => pk (fun _ => q_eql (opT rfl (nt hg)) rfl _)) <| .P rfl (q_or rfl rfl) <| .mv rfl rfl <| .gF rfl (.inl rfl) rfl rfl rfl (fun hg => pk (fun _ => q_move rfl _)) <| .gF rfl (.inl rfl) rfl rfl rfl (fun hg => pk (fun _ => q_eql (opT rfl (nt hg)) rfl _)) <| .P rfl (q_or rfl rfl) <| .mv rfl rfl <| .gF rfl (.inl rfl) rfl rfl rfl (fun hg => pk (fun _ => q_move rfl _)) <| .gF rfl (.inl rfl) rfl rfl rfl (fun hg => pk (fun _ => q_eql (opT rfl (nt hg)) rfl _)) <| .P rfl (q_or rfl rfl) <| .P rfl (q_not rfl) <| .nil ?_
    refine Run.cond rfl (fun h2 => ?_) (fun h2 => ?_)
    ·have ph2 := h2; try simp only [bs] at ph2
     refine Run.seq (Run.reg [.p] ?_)
     refine .ag rfl rfl <| .nil ?_
     refine Run.ret (bq_ret (tq_ret (bq_ret (?_))))
     exact ret1 rfl (Sub.bool (by grind [isCause, causeChar]))
    ·have ph2 := h2; try simp only [bs] at ph2
     refine Run.skip ?_
     refine Run.nil (bq_norm ?_)
     refine Run.reg [.p, .p, .p] ?_
     refine .mv rfl rfl <| .P rfl (q_add rfl rfl (wrap64_ok (by omega) (by omega))) <| .ag rfl rfl <| .nil ?_
     refine Run.nil (tq_norm ?_)
     exact ⟨⟨pre ++ [x], rest, by simp [hx], by grind [causeChar], hs⟩, by simp, Le.mk rfl (.cons rfl Sub.strA rfl (.cons rfl Sub.intA rfl .nil)) .nil⟩
structure name10_ok_L0 (s : Str) where
 pre : List UInt8
 rest : List UInt8
 hx : s = pre ++ rest
 hp : pre.all nameChar = true
theorem name10_ok (s : Str) : Fc Tryz.prog 50 [.str s] (.b (isName s)) := by
 refine Fc.mk' [2] Tryz.func50 rfl Tryz.ntmps50 rfl rfl rfl (fun t w => results_tmp Tryz.results50 t _ w) ?_
 refine Run.bStr 0 rfl (fun hb => ?_)
 simp only [big] at hb
 refine Run.seq (Run.reg [.p] ?_)
 refine .ag rfl rfl <| .nil ?_
 refine Run.seq (Run.seq (Run.reg [.p] ?_))
 refine .ag rfl rfl <| .nil ?_
 refine Run.block ?_
 refine Run.loop (ι := name10_ok_L0 s) (fun sx => [(0, .str s), (3, .i sx.pre.length)]) (fun sx => []) (fun sx => sx.rest.length) ⟨[], s, rfl, rfl⟩ ?_ ?_
 ·exact Le.mk rfl (.cons rfl Sub.strA rfl (.cons rfl Sub.intA rfl .nil)) .nil
 ·rintro ⟨pre, rest, hx, hp⟩
  show Run _ _ _ _ [(0, .str s), (3, .i pre.length)] []
  have hl := congrArg List.length hx
  simp only [List.length_append] at hl
  rcases rest with _ | ⟨x, rest⟩
  ·skip
   refine Run.seq (Run.seq (Run.reg [.p, .p, .p, .p] ?_))
   refine .mv rfl rfl <| .mv rfl rfl <| .P rfl (q_lenS Tryz.underlying9 rfl) <| .P rfl (q_lss rfl rfl) <| .nil ?_
   refine Run.condF rfl (by simp at hl ⊢; omega) ?_
   refine Run.exit (tq_exit (bq_exit ?_))
   refine Run.seq (Run.reg [.p, .p, .p, .p, .p, .p, .p, .p, .p] ?_)
   refine .mv rfl rfl <| .P rfl (q_lenS Tryz.underlying9 rfl) <| .P rfl (q_geq rfl rfl) <| .mv rfl rfl <| .gT rfl (.inl rfl) rfl rfl rfl (fun hg => pk (fun _ => q_move rfl _)) <| .gT rfl (.inl rfl) rfl rfl rfl (fun hg => pk (fun _ => q_lenS Tryz.underlying9 (opT rfl hg) _)) <| .gT rfl (.inl rfl) rfl rfl rfl (fun hg => pk (fun _ => q_leq (opT rfl hg) rfl _)) <| .P rfl (q_and rfl rfl) <| .ag rfl rfl <| .nil ?_
   refine Run.ret (?_)
   exact ret1 rfl (Sub.bool (by grind [isName, nameChar]))
  ·simp only [List.length_cons] at hl
   refine Run.seq (Run.seq (Run.reg [.p, .p, .p, .p] ?_))
   refine .mv rfl rfl <| .mv rfl rfl <| .P rfl (q_lenS Tryz.underlying9 rfl) <| .P rfl (q_lss rfl rfl) <| .nil ?_
   refine Run.condT rfl (by simp; omega) ?_
   refine Run.skip ?_
   refine Run.seq ?_
   refine Run.block ?_
   refine Run.seq (Run.reg [.p, .p, .p, .p] ?_)
   refine .mv rfl rfl <| .mv rfl rfl <| .P rfl (q_indexS Tryz.underlying9 rfl rfl (by omega) (idx_midS hx rfl)) <| .ag rfl rfl <| .nil ?_
   refine Run.seq (Run.reg [.p, .p, .p, .p, .p, .p, .p, .p, .p, .p, .p, .p, .p, .p, .p, .p, .p, .p] ?_)
   refine .mv rfl rfl <| .P rfl (q_lss rfl rfl) <| .mv rfl rfl <| .gF rfl (.inl rfl) rfl rfl rfl (fun hg => pk (fun _ => q_move rfl _)) <| .gF rfl (.inl rfl) rfl rfl rfl (fun hg => pk (fun _ => q_gtr (opT rfl (nt hg)) rfl _)) <| .P rfl (q_or rfl rfl) <| .mv rfl rfl <| .gT rfl (.inl rfl) rfl rfl rfl (fun hg => pk (fun _ => q_move rfl _)) <| .gT rfl (.inl rfl) rfl rfl rfl (fun hg => pk (fun _ => q_lss (opT rfl hg) rfl _)) <| .gT rfl (.inl rfl) rfl rfl rfl (fun hg => pk (fun _ => q_move (opT rfl hg) _)) ?_
   refine .nF rfl (.inl rfl) rfl rfl rfl (fun hc hg => pk (fun _ => q_move rfl _)) ?_
   refine .nF rfl (.inl rfl) rfl rfl rfl (fun hc hg => pk (fun _ => q_gtr (opT rfl (bF hc hg)) rfl _)) ?_
   refine .gT rfl (.inl rfl) rfl rfl rfl (fun hg => pk (fun _ => q_or (opT rfl hg) (opA rfl hg) _)) <| .P rfl (q_and rfl rfl) <| .mv rfl rfl <| .gT rfl (.inl rfl) rfl rfl rfl (fun hg => pk (fun _ => q_move rfl _)) <| .gT rfl (.inl rfl) rfl rfl rfl (fun hg => pk (fun _ => q_neq (opT rfl hg) rfl _)) <| .P rfl (q_and rfl rfl) <| .nil ?_
   refine Run.cond rfl (fun h1 => ?_) (fun h1 => ?_)
   ·have ph1 := h1; try simp only [bs] at ph1
    refine Run.seq (Run.reg [.p] ?_)
    refine .ag rfl rfl <| .nil ?_
    refine Run.ret (bq_ret (tq_ret (bq_ret (?_))))
    exact ret1 rfl (Sub.bool (by grind [isName, nameChar]))
   ·have ph1 := h1; try simp only [bs] at ph1
    refine Run.skip ?_
    refine Run.nil (bq_norm ?_)
    refine Run.reg [.p, .p, .p] ?_
    refine .mv rfl rfl <| .P rfl (q_add rfl rfl (wrap64_ok (by omega) (by omega))) <| .ag rfl rfl <| .nil ?_
    refine Run.nil (tq_norm ?_)
    exact ⟨⟨pre ++ [x], rest, by simp [hx], by grind [nameChar]⟩, by simp, Le.mk rfl (.cons rfl Sub.strA rfl (.cons rfl Sub.intA rfl .nil)) .nil⟩
structure code05_ok_L0 (s : Str) where
 pre : List UInt8
 rest : List UInt8
 hx : s = pre ++ rest
 hp : pre.all (fun c => 65 ≤ c.toNat && c.toNat ≤ 90) = true
theorem code05_ok (s : Str) : Fc Tryz.prog 160 [.str s] (.b (isCode s)) := by
 refine Fc.mk' [2] Tryz.func160 rfl Tryz.ntmps160 rfl rfl rfl (fun t w => results_tmp Tryz.results160 t _ w) ?_
 refine Run.bStr 0 rfl (fun hb => ?_)
 simp only [big] at hb
 refine Run.seq (Run.reg [.p] ?_)
 refine .ag rfl rfl <| .nil ?_
 refine Run.seq (Run.seq (Run.reg [.p] ?_))
 refine .ag rfl rfl <| .nil ?_
 refine Run.block ?_
 refine Run.loop (ι := code05_ok_L0 s) (fun sx => [(0, .str s), (3, .i sx.pre.length)]) (fun sx => []) (fun sx => sx.rest.length) ⟨[], s, rfl, rfl⟩ ?_ ?_
 ·exact Le.mk rfl (.cons rfl Sub.strA rfl (.cons rfl Sub.intA rfl .nil)) .nil
 ·rintro ⟨pre, rest, hx, hp⟩
  show Run _ _ _ _ [(0, .str s), (3, .i pre.length)] []
  have hl := congrArg List.length hx
  simp only [List.length_append] at hl
  rcases rest with _ | ⟨x, rest⟩
  ·skip
   refine Run.seq (Run.seq (Run.reg [.p, .p, .p, .p] ?_))
   refine .mv rfl rfl <| .mv rfl rfl <| .P rfl (q_lenS Tryz.underlying9 rfl) <| .P rfl (q_lss rfl rfl) <| .nil ?_
   refine Run.condF rfl (by simp at hl ⊢; omega) ?_
   refine Run.exit (tq_exit (bq_exit ?_))
   refine Run.seq (Run.reg [.p, .p, .p, .p] ?_)
   refine .mv rfl rfl <| .P rfl (q_lenS Tryz.underlying9 rfl) <| .P rfl (q_eql rfl rfl) <| .ag rfl rfl <| .nil ?_
   refine Run.ret (?_)
   exact ret1 rfl (Sub.bool (by grind [isCode]))
  ·simp only [List.length_cons] at hl
   refine Run.seq (Run.seq (Run.reg [.p, .p, .p, .p] ?_))
   refine .mv rfl rfl <| .mv rfl rfl <| .P rfl (q_lenS Tryz.underlying9 rfl) <| .P rfl (q_lss rfl rfl) <| .nil ?_
   refine Run.condT rfl (by simp; omega) ?_
   refine Run.skip ?_
   refine Run.seq ?_
   refine Run.block ?_
   refine Run.seq (Run.reg [.p, .p, .p, .p, .p, .p, .p, .p, .p, .p] ?_)
   refine .mv rfl rfl <| .mv rfl rfl <| .P rfl (q_indexS Tryz.underlying9 rfl rfl (by omega) (idx_midS hx rfl)) <| .P rfl (q_lss rfl rfl) <| .mv rfl rfl <| .gF rfl (.inl rfl) rfl rfl rfl (fun hg => pk (fun _ => q_move rfl _)) <| .gF rfl (.inl rfl) rfl rfl rfl (fun hg => pk (fun _ => q_move rfl _)) <| .gF rfl (.inl rfl) rfl rfl rfl (fun hg => pk (fun _ => q_indexS Tryz.underlying9 (opT rfl (nt hg)) (opT rfl (nt hg)) (by omega) (idx_midS hx rfl) _)) <| .gF rfl (.inl rfl) rfl rfl rfl (fun hg => pk (fun _ => q_gtr (opT rfl (nt hg)) rfl _)) <| .P rfl (q_or rfl rfl) <| .nil ?_
   refine Run.cond rfl (fun h1 => ?_) (fun h1 => ?_)
   ·have ph1 := h1; try simp only [bs] at ph1
    refine Run.seq (Run.reg [.p] ?_)
    refine .ag rfl rfl <| .nil ?_
    refine Run.ret (bq_ret (tq_ret (bq_ret (?_))))
    exact ret1 rfl (Sub.bool (by grind [isCode]))
   ·have ph1 := h1; try simp only [bs] at ph1
    refine Run.skip ?_
    refine Run.nil (bq_norm ?_)
    refine Run.reg [.p, .p, .p] ?_
    refine .mv rfl rfl <| .P rfl (q_add rfl rfl (wrap64_ok (by omega) (by omega))) <| .ag rfl rfl <| .nil ?_
    refine Run.nil (tq_norm ?_)
    exact ⟨⟨pre ++ [x], rest, by simp [hx], by grind⟩, by simp, Le.mk rfl (.cons rfl Sub.strA rfl (.cons rfl Sub.intA rfl .nil)) .nil⟩
theorem head35_ok (e : Entry) : Fc Tryz.prog 109 [.agg (encEntry e)] (.i (checkHead e)) := by
 refine Fc.mk' [2] Tryz.func109 rfl Tryz.ntmps109 rfl rfl rfl (fun t w => results_tmp Tryz.results109 t _ w) ?_
 refine Run.seq (Run.reg [.w, .p] ?_)
 refine .W rfl (q_boxA 0 rfl rfl) <| .ag rfl rfl <| .nil ?_
 refine Run.seq (Run.seq (Run.reg [.p, .r, .p, .p, .p, .r, .p, .p] ?_))
 refine .P rfl (q_fieldB (n := 0) 34 0 Tryz.underlying37 Tryz.sizeOf34 rfl rfl) <| .R rfl (q_load1 Tryz.isAgg34 rfl rfl rfl) <| .P rfl (q_lss rfl rfl) <| .mv rfl rfl <| .gF rfl (.inl rfl) rfl rfl rfl (fun hg => pk (fun _ => q_fieldB (n := 0) 34 0 Tryz.underlying37 Tryz.sizeOf34 rfl rfl _)) <| .gF rfl (.inr rfl) rfl rfl rfl (fun hg => rk (q_load1 Tryz.isAgg34 (opT rfl (nt hg)) rfl rfl)) <| .gF rfl (.inl rfl) rfl rfl rfl (fun hg => pk (fun _ => q_gtr (opT rfl (nt hg)) rfl _)) <| .P rfl (q_or rfl rfl) <| .nil ?_
 refine Run.cond rfl (fun h1 => ?_) (fun h1 => ?_)
 ·have ph1 := h1; try simp only [bs] at ph1
  refine Run.seq (Run.reg [.p] ?_)
  refine .ag rfl rfl <| .nil ?_
  refine Run.ret (?_)
  exact ret1 rfl (Sub.int (by grind [checkHead, validDay]))
 ·have ph1 := h1; try simp only [bs] at ph1
  refine Run.skip ?_
  refine Run.seq (Run.seq (Run.reg [.p, .r, .p, .p] ?_))
  refine .P rfl (q_fieldB (n := 0) 9 1 Tryz.underlying37 Tryz.sizeOf9 rfl rfl) <| .R rfl (q_load1 Tryz.isAgg9 rfl rfl rfl) <| .P rfl (q_call Tryz.call158 rfl (cause35_ok _)) <| .P rfl (q_not rfl) <| .nil ?_
  refine Run.cond rfl (fun h2 => ?_) (fun h2 => ?_)
  ·have ph2 := h2; try simp only [bs] at ph2
   refine Run.seq (Run.reg [.p] ?_)
   refine .ag rfl rfl <| .nil ?_
   refine Run.ret (?_)
   exact ret1 rfl (Sub.int (by grind [checkHead, validDay]))
  ·have ph2 := h2; try simp only [bs] at ph2
   refine Run.skip ?_
   refine Run.seq (Run.reg [.p] ?_)
   refine .ag rfl rfl <| .nil ?_
   refine Run.ret (?_)
   exact ret1 rfl (Sub.int (by grind [checkHead, validDay]))
end Go.T
namespace Go.T
open Go Go.Proofs
set_option maxRecDepth 20000
theorem cmpT35_ok (a b : Str) : Fc Tryz.prog 162 [.str a, .str b] (.i (cmpT a b)) := by
 refine Fc.mk' [4] Tryz.func162 rfl Tryz.ntmps162 rfl rfl rfl (fun t w => results_tmp Tryz.results162 t _ w) ?_
 refine Run.seq (Run.reg [.p] ?_)
 refine .ag rfl rfl <| .nil ?_
 refine Run.seq (Run.seq (Run.reg [.p, .p, .p] ?_))
 refine .mv rfl rfl <| .mv rfl rfl <| .P rfl (q_lssS rfl rfl) <| .nil ?_
 refine Run.cond rfl (fun h1 => ?_) (fun h1 => ?_)
 ·have ph1 := h1; try simp only [bs] at ph1
  refine Run.seq (Run.reg [.p] ?_)
  refine .ag rfl rfl <| .nil ?_
  refine Run.ret (?_)
  exact ret1 rfl (Sub.int (by grind [cmpT]))
 ·have ph1 := h1; try simp only [bs] at ph1
  refine Run.skip ?_
  refine Run.seq (Run.seq (Run.reg [.p, .p, .p] ?_))
  refine .mv rfl rfl <| .mv rfl rfl <| .P rfl (q_gtrS rfl rfl) <| .nil ?_
  refine Run.cond rfl (fun h2 => ?_) (fun h2 => ?_)
  ·have ph2 := h2; try simp only [bs] at ph2
   refine Run.seq (Run.reg [.p] ?_)
   refine .ag rfl rfl <| .nil ?_
   refine Run.ret (?_)
   exact ret1 rfl (Sub.int (by grind [cmpT]))
  ·have ph2 := h2; try simp only [bs] at ph2
   refine Run.skip ?_
   refine Run.seq (Run.reg [.p] ?_)
   refine .ag rfl rfl <| .nil ?_
   refine Run.ret (?_)
   exact ret1 rfl (Sub.int (by grind [cmpT]))
theorem cmpLine35_ok (a b : Line) : Fc Tryz.prog 111 [.agg (encLine a), .agg (encLine b)] (.i (cmpLine a b)) := by
 refine Fc.mk' [4] Tryz.func111 rfl Tryz.ntmps111 rfl rfl rfl (fun t w => results_tmp Tryz.results111 t _ w) ?_
 refine Run.seq (Run.reg [.w, .w, .p] ?_)
 refine .W rfl (q_boxA 0 rfl rfl) <| .W rfl (q_boxA 1 rfl rfl) <| .ag rfl rfl <| .nil ?_
 refine Run.seq (Run.seq (Run.reg [.p, .r, .p, .r, .p, .p] ?_))
 refine .P rfl (q_fieldB (n := 0) 9 0 Tryz.underlying92 Tryz.sizeOf9 rfl rfl) <| .R rfl (q_load1 Tryz.isAgg9 rfl rfl rfl) <| .P rfl (q_fieldB (n := 0) 9 0 Tryz.underlying92 Tryz.sizeOf9 rfl rfl) <| .R rfl (q_load1 Tryz.isAgg9 rfl rfl rfl) <| .P rfl (q_call Tryz.call162 rfl (cmpT35_ok _ _)) <| .ag rfl rfl <| .nil ?_
 refine Run.seq (Run.reg [.p, .p] ?_)
 refine .mv rfl rfl <| .P rfl (q_neq rfl rfl) <| .nil ?_
 refine Run.cond rfl (fun h1 => ?_) (fun h1 => ?_)
 ·have ph1 := h1; try simp only [bs] at ph1
  refine Run.seq (Run.reg [.p, .p] ?_)
  refine .mv rfl rfl <| .ag rfl rfl <| .nil ?_
  refine Run.ret (?_)
  exact ret1 rfl (Sub.int (by grind [cmpLine]))
 ·have ph1 := h1; try simp only [bs] at ph1
  refine Run.skip ?_
  refine Run.seq (Run.reg [.p, .r, .p, .r, .p, .p] ?_)
  refine .P rfl (q_fieldB (n := 0) 9 1 Tryz.underlying92 Tryz.sizeOf9 rfl rfl) <| .R rfl (q_load1 Tryz.isAgg9 rfl rfl rfl) <| .P rfl (q_fieldB (n := 0) 9 1 Tryz.underlying92 Tryz.sizeOf9 rfl rfl) <| .R rfl (q_load1 Tryz.isAgg9 rfl rfl rfl) <| .P rfl (q_call Tryz.call162 rfl (cmpT35_ok _ _)) <| .ag rfl rfl <| .nil ?_
  refine Run.ret (?_)
  exact ret1 rfl (Sub.int (by grind [cmpLine]))
structure digits01_ok_L0 (s : Str) where
 pre : List UInt8
 rest : List UInt8
 hx : (stripNeg s).1 = pre ++ rest
 hp : pre.all isDig = true
structure digits01_ok_L1 (s : Str) where
 cur : Str
 hd : (stripNeg s).1.all isDig = true
 hx : dropZ cur = dropZ (stripNeg s).1
theorem digits01_ok (s : Str) : Fc Tryz.prog 189 [.str s] (.tup [.str (digits s).1, .b (digits s).2]) := by
 refine Fc.mk' [2, 3] Tryz.func189 rfl Tryz.ntmps189 rfl rfl rfl (fun t w => results_tmp2 Tryz.results189 t _ w) ?_
 refine Run.bStr 0 rfl (fun hb => ?_)
 simp only [big] at hb
 refine Run.seq (Run.reg [.p, .p] ?_)
 refine .ag rfl rfl <| .ag rfl rfl <| .nil ?_
 refine Run.seq (Run.reg [.p, .p] ?_)
 refine .mv rfl rfl <| .ag rfl rfl <| .nil ?_
 refine Run.seq (Run.reg [.p, .p, .p, .p, .p, .p, .p, .p, .p] ?_)
 refine .mv rfl rfl <| .P rfl (q_lenS Tryz.underlying9 rfl) <| .P rfl (q_gtr rfl rfl) <| .mv rfl rfl <| .gT rfl (.inl rfl) rfl rfl rfl (fun hg => pk (fun _ => q_move rfl _)) <| .gT rfl (.inl rfl) rfl rfl rfl (fun hg => pk (fun _ => q_indexS Tryz.underlying9 (opT rfl hg) rfl (c := s.headD 0) (by decide) (head_get rfl (by grind)) _)) <| .gT rfl (.inl rfl) rfl rfl rfl (fun hg => pk (fun _ => q_eql (opT rfl hg) rfl _)) <| .P rfl (q_and rfl rfl) <| .ag rfl rfl <| .nil ?_
 refine Run.seq (Run.seq (Run.reg [.p] ?_))
 refine .mv rfl rfl <| .nil ?_
 refine Run.cond rfl (fun h1 => ?_) (fun h1 => ?_)
 ·have ph1 := h1; try simp only [bs] at ph1
  refine Run.reg [.p, .p, .p] ?_
  refine .mv rfl rfl <| .P rfl (q_sliceS Tryz.underlying9 rfl (l := 1) (r := s.drop 1) (.inr ⟨_, _, rfl, rfl⟩) (.inl ⟨rfl, rfl⟩) (by omega) (by omega) (drop1_take _)) <| .ag rfl rfl <| .nil ?_
  refine Run.seq (Run.seq (Run.reg [.p] ?_))
  refine .ag rfl rfl <| .nil ?_
  refine Run.block ?_
  refine Run.loop (ι := digits01_ok_L0 s) (fun sx => [(4, .str (stripNeg s).1), (5, .b (stripNeg s).2), (6, .i sx.pre.length)]) (fun sx => []) (fun sx => sx.rest.length) ⟨[], (stripNeg s).1, rfl, rfl⟩ ?_ ?_
  ·exact Le.mk rfl (.cons rfl (Sub.str (by grind [stripNeg_T, stripNeg_F])) rfl (.cons rfl (Sub.bool (by grind [stripNeg_T, stripNeg_F])) rfl (.cons rfl Sub.intA rfl .nil))) .nil
  ·rintro ⟨pre, rest, hx, hp⟩
   show Run _ _ _ _ [(4, .str (stripNeg s).1), (5, .b (stripNeg s).2), (6, .i pre.length)] []
   have hl := congrArg List.length hx
   simp only [List.length_append] at hl
   have hsl := stripNeg_len s
   rcases rest with _ | ⟨x, rest⟩
   ·skip
    refine Run.seq (Run.seq (Run.reg [.p, .p, .p, .p] ?_))
    refine .mv rfl rfl <| .mv rfl rfl <| .P rfl (q_lenS Tryz.underlying9 rfl) <| .P rfl (q_lss rfl rfl) <| .nil ?_
    refine Run.condF rfl (by simp at hl ⊢; omega) ?_
    refine Run.exit (tq_exit (bq_exit ?_))
    refine Run.seq ?_
    refine Run.block ?_
    refine Run.loop (ι := digits01_ok_L1 s) (fun sx => [(4, .str sx.cur), (5, .b (stripNeg s).2)]) (fun sx => []) (fun sx => sx.cur.length) ⟨(stripNeg s).1, by rw [hx]; simpa using hp, rfl⟩ ?_ ?_
    ·exact Le.mk rfl (.cons rfl Sub.strA rfl (.cons rfl (Sub.bool (by rfl)) rfl .nil)) .nil
    ·rintro ⟨cur, hd, hx⟩
     show Run _ _ _ _ [(4, .str cur), (5, .b (stripNeg s).2)] []
     refine Run.seq (Run.seq (Run.reg [.p, .p, .p, .p, .p, .p, .p, .p] ?_))
     refine .mv rfl rfl <| .P rfl (q_lenS Tryz.underlying9 rfl) <| .P rfl (q_gtr rfl rfl) <| .mv rfl rfl <| .gT rfl (.inl rfl) rfl rfl rfl (fun hg => pk (fun _ => q_move rfl _)) <| .gT rfl (.inl rfl) rfl rfl rfl (fun hg => pk (fun _ => q_indexS Tryz.underlying9 (opT rfl hg) rfl (c := cur.headD 0) (by decide) (head_get rfl (by grind)) _)) <| .gT rfl (.inl rfl) rfl rfl rfl (fun hg => pk (fun _ => q_eql (opT rfl hg) rfl _)) <| .P rfl (q_and rfl rfl) <| .nil ?_
     refine Run.cond rfl (fun h2 => ?_) (fun h2 => ?_)
     ·have ph2 := h2; try simp only [bs] at ph2
      refine Run.skip ?_
      refine Run.block ?_
      refine Run.reg [.p, .p, .p] ?_
      refine .mv rfl rfl <| .P rfl (q_sliceS Tryz.underlying9 rfl (l := 1) (r := cur.drop 1) (.inr ⟨_, _, rfl, rfl⟩) (.inl ⟨rfl, rfl⟩) (by omega) (by omega) (drop1_take _)) <| .ag rfl rfl <| .nil ?_
      refine Run.nil (bq_norm ?_)
      refine Run.nil (tq_norm ?_)
      exact ⟨⟨cur.drop 1, hd, by rw [← hx]; exact (dropZ_T (by omega) (by omega)).symm⟩, by simp; omega, Le.mk rfl (.cons rfl Sub.strA rfl (.cons rfl (Sub.bool (by rfl)) rfl .nil)) .nil⟩
     ·have ph2 := h2; try simp only [bs] at ph2
      refine Run.exit (tq_exit (bq_exit ?_))
      refine Run.seq (Run.reg [.p, .p, .p, .p, .p, .p, .p, .p, .p] ?_)
      refine .mv rfl rfl <| .mv rfl rfl <| .mv rfl rfl <| .gT rfl (.inl rfl) rfl rfl rfl (fun hg => pk (fun _ => q_move rfl _)) <| .gT rfl (.inl rfl) rfl rfl rfl (fun hg => pk (fun _ => q_lenS Tryz.underlying9 (opT rfl hg) _)) <| .gT rfl (.inl rfl) rfl rfl rfl (fun hg => pk (fun _ => q_gtr (opT rfl hg) rfl _)) <| .P rfl (q_and rfl rfl) <| .ag rfl rfl <| .ag rfl rfl <| .nil ?_
      refine Run.ret (?_)
      exact ret2 rfl rfl (Sub.str (by first | (rw [digits_bad hx (by omega)]) | exact digits_end1 hd hx (by omega))) (Sub.bool (by first | (rw [digits_bad hx (by omega)]) | exact digits_end2 hd hx (by omega)))
   ·simp only [List.length_cons] at hl
    refine Run.seq (Run.seq (Run.reg [.p, .p, .p, .p] ?_))
    refine .mv rfl rfl <| .mv rfl rfl <| .P rfl (q_lenS Tryz.underlying9 rfl) <| .P rfl (q_lss rfl rfl) <| .nil ?_
    refine Run.condT rfl (by simp; omega) ?_
    refine Run.skip ?_
    refine Run.seq ?_
    refine Run.block ?_
    refine Run.seq (Run.reg [.p, .p, .p, .p, .p, .p, .p, .p, .p, .p] ?_)
    refine .mv rfl rfl <| .mv rfl rfl <| .P rfl (q_indexS Tryz.underlying9 rfl rfl (by omega) (idx_midS hx rfl)) <| .P rfl (q_lss rfl rfl) <| .mv rfl rfl <| .gF rfl (.inl rfl) rfl rfl rfl (fun hg => pk (fun _ => q_move rfl _)) <| .gF rfl (.inl rfl) rfl rfl rfl (fun hg => pk (fun _ => q_move rfl _)) <| .gF rfl (.inl rfl) rfl rfl rfl (fun hg => pk (fun _ => q_indexS Tryz.underlying9 (opT rfl (nt hg)) (opT rfl (nt hg)) (by omega) (idx_midS hx rfl) _)) <| .gF rfl (.inl rfl) rfl rfl rfl (fun hg => pk (fun _ => q_gtr (opT rfl (nt hg)) rfl _)) <| .P rfl (q_or rfl rfl) <| .nil ?_
    refine Run.cond rfl (fun h3 => ?_) (fun h3 => ?_)
    ·have ph3 := h3; try simp only [bs] at ph3
     refine Run.seq (Run.reg [.p, .p] ?_)
     refine .ag rfl rfl <| .ag rfl rfl <| .nil ?_
     refine Run.ret (bq_ret (tq_ret (bq_ret (?_))))
     exact ret2 rfl rfl (Sub.str (by first | (rw [digits_bad hx (by omega)]) | exact digits_end1 hd hx (by omega))) (Sub.bool (by first | (rw [digits_bad hx (by omega)]) | exact digits_end2 hd hx (by omega)))
    ·have ph3 := h3; try simp only [bs] at ph3
     refine Run.skip ?_
     refine Run.nil (bq_norm ?_)
     refine Run.reg [.p, .p, .p] ?_
     refine .mv rfl rfl <| .P rfl (q_add rfl rfl (wrap64_ok (by omega) (by omega))) <| .ag rfl rfl <| .nil ?_
     refine Run.nil (tq_norm ?_)
     exact ⟨⟨pre ++ [x], rest, by simp [hx], by grind [isDig]⟩, by simp, Le.mk rfl (.cons rfl (Sub.str (by grind [stripNeg_T, stripNeg_F])) rfl (.cons rfl (Sub.bool (by grind [stripNeg_T, stripNeg_F])) rfl (.cons rfl Sub.intA rfl .nil))) .nil⟩
 ·have ph1 := h1; try simp only [bs] at ph1
  refine Run.skip ?_
  refine Run.seq (Run.seq (Run.reg [.p] ?_))
  refine .ag rfl rfl <| .nil ?_
  refine Run.block ?_
  refine Run.loop (ι := digits01_ok_L0 s) (fun sx => [(4, .str (stripNeg s).1), (5, .b (stripNeg s).2), (6, .i sx.pre.length)]) (fun sx => []) (fun sx => sx.rest.length) ⟨[], (stripNeg s).1, rfl, rfl⟩ ?_ ?_
  ·exact Le.mk rfl (.cons rfl (Sub.str (by grind [stripNeg_T, stripNeg_F])) rfl (.cons rfl (Sub.bool (by grind [stripNeg_T, stripNeg_F])) rfl (.cons rfl Sub.intA rfl .nil))) .nil
  ·rintro ⟨pre, rest, hx, hp⟩
   show Run _ _ _ _ [(4, .str (stripNeg s).1), (5, .b (stripNeg s).2), (6, .i pre.length)] []
   have hl := congrArg List.length hx
   simp only [List.length_append] at hl
   have hsl := stripNeg_len s
   rcases rest with _ | ⟨x, rest⟩
   ·skip
    refine Run.seq (Run.seq (Run.reg [.p, .p, .p, .p] ?_))
    refine .mv rfl rfl <| .mv rfl rfl <| .P rfl (q_lenS Tryz.underlying9 rfl) <| .P rfl (q_lss rfl rfl) <| .nil ?_
    refine Run.condF rfl (by simp at hl ⊢; omega) ?_
    refine Run.exit (tq_exit (bq_exit ?_))
    refine Run.seq ?_
    refine Run.block ?_
    refine Run.loop (ι := digits01_ok_L1 s) (fun sx => [(4, .str sx.cur), (5, .b (stripNeg s).2)]) (fun sx => []) (fun sx => sx.cur.length) ⟨(stripNeg s).1, by rw [hx]; simpa using hp, rfl⟩ ?_ ?_
    ·exact Le.mk rfl (.cons rfl Sub.strA rfl (.cons rfl (Sub.bool (by rfl)) rfl .nil)) .nil
    ·rintro ⟨cur, hd, hx⟩
     show Run _ _ _ _ [(4, .str cur), (5, .b (stripNeg s).2)] []
     refine Run.seq (Run.seq (Run.reg [.p, .p, .p, .p, .p, .p, .p, .p] ?_))
     refine .mv rfl rfl <| .P rfl (q_lenS Tryz.underlying9 rfl) <| .P rfl (q_gtr rfl rfl) <| .mv rfl rfl <| .gT rfl (.inl rfl) rfl rfl rfl (fun hg => pk (fun _ => q_move rfl _)) <| .gT rfl (.inl rfl) rfl rfl rfl (fun hg => pk (fun _ => q_indexS Tryz.underlying9 (opT rfl hg) rfl (c := cur.headD 0) (by decide) (head_get rfl (by grind)) _)) <| .gT rfl (.inl rfl) rfl rfl rfl (fun hg => pk (fun _ => q_eql (opT rfl hg) rfl _)) <| .P rfl (q_and rfl rfl) <| .nil ?_
     refine Run.cond rfl (fun h4 => ?_) (fun h4 => ?_)
     ·have ph4 := h4; try simp only [bs] at ph4
      refine Run.skip ?_
      refine Run.block ?_
      refine Run.reg [.p, .p, .p] ?_
      refine .mv rfl rfl <| .P rfl (q_sliceS Tryz.underlying9 rfl (l := 1) (r := cur.drop 1) (.inr ⟨_, _, rfl, rfl⟩) (.inl ⟨rfl, rfl⟩) (by omega) (by omega) (drop1_take _)) <| .ag rfl rfl <| .nil ?_
      refine Run.nil (bq_norm ?_)
      refine Run.nil (tq_norm ?_)
      exact ⟨⟨cur.drop 1, hd, by rw [← hx]; exact (dropZ_T (by omega) (by omega)).symm⟩, by simp; omega, Le.mk rfl (.cons rfl Sub.strA rfl (.cons rfl (Sub.bool (by rfl)) rfl .nil)) .nil⟩
     ·have ph4 := h4; try simp only [bs] at ph4
      refine Run.exit (tq_exit (bq_exit ?_))
      refine Run.seq (Run.reg [.p, .p, .p, .p, .p, .p, .p, .p, .p] ?_)
      refine .mv rfl rfl <| .mv rfl rfl <| .mv rfl rfl <| .gT rfl (.inl rfl) rfl rfl rfl (fun hg => pk (fun _ => q_move rfl _)) <| .gT rfl (.inl rfl) rfl rfl rfl (fun hg => pk (fun _ => q_lenS Tryz.underlying9 (opT rfl hg) _)) <| .gT rfl (.inl rfl) rfl rfl rfl (fun hg => pk (fun _ => q_gtr (opT rfl hg) rfl _)) <| .P rfl (q_and rfl rfl) <| .ag rfl rfl <| .ag rfl rfl <| .nil ?_
      refine Run.ret (?_)
      exact ret2 rfl rfl (Sub.str (by first | (rw [digits_bad hx (by omega)]) | exact digits_end1 hd hx (by omega))) (Sub.bool (by first | (rw [digits_bad hx (by omega)]) | exact digits_end2 hd hx (by omega)))
   ·simp only [List.length_cons] at hl
    refine Run.seq (Run.seq (Run.reg [.p, .p, .p, .p] ?_))
    refine .mv rfl rfl <| .mv rfl rfl <| .P rfl (q_lenS Tryz.underlying9 rfl) <| .P rfl (q_lss rfl rfl) <| .nil ?_
    refine Run.condT rfl (by simp; omega) ?_
    refine Run.skip ?_
    refine Run.seq ?_
    refine Run.block ?_
    refine Run.seq (Run.reg [.p, .p, .p, .p, .p, .p, .p, .p, .p, .p] ?_)
    refine .mv rfl rfl <| .mv rfl rfl <| .P rfl (q_indexS Tryz.underlying9 rfl rfl (by omega) (idx_midS hx rfl)) <| .P rfl (q_lss rfl rfl) <| .mv rfl rfl <| .gF rfl (.inl rfl) rfl rfl rfl (fun hg => pk (fun _ => q_move rfl _)) <| .gF rfl (.inl rfl) rfl rfl rfl (fun hg => pk (fun _ => q_move rfl _)) <| .gF rfl (.inl rfl) rfl rfl rfl (fun hg => pk (fun _ => q_indexS Tryz.underlying9 (opT rfl (nt hg)) (opT rfl (nt hg)) (by omega) (idx_midS hx rfl) _)) <| .gF rfl (.inl rfl) rfl rfl rfl (fun hg => pk (fun _ => q_gtr (opT rfl (nt hg)) rfl _)) <| .P rfl (q_or rfl rfl) <| .nil ?_
    refine Run.cond rfl (fun h5 => ?_) (fun h5 => ?_)
    ·have ph5 := h5; try simp only [bs] at ph5
     refine Run.seq (Run.reg [.p, .p] ?_)
     refine .ag rfl rfl <| .ag rfl rfl <| .nil ?_
     refine Run.ret (bq_ret (tq_ret (bq_ret (?_))))
     exact ret2 rfl rfl (Sub.str (by first | (rw [digits_bad hx (by omega)]) | exact digits_end1 hd hx (by omega))) (Sub.bool (by first | (rw [digits_bad hx (by omega)]) | exact digits_end2 hd hx (by omega)))
    ·have ph5 := h5; try simp only [bs] at ph5
     refine Run.skip ?_
     refine Run.nil (bq_norm ?_)
     refine Run.reg [.p, .p, .p] ?_
     refine .mv rfl rfl <| .P rfl (q_add rfl rfl (wrap64_ok (by omega) (by omega))) <| .ag rfl rfl <| .nil ?_
     refine Run.nil (tq_norm ?_)
     exact ⟨⟨pre ++ [x], rest, by simp [hx], by grind [isDig]⟩, by simp, Le.mk rfl (.cons rfl (Sub.str (by grind [stripNeg_T, stripNeg_F])) rfl (.cons rfl (Sub.bool (by grind [stripNeg_T, stripNeg_F])) rfl (.cons rfl Sub.intA rfl .nil))) .nil⟩
theorem canon01_ok (s : Str) : Fc Tryz.prog 190 [.str s] (.str (canon s)) := by
 refine Fc.mk' [2] Tryz.func190 rfl Tryz.ntmps190 rfl rfl rfl (fun t w => results_tmp Tryz.results190 t _ w) ?_
 refine Run.bStr 0 rfl (fun hb => ?_)
 simp only [big] at hb
 have hdl := digits_len s
 refine Run.seq (Run.reg [.p] ?_)
 refine .ag rfl rfl <| .nil ?_
 refine Run.seq (Run.reg [.p, .p, .p, .p, .p, .p, .p] ?_)
 refine .mv rfl rfl <| .P rfl (q_call Tryz.call189 rfl (digits01_ok _)) <| .mv rfl rfl <| .P rfl (q_extract rfl rfl) <| .P rfl (q_extract rfl rfl) <| .ag rfl rfl <| .ag rfl rfl <| .nil ?_
 refine Run.seq (Run.seq (Run.reg [.p] ?_))
 refine .mv rfl rfl <| .nil ?_
 refine Run.cond rfl (fun h1 => ?_) (fun h1 => ?_)
 ·have ph1 := h1; try simp only [bs] at ph1
  refine Run.seq (Run.reg [.p, .p, .p] ?_)
  refine .mv rfl rfl <| .P rfl (q_addS rfl rfl (by have := digits_len1 s (by assumption); simp [big]; omega) rfl) <| .ag rfl rfl <| .nil ?_
  refine Run.ret (?_)
  exact ret1 rfl (Sub.str (by grind [canon]))
 ·have ph1 := h1; try simp only [bs] at ph1
  refine Run.skip ?_
  refine Run.seq (Run.reg [.p, .p] ?_)
  refine .mv rfl rfl <| .ag rfl rfl <| .nil ?_
  refine Run.ret (?_)
  exact ret1 rfl (Sub.str (by grind [canon]))
theorem check01_ok (s : Str) : Fc Tryz.prog 161 [.str s] (.i (checkNum s)) := by
 refine Fc.mk' [2] Tryz.func161 rfl Tryz.ntmps161 rfl rfl rfl (fun t w => results_tmp Tryz.results161 t _ w) ?_
 refine Run.seq (Run.reg [.p] ?_)
 refine .ag rfl rfl <| .nil ?_
 refine Run.seq (Run.seq (Run.reg [.p, .p, .p, .p] ?_))
 refine .mv rfl rfl <| .P rfl (q_call Tryz.call190 rfl (canon01_ok _)) <| .mv rfl rfl <| .P rfl (q_neqS rfl rfl) <| .nil ?_
 refine Run.cond rfl (fun h1 => ?_) (fun h1 => ?_)
 ·have ph1 := h1; try simp only [bs] at ph1
  refine Run.seq (Run.reg [.p] ?_)
  refine .ag rfl rfl <| .nil ?_
  refine Run.ret (?_)
  exact ret1 rfl (Sub.int (by grind [checkNum]))
 ·have ph1 := h1; try simp only [bs] at ph1
  refine Run.skip ?_
  refine Run.seq (Run.reg [.p] ?_)
  refine .ag rfl rfl <| .nil ?_
  refine Run.ret (?_)
  exact ret1 rfl (Sub.int (by grind [checkNum]))
theorem compare01_ok (a b : Str) : Fc Tryz.prog 188 [.str a, .str b] (.i (numCmp a b)) := by
 refine Fc.mk' [4] Tryz.func188 rfl Tryz.ntmps188 rfl rfl rfl (fun t w => results_tmp Tryz.results188 t _ w) ?_
 refine Run.seq (Run.reg [.p] ?_)
 refine .ag rfl rfl <| .nil ?_
 refine Run.seq (Run.reg [.p, .p, .p, .p, .p, .p, .p] ?_)
 refine .mv rfl rfl <| .P rfl (q_call Tryz.call189 rfl (digits01_ok _)) <| .mv rfl rfl <| .P rfl (q_extract rfl rfl) <| .P rfl (q_extract rfl rfl) <| .ag rfl rfl <| .ag rfl rfl <| .nil ?_
 refine Run.seq (Run.reg [.p, .p, .p, .p, .p, .p, .p] ?_)
 refine .mv rfl rfl <| .P rfl (q_call Tryz.call189 rfl (digits01_ok _)) <| .mv rfl rfl <| .P rfl (q_extract rfl rfl) <| .P rfl (q_extract rfl rfl) <| .ag rfl rfl <| .ag rfl rfl <| .nil ?_
 refine Run.seq (Run.seq (Run.reg [.p, .p, .p] ?_))
 refine .mv rfl rfl <| .mv rfl rfl <| .P rfl (q_neqB Tryz.underlying4 rfl rfl) <| .nil ?_
 refine Run.cond rfl (fun h1 => ?_) (fun h1 => ?_)
 ·have ph1 := h1; try simp only [bs] at ph1
  refine Run.seq (Run.seq (Run.reg [.p] ?_))
  refine .mv rfl rfl <| .nil ?_
  refine Run.cond rfl (fun h2 => ?_) (fun h2 => ?_)
  ·have ph2 := h2; try simp only [bs] at ph2
   refine Run.seq (Run.reg [.p] ?_)
   refine .ag rfl rfl <| .nil ?_
   refine Run.ret (?_)
   exact ret1 rfl (Sub.int (by grind [numCmp]))
  ·have ph2 := h2; try simp only [bs] at ph2
   refine Run.skip ?_
   refine Run.seq (Run.reg [.p] ?_)
   refine .ag rfl rfl <| .nil ?_
   refine Run.ret (?_)
   exact ret1 rfl (Sub.int (by grind [numCmp]))
 ·have ph1 := h1; try simp only [bs] at ph1
  refine Run.skip ?_
  refine Run.seq (Run.reg [.p] ?_)
  refine .ag rfl rfl <| .nil ?_
  refine Run.seq (Run.seq (Run.reg [.p] ?_))
  refine .mv rfl rfl <| .nil ?_
  refine Run.cond rfl (fun h3 => ?_) (fun h3 => ?_)
  ·have ph3 := h3; try simp only [bs] at ph3
   refine Run.reg [.p] ?_
   refine .ag rfl rfl <| .nil ?_
   refine Run.seq (Run.seq (Run.reg [.p, .p, .p, .p, .p] ?_))
   refine .mv rfl rfl <| .P rfl (q_lenS Tryz.underlying9 rfl) <| .mv rfl rfl <| .P rfl (q_lenS Tryz.underlying9 rfl) <| .P rfl (q_neq rfl rfl) <| .nil ?_
   refine Run.cond rfl (fun h4 => ?_) (fun h4 => ?_)
   ·have ph4 := h4; try simp only [bs] at ph4
    refine Run.seq (Run.seq (Run.reg [.p, .p, .p, .p, .p] ?_))
    refine .mv rfl rfl <| .P rfl (q_lenS Tryz.underlying9 rfl) <| .mv rfl rfl <| .P rfl (q_lenS Tryz.underlying9 rfl) <| .P rfl (q_lss rfl rfl) <| .nil ?_
    refine Run.cond rfl (fun h5 => ?_) (fun h5 => ?_)
    ·have ph5 := h5; try simp only [bs] at ph5
     refine Run.seq (Run.reg [.p, .p, .p] ?_)
     refine .mv rfl rfl <| .P rfl (q_neg rfl (wrap64_ok (by omega) (by omega))) <| .ag rfl rfl <| .nil ?_
     refine Run.ret (?_)
     exact ret1 rfl (Sub.int (by grind [numCmp]))
    ·have ph5 := h5; try simp only [bs] at ph5
     refine Run.skip ?_
     refine Run.seq (Run.reg [.p, .p] ?_)
     refine .mv rfl rfl <| .ag rfl rfl <| .nil ?_
     refine Run.ret (?_)
     exact ret1 rfl (Sub.int (by grind [numCmp]))
   ·have ph4 := h4; try simp only [bs] at ph4
    refine Run.skip ?_
    refine Run.seq (Run.seq (Run.reg [.p, .p, .p] ?_))
    refine .mv rfl rfl <| .mv rfl rfl <| .P rfl (q_lssS rfl rfl) <| .nil ?_
    refine Run.cond rfl (fun h6 => ?_) (fun h6 => ?_)
    ·have ph6 := h6; try simp only [bs] at ph6
     refine Run.seq (Run.reg [.p, .p, .p] ?_)
     refine .mv rfl rfl <| .P rfl (q_neg rfl (wrap64_ok (by omega) (by omega))) <| .ag rfl rfl <| .nil ?_
     refine Run.ret (?_)
     exact ret1 rfl (Sub.int (by grind [numCmp]))
    ·have ph6 := h6; try simp only [bs] at ph6
     refine Run.skip ?_
     refine Run.seq (Run.seq (Run.reg [.p, .p, .p] ?_))
     refine .mv rfl rfl <| .mv rfl rfl <| .P rfl (q_gtrS rfl rfl) <| .nil ?_
     refine Run.cond rfl (fun h7 => ?_) (fun h7 => ?_)
     ·have ph7 := h7; try simp only [bs] at ph7
      refine Run.seq (Run.reg [.p, .p] ?_)
      refine .mv rfl rfl <| .ag rfl rfl <| .nil ?_
      refine Run.ret (?_)
      exact ret1 rfl (Sub.int (by grind [numCmp]))
     ·have ph7 := h7; try simp only [bs] at ph7
      refine Run.skip ?_
      refine Run.seq (Run.reg [.p] ?_)
      refine .ag rfl rfl <| .nil ?_
      refine Run.ret (?_)
      exact ret1 rfl (Sub.int (by grind [numCmp]))
  ·have ph3 := h3; try simp only [bs] at ph3
   refine Run.skip ?_
   refine Run.seq (Run.seq (Run.reg [.p, .p, .p, .p, .p] ?_))
   refine .mv rfl rfl <| .P rfl (q_lenS Tryz.underlying9 rfl) <| .mv rfl rfl <| .P rfl (q_lenS Tryz.underlying9 rfl) <| .P rfl (q_neq rfl rfl) <| .nil ?_
   refine Run.cond rfl (fun h8 => ?_) (fun h8 => ?_)
   ·have ph8 := h8; try simp only [bs] at ph8
    refine Run.seq (Run.seq (Run.reg [.p, .p, .p, .p, .p] ?_))
    refine .mv rfl rfl <| .P rfl (q_lenS Tryz.underlying9 rfl) <| .mv rfl rfl <| .P rfl (q_lenS Tryz.underlying9 rfl) <| .P rfl (q_lss rfl rfl) <| .nil ?_
    refine Run.cond rfl (fun h9 => ?_) (fun h9 => ?_)
    ·have ph9 := h9; try simp only [bs] at ph9
     refine Run.seq (Run.reg [.p, .p, .p] ?_)
     refine .mv rfl rfl <| .P rfl (q_neg rfl (wrap64_ok (by omega) (by omega))) <| .ag rfl rfl <| .nil ?_
     refine Run.ret (?_)
     exact ret1 rfl (Sub.int (by grind [numCmp]))
    ·have ph9 := h9; try simp only [bs] at ph9
     refine Run.skip ?_
     refine Run.seq (Run.reg [.p, .p] ?_)
     refine .mv rfl rfl <| .ag rfl rfl <| .nil ?_
     refine Run.ret (?_)
     exact ret1 rfl (Sub.int (by grind [numCmp]))
   ·have ph8 := h8; try simp only [bs] at ph8
    refine Run.skip ?_
    refine Run.seq (Run.seq (Run.reg [.p, .p, .p] ?_))
    refine .mv rfl rfl <| .mv rfl rfl <| .P rfl (q_lssS rfl rfl) <| .nil ?_
    refine Run.cond rfl (fun h10 => ?_) (fun h10 => ?_)
    ·have ph10 := h10; try simp only [bs] at ph10
     refine Run.seq (Run.reg [.p, .p, .p] ?_)
     refine .mv rfl rfl <| .P rfl (q_neg rfl (wrap64_ok (by omega) (by omega))) <| .ag rfl rfl <| .nil ?_
     refine Run.ret (?_)
     exact ret1 rfl (Sub.int (by grind [numCmp]))
    ·have ph10 := h10; try simp only [bs] at ph10
     refine Run.skip ?_
     refine Run.seq (Run.seq (Run.reg [.p, .p, .p] ?_))
     refine .mv rfl rfl <| .mv rfl rfl <| .P rfl (q_gtrS rfl rfl) <| .nil ?_
     refine Run.cond rfl (fun h11 => ?_) (fun h11 => ?_)
     ·have ph11 := h11; try simp only [bs] at ph11
      refine Run.seq (Run.reg [.p, .p] ?_)
      refine .mv rfl rfl <| .ag rfl rfl <| .nil ?_
      refine Run.ret (?_)
      exact ret1 rfl (Sub.int (by grind [numCmp]))
     ·have ph11 := h11; try simp only [bs] at ph11
      refine Run.skip ?_
      refine Run.seq (Run.reg [.p] ?_)
      refine .ag rfl rfl <| .nil ?_
      refine Run.ret (?_)
      exact ret1 rfl (Sub.int (by grind [numCmp]))
end Go.T
namespace Go.T
open Go Go.Proofs
set_option maxRecDepth 20000
structure segments34_ok_L0 (s : Str) (hs : s.length ≤ 1000) where
 pre : List UInt8
 rest : List UInt8
 st : Str
 cur : Str
 segs : List Str
 hx : s = pre ++ rest
 hc : pre = st ++ cur
 hg : segs ++ segsFrom cur rest = segments s
 hn : segs.length ≤ pre.length
theorem segments34_ok (s : Str) (hs : s.length ≤ 1000) : Fc Tryz.prog 207 [.str s] (sStrs (segments s)) := by
 refine Fc.mk' [2] Tryz.func207 rfl Tryz.ntmps207 rfl rfl rfl (fun t w => results_tmp Tryz.results207 t _ w) ?_
 refine Run.bStr 0 rfl (fun hb => ?_)
 simp only [big] at hb
 refine Run.seq (Run.reg [.p] ?_)
 refine .ag rfl rfl <| .nil ?_
 refine Run.seq (Run.reg [.p, .p, .p] ?_)
 refine .P rfl (q_buildSlice0 Tryz.underlying124 Tryz.sizeOf9) <| .ag rfl rfl <| .ag rfl rfl <| .nil ?_
 refine Run.seq (Run.seq (Run.reg [.p] ?_))
 refine .ag rfl rfl <| .nil ?_
 refine Run.block ?_
 refine Run.loop (ι := segments34_ok_L0 s hs) (fun sx => [(0, .str s), (3, .gs 0 sx.segs.length), (4, .i sx.st.length), (5, .i sx.pre.length)]) (fun sx => [(0, .arr 1 (sx.segs.map fun s => [.str s]))]) (fun sx => sx.rest.length) ⟨[], s, [], [], [], rfl, rfl, rfl, by simp⟩ ?_ ?_
 ·exact (Le.own0 0 1).trans <| Le.mk rfl (.cons rfl Sub.strA rfl (.cons rfl (Sub.gsEmpty _ _) rfl (.cons rfl Sub.intA rfl (.cons rfl Sub.intA rfl .nil)))) (.arr rfl (by simp) .nil)
 ·rintro ⟨pre, rest, st, cur, segs, hx, hc, hg, hn⟩
  show Run _ _ _ _ [(0, .str s), (3, .gs 0 segs.length), (4, .i st.length), (5, .i pre.length)] [(0, .arr 1 (segs.map fun s => [.str s]))]
  have hl := congrArg List.length hx
  simp only [List.length_append] at hl
  rcases rest with _ | ⟨x, rest⟩
  ·skip
   refine Run.seq (Run.seq (Run.reg [.p, .p, .p, .p] ?_))
   refine .mv rfl rfl <| .mv rfl rfl <| .P rfl (q_lenS Tryz.underlying9 rfl) <| .P rfl (q_lss rfl rfl) <| .nil ?_
   refine Run.condF rfl (by simp at hl ⊢; omega) ?_
   refine Run.exit (tq_exit (bq_exit ?_))
   refine Run.seq (Run.reg [.p, .p, .p, .p, .p, .w, .p] ?_)
   refine .mv rfl rfl <| .mv rfl rfl <| .mv rfl rfl <| .P rfl (q_sliceS Tryz.underlying9 rfl (l := st.length) (r := cur) (.inr ⟨_, _, rfl, rfl⟩) (.inl ⟨rfl, rfl⟩) (by simp [hx, hc]) (by omega) (by subst hc; simp [hx])) <| .P rfl (q_buildSlice' (n := 1) (rows := [[.str cur]]) Tryz.underlying124 Tryz.sizeOf9 rfl rfl rfl Tryz.zeroValue9 rfl rfl rfl rfl rfl rfl rfl) <| .W rfl (q_append 1 Tryz.underlying124 Tryz.underlying124 Tryz.sizeOf9 Tryz.typeInfo9 Tryz.zeroValue9 rfl (bt := 16) rfl rfl rfl rfl (by simp) rfl rfl (by simp; omega)) <| .ag rfl rfl <| .nil ?_
   refine Run.weak (Le.freeze 2 1 rfl rfl (by simp)) ?_
   refine Run.ret (?_)
   exact ret1 rfl (Sub.snap (by simp [← hg, segsFrom]))
  ·simp only [List.length_cons] at hl
   refine Run.seq (Run.seq (Run.reg [.p, .p, .p, .p] ?_))
   refine .mv rfl rfl <| .mv rfl rfl <| .P rfl (q_lenS Tryz.underlying9 rfl) <| .P rfl (q_lss rfl rfl) <| .nil ?_
   refine Run.condT rfl (by simp; omega) ?_
   refine Run.skip ?_
   refine Run.seq ?_
   refine Run.block ?_
   refine Run.seq (Run.reg [.p, .p, .p, .p] ?_)
   refine .mv rfl rfl <| .mv rfl rfl <| .P rfl (q_indexS Tryz.underlying9 rfl rfl (by omega) (idx_midS hx rfl)) <| .P rfl (q_eql rfl rfl) <| .nil ?_
   refine Run.cond rfl (fun h1 => ?_) (fun h1 => ?_)
   ·have ph1 := h1; try simp only [bs] at ph1
    refine Run.reg [.p, .p, .p, .p, .p, .p, .w, .p, .p, .p, .p] ?_
    refine .mv rfl rfl <| .mv rfl rfl <| .mv rfl rfl <| .mv rfl rfl <| .P rfl (q_sliceS Tryz.underlying9 rfl (l := st.length) (h := pre.length) (r := cur) (.inr ⟨_, _, rfl, rfl⟩) (.inr ⟨_, _, rfl, rfl⟩) (by simp [hc]) (by simp [hx]) (by subst hc; simp [hx])) <| .P rfl (q_buildSlice' (n := 1) (rows := [[.str cur]]) Tryz.underlying124 Tryz.sizeOf9 rfl rfl rfl Tryz.zeroValue9 rfl rfl rfl rfl rfl rfl rfl) <| .W rfl (q_append 1 Tryz.underlying124 Tryz.underlying124 Tryz.sizeOf9 Tryz.typeInfo9 Tryz.zeroValue9 rfl (bt := 16) rfl rfl rfl rfl (by simp) rfl rfl (by simp; omega)) <| .mv rfl rfl <| .P rfl (q_add rfl rfl (wrap64_ok (by omega) (by omega))) <| .ag rfl rfl <| .ag rfl rfl <| .nil ?_
    refine Run.nil (bq_norm ?_)
    refine Run.reg [.p, .p, .p] ?_
    refine .mv rfl rfl <| .P rfl (q_add rfl rfl (wrap64_ok (by omega) (by omega))) <| .ag rfl rfl <| .nil ?_
    refine Run.nil (tq_norm ?_)
    exact ⟨⟨pre ++ [x], rest, pre ++ [x], [], segs ++ [cur], by simp [hx], by simp, by grind [segsFrom], by simp; omega⟩, by simp, (Le.mk (obs' := [(1, _)]) rfl (show EnvLe _ _ [(0, _), (3, _), (4, _), (5, _)] from (.same rfl rfl (.same rfl rfl (.same rfl rfl (.same rfl rfl .nil))))) (.cons (i := 1) rfl rfl .nil)).trans <| (Le.ren 3 1 0 rfl rfl (by simp) rfl).trans <| Le.mk rfl (.cons rfl Sub.strA rfl (.cons rfl (Sub.gs (by simp)) rfl (.cons rfl Sub.intA rfl (.cons rfl Sub.intA rfl .nil)))) (.arr rfl (by simp) .nil)⟩
   ·have ph1 := h1; try simp only [bs] at ph1
    refine Run.skip ?_
    refine Run.nil (bq_norm ?_)
    refine Run.reg [.p, .p, .p] ?_
    refine .mv rfl rfl <| .P rfl (q_add rfl rfl (wrap64_ok (by omega) (by omega))) <| .ag rfl rfl <| .nil ?_
    refine Run.nil (tq_norm ?_)
    exact ⟨⟨pre ++ [x], rest, st, cur ++ [x], segs, by simp [hx], by simp [hc], by grind [segsFrom], by simp; omega⟩, by simp, Le.mk rfl (.cons rfl Sub.strA rfl (.cons rfl (Sub.gs (by simp)) rfl (.cons rfl Sub.intA rfl (.cons rfl Sub.intA rfl .nil)))) (.arr rfl (by simp) .nil)⟩
structure check34_ok_L0 (s : Str) (hs : s.length ≤ 1000) where
 pre : List Str
 rest : List Str
 hx : segments s = pre ++ rest
 hp : pre.all isName = true
theorem check34_ok (s : Str) (hs : s.length ≤ 1000) : Fc Tryz.prog 159 [.str s] (.i (checkCode s)) := by
 refine Fc.mk' [2] Tryz.func159 rfl Tryz.ntmps159 rfl rfl rfl (fun t w => results_tmp Tryz.results159 t _ w) ?_
 refine Run.bStr 0 rfl (fun hb => ?_)
 simp only [big] at hb
 refine Run.seq (Run.reg [.p] ?_)
 refine .ag rfl rfl <| .nil ?_
 refine Run.seq (Run.reg [.p, .p, .p] ?_)
 refine .mv rfl rfl <| .P rfl (q_call Tryz.call207 rfl (segments34_ok _ (by first | assumption | omega | (simp at *; omega)))) <| .ag rfl rfl <| .nil ?_
 refine Run.seq (Run.seq (Run.reg [.p] ?_))
 refine .ag rfl rfl <| .nil ?_
 refine Run.block ?_
 refine Run.loop (ι := check34_ok_L0 s hs) (fun sx => [(3, sStrs (segments s)), (4, .i sx.pre.length)]) (fun sx => []) (fun sx => sx.rest.length) ⟨[], segments s, rfl, rfl⟩ ?_ ?_
 ·exact Le.mk rfl (.same rfl rfl (.cons rfl Sub.intA rfl .nil)) .nil
 ·rintro ⟨pre, rest, hx, hp⟩
  show Run _ _ _ _ [(3, sStrs (segments s)), (4, .i pre.length)] []
  have hl := congrArg List.length hx
  simp only [List.length_append] at hl
  refine Run.bSnap 3 rfl (fun hb2 => ?_)
  simp only [List.length_map, big] at hb2
  rcases rest with _ | ⟨x, rest⟩
  ·skip
   refine Run.seq (Run.seq (Run.reg [.p, .p, .p, .p] ?_))
   refine .mv rfl rfl <| .mv rfl rfl <| .P rfl (q_lenI Tryz.underlying124 rfl) <| .P rfl (q_lss rfl rfl) <| .nil ?_
   refine Run.condF rfl (by simp at hl ⊢; omega) ?_
   refine Run.exit (tq_exit (bq_exit ?_))
   refine Run.seq (Run.seq (Run.reg [.p, .p, .p] ?_))
   refine .mv rfl rfl <| .P rfl (q_lenI Tryz.underlying124 rfl) <| .P rfl (q_gtr rfl rfl) <| .nil ?_
   refine Run.cond rfl (fun h1 => ?_) (fun h1 => ?_)
   ·have ph1 := h1; try simp only [bs] at ph1
    refine Run.seq (Run.reg [.p] ?_)
    refine .ag rfl rfl <| .nil ?_
    refine Run.ret (?_)
    exact ret1 rfl (Sub.int (by grind [checkCode]))
   ·have ph1 := h1; try simp only [bs] at ph1
    refine Run.skip ?_
    refine Run.seq (Run.reg [.p] ?_)
    refine .ag rfl rfl <| .nil ?_
    refine Run.ret (?_)
    exact ret1 rfl (Sub.int (by grind [checkCode]))
  ·simp only [List.length_cons] at hl
   refine Run.seq (Run.seq (Run.reg [.p, .p, .p, .p] ?_))
   refine .mv rfl rfl <| .mv rfl rfl <| .P rfl (q_lenI Tryz.underlying124 rfl) <| .P rfl (q_lss rfl rfl) <| .nil ?_
   refine Run.condT rfl (by simp; omega) ?_
   refine Run.skip ?_
   refine Run.seq ?_
   refine Run.block ?_
   refine Run.seq (Run.reg [.p, .p, .p, .p, .p, .p] ?_)
   refine .mv rfl rfl <| .mv rfl rfl <| .P rfl (q_indexI Tryz.underlying124 Tryz.sizeOf9 rfl rfl (by omega) (idx_mid (fun s => [D.str s]) hx rfl)) <| .P rfl (q_loadI Tryz.isAgg9 rfl) <| .P rfl (q_call Tryz.call50 rfl (name10_ok _)) <| .P rfl (q_not rfl) <| .nil ?_
   refine Run.cond rfl (fun h2 => ?_) (fun h2 => ?_)
   ·have ph2 := h2; try simp only [bs] at ph2
    refine Run.seq (Run.reg [.p] ?_)
    refine .ag rfl rfl <| .nil ?_
    refine Run.ret (bq_ret (tq_ret (bq_ret (?_))))
    exact ret1 rfl (Sub.int (by grind [checkCode]))
   ·have ph2 := h2; try simp only [bs] at ph2
    refine Run.skip ?_
    refine Run.nil (bq_norm ?_)
    refine Run.reg [.p, .p, .p] ?_
    refine .mv rfl rfl <| .P rfl (q_add rfl rfl (wrap64_ok (by omega) (by omega))) <| .ag rfl rfl <| .nil ?_
    refine Run.nil (tq_norm ?_)
    exact ⟨⟨pre ++ [x], rest, by simp [hx], by grind⟩, by simp, Le.mk rfl (.same rfl rfl (.cons rfl Sub.intA rfl .nil)) .nil⟩
theorem fields35_ok (l : Line) (hs : l.account.length ≤ 1000) : Fc Tryz.prog 110 [.agg (encLine l)] (.i (checkFields l)) := by
 refine Fc.mk' [2] Tryz.func110 rfl Tryz.ntmps110 rfl rfl rfl (fun t w => results_tmp Tryz.results110 t _ w) ?_
 refine Run.seq (Run.reg [.w, .p] ?_)
 refine .W rfl (q_boxA 0 rfl rfl) <| .ag rfl rfl <| .nil ?_
 refine Run.seq (Run.seq (Run.reg [.p, .r, .p, .p] ?_))
 refine .P rfl (q_fieldB (n := 0) 9 0 Tryz.underlying92 Tryz.sizeOf9 rfl rfl) <| .R rfl (q_load1 Tryz.isAgg9 rfl rfl rfl) <| .P rfl (q_call Tryz.call159 rfl (check34_ok _ (by first | assumption | omega | (simp at *; omega)))) <| .P rfl (q_neq rfl rfl) <| .nil ?_
 refine Run.cond rfl (fun h1 => ?_) (fun h1 => ?_)
 ·have ph1 := h1; try simp only [bs] at ph1
  refine Run.seq (Run.reg [.p] ?_)
  refine .ag rfl rfl <| .nil ?_
  refine Run.ret (?_)
  exact ret1 rfl (Sub.int (by grind [checkFields]))
 ·have ph1 := h1; try simp only [bs] at ph1
  refine Run.skip ?_
  refine Run.seq (Run.seq (Run.reg [.p, .r, .p, .p] ?_))
  refine .P rfl (q_fieldB (n := 0) 9 1 Tryz.underlying92 Tryz.sizeOf9 rfl rfl) <| .R rfl (q_load1 Tryz.isAgg9 rfl rfl rfl) <| .P rfl (q_call Tryz.call160 rfl (code05_ok _)) <| .P rfl (q_not rfl) <| .nil ?_
  refine Run.cond rfl (fun h2 => ?_) (fun h2 => ?_)
  ·have ph2 := h2; try simp only [bs] at ph2
   refine Run.seq (Run.reg [.p] ?_)
   refine .ag rfl rfl <| .nil ?_
   refine Run.ret (?_)
   exact ret1 rfl (Sub.int (by grind [checkFields]))
  ·have ph2 := h2; try simp only [bs] at ph2
   refine Run.skip ?_
   refine Run.seq (Run.seq (Run.reg [.p, .r, .p, .p] ?_))
   refine .P rfl (q_fieldB (n := 0) 54 2 Tryz.underlying92 Tryz.sizeOf54 rfl rfl) <| .R rfl (q_load1 Tryz.isAgg54 rfl rfl rfl) <| .P rfl (q_call Tryz.call161 rfl (check01_ok _)) <| .P rfl (q_neq rfl rfl) <| .nil ?_
   refine Run.cond rfl (fun h3 => ?_) (fun h3 => ?_)
   ·have ph3 := h3; try simp only [bs] at ph3
    refine Run.seq (Run.reg [.p] ?_)
    refine .ag rfl rfl <| .nil ?_
    refine Run.ret (?_)
    exact ret1 rfl (Sub.int (by grind [checkFields]))
   ·have ph3 := h3; try simp only [bs] at ph3
    refine Run.skip ?_
    refine Run.seq (Run.reg [.p] ?_)
    refine .ag rfl rfl <| .nil ?_
    refine Run.ret (?_)
    exact ret1 rfl (Sub.int (by grind [checkFields]))
end Go.T
namespace Go.T
open Go Go.Proofs
set_option maxRecDepth 20000
structure short01_ok_L0 (s : Str) (hs : (digits s).1.length ≤ 17) where
 pre : List UInt8
 rest : List UInt8
 hx : (digits s).1 = pre ++ rest
theorem short01_ok (s : Str) (hs : (digits s).1.length ≤ 17) : Fc Tryz.prog 143 [.str s] (.tup [.i (val s), .b true]) := by
 refine Fc.mk' [2, 3] Tryz.func143 rfl Tryz.ntmps143 rfl rfl rfl (fun t w => results_tmp2 Tryz.results143 t _ w) ?_
 refine Run.bStr 0 rfl (fun hb => ?_)
 simp only [big] at hb
 have hdg := digits_dig s
 refine Run.seq (Run.reg [.p, .p] ?_)
 refine .ag rfl rfl <| .ag rfl rfl <| .nil ?_
 refine Run.seq (Run.reg [.p, .p, .p, .p, .p, .p, .p] ?_)
 refine .mv rfl rfl <| .P rfl (q_call Tryz.call189 rfl (digits01_ok _)) <| .mv rfl rfl <| .P rfl (q_extract rfl rfl) <| .P rfl (q_extract rfl rfl) <| .ag rfl rfl <| .ag rfl rfl <| .nil ?_
 refine Run.seq (Run.seq (Run.reg [.p, .p, .p] ?_))
 refine .mv rfl rfl <| .P rfl (q_lenS Tryz.underlying9 rfl) <| .P rfl (q_gtr rfl rfl) <| .nil ?_
 refine Run.cond rfl (fun h1 => ?_) (fun h1 => ?_)
 ·have ph1 := h1; try simp only [bs] at ph1
  refine Run.seq (Run.reg [.p, .p] ?_)
  refine .ag rfl rfl <| .ag rfl rfl <| .nil ?_
  refine Run.ret (?_)
  exact ret2 rfl rfl (Sub.int (by first | omega | (simp only [val, List.append_nil] at *; simp [*]))) (Sub.bool (by grind))
 ·have ph1 := h1; try simp only [bs] at ph1
  refine Run.skip ?_
  refine Run.seq (Run.reg [.p] ?_)
  refine .ag rfl rfl <| .nil ?_
  refine Run.seq (Run.seq (Run.reg [.p] ?_))
  refine .ag rfl rfl <| .nil ?_
  refine Run.block ?_
  refine Run.loop (ι := short01_ok_L0 s hs) (fun sx => [(4, .str (digits s).1), (5, .b (digits s).2), (6, .i (natVal sx.pre)), (7, .i sx.pre.length)]) (fun sx => []) (fun sx => sx.rest.length) ⟨[], (digits s).1, rfl⟩ ?_ ?_
  ·exact Le.mk rfl (.cons rfl Sub.strA rfl (.cons rfl Sub.boolA rfl (.cons rfl (Sub.int (by first | rfl | (rw [natVal_snoc]; omega))) rfl (.cons rfl Sub.intA rfl .nil)))) .nil
  ·rintro ⟨pre, rest, hx⟩
   show Run _ _ _ _ [(4, .str (digits s).1), (5, .b (digits s).2), (6, .i (natVal pre)), (7, .i pre.length)] []
   have hl := congrArg List.length hx
   simp only [List.length_append] at hl
   rw [hx, List.all_append, Bool.and_eq_true] at hdg
   have hv := natVal_small hdg.1 (by omega)
   rcases rest with _ | ⟨x, rest⟩
   ·skip
    refine Run.seq (Run.seq (Run.reg [.p, .p, .p, .p] ?_))
    refine .mv rfl rfl <| .mv rfl rfl <| .P rfl (q_lenS Tryz.underlying9 rfl) <| .P rfl (q_lss rfl rfl) <| .nil ?_
    refine Run.condF rfl (by simp at hl ⊢; omega) ?_
    refine Run.exit (tq_exit (bq_exit ?_))
    refine Run.seq (Run.seq (Run.reg [.p] ?_))
    refine .mv rfl rfl <| .nil ?_
    refine Run.cond rfl (fun h2 => ?_) (fun h2 => ?_)
    ·have ph2 := h2; try simp only [bs] at ph2
     refine Run.reg [.p, .p, .p] ?_
     refine .mv rfl rfl <| .P rfl (q_neg rfl (wrap64_ok (by omega) (by omega))) <| .ag rfl rfl <| .nil ?_
     refine Run.seq (Run.reg [.p, .p, .p] ?_)
     refine .mv rfl rfl <| .ag rfl rfl <| .ag rfl rfl <| .nil ?_
     refine Run.ret (?_)
     exact ret2 rfl rfl (Sub.int (by first | omega | (simp only [val, List.append_nil] at *; simp [*]))) (Sub.bool (by grind))
    ·have ph2 := h2; try simp only [bs] at ph2
     refine Run.skip ?_
     refine Run.seq (Run.reg [.p, .p, .p] ?_)
     refine .mv rfl rfl <| .ag rfl rfl <| .ag rfl rfl <| .nil ?_
     refine Run.ret (?_)
     exact ret2 rfl rfl (Sub.int (by first | omega | (simp only [val, List.append_nil] at *; simp [*]))) (Sub.bool (by grind))
   ·simp only [List.length_cons] at hl
    have hq := hdg.2
    simp only [List.all_cons, Bool.and_eq_true, isDig, decide_eq_true_eq] at hq
    have hv16 := natVal_lt pre hdg.1
    have hp16 : 10 ^ pre.length ≤ 10 ^ 16 := Nat.pow_le_pow_right (by omega) (by omega)
    refine Run.seq (Run.seq (Run.reg [.p, .p, .p, .p] ?_))
    refine .mv rfl rfl <| .mv rfl rfl <| .P rfl (q_lenS Tryz.underlying9 rfl) <| .P rfl (q_lss rfl rfl) <| .nil ?_
    refine Run.condT rfl (by simp; omega) ?_
    refine Run.skip ?_
    refine Run.seq ?_
    refine Run.block ?_
    refine Run.reg [.p, .p, .p, .p, .p, .p, .p, .p, .p] ?_
    refine .mv rfl rfl <| .P rfl (q_mul rfl rfl (wrap64_ok (by omega) (by omega))) <| .mv rfl rfl <| .mv rfl rfl <| .P rfl (q_indexS Tryz.underlying9 rfl rfl (by omega) (idx_midS hx rfl)) <| .P rfl (q_sub rfl rfl (wrapu8_ok (by omega) (by omega))) <| .P rfl (q_conv Tryz.underlying5 Tryz.underlying3 rfl (wrap64_ok (by omega) (by omega))) <| .P rfl (q_add rfl rfl (wrap64_ok (by omega) (by omega))) <| .ag rfl rfl <| .nil ?_
    refine Run.nil (bq_norm ?_)
    refine Run.reg [.p, .p, .p] ?_
    refine .mv rfl rfl <| .P rfl (q_add rfl rfl (wrap64_ok (by omega) (by omega))) <| .ag rfl rfl <| .nil ?_
    refine Run.nil (tq_norm ?_)
    exact ⟨⟨pre ++ [x], rest, by simp [hx]⟩, by simp, Le.mk rfl (.cons rfl Sub.strA rfl (.cons rfl Sub.boolA rfl (.cons rfl (Sub.int (by first | rfl | (rw [natVal_snoc]; omega))) rfl (.cons rfl Sub.intA rfl .nil)))) .nil⟩
structure of01_ok_L0 (n : Int) (hn : -1000000000000000000 < n ∧ n < 1000000000000000000) where
 cur : Int
 acc : Str
 hx : natDig n.natAbs = natDig cur.natAbs ++ acc
 hc : -1000000000000000000 < cur ∧ cur < 1000000000000000000
theorem of01_ok (n : Int) (hn : -1000000000000000000 < n ∧ n < 1000000000000000000) : Fc Tryz.prog 144 [.i n] (.str (ofInt n)) := by
 refine Fc.mk' [2] Tryz.func144 rfl Tryz.ntmps144 rfl rfl rfl (fun t w => results_tmp Tryz.results144 t _ w) ?_
 have hdl := natDig_len 18 n.natAbs (by omega)
 refine Run.seq (Run.reg [.p] ?_)
 refine .ag rfl rfl <| .nil ?_
 refine Run.seq (Run.seq (Run.reg [.p, .p] ?_))
 refine .mv rfl rfl <| .P rfl (q_eql rfl rfl) <| .nil ?_
 refine Run.cond rfl (fun h1 => ?_) (fun h1 => ?_)
 ·have ph1 := h1; try simp only [bs] at ph1
  refine Run.seq (Run.reg [.p] ?_)
  refine .ag rfl rfl <| .nil ?_
  refine Run.ret (?_)
  exact ret1 rfl (Sub.str (by first | (simp [ofInt, natDig_zero, *]; done) | (obtain rfl : cur = 0 := by assumption) <;> simp [ofInt, natDig_zero, hx] <;> omega))
 ·have ph1 := h1; try simp only [bs] at ph1
  refine Run.skip ?_
  refine Run.seq (Run.reg [.p] ?_)
  refine .ag rfl rfl <| .nil ?_
  refine Run.seq (Run.seq (Run.reg [.p, .p] ?_))
  refine .mv rfl rfl <| .ag rfl rfl <| .nil ?_
  refine Run.block ?_
  refine Run.loop (ι := of01_ok_L0 n hn) (fun sx => [(0, .i n), (3, .str sx.acc), (4, .i sx.cur)]) (fun sx => []) (fun sx => sx.cur.natAbs) ⟨n, [], by simp, hn⟩ ?_ ?_
  ·exact Le.mk rfl (.cons rfl Sub.intA rfl (.cons rfl (Sub.str (by first | rfl | simp)) rfl (.cons rfl Sub.intA rfl .nil))) .nil
  ·rintro ⟨cur, acc, hx, hc⟩
   show Run _ _ _ _ [(0, .i n), (3, .str acc), (4, .i cur)] []
   have ha := tmod_abs cur
   have hd := tdiv_abs cur
   refine Run.seq (Run.seq (Run.reg [.p, .p] ?_))
   refine .mv rfl rfl <| .P rfl (q_neq rfl rfl) <| .nil ?_
   refine Run.cond rfl (fun h2 => ?_) (fun h2 => ?_)
   ·have ph2 := h2; try simp only [bs] at ph2
    refine Run.skip ?_
    refine Run.seq ?_
    refine Run.block ?_
    refine Run.seq (Run.reg [.p, .p, .p] ?_)
    refine .mv rfl rfl <| .P rfl (q_rem rfl rfl (by decide) rfl) <| .ag rfl rfl <| .nil ?_
    refine Run.seq (Run.seq (Run.reg [.p, .p] ?_))
    refine .mv rfl rfl <| .P rfl (q_lss rfl rfl) <| .nil ?_
    refine Run.cond rfl (fun h3 => ?_) (fun h3 => ?_)
    ·have ph3 := h3; try simp only [bs] at ph3
     refine Run.reg [.p, .p, .p] ?_
     refine .mv rfl rfl <| .P rfl (q_neg rfl (wrap64_ok (by omega) (by omega))) <| .ag rfl rfl <| .nil ?_
     refine Run.reg [.p, .p, .p, .p, .p, .p, .p] ?_
     refine .mv rfl rfl <| .P rfl (q_add rfl rfl (wrap64_ok (by omega) (by omega))) <| .P rfl (q_conv Tryz.underlying3 Tryz.underlying21 rfl (wrap32_ok (by omega) (by omega))) <| .P rfl (q_runeS Tryz.underlying21 Tryz.underlying9 rfl (c := UInt8.ofNat (48 + cur.natAbs % 10)) (by omega) (by omega) (by congr 1; omega)) <| .mv rfl rfl <| .P rfl (q_addS rfl rfl (by simp only [big]; have := congrArg List.length hx; simp at this ⊢; omega) rfl) <| .ag rfl rfl <| .nil ?_
     refine Run.nil (bq_norm ?_)
     refine Run.reg [.p, .p, .p] ?_
     refine .mv rfl rfl <| .P rfl (q_quo rfl rfl (by decide) (wrap64_ok (by omega) (by omega))) <| .ag rfl rfl <| .nil ?_
     refine Run.nil (tq_norm ?_)
     exact ⟨⟨cur.tdiv 10, UInt8.ofNat (48 + cur.natAbs % 10) :: acc, by rw [hx, natDig_int (by assumption)]; simp, by omega⟩, by (try dsimp only); omega, Le.mk rfl (.cons rfl Sub.intA rfl (.cons rfl (Sub.str (by first | rfl | simp)) rfl (.cons rfl Sub.intA rfl .nil))) .nil⟩
    ·have ph3 := h3; try simp only [bs] at ph3
     refine Run.skip ?_
     refine Run.reg [.p, .p, .p, .p, .p, .p, .p] ?_
     refine .mv rfl rfl <| .P rfl (q_add rfl rfl (wrap64_ok (by omega) (by omega))) <| .P rfl (q_conv Tryz.underlying3 Tryz.underlying21 rfl (wrap32_ok (by omega) (by omega))) <| .P rfl (q_runeS Tryz.underlying21 Tryz.underlying9 rfl (c := UInt8.ofNat (48 + cur.natAbs % 10)) (by omega) (by omega) (by congr 1; omega)) <| .mv rfl rfl <| .P rfl (q_addS rfl rfl (by simp only [big]; have := congrArg List.length hx; simp at this ⊢; omega) rfl) <| .ag rfl rfl <| .nil ?_
     refine Run.nil (bq_norm ?_)
     refine Run.reg [.p, .p, .p] ?_
     refine .mv rfl rfl <| .P rfl (q_quo rfl rfl (by decide) (wrap64_ok (by omega) (by omega))) <| .ag rfl rfl <| .nil ?_
     refine Run.nil (tq_norm ?_)
     exact ⟨⟨cur.tdiv 10, UInt8.ofNat (48 + cur.natAbs % 10) :: acc, by rw [hx, natDig_int (by assumption)]; simp, by omega⟩, by (try dsimp only); omega, Le.mk rfl (.cons rfl Sub.intA rfl (.cons rfl (Sub.str (by first | rfl | simp)) rfl (.cons rfl Sub.intA rfl .nil))) .nil⟩
   ·have ph2 := h2; try simp only [bs] at ph2
    refine Run.exit (tq_exit (bq_exit ?_))
    refine Run.seq (Run.seq (Run.reg [.p, .p] ?_))
    refine .mv rfl rfl <| .P rfl (q_lss rfl rfl) <| .nil ?_
    refine Run.cond rfl (fun h4 => ?_) (fun h4 => ?_)
    ·have ph4 := h4; try simp only [bs] at ph4
     refine Run.reg [.p, .p, .p] ?_
     refine .mv rfl rfl <| .P rfl (q_addS rfl rfl (by simp only [big]; have := congrArg List.length hx; simp at this ⊢; omega) rfl) <| .ag rfl rfl <| .nil ?_
     refine Run.seq (Run.reg [.p, .p] ?_)
     refine .mv rfl rfl <| .ag rfl rfl <| .nil ?_
     refine Run.ret (?_)
     exact ret1 rfl (Sub.str (by first | (simp [ofInt, natDig_zero, *]; done) | (obtain rfl : cur = 0 := by assumption) <;> simp [ofInt, natDig_zero, hx] <;> omega))
    ·have ph4 := h4; try simp only [bs] at ph4
     refine Run.skip ?_
     refine Run.seq (Run.reg [.p, .p] ?_)
     refine .mv rfl rfl <| .ag rfl rfl <| .nil ?_
     refine Run.ret (?_)
     exact ret1 rfl (Sub.str (by first | (simp [ofInt, natDig_zero, *]; done) | (obtain rfl : cur = 0 := by assumption) <;> simp [ofInt, natDig_zero, hx] <;> omega))
theorem add01_ok (a b : Str) (ha : (digits a).1.length ≤ 17) (hb : (digits b).1.length ≤ 17) : Fc Tryz.prog 91 [.str a, .str b] (.str (addS a b)) := by
 refine Fc.mk' [4] Tryz.func91 rfl Tryz.ntmps91 rfl rfl rfl (fun t w => results_tmp Tryz.results91 t _ w) ?_
 have hva := val_bound ha
 have hvb := val_bound hb
 refine Run.seq (Run.reg [.p] ?_)
 refine .ag rfl rfl <| .nil ?_
 refine Run.seq (Run.reg [.p, .p, .p, .p, .p, .p, .p] ?_)
 refine .mv rfl rfl <| .P rfl (q_call Tryz.call143 rfl (short01_ok _ (by first | assumption | omega | (simp at *; omega)))) <| .mv rfl rfl <| .P rfl (q_extract rfl rfl) <| .P rfl (q_extract rfl rfl) <| .ag rfl rfl <| .ag rfl rfl <| .nil ?_
 refine Run.seq (Run.reg [.p, .p, .p, .p, .p, .p, .p] ?_)
 refine .mv rfl rfl <| .P rfl (q_call Tryz.call143 rfl (short01_ok _ (by first | assumption | omega | (simp at *; omega)))) <| .mv rfl rfl <| .P rfl (q_extract rfl rfl) <| .P rfl (q_extract rfl rfl) <| .ag rfl rfl <| .ag rfl rfl <| .nil ?_
 refine Run.seq (Run.seq (Run.reg [.p, .p, .p, .p] ?_))
 refine .mv rfl rfl <| .mv rfl rfl <| .p rfl (on_of rfl rfl rfl rfl) (fun _ => q_move rfl _) <| .P rfl (q_pickT rfl rfl rfl) <| .nil ?_
 refine Run.condT rfl rfl ?_
 refine Run.seq (Run.reg [.p, .p, .p, .p, .p] ?_)
 refine .mv rfl rfl <| .mv rfl rfl <| .P rfl (q_add rfl rfl (wrap64_ok (by omega) (by omega))) <| .P rfl (q_call Tryz.call144 rfl (of01_ok _ (by omega))) <| .ag rfl rfl <| .nil ?_
 refine Run.ret (?_)
 exact ret1 rfl (Sub.str (by first | rfl | contradiction | simp_all))
end Go.T
namespace Go.T
open Go Go.Proofs
set_option maxRecDepth 20000
structure balances35_ok_L0 (l : List Line) (hs : l.length ≤ 66) (hm : ∀ x ∈ l, x.amount.length ≤ 14) where
 pre : List Line
 rest : List Line
 hx : l = pre ++ rest
 hp : pre.all (fun x => decide (sumV x.currency l = 0)) = true
structure balances35_ok_L1 (l : List Line) (hs : l.length ≤ 66) (hm : ∀ x ∈ l, x.amount.length ≤ 14) (pre : List Line) (x : Line) where
 pre2 : List Line
 rest2 : List Line
 hx2 : l = pre2 ++ rest2
theorem balances35_ok (l : List Line) (hs : l.length ≤ 66) (hm : ∀ x ∈ l, x.amount.length ≤ 14) : Fc Tryz.prog 112 [sLines l] (.b (balanced l)) := by
 refine Fc.mk' [2] Tryz.func112 rfl Tryz.ntmps112 rfl rfl rfl (fun t w => results_tmp Tryz.results112 t _ w) ?_
 refine Run.bSnap 0 rfl (fun hb => ?_)
 simp only [List.length_map, big] at hb
 refine Run.seq (Run.reg [.p] ?_)
 refine .ag rfl rfl <| .nil ?_
 refine Run.seq (Run.seq (Run.reg [.p] ?_))
 refine .ag rfl rfl <| .nil ?_
 refine Run.block ?_
 refine Run.loop (ι := balances35_ok_L0 l hs hm) (fun sx => [(0, sLines l), (3, .i sx.pre.length)]) (fun sx => []) (fun sx => sx.rest.length) ⟨[], l, rfl, rfl⟩ ?_ ?_
 ·exact Le.mk rfl (.same rfl rfl (.cons rfl Sub.intA rfl .nil)) .nil
 ·rintro ⟨pre, rest, hx, hp⟩
  show Run _ _ _ _ [(0, sLines l), (3, .i pre.length)] []
  have hl := congrArg List.length hx
  simp only [List.length_append] at hl
  rcases rest with _ | ⟨x, rest⟩
  ·skip
   refine Run.seq (Run.seq (Run.reg [.p, .p, .p, .p] ?_))
   refine .mv rfl rfl <| .mv rfl rfl <| .P rfl (q_lenI Tryz.underlying35 rfl) <| .P rfl (q_lss rfl rfl) <| .nil ?_
   refine Run.condF rfl (by simp at hl ⊢; omega) ?_
   refine Run.exit (tq_exit (bq_exit ?_))
   refine Run.seq (Run.reg [.p] ?_)
   refine .ag rfl rfl <| .nil ?_
   refine Run.ret (?_)
   exact ret1 rfl (Sub.bool (by first | (simp only [List.append_nil] at hx2; grind [balanced, ofInt_nil]) | grind [balanced, ofInt_nil]))
  ·simp only [List.length_cons] at hl
   refine Run.seq (Run.seq (Run.reg [.p, .p, .p, .p] ?_))
   refine .mv rfl rfl <| .mv rfl rfl <| .P rfl (q_lenI Tryz.underlying35 rfl) <| .P rfl (q_lss rfl rfl) <| .nil ?_
   refine Run.condT rfl (by simp; omega) ?_
   refine Run.skip ?_
   refine Run.seq ?_
   refine Run.block ?_
   refine Run.seq (Run.reg [.p] ?_)
   refine .ag rfl rfl <| .nil ?_
   refine Run.seq (Run.seq (Run.reg [.p] ?_))
   refine .ag rfl rfl <| .nil ?_
   refine Run.block ?_
   refine Run.loop (ι := balances35_ok_L1 l hs hm pre x) (fun sx => [(0, sLines l), (3, .i pre.length), (4, .str (ofInt (sumV x.currency sx.pre2))), (5, .i sx.pre2.length)]) (fun sx => []) (fun sx => sx.rest2.length) ⟨[], l, rfl⟩ ?_ ?_
   ·exact Le.mk rfl (.same rfl rfl (.cons rfl Sub.intA rfl (.cons rfl (Sub.str (by first | (rw [addS_ofInt, sumV_append]; simp [sumV, *]) | (rw [sumV_append]; simp [sumV, *]) | (simp [sumV, ofInt_zero]))) rfl (.cons rfl Sub.intA rfl .nil)))) .nil
   ·rintro ⟨pre2, rest2, hx2⟩
    show Run _ _ _ _ [(0, sLines l), (3, .i pre.length), (4, .str (ofInt (sumV x.currency pre2))), (5, .i pre2.length)] []
    have hl2 := congrArg List.length hx2
    simp only [List.length_append] at hl2
    rcases rest2 with _ | ⟨x2, rest2⟩
    ·skip
     refine Run.seq (Run.seq (Run.reg [.p, .p, .p, .p] ?_))
     refine .mv rfl rfl <| .mv rfl rfl <| .P rfl (q_lenI Tryz.underlying35 rfl) <| .P rfl (q_lss rfl rfl) <| .nil ?_
     refine Run.condF rfl (by simp at hl2 ⊢; omega) ?_
     refine Run.exit (tq_exit (bq_exit ?_))
     refine Run.seq (Run.reg [.p, .p] ?_)
     refine .mv rfl rfl <| .P rfl (q_neqS rfl rfl) <| .nil ?_
     refine Run.cond rfl (fun h1 => ?_) (fun h1 => ?_)
     ·have ph1 := h1; try simp only [bs] at ph1
      refine Run.seq (Run.reg [.p] ?_)
      refine .ag rfl rfl <| .nil ?_
      refine Run.ret (bq_ret (tq_ret (bq_ret (?_))))
      exact ret1 rfl (Sub.bool (by first | (simp only [List.append_nil] at hx2; grind [balanced, ofInt_nil]) | grind [balanced, ofInt_nil]))
     ·have ph1 := h1; try simp only [bs] at ph1
      refine Run.skip ?_
      refine Run.nil (bq_norm ?_)
      refine Run.reg [.p, .p, .p] ?_
      refine .mv rfl rfl <| .P rfl (q_add rfl rfl (wrap64_ok (by omega) (by omega))) <| .ag rfl rfl <| .nil ?_
      refine Run.nil (tq_norm ?_)
      exact ⟨⟨pre ++ [x], rest, by simp [hx], by grind [ofInt_nil]⟩, by simp, Le.mk rfl (.same rfl rfl (.cons rfl Sub.intA rfl .nil)) .nil⟩
    ·simp only [List.length_cons] at hl2
     have hbd := sumV_bound (c := x.currency) (ls := pre2) (fun y hy => hm y (by rw [hx2]; simp [hy]))
     have hv := hm x2 (by rw [hx2]; simp)
     refine Run.seq (Run.seq (Run.reg [.p, .p, .p, .p] ?_))
     refine .mv rfl rfl <| .mv rfl rfl <| .P rfl (q_lenI Tryz.underlying35 rfl) <| .P rfl (q_lss rfl rfl) <| .nil ?_
     refine Run.condT rfl (by simp; omega) ?_
     refine Run.skip ?_
     refine Run.seq ?_
     refine Run.block ?_
     refine Run.seq (Run.regD [.p, .p, .p, .p, .p, .p, .p, .p, .p, .p, .p] Tryz_mixed (by decide +kernel) ?_)
     refine .mv rfl rfl <| .mv rfl rfl <| .P rfl (q_indexI Tryz.underlying35 Tryz.sizeOf92 rfl rfl (by omega) (idx_mid encLine hx2 rfl)) <| .P rfl (q_fieldI (n := 0) 9 1 Tryz.underlying92 Tryz.sizeOf9 rfl rfl rfl) <| .P rfl (q_loadI Tryz.isAgg9 rfl) <| .mv rfl rfl <| .mv rfl rfl <| .P rfl (q_indexI Tryz.underlying35 Tryz.sizeOf92 rfl rfl (by omega) (idx_mid encLine hx rfl)) <| .P rfl (q_fieldI (n := 0) 9 1 Tryz.underlying92 Tryz.sizeOf9 rfl rfl rfl) <| .P rfl (q_loadI Tryz.isAgg9 rfl) <| .P rfl (q_eqlS rfl rfl) <| .nil ?_
     refine Run.cond rfl (fun h2 => ?_) (fun h2 => ?_)
     ·have ph2 := h2; try simp only [bs] at ph2
      refine Run.reg [.p, .p, .p, .p, .p, .p, .p, .p] ?_
      refine .mv rfl rfl <| .mv rfl rfl <| .mv rfl rfl <| .P rfl (q_indexI Tryz.underlying35 Tryz.sizeOf92 rfl rfl (by omega) (idx_mid encLine hx2 rfl)) <| .P rfl (q_fieldI (n := 0) 54 2 Tryz.underlying92 Tryz.sizeOf54 rfl rfl rfl) <| .P rfl (q_loadI Tryz.isAgg54 rfl) <| .P rfl (q_call Tryz.call91 rfl (add01_ok _ _ (ofInt_digits (by omega)) (by have := digits_len x2.amount; omega))) <| .ag rfl rfl <| .nil ?_
      refine Run.nil (bq_norm ?_)
      refine Run.reg [.p, .p, .p] ?_
      refine .mv rfl rfl <| .P rfl (q_add rfl rfl (wrap64_ok (by omega) (by omega))) <| .ag rfl rfl <| .nil ?_
      refine Run.nil (tq_norm ?_)
      exact ⟨⟨pre2 ++ [x2], rest2, by simp [hx2]⟩, by simp, Le.mk rfl (.same rfl rfl (.cons rfl Sub.intA rfl (.cons rfl (Sub.str (by first | (rw [addS_ofInt, sumV_append]; simp [sumV, *]) | (rw [sumV_append]; simp [sumV, *]) | (simp [sumV, ofInt_zero]))) rfl (.cons rfl Sub.intA rfl .nil)))) .nil⟩
     ·have ph2 := h2; try simp only [bs] at ph2
      refine Run.skip ?_
      refine Run.nil (bq_norm ?_)
      refine Run.reg [.p, .p, .p] ?_
      refine .mv rfl rfl <| .P rfl (q_add rfl rfl (wrap64_ok (by omega) (by omega))) <| .ag rfl rfl <| .nil ?_
      refine Run.nil (tq_norm ?_)
      exact ⟨⟨pre2 ++ [x2], rest2, by simp [hx2]⟩, by simp, Le.mk rfl (.same rfl rfl (.cons rfl Sub.intA rfl (.cons rfl (Sub.str (by first | (rw [addS_ofInt, sumV_append]; simp [sumV, *]) | (rw [sumV_append]; simp [sumV, *]) | (simp [sumV, ofInt_zero]))) rfl (.cons rfl Sub.intA rfl .nil)))) .nil⟩
end Go.T
namespace Go.T
open Go Go.Proofs
set_option maxRecDepth 20000
structure check35_ok_L0 (e : Entry) where
 pre : List Line
 rest : List Line
 hx : e.lines = pre ++ rest
 hp : checkLines [] e.lines = checkLines pre rest
 h0 : checkHead e = 0 ∧ e.lines.length ≠ 0 ∧ e.lines.length ≤ 64
theorem check35_ok (e : Entry) (hs : smallE e) : Fc Tryz.prog 56 [.agg (encEntry e)] (.i (checkE e)) := by
 refine Fc.mk' [2] Tryz.func56 rfl Tryz.ntmps56 rfl rfl rfl (fun t w => results_tmp Tryz.results56 t _ w) ?_
 refine Run.bAgg 0 2 rfl rfl (fun hb => ?_)
 simp only [List.length_map, big] at hb
 obtain ⟨hs1, hs2, hs3⟩ := hs
 refine Run.seq (Run.reg [.w, .p] ?_)
 refine .W rfl (q_boxA 0 rfl rfl) <| .ag rfl rfl <| .nil ?_
 refine Run.seq (Run.seq (Run.reg [.r, .p, .p] ?_))
 refine .R rfl (q_loadW Tryz.isAgg37 Tryz.sizeOf37 rfl rfl rfl) <| .P rfl (q_call Tryz.call109 rfl (head35_ok _)) <| .ag rfl rfl <| .nil ?_
 refine Run.seq (Run.reg [.p, .p] ?_)
 refine .mv rfl rfl <| .P rfl (q_neq rfl rfl) <| .nil ?_
 refine Run.cond rfl (fun h1 => ?_) (fun h1 => ?_)
 ·have ph1 := h1; try simp only [bs] at ph1
  refine Run.seq (Run.reg [.p, .p] ?_)
  refine .mv rfl rfl <| .ag rfl rfl <| .nil ?_
  refine Run.ret (?_)
  exact ret1 rfl (Sub.int (by grind [checkE, checkLines]))
 ·have ph1 := h1; try simp only [bs] at ph1
  refine Run.skip ?_
  refine Run.seq (Run.seq (Run.reg [.p, .r, .p, .p] ?_))
  refine .P rfl (q_fieldB (n := 0) 35 2 Tryz.underlying37 Tryz.sizeOf35 rfl rfl) <| .R rfl (q_load1 Tryz.isAgg35 rfl rfl rfl) <| .P rfl (q_lenI Tryz.underlying35 rfl) <| .P rfl (q_eql rfl rfl) <| .nil ?_
  refine Run.cond rfl (fun h2 => ?_) (fun h2 => ?_)
  ·have ph2 := h2; try simp only [bs] at ph2
   refine Run.seq (Run.reg [.p] ?_)
   refine .ag rfl rfl <| .nil ?_
   refine Run.ret (?_)
   exact ret1 rfl (Sub.int (by grind [checkE, checkLines]))
  ·have ph2 := h2; try simp only [bs] at ph2
   refine Run.skip ?_
   refine Run.seq (Run.seq (Run.reg [.p, .r, .p, .p] ?_))
   refine .P rfl (q_fieldB (n := 0) 35 2 Tryz.underlying37 Tryz.sizeOf35 rfl rfl) <| .R rfl (q_load1 Tryz.isAgg35 rfl rfl rfl) <| .P rfl (q_lenI Tryz.underlying35 rfl) <| .P rfl (q_gtr rfl rfl) <| .nil ?_
   refine Run.cond rfl (fun h3 => ?_) (fun h3 => ?_)
   ·have ph3 := h3; try simp only [bs] at ph3
    refine Run.seq (Run.reg [.p] ?_)
    refine .ag rfl rfl <| .nil ?_
    refine Run.ret (?_)
    exact ret1 rfl (Sub.int (by grind [checkE, checkLines]))
   ·have ph3 := h3; try simp only [bs] at ph3
    refine Run.skip ?_
    refine Run.seq (Run.seq (Run.reg [.p] ?_))
    refine .ag rfl rfl <| .nil ?_
    refine Run.block ?_
    refine Run.loop (ι := check35_ok_L0 e) (fun sx => [(1, .box 0 0), (4, .i sx.pre.length)]) (fun sx => [(0, .cells (encEntry e))]) (fun sx => sx.rest.length) ⟨[], e.lines, rfl, rfl, by omega⟩ ?_ ?_
    ·exact Le.mk rfl (.same rfl rfl (.cons rfl Sub.intA rfl .nil)) (.cons rfl rfl .nil)
    ·rintro ⟨pre, rest, hx, hp, h0⟩
     show Run _ _ _ _ [(1, .box 0 0), (4, .i pre.length)] [(0, .cells (encEntry e))]
     have hl := congrArg List.length hx
     simp only [List.length_append] at hl
     rcases rest with _ | ⟨x, rest⟩
     ·skip
      refine Run.seq (Run.seq (Run.reg [.p, .p, .r, .p, .p] ?_))
      refine .mv rfl rfl <| .P rfl (q_fieldB (n := 0) 35 2 Tryz.underlying37 Tryz.sizeOf35 rfl rfl) <| .R rfl (q_load1 Tryz.isAgg35 rfl rfl rfl) <| .P rfl (q_lenI Tryz.underlying35 rfl) <| .P rfl (q_lss rfl rfl) <| .nil ?_
      refine Run.condF rfl (by simp at hl ⊢; omega) ?_
      refine Run.exit (tq_exit (bq_exit ?_))
      refine Run.seq (Run.seq (Run.reg [.p, .r, .p, .p] ?_))
      refine .P rfl (q_fieldB (n := 0) 35 2 Tryz.underlying37 Tryz.sizeOf35 rfl rfl) <| .R rfl (q_load1 Tryz.isAgg35 rfl rfl rfl) <| .P rfl (q_call Tryz.call112 rfl (balances35_ok _ hs2 (fun x hx => (hs3 x hx).2.2))) <| .P rfl (q_not rfl) <| .nil ?_
      refine Run.cond rfl (fun h4 => ?_) (fun h4 => ?_)
      ·have ph4 := h4; try simp only [bs] at ph4
       refine Run.seq (Run.reg [.p] ?_)
       refine .ag rfl rfl <| .nil ?_
       refine Run.ret (?_)
       exact ret1 rfl (Sub.int (by grind [checkE, checkLines]))
      ·have ph4 := h4; try simp only [bs] at ph4
       refine Run.skip ?_
       refine Run.seq (Run.reg [.p] ?_)
       refine .ag rfl rfl <| .nil ?_
       refine Run.ret (?_)
       exact ret1 rfl (Sub.int (by grind [checkE, checkLines]))
     ·simp only [List.length_cons] at hl
      refine Run.seq (Run.seq (Run.reg [.p, .p, .r, .p, .p] ?_))
      refine .mv rfl rfl <| .P rfl (q_fieldB (n := 0) 35 2 Tryz.underlying37 Tryz.sizeOf35 rfl rfl) <| .R rfl (q_load1 Tryz.isAgg35 rfl rfl rfl) <| .P rfl (q_lenI Tryz.underlying35 rfl) <| .P rfl (q_lss rfl rfl) <| .nil ?_
      refine Run.condT rfl (by simp; omega) ?_
      refine Run.skip ?_
      refine Run.seq ?_
      refine Run.block ?_
      refine Run.seq (Run.seq (Run.reg [.p, .r, .p, .p, .p, .p, .p] ?_))
      refine .P rfl (q_fieldB (n := 0) 35 2 Tryz.underlying37 Tryz.sizeOf35 rfl rfl) <| .R rfl (q_load1 Tryz.isAgg35 rfl rfl rfl) <| .mv rfl rfl <| .P rfl (q_indexI Tryz.underlying35 Tryz.sizeOf92 rfl rfl (by omega) (idx_mid encLine hx rfl)) <| .P rfl (q_loadIA Tryz.isAgg92 Tryz.sizeOf92 rfl rfl) <| .P rfl (q_call Tryz.call110 rfl (fields35_ok _ (by have := (hs3 x (by rw [hx]; simp)).1; omega))) <| .ag rfl rfl <| .nil ?_
      refine Run.seq (Run.reg [.p, .p] ?_)
      refine .mv rfl rfl <| .P rfl (q_neq rfl rfl) <| .nil ?_
      refine Run.cond rfl (fun h5 => ?_) (fun h5 => ?_)
      ·have ph5 := h5; try simp only [bs] at ph5
       refine Run.seq (Run.reg [.p, .p] ?_)
       refine .mv rfl rfl <| .ag rfl rfl <| .nil ?_
       refine Run.ret (bq_ret (tq_ret (bq_ret (?_))))
       exact ret1 rfl (Sub.int (by grind [checkE, checkLines]))
      ·have ph5 := h5; try simp only [bs] at ph5
       refine Run.skip ?_
       refine Run.seq (Run.seq (Run.reg [.p, .r, .p, .p, .p, .p, .p] ?_))
       refine .P rfl (q_fieldB (n := 0) 35 2 Tryz.underlying37 Tryz.sizeOf35 rfl rfl) <| .R rfl (q_load1 Tryz.isAgg35 rfl rfl rfl) <| .mv rfl rfl <| .P rfl (q_indexI Tryz.underlying35 Tryz.sizeOf92 rfl rfl (by omega) (idx_mid encLine hx rfl)) <| .P rfl (q_fieldI (n := 0) 54 2 Tryz.underlying92 Tryz.sizeOf54 rfl rfl rfl) <| .P rfl (q_loadI Tryz.isAgg54 rfl) <| .P rfl (q_eqlS rfl rfl) <| .nil ?_
       refine Run.cond rfl (fun h6 => ?_) (fun h6 => ?_)
       ·have ph6 := h6; try simp only [bs] at ph6
        refine Run.seq (Run.reg [.p] ?_)
        refine .ag rfl rfl <| .nil ?_
        refine Run.ret (bq_ret (tq_ret (bq_ret (?_))))
        exact ret1 rfl (Sub.int (by grind [checkE, checkLines]))
       ·have ph6 := h6; try simp only [bs] at ph6
        refine Run.skip ?_
        refine Run.seq (Run.regD [.p, .p, .p, .p, .r, .p, .p, .p, .p, .p, .r, .p, .p, .p, .p, .p, .p] Tryz_mixed (by decide +kernel) ?_)
        refine .mv rfl rfl <| .P rfl (q_gtr rfl rfl) <| .mv rfl rfl <| .gT rfl (.inl rfl) rfl rfl rfl (fun hg => pk (fun _ => q_fieldB (n := 0) 35 2 Tryz.underlying37 Tryz.sizeOf35 rfl rfl _)) <| .gT rfl (.inr rfl) rfl rfl rfl (fun hg => rk (q_load1 Tryz.isAgg35 (opT rfl hg) rfl rfl)) <| .gT rfl (.inl rfl) rfl rfl rfl (fun hg => pk (fun _ => q_move rfl _)) <| .gT rfl (.inl rfl) rfl rfl rfl (fun hg => pk (fun _ => q_sub (opT rfl hg) rfl (wrap64_ok (by omega) (by omega)) _)) <| .gT rfl (.inl rfl) rfl rfl rfl (fun hg => pk (fun _ => q_indexI Tryz.underlying35 Tryz.sizeOf92 (opT rfl hg) (opT rfl hg) (by simp at hg; omega) (idx_last encLine hx (by simp at hg; omega) rfl) _)) <| .gT rfl (.inl rfl) rfl rfl rfl (fun hg => pk (fun _ => q_loadIA Tryz.isAgg92 Tryz.sizeOf92 (opT rfl hg) rfl _)) <| .gT rfl (.inl rfl) rfl rfl rfl (fun hg => pk (fun _ => q_fieldB (n := 0) 35 2 Tryz.underlying37 Tryz.sizeOf35 rfl rfl _)) <| .gT rfl (.inr rfl) rfl rfl rfl (fun hg => rk (q_load1 Tryz.isAgg35 (opT rfl hg) rfl rfl)) <| .gT rfl (.inl rfl) rfl rfl rfl (fun hg => pk (fun _ => q_move rfl _)) <| .gT rfl (.inl rfl) rfl rfl rfl (fun hg => pk (fun _ => q_indexI Tryz.underlying35 Tryz.sizeOf92 (opT rfl hg) (opT rfl hg) (by omega) (idx_mid encLine hx rfl) _)) <| .gT rfl (.inl rfl) rfl rfl rfl (fun hg => pk (fun _ => q_loadIA Tryz.isAgg92 Tryz.sizeOf92 (opT rfl hg) rfl _)) <| .gT rfl (.inl rfl) rfl rfl rfl (fun hg => pk (fun _ => q_call Tryz.call111 (opsC (opT rfl hg) (opsC (opT rfl hg) (rfl))) (cmpLine35_ok _ _) _)) ?_
        refine .gT rfl (.inl rfl) rfl rfl rfl (fun hg => pk (fun _ => q_geq (opT rfl hg) rfl _)) <| .P rfl (q_and rfl rfl) <| .nil ?_
        refine Run.cond rfl (fun h7 => ?_) (fun h7 => ?_)
        ·have ph7 := h7; try simp only [bs] at ph7
         refine Run.seq (Run.reg [.p] ?_)
         refine .ag rfl rfl <| .nil ?_
         refine Run.ret (bq_ret (tq_ret (bq_ret (?_))))
         exact ret1 rfl (Sub.int (by grind [checkE, checkLines]))
        ·have ph7 := h7; try simp only [bs] at ph7
         refine Run.skip ?_
         refine Run.nil (bq_norm ?_)
         refine Run.reg [.p, .p, .p] ?_
         refine .mv rfl rfl <| .P rfl (q_add rfl rfl (wrap64_ok (by omega) (by omega))) <| .ag rfl rfl <| .nil ?_
         refine Run.nil (tq_norm ?_)
         exact ⟨⟨pre ++ [x], rest, by simp [hx], by grind [checkLines], h0⟩, by simp, Le.mk rfl (.same rfl rfl (.cons rfl Sub.intA rfl .nil)) (.cons rfl rfl .nil)⟩
end Go.T
namespace Go.T
open Go Go.Proofs
set_option maxRecDepth 20000
end Go.T
namespace Go.T
open Go Go.Proofs
set_option maxRecDepth 20000
end Go.T
namespace Go.T
open Go Go.Proofs
set_option maxRecDepth 20000
end Go.T
namespace Go.T
open Go Go.Proofs
set_option maxRecDepth 20000
end Go.T
namespace Go.T
open Go Go.Proofs
set_option maxRecDepth 20000
end Go.T
namespace Go.T
open Go Go.Proofs
set_option maxRecDepth 20000
end Go.T
namespace Go.T
open Go Go.Proofs
set_option maxRecDepth 20000
end Go.T
