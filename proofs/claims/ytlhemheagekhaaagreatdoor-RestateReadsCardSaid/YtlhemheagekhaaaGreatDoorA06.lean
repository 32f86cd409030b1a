/-
  Contracts of the functions that the statement reaches, and the logic in which they are proved (no condition): parts W15, W16, W17, Core16, Core17, Core18.
-/
import Derived.Test.YtlhemheagekhaaaGreatDoorA05
set_option linter.all false
namespace Go.T
open Go Go.Proofs
set_option maxRecDepth 20000
structure sameOne35_ok_L0 (a b : Entry) where
 pre : List Line
 rest : List Line
 sb : List Line
 hx : a.lines = pre ++ rest
 hxb : b.lines = pre ++ sb
 hn : pre.length = pre.length
 hdc : a.day = b.day ∧ a.cause = b.cause
 hll : rest.length = sb.length
theorem sameOne35_ok (a b : Entry) : Fc Tryz.prog 106 [.agg (encEntry a), .agg (encEntry b)] (.b (decide (a = b))) := by
 refine Fc.mk' [4] Tryz.func106 rfl Tryz.ntmps106 rfl rfl rfl (fun t w => results_tmp Tryz.results106 t _ w) ?_
 refine Run.bAgg 0 2 rfl rfl (fun hb => ?_)
 simp only [List.length_map, big] at hb
 refine Run.seq (Run.reg [.w, .w, .p] ?_)
 refine .W rfl (q_boxA 0 rfl rfl) <| .W rfl (q_boxA 1 rfl rfl) <| .ag rfl rfl <| .nil ?_
 refine Run.seq (Run.seq (Run.reg [.p, .r, .p, .r, .p, .p, .p, .r, .p, .r, .p, .p, .p, .p, .r, .p, .p, .r, .p, .p, .p] ?_))
 refine .P rfl (q_fieldB (n := 0) 34 0 Tryz.underlying37 Tryz.sizeOf34 rfl rfl) <| .R rfl (q_load1 Tryz.isAgg34 rfl rfl rfl) <| .P rfl (q_fieldB (n := 0) 34 0 Tryz.underlying37 Tryz.sizeOf34 rfl rfl) <| .R rfl (q_load1 Tryz.isAgg34 rfl rfl rfl) <| .P rfl (q_neq rfl rfl) <| .mv rfl rfl <| .gF rfl (.inl rfl) rfl rfl rfl (fun hg => pk (fun _ => q_fieldB (n := 0) 9 1 Tryz.underlying37 Tryz.sizeOf9 rfl rfl _)) <| .gF rfl (.inr rfl) rfl rfl rfl (fun hg => rk (q_load1 Tryz.isAgg9 (opT rfl (nt hg)) rfl rfl)) <| .gF rfl (.inl rfl) rfl rfl rfl (fun hg => pk (fun _ => q_fieldB (n := 0) 9 1 Tryz.underlying37 Tryz.sizeOf9 rfl rfl _)) <| .gF rfl (.inr rfl) rfl rfl rfl (fun hg => rk (q_load1 Tryz.isAgg9 (opT rfl (nt hg)) rfl rfl)) <| .gF rfl (.inl rfl) rfl rfl rfl (fun hg => pk (fun _ => q_neqS (opT rfl (nt hg)) (opT rfl (nt hg)) _)) <| .P rfl (q_or rfl rfl) <| .mv rfl rfl <| .gF rfl (.inl rfl) rfl rfl rfl (fun hg => pk (fun _ => q_fieldB (n := 0) 35 2 Tryz.underlying37 Tryz.sizeOf35 rfl rfl _)) <| .gF rfl (.inr rfl) rfl rfl rfl (fun hg => rk (q_load1 Tryz.isAgg35 (opT rfl (nt hg)) rfl rfl)) <| .gF rfl (.inl rfl) rfl rfl rfl (fun hg => pk (fun _ => q_lenI Tryz.underlying35 (opT rfl (nt hg)) _)) <| .gF rfl (.inl rfl) rfl rfl rfl (fun hg => pk (fun _ => q_fieldB (n := 0) 35 2 Tryz.underlying37 Tryz.sizeOf35 rfl rfl _)) <| .gF rfl (.inr rfl) rfl rfl rfl (fun hg => rk (q_load1 Tryz.isAgg35 (opT rfl (nt hg)) rfl rfl)) <| .gF rfl (.inl rfl) rfl rfl rfl (fun hg => pk (fun _ => q_lenI Tryz.underlying35 (opT rfl (nt hg)) _)) ?_
 refine .gF rfl (.inl rfl) rfl rfl rfl (fun hg => pk (fun _ => q_neq (opT rfl (nt hg)) (opT rfl (nt hg)) _)) <| .P rfl (q_or rfl rfl) <| .nil ?_
 refine Run.cond rfl (fun h1 => ?_) (fun h1 => ?_)
 ·have ph1 := h1; try simp only [bs] at ph1
  refine Run.seq (Run.reg [.p] ?_)
  refine .ag rfl rfl <| .nil ?_
  refine Run.ret (?_)
  exact ret1 rfl (Sub.bool (by first | exact same_end hdc hx hxb hll | exact same_bad hx hxb (by assumption) | grind))
 ·have ph1 := h1; try simp only [bs] at ph1
  refine Run.skip ?_
  refine Run.seq (Run.seq (Run.reg [.p] ?_))
  refine .ag rfl rfl <| .nil ?_
  refine Run.block ?_
  refine Run.loop (ι := sameOne35_ok_L0 a b) (fun sx => [(2, .box 0 0), (3, .box 1 0), (5, .i sx.pre.length)]) (fun sx => [(0, .cells (encEntry a)), (1, .cells (encEntry b))]) (fun sx => sx.rest.length) ⟨[], a.lines, b.lines, rfl, rfl, rfl, by grind, by grind⟩ ?_ ?_
  ·exact Le.mk rfl (.same rfl rfl (.same rfl rfl (.cons rfl Sub.intA rfl .nil))) (.cons rfl rfl (.cons rfl rfl .nil))
  ·rintro ⟨pre, rest, sb, hx, hxb, hn, hdc, hll⟩
   show Run _ _ _ _ [(2, .box 0 0), (3, .box 1 0), (5, .i pre.length)] [(0, .cells (encEntry a)), (1, .cells (encEntry b))]
   have hl := congrArg List.length hx
   simp only [List.length_append] at hl
   rcases rest with _ | ⟨x, rest⟩
   ·skip
    refine Run.seq (Run.seq (Run.reg [.p, .p, .r, .p, .p] ?_))
    refine .mv rfl rfl <| .P rfl (q_fieldB (n := 0) 35 2 Tryz.underlying37 Tryz.sizeOf35 rfl rfl) <| .R rfl (q_load1 Tryz.isAgg35 rfl rfl rfl) <| .P rfl (q_lenI Tryz.underlying35 rfl) <| .P rfl (q_lss rfl rfl) <| .nil ?_
    refine Run.condF rfl (by simp at hl ⊢; omega) ?_
    refine Run.exit (tq_exit (bq_exit ?_))
    refine Run.seq (Run.reg [.p] ?_)
    refine .ag rfl rfl <| .nil ?_
    refine Run.ret (?_)
    exact ret1 rfl (Sub.bool (by first | exact same_end hdc hx hxb hll | exact same_bad hx hxb (by assumption) | grind))
   ·simp only [List.length_cons] at hl
    rcases sb with _ | ⟨y, sb⟩
    ·simp at hll
    refine Run.seq (Run.seq (Run.reg [.p, .p, .r, .p, .p] ?_))
    refine .mv rfl rfl <| .P rfl (q_fieldB (n := 0) 35 2 Tryz.underlying37 Tryz.sizeOf35 rfl rfl) <| .R rfl (q_load1 Tryz.isAgg35 rfl rfl rfl) <| .P rfl (q_lenI Tryz.underlying35 rfl) <| .P rfl (q_lss rfl rfl) <| .nil ?_
    refine Run.condT rfl (by simp; omega) ?_
    refine Run.skip ?_
    refine Run.seq ?_
    refine Run.block ?_
    refine Run.seq (Run.regD [.p, .r, .p, .p, .p, .p, .r, .p, .p, .p, .p] Tryz_mixed (by decide +kernel) ?_)
    refine .P rfl (q_fieldB (n := 0) 35 2 Tryz.underlying37 Tryz.sizeOf35 rfl rfl) <| .R rfl (q_load1 Tryz.isAgg35 rfl rfl rfl) <| .mv rfl rfl <| .P rfl (q_indexI Tryz.underlying35 Tryz.sizeOf92 rfl rfl (by omega) (idx_mid encLine hx rfl)) <| .P rfl (q_loadIA Tryz.isAgg92 Tryz.sizeOf92 rfl rfl) <| .P rfl (q_fieldB (n := 0) 35 2 Tryz.underlying37 Tryz.sizeOf35 rfl rfl) <| .R rfl (q_load1 Tryz.isAgg35 rfl rfl rfl) <| .mv rfl rfl <| .P rfl (q_indexI Tryz.underlying35 Tryz.sizeOf92 rfl rfl (by omega) (idx_mid encLine hxb (by rw [hn]))) <| .P rfl (q_loadIA Tryz.isAgg92 Tryz.sizeOf92 rfl rfl) <| .P rfl (q_neqA (xs := [x.account, x.currency, x.amount]) (ys := [y.account, y.currency, y.amount]) Tryz.underlying92 (by kernel_rfl) (by kernel_rfl) (.cons (by decide +kernel) Tryz.underlying9 Tryz.isAgg9 rfl (.cons (by decide +kernel) Tryz.underlying9 Tryz.isAgg9 rfl (.cons (by decide +kernel) Tryz.underlying54 Tryz.isAgg54 rfl (.nil _)))) rfl rfl rfl rfl rfl rfl) <| .nil ?_
    refine Run.cond rfl (fun h2 => ?_) (fun h2 => ?_)
    ·have ph2 := h2; try simp only [bs] at ph2
     refine Run.seq (Run.reg [.p] ?_)
     refine .ag rfl rfl <| .nil ?_
     refine Run.ret (bq_ret (tq_ret (bq_ret (?_))))
     exact ret1 rfl (Sub.bool (by first | exact same_end hdc hx hxb hll | exact same_bad hx hxb (by assumption) | grind))
    ·have ph2 := h2; try simp only [bs] at ph2
     refine Run.skip ?_
     refine Run.nil (bq_norm ?_)
     refine Run.reg [.p, .p, .p] ?_
     refine .mv rfl rfl <| .P rfl (q_add rfl rfl (wrap64_ok (by omega) (by omega))) <| .ag rfl rfl <| .nil ?_
     refine Run.nil (tq_norm ?_)
     exact ⟨⟨pre ++ [x], rest, sb, by simp [hx], by rw [hxb, line_eq (x := x) (y := y) (by assumption)]; simp, rfl, hdc, by simpa using hll⟩, by simp, Le.mk rfl (.same rfl rfl (.same rfl rfl (.cons rfl Sub.intA rfl .nil))) (.cons rfl rfl (.cons rfl rfl .nil))⟩
end Go.T
namespace Go.T
open Go Go.Proofs
set_option maxRecDepth 20000
theorem sameOne50_ok (a b : Posted) : Fc Tryz.prog 52 [.agg (encPosted a), .agg (encPosted b)] (.b (decide (a = b))) := by
 refine Fc.mk' [4] Tryz.func52 rfl Tryz.ntmps52 rfl rfl rfl (fun t w => results_tmp Tryz.results52 t _ w) ?_
 refine Run.seq (Run.reg [.w, .w, .p] ?_)
 refine .W rfl (q_boxA 0 rfl rfl) <| .W rfl (q_boxA 1 rfl rfl) <| .ag rfl rfl <| .nil ?_
 refine Run.seq (Run.reg [.p, .r, .p, .r, .p, .p, .p, .r, .p, .r, .p, .p, .p, .p, .r, .p, .r, .p, .p, .p, .p, .r, .p, .r, .p, .p, .p] ?_)
 refine .P rfl (q_fieldB (n := 0) 34 0 Tryz.underlying39 Tryz.sizeOf34 rfl rfl) <| .R rfl (q_load1 Tryz.isAgg34 rfl rfl rfl) <| .P rfl (q_fieldB (n := 0) 34 0 Tryz.underlying39 Tryz.sizeOf34 rfl rfl) <| .R rfl (q_load1 Tryz.isAgg34 rfl rfl rfl) <| .P rfl (q_eql rfl rfl) <| .mv rfl rfl <| .gT rfl (.inl rfl) rfl rfl rfl (fun hg => pk (fun _ => q_fieldB (n := 0) 3 1 Tryz.underlying39 Tryz.sizeOf3 rfl rfl _)) <| .gT rfl (.inr rfl) rfl rfl rfl (fun hg => rk (q_load1 Tryz.isAgg3 (opT rfl hg) rfl rfl)) <| .gT rfl (.inl rfl) rfl rfl rfl (fun hg => pk (fun _ => q_fieldB (n := 0) 3 1 Tryz.underlying39 Tryz.sizeOf3 rfl rfl _)) <| .gT rfl (.inr rfl) rfl rfl rfl (fun hg => rk (q_load1 Tryz.isAgg3 (opT rfl hg) rfl rfl)) <| .gT rfl (.inl rfl) rfl rfl rfl (fun hg => pk (fun _ => q_eql (opT rfl hg) (opT rfl hg) _)) <| .P rfl (q_and rfl rfl) <| .mv rfl rfl <| .gT rfl (.inl rfl) rfl rfl rfl (fun hg => pk (fun _ => q_fieldB (n := 0) 9 2 Tryz.underlying39 Tryz.sizeOf9 rfl rfl _)) <| .gT rfl (.inr rfl) rfl rfl rfl (fun hg => rk (q_load1 Tryz.isAgg9 (opT rfl hg) rfl rfl)) <| .gT rfl (.inl rfl) rfl rfl rfl (fun hg => pk (fun _ => q_fieldB (n := 0) 9 2 Tryz.underlying39 Tryz.sizeOf9 rfl rfl _)) <| .gT rfl (.inr rfl) rfl rfl rfl (fun hg => rk (q_load1 Tryz.isAgg9 (opT rfl hg) rfl rfl)) <| .gT rfl (.inl rfl) rfl rfl rfl (fun hg => pk (fun _ => q_eqlS (opT rfl hg) (opT rfl hg) _)) <| .P rfl (q_and rfl rfl) <| .mv rfl rfl <| .gT rfl (.inl rfl) rfl rfl rfl (fun hg => pk (fun _ => q_fieldB (n := 2) 37 3 Tryz.underlying39 Tryz.sizeOf37 rfl rfl _)) ?_
 refine .gT rfl (.inr rfl) rfl rfl rfl (fun hg => rk (q_loadA Tryz.isAgg37 Tryz.sizeOf37 (opT rfl hg) rfl (by simp) rfl)) <| .gT rfl (.inl rfl) rfl rfl rfl (fun hg => pk (fun _ => q_fieldB (n := 2) 37 3 Tryz.underlying39 Tryz.sizeOf37 rfl rfl _)) <| .gT rfl (.inr rfl) rfl rfl rfl (fun hg => rk (q_loadA Tryz.isAgg37 Tryz.sizeOf37 (opT rfl hg) rfl (by simp) rfl)) <| .gT rfl (.inl rfl) rfl rfl rfl (fun hg => pk (fun _ => q_call Tryz.call106 (opsC (opT rfl hg) (opsC (opT rfl hg) (rfl))) (sameOne35_ok a.entry b.entry) _)) <| .P rfl (q_and rfl rfl) <| .ag rfl rfl <| .nil ?_
 refine Run.ret (?_)
 exact ret1 rfl (Sub.bool (by (cases a; cases b; grind)))
structure same50_ok_L0 (a b : List Posted) where
 pre : List Posted
 rest : List Posted
 sb : List Posted
 hx : a = pre ++ rest
 hxb : b = pre ++ sb
 hll : rest.length = sb.length
theorem same50_ok (a b : List Posted) : Fc Tryz.prog 15 [sPosteds a, sPosteds b] (.b (decide (a = b))) := by
 refine Fc.mk' [4] Tryz.func15 rfl Tryz.ntmps15 rfl rfl rfl (fun t w => results_tmp Tryz.results15 t _ w) ?_
 refine Run.bSnap 0 rfl (fun hb => ?_)
 simp only [List.length_map, big] at hb
 refine Run.seq (Run.reg [.p] ?_)
 refine .ag rfl rfl <| .nil ?_
 refine Run.seq (Run.seq (Run.reg [.p, .p, .p, .p, .p] ?_))
 refine .mv rfl rfl <| .P rfl (q_lenI Tryz.underlying27 rfl) <| .mv rfl rfl <| .P rfl (q_lenI Tryz.underlying27 rfl) <| .P rfl (q_neq rfl rfl) <| .nil ?_
 refine Run.cond rfl (fun h1 => ?_) (fun h1 => ?_)
 ·have ph1 := h1; try simp only [bs] at ph1
  refine Run.seq (Run.reg [.p] ?_)
  refine .ag rfl rfl <| .nil ?_
  refine Run.ret (?_)
  exact ret1 rfl (Sub.bool (by first | (obtain rfl : sb = [] := List.length_eq_zero_iff.1 hll.symm; simp [hx, hxb]; done) | (subst hx; subst hxb; simp; intro h; exact absurd h (by assumption)) | grind))
 ·have ph1 := h1; try simp only [bs] at ph1
  refine Run.skip ?_
  refine Run.seq (Run.seq (Run.reg [.p] ?_))
  refine .ag rfl rfl <| .nil ?_
  refine Run.block ?_
  refine Run.loop (ι := same50_ok_L0 a b) (fun sx => [(0, sPosteds a), (1, sPosteds b), (5, .i sx.pre.length)]) (fun sx => []) (fun sx => sx.rest.length) ⟨[], a, b, rfl, rfl, by grind⟩ ?_ ?_
  ·exact Le.mk rfl (.same rfl rfl (.same rfl rfl (.cons rfl Sub.intA rfl .nil))) .nil
  ·rintro ⟨pre, rest, sb, hx, hxb, hll⟩
   show Run _ _ _ _ [(0, sPosteds a), (1, sPosteds b), (5, .i pre.length)] []
   have hl := congrArg List.length hx
   simp only [List.length_append] at hl
   rcases rest with _ | ⟨x, rest⟩
   ·skip
    refine Run.seq (Run.seq (Run.reg [.p, .p, .p, .p] ?_))
    refine .mv rfl rfl <| .mv rfl rfl <| .P rfl (q_lenI Tryz.underlying27 rfl) <| .P rfl (q_lss rfl rfl) <| .nil ?_
    refine Run.condF rfl (by simp at hl ⊢; omega) ?_
    refine Run.exit (tq_exit (bq_exit ?_))
    refine Run.seq (Run.reg [.p] ?_)
    refine .ag rfl rfl <| .nil ?_
    refine Run.ret (?_)
    exact ret1 rfl (Sub.bool (by first | (obtain rfl : sb = [] := List.length_eq_zero_iff.1 hll.symm; simp [hx, hxb]; done) | (subst hx; subst hxb; simp; intro h; exact absurd h (by assumption)) | grind))
   ·simp only [List.length_cons] at hl
    rcases sb with _ | ⟨y, sb⟩
    ·simp at hll
    refine Run.seq (Run.seq (Run.reg [.p, .p, .p, .p] ?_))
    refine .mv rfl rfl <| .mv rfl rfl <| .P rfl (q_lenI Tryz.underlying27 rfl) <| .P rfl (q_lss rfl rfl) <| .nil ?_
    refine Run.condT rfl (by simp; omega) ?_
    refine Run.skip ?_
    refine Run.seq ?_
    refine Run.block ?_
    refine Run.seq (Run.regD [.p, .p, .p, .p, .p, .p, .p, .p, .p, .p] Tryz_mixed (by decide +kernel) ?_)
    refine .mv rfl rfl <| .mv rfl rfl <| .P rfl (q_indexI Tryz.underlying27 Tryz.sizeOf39 rfl rfl (by omega) (idx_mid encPosted hx rfl)) <| .P rfl (q_loadIA Tryz.isAgg39 Tryz.sizeOf39 rfl rfl) <| .mv rfl rfl <| .mv rfl rfl <| .P rfl (q_indexI Tryz.underlying27 Tryz.sizeOf39 rfl rfl (by omega) (idx_mid encPosted hxb rfl)) <| .P rfl (q_loadIA Tryz.isAgg39 Tryz.sizeOf39 rfl rfl) <| .P rfl (q_call Tryz.call52 rfl (sameOne50_ok _ _)) <| .P rfl (q_not rfl) <| .nil ?_
    refine Run.cond rfl (fun h2 => ?_) (fun h2 => ?_)
    ·have ph2 := h2; try simp only [bs] at ph2
     refine Run.seq (Run.reg [.p] ?_)
     refine .ag rfl rfl <| .nil ?_
     refine Run.ret (bq_ret (tq_ret (bq_ret (?_))))
     exact ret1 rfl (Sub.bool (by first | (obtain rfl : sb = [] := List.length_eq_zero_iff.1 hll.symm; simp [hx, hxb]; done) | (subst hx; subst hxb; simp; intro h; exact absurd h (by assumption)) | grind))
    ·have ph2 := h2; try simp only [bs] at ph2
     refine Run.skip ?_
     refine Run.nil (bq_norm ?_)
     refine Run.reg [.p, .p, .p] ?_
     refine .mv rfl rfl <| .P rfl (q_add rfl rfl (wrap64_ok (by omega) (by omega))) <| .ag rfl rfl <| .nil ?_
     refine Run.nil (tq_norm ?_)
     exact ⟨⟨pre ++ [x], rest, sb, by simp [hx], by grind, by simpa using hll⟩, by simp, Le.mk rfl (.same rfl rfl (.same rfl rfl (.cons rfl Sub.intA rfl .nil))) .nil⟩
end Go.T
namespace Go.T
open Go Go.Proofs
set_option maxRecDepth 20000
variable [Noise]
structure isCause_ok_L0 (s : Str) where
 pre : List UInt8
 rest : List UInt8
 hx : s = pre ++ rest
 hp : pre.all causeChar = true
theorem isCause_ok (s : Str) : Fc Tryz.prog 114 [.str s] (.b (isCause s)) := by
 refine Fc.mk' [2] Tryz.func114 rfl Tryz.ntmps114 rfl rfl rfl (fun t w => results_tmp Tryz.results114 t _ w) ?_
 refine Run.bStr 0 rfl (fun hb => ?_)
 simp only [big] at hb
 refine Run.seq (Run.reg [.p] ?_)
 refine .ag rfl rfl <| .nil ?_
 refine Run.seq (Run.seq (Run.reg [.p, .p, .p] ?_))
 refine .mv rfl rfl <| .P rfl (q_lenS Tryz.underlying9 rfl) <| .mv rfl rfl <| .nil ?_
 refine Run.block ?_
 refine Run.loop (ι := isCause_ok_L0 s) (fun sx => [(0, .str s), (6, .i s.length), (7, .i sx.pre.length)]) (fun sx => []) (fun sx => sx.rest.length) ⟨[], s, rfl, rfl⟩ ?_ ?_
 ·exact Le.mk rfl (.cons rfl Sub.strA rfl (.cons rfl Sub.intA rfl (.cons rfl Sub.intA rfl .nil))) .nil
 ·rintro ⟨pre, rest, hx, hp⟩
  show Run _ _ _ _ [(0, .str s), (6, .i s.length), (7, .i pre.length)] []
  have hl := congrArg List.length hx
  simp only [List.length_append] at hl
  rcases rest with _ | ⟨x, rest⟩
  ·skip
   refine Run.seq (Run.reg [.p] ?_)
   refine .P rfl (q_lss rfl rfl) <| .nil ?_
   refine Run.seq ?_
   refine Run.condF rfl (by simp at hl ⊢; omega) ?_
   refine Run.exit (tq_exit (bq_exit ?_))
   refine Run.seq (Run.reg [.p, .p, .p, .p, .p, .p, .p, .p, .p] ?_)
   refine .mv rfl rfl <| .P rfl (q_lenS Tryz.underlying9 rfl) <| .P rfl (q_geq rfl rfl) <| .mv rfl rfl <| .gT rfl (.inl rfl) rfl rfl rfl (fun hg => pk (fun _ => q_move rfl _)) <| .gT rfl (.inl rfl) rfl rfl rfl (fun hg => pk (fun _ => q_lenS Tryz.underlying9 (opT rfl hg) _)) <| .gT rfl (.inl rfl) rfl rfl rfl (fun hg => pk (fun _ => q_leq (opT rfl hg) rfl _)) <| .P rfl (q_and rfl rfl) <| .ag rfl rfl <| .nil ?_
   refine Run.ret (?_)
   exact ret1 rfl (Sub.bool (by grind [isCause, causeChar]))
  ·simp only [List.length_cons] at hl
   refine Run.seq (Run.reg [.p] ?_)
   refine .P rfl (q_lss rfl rfl) <| .nil ?_
   refine Run.seq ?_
   refine Run.condT rfl (by simp; omega) ?_
   refine Run.skip ?_
   refine Run.seq ?_
   refine Run.block ?_
   refine Run.seq (Run.reg [.p, .p] ?_)
   refine .mv rfl rfl <| .ag rfl rfl <| .nil ?_
   refine Run.seq (Run.reg [.p, .p, .p, .p] ?_)
   refine .mv rfl rfl <| .mv rfl rfl <| .P rfl (q_indexS Tryz.underlying9 rfl rfl (by omega) (idx_midS hx rfl)) <| .ag rfl rfl <| .nil ?_
   refine Run.seq (Run.reg [.p, .p, .p, .p, .p, .p, .p, .p, .p, .p, .p, .p, .p, .p, .p, .p, .p, .p, .p, .p, .p, .p, .p, .p, .p, .p] ?_)
   refine .mv rfl rfl <| .P rfl (q_lss rfl rfl) <| .mv rfl rfl <| .gF rfl (.inl rfl) rfl rfl rfl (fun hg => pk (fun _ => q_move rfl _)) <| .gF rfl (.inl rfl) rfl rfl rfl (fun hg => pk (fun _ => q_gtr (opT rfl (nt hg)) rfl _)) <| .P rfl (q_or rfl rfl) <| .mv rfl rfl <| .gT rfl (.inl rfl) rfl rfl rfl (fun hg => pk (fun _ => q_move rfl _)) <| .gT rfl (.inl rfl) rfl rfl rfl (fun hg => pk (fun _ => q_lss (opT rfl hg) rfl _)) <| .gT rfl (.inl rfl) rfl rfl rfl (fun hg => pk (fun _ => q_move (opT rfl hg) _)) ?_
   refine .nF rfl (.inl rfl) rfl rfl rfl (fun hc hg => pk (fun _ => q_move rfl _)) ?_
   refine .nF rfl (.inl rfl) rfl rfl rfl (fun hc hg => pk (fun _ => q_gtr (opT rfl (bF hc hg)) rfl _)) ?_
   refine .gT rfl (.inl rfl) rfl rfl rfl (fun hg => pk (fun _ => q_or (opT rfl hg) (opA rfl hg) _)) <| .P rfl (q_and rfl rfl) <| .mv rfl rfl <| .gT rfl (.inl rfl) rfl rfl rfl (fun hg => pk (fun _ => q_move rfl _)) <| .gT rfl (.inl rfl) rfl rfl rfl (fun hg => pk (fun _ => q_neq (opT rfl hg) rfl _)) <| .P rfl (q_and rfl rfl) <| .mv rfl rfl <| .gT rfl (.inl rfl) rfl rfl rfl (fun hg => pk (fun _ => q_move rfl _)) <| .gT rfl (.inl rfl) rfl rfl rfl (fun hg => pk (fun _ => q_neq (opT rfl hg) rfl _)) <| .P rfl (q_and rfl rfl) <| .mv rfl rfl <| .gT rfl (.inl rfl) rfl rfl rfl (fun hg => pk (fun _ => q_move rfl _)) <| .gT rfl (.inl rfl) rfl rfl rfl (fun hg => pk (fun _ => q_neq (opT rfl hg) rfl _)) <| .P rfl (q_and rfl rfl) <| .nil ?_
   refine Run.cond rfl (fun h1 => ?_) (fun h1 => ?_)
   ·have ph1 := h1; try simp only [bs] at ph1
    refine Run.seq (Run.reg [.p] ?_)
    refine .ag rfl rfl <| .nil ?_
    refine Run.ret (bq_ret (tq_ret (bq_ret (?_))))
    exact ret1 rfl (Sub.bool (by grind [isCause, causeChar]))
   ·have ph1 := h1; try simp only [bs] at ph1
    refine Run.skip ?_
    refine Run.nil (bq_norm ?_)
    refine Run.reg [.p, .p] ?_
    refine .P rfl (q_add rfl rfl (wrap64_ok (by omega) (by omega))) <| .mv rfl rfl <| .nil ?_
    refine Run.nil (tq_norm ?_)
    exact ⟨⟨pre ++ [x], rest, by simp [hx], by grind [causeChar]⟩, by simp, Le.mk rfl (.cons rfl Sub.strA rfl (.cons rfl Sub.intA rfl (.cons rfl Sub.intA rfl .nil))) .nil⟩
theorem checkHead_ok (e : Entry) : Fc Tryz.prog 59 [.agg (encEntry e)] (.i (checkHead e)) := by
 refine Fc.mk' [2] Tryz.func59 rfl Tryz.ntmps59 rfl rfl rfl (fun t w => results_tmp Tryz.results59 t _ w) ?_
 refine Run.seq (Run.reg [.w, .p] ?_)
 refine .W rfl (q_boxA 0 rfl rfl) <| .ag rfl rfl <| .nil ?_
 refine Run.seq (Run.seq (Run.reg [.p, .r, .p, .p, .p, .r, .p, .p] ?_))
 refine .P rfl (q_fieldB (n := 0) 34 0 Tryz.underlying37 Tryz.sizeOf34 rfl rfl) <| .R rfl (q_load1 Tryz.isAgg34 rfl rfl rfl) <| .P rfl (q_lss rfl rfl) <| .mv rfl rfl <| .gF rfl (.inl rfl) rfl rfl rfl (fun hg => pk (fun _ => q_fieldB (n := 0) 34 0 Tryz.underlying37 Tryz.sizeOf34 rfl rfl _)) <| .gF rfl (.inr rfl) rfl rfl rfl (fun hg => rk (q_load1 Tryz.isAgg34 (opT rfl (nt hg)) rfl rfl)) <| .gF rfl (.inl rfl) rfl rfl rfl (fun hg => pk (fun _ => q_gtr (opT rfl (nt hg)) rfl _)) <| .P rfl (q_or rfl rfl) <| .nil ?_
 refine Run.cond rfl (fun h1 => ?_) (fun h1 => ?_)
 ·have ph1 := h1; try simp only [bs] at ph1
  refine Run.seq (Run.reg [.p] ?_)
  refine .ag rfl rfl <| .nil ?_
  refine Run.ret (?_)
  exact ret1 rfl (Sub.int (by grind [checkHead, validDay]))
 ·have ph1 := h1; try simp only [bs] at ph1
  refine Run.skip ?_
  refine Run.seq (Run.seq (Run.reg [.p, .r, .p, .p] ?_))
  refine .P rfl (q_fieldB (n := 0) 9 1 Tryz.underlying37 Tryz.sizeOf9 rfl rfl) <| .R rfl (q_load1 Tryz.isAgg9 rfl rfl rfl) <| .P rfl (q_call Tryz.call114 rfl (isCause_ok _)) <| .P rfl (q_not rfl) <| .nil ?_
  refine Run.cond rfl (fun h2 => ?_) (fun h2 => ?_)
  ·have ph2 := h2; try simp only [bs] at ph2
   refine Run.seq (Run.reg [.p] ?_)
   refine .ag rfl rfl <| .nil ?_
   refine Run.ret (?_)
   exact ret1 rfl (Sub.int (by grind [checkHead, validDay]))
  ·have ph2 := h2; try simp only [bs] at ph2
   refine Run.skip ?_
   refine Run.seq (Run.reg [.p] ?_)
   refine .ag rfl rfl <| .nil ?_
   refine Run.ret (?_)
   exact ret1 rfl (Sub.int (by grind [checkHead, validDay]))
structure isCode_ok_L0 (s : Str) where
 pre : List UInt8
 rest : List UInt8
 hx : s = pre ++ rest
 hp : pre.all (fun c => 65 ≤ c.toNat && c.toNat ≤ 90) = true
theorem isCode_ok (s : Str) : Fc Tryz.prog 166 [.str s] (.b (isCode s)) := by
 refine Fc.mk' [2] Tryz.func166 rfl Tryz.ntmps166 rfl rfl rfl (fun t w => results_tmp Tryz.results166 t _ w) ?_
 refine Run.bStr 0 rfl (fun hb => ?_)
 simp only [big] at hb
 refine Run.seq (Run.reg [.p] ?_)
 refine .ag rfl rfl <| .nil ?_
 refine Run.seq (Run.seq (Run.reg [.p, .p, .p] ?_))
 refine .mv rfl rfl <| .P rfl (q_lenS Tryz.underlying9 rfl) <| .mv rfl rfl <| .nil ?_
 refine Run.block ?_
 refine Run.loop (ι := isCode_ok_L0 s) (fun sx => [(0, .str s), (5, .i s.length), (6, .i sx.pre.length)]) (fun sx => []) (fun sx => sx.rest.length) ⟨[], s, rfl, rfl⟩ ?_ ?_
 ·exact Le.mk rfl (.cons rfl Sub.strA rfl (.cons rfl Sub.intA rfl (.cons rfl Sub.intA rfl .nil))) .nil
 ·rintro ⟨pre, rest, hx, hp⟩
  show Run _ _ _ _ [(0, .str s), (5, .i s.length), (6, .i pre.length)] []
  have hl := congrArg List.length hx
  simp only [List.length_append] at hl
  rcases rest with _ | ⟨x, rest⟩
  ·skip
   refine Run.seq (Run.reg [.p] ?_)
   refine .P rfl (q_lss rfl rfl) <| .nil ?_
   refine Run.seq ?_
   refine Run.condF rfl (by simp at hl ⊢; omega) ?_
   refine Run.exit (tq_exit (bq_exit ?_))
   refine Run.seq (Run.reg [.p, .p, .p, .p] ?_)
   refine .mv rfl rfl <| .P rfl (q_lenS Tryz.underlying9 rfl) <| .P rfl (q_eql rfl rfl) <| .ag rfl rfl <| .nil ?_
   refine Run.ret (?_)
   exact ret1 rfl (Sub.bool (by grind [isCode]))
  ·simp only [List.length_cons] at hl
   refine Run.seq (Run.reg [.p] ?_)
   refine .P rfl (q_lss rfl rfl) <| .nil ?_
   refine Run.seq ?_
   refine Run.condT rfl (by simp; omega) ?_
   refine Run.skip ?_
   refine Run.seq ?_
   refine Run.block ?_
   refine Run.seq (Run.reg [.p, .p] ?_)
   refine .mv rfl rfl <| .ag rfl rfl <| .nil ?_
   refine Run.seq (Run.reg [.p, .p, .p, .p, .p, .p, .p, .p, .p, .p] ?_)
   refine .mv rfl rfl <| .mv rfl rfl <| .P rfl (q_indexS Tryz.underlying9 rfl rfl (by omega) (idx_midS hx rfl)) <| .P rfl (q_lss rfl rfl) <| .mv rfl rfl <| .gF rfl (.inl rfl) rfl rfl rfl (fun hg => pk (fun _ => q_move rfl _)) <| .gF rfl (.inl rfl) rfl rfl rfl (fun hg => pk (fun _ => q_move rfl _)) <| .gF rfl (.inl rfl) rfl rfl rfl (fun hg => pk (fun _ => q_indexS Tryz.underlying9 (opT rfl (nt hg)) (opT rfl (nt hg)) (by omega) (idx_midS hx rfl) _)) <| .gF rfl (.inl rfl) rfl rfl rfl (fun hg => pk (fun _ => q_gtr (opT rfl (nt hg)) rfl _)) <| .P rfl (q_or rfl rfl) <| .nil ?_
   refine Run.cond rfl (fun h1 => ?_) (fun h1 => ?_)
   ·have ph1 := h1; try simp only [bs] at ph1
    refine Run.seq (Run.reg [.p] ?_)
    refine .ag rfl rfl <| .nil ?_
    refine Run.ret (bq_ret (tq_ret (bq_ret (?_))))
    exact ret1 rfl (Sub.bool (by grind [isCode]))
   ·have ph1 := h1; try simp only [bs] at ph1
    refine Run.skip ?_
    refine Run.nil (bq_norm ?_)
    refine Run.reg [.p, .p] ?_
    refine .P rfl (q_add rfl rfl (wrap64_ok (by omega) (by omega))) <| .mv rfl rfl <| .nil ?_
    refine Run.nil (tq_norm ?_)
    exact ⟨⟨pre ++ [x], rest, by simp [hx], by grind⟩, by simp, Le.mk rfl (.cons rfl Sub.strA rfl (.cons rfl Sub.intA rfl (.cons rfl Sub.intA rfl .nil))) .nil⟩
theorem isNaNS_ok (s : Str) : Fc Tryz.prog 169 [.str s] (.b false) := by
 refine Fc.mk' [2] Tryz.func169 rfl Tryz.ntmps169 rfl rfl rfl (fun t w => results_tmp Tryz.results169 t _ w) ?_
 refine Run.seq (Run.reg [.p] ?_)
 refine .ag rfl rfl <| .nil ?_
 refine Run.seq (Run.reg [.p, .p, .p, .p] ?_)
 refine .mv rfl rfl <| .mv rfl rfl <| .P rfl (q_neqS rfl rfl) <| .ag rfl rfl <| .nil ?_
 refine Run.ret (?_)
 exact ret1 rfl (Sub.bool (by simp))
theorem cmpS_ok (a b : Str) : Fc Tryz.prog 119 [.str a, .str b] (.i (cmpT a b)) := by
 refine Fc.mk' [4] Tryz.func119 rfl Tryz.ntmps119 rfl rfl rfl (fun t w => results_tmp Tryz.results119 t _ w) ?_
 refine Run.seq (Run.reg [.p] ?_)
 refine .ag rfl rfl <| .nil ?_
 refine Run.seq (Run.reg [.p, .p, .p] ?_)
 refine .mv rfl rfl <| .P rfl (q_call Tryz.call169 rfl (isNaNS_ok _)) <| .ag rfl rfl <| .nil ?_
 refine Run.seq (Run.reg [.p, .p, .p] ?_)
 refine .mv rfl rfl <| .P rfl (q_call Tryz.call169 rfl (isNaNS_ok _)) <| .ag rfl rfl <| .nil ?_
 refine Run.seq (Run.seq (Run.reg [.p] ?_))
 refine .mv rfl rfl <| .nil ?_
 refine Run.condF rfl rfl ?_
 refine Run.skip ?_
 refine Run.seq (Run.seq (Run.reg [.p] ?_))
 refine .mv rfl rfl <| .nil ?_
 refine Run.condF rfl rfl ?_
 refine Run.skip ?_
 refine Run.seq (Run.seq (Run.reg [.p, .p, .p] ?_))
 refine .mv rfl rfl <| .mv rfl rfl <| .P rfl (q_lssS rfl rfl) <| .nil ?_
 refine Run.cond rfl (fun h1 => ?_) (fun h1 => ?_)
 ·have ph1 := h1; try simp only [bs] at ph1
  refine Run.seq (Run.reg [.p] ?_)
  refine .ag rfl rfl <| .nil ?_
  refine Run.ret (?_)
  exact ret1 rfl (Sub.int (by grind [cmpT]))
 ·have ph1 := h1; try simp only [bs] at ph1
  refine Run.skip ?_
  refine Run.seq (Run.seq (Run.reg [.p, .p, .p] ?_))
  refine .mv rfl rfl <| .mv rfl rfl <| .P rfl (q_gtrS rfl rfl) <| .nil ?_
  refine Run.cond rfl (fun h2 => ?_) (fun h2 => ?_)
  ·have ph2 := h2; try simp only [bs] at ph2
   refine Run.seq (Run.reg [.p] ?_)
   refine .ag rfl rfl <| .nil ?_
   refine Run.ret (?_)
   exact ret1 rfl (Sub.int (by grind [cmpT]))
  ·have ph2 := h2; try simp only [bs] at ph2
   refine Run.skip ?_
   refine Run.seq (Run.reg [.p] ?_)
   refine .ag rfl rfl <| .nil ?_
   refine Run.ret (?_)
   exact ret1 rfl (Sub.int (by grind [cmpT]))
end Go.T
namespace Go.T
open Go
variable [Noise]
theorem Obs.get_append : ∀ (a b : Obs) (i : Nat), Obs.get (a ++ b) i = match a.get i with | some x => some x | none => b.get i
 | [], b, i => by simp [Obs.get]
 | (t, d) :: r, b, i => by
  rw [List.cons_append, Obs.get_cons, Obs.get_cons]
  by_cases h : t = i
  ·simp [h]
  ·rw [if_neg h, if_neg h]; exact Obs.get_append r b i
/-- What lies beside some objects. -/
def Obs.rest : Obs → Obs → Obs
 | [], _ => []
 | (t, d) :: r, pre => bif pre.has t then Obs.rest r pre else (t, d) :: Obs.rest r pre
theorem Obs.get_rest (pre : Obs) (i : Nat) : ∀ obs : Obs, (obs.rest pre).get i = if pre.has i then none else obs.get i
 | [] => by simp [Obs.rest, Obs.get]
 | (t, d) :: r => by
  simp only [Obs.rest]
  cases h : pre.has t with
  | true =>
   rw [cond_true, Obs.get_rest pre i r, Obs.get_cons]
   by_cases e : t = i
   ·subst e; simp [h]
   ·rw [if_neg e]
  | false =>
   rw [cond_false, Obs.get_cons, Obs.get_rest pre i r, Obs.get_cons]
   by_cases e : t = i
   ·subst e; simp [h]
   ·rw [if_neg e, if_neg e]
theorem Obs.has_iff {obs : Obs} {i : Nat} : obs.has i = true ↔ ∃ o, obs.get i = some o := by
 unfold Obs.has
 cases obs.get i <;> simp
mutual
theorem D.okB_all : ∀ (d : D) {f g : Nat → Bool}, (∀ i, f i = true → g i = true) → d.okB f = true → d.okB g = true
 | .any, _, _, _, _ | .raw _, _, _, _, _ | .str _, _, _, _, _ | .snap _ _ _, _, _, _, _ | .iptr _, _, _, _, _ | .imap _ _, _, _, _, _ => rfl
 | .agg ds, f, g, h, hd => by simp only [D.okB] at hd ⊢; exact D.okL_all ds h hd
 | .tup ds, f, g, h, hd => by simp only [D.okB] at hd ⊢; exact D.okL_all ds h hd
 | .fn _ ax bs, f, g, h, hd => by
  simp only [D.okB, Bool.and_eq_true] at hd ⊢
  exact ⟨D.okL_all ax h hd.1, D.okL_all bs h hd.2⟩
 | .box i _, f, g, h, hd | .gs i _, f, g, h, hd | .eptr i _, f, g, h, hd | .mapr i, f, g, h, hd | .bsl i _ _, f, g, h, hd | .gr i _, f, g, h, hd => by simp only [D.okB] at hd ⊢; exact h i hd
theorem D.okL_all : ∀ (ds : List D) {f g : Nat → Bool}, (∀ i, f i = true → g i = true) → D.okB.okL f ds = true → D.okB.okL g ds = true
 | [], _, _, _, _ => rfl
 | d :: ds, f, g, h, hd => by
  simp only [D.okB.okL, Bool.and_eq_true] at hd ⊢
  exact ⟨D.okB_all d h hd.1, D.okL_all ds h hd.2⟩
end
mutual
theorem D.okB_true : ∀ (d : D), d.okB (fun _ => true) = true
 | .any | .raw _ | .str _ | .snap _ _ _ | .iptr _ | .box _ _ | .gs _ _ | .eptr _ _ | .mapr _ | .bsl _ _ _ | .gr _ _ | .imap _ _ => rfl
 | .agg ds => by simp only [D.okB]; exact D.okL_true ds
 | .tup ds => by simp only [D.okB]; exact D.okL_true ds
 | .fn _ ax bs => by simp only [D.okB, Bool.and_eq_true]; exact ⟨D.okL_true ax, D.okL_true bs⟩
theorem D.okL_true : ∀ (ds : List D), D.okB.okL (fun _ => true) ds = true
 | [] => rfl
 | d :: ds => by simp only [D.okB.okL, Bool.and_eq_true]; exact ⟨D.okB_true d, D.okL_true ds⟩
end
theorem Ob.okB_true (o : Ob) : o.okB (fun _ => true) = true := by
 cases o <;> simp [Ob.okB, D.okL_true]
/-- All objects of a list name none but such. -/
def Obs.okB (f : Nat → Bool) : Obs → Bool
 | [] => true
 | (_, o) :: r => o.okB f && Obs.okB f r
theorem Obs.okB_get {f : Nat → Bool} : ∀ {obs : Obs}, obs.okB f = true → ∀ i o, obs.get i = some o → o.okB f = true
 | [], _, i, o, h => by simp [Obs.get] at h
 | (t, d) :: r, h, i, o, hg => by
  simp only [Obs.okB, Bool.and_eq_true] at h
  rw [Obs.get_cons] at hg
  by_cases e : t = i
  ·rw [if_pos e] at hg; cases hg; exact h.1
  ·rw [if_neg e] at hg; exact Obs.okB_get h.2 i o hg
section
variable {w w' : World} {O : Nat → Prop} {ρ ρ' : Rho} {obs pre post : Obs}
theorem owned_split (hsub : ∀ i o, pre.get i = some o → obs.get i = some o) (b : Nat) : Owned ρ obs b ↔ Owned (cutRho pre.has ρ) pre b ∨ Owned ρ (obs.rest pre) b := by
 constructor
 ·rintro ⟨i, o, l, h1, h2, h3, h4⟩
  cases hp : pre.has i with
  | true =>
   obtain ⟨o', ho'⟩ := Obs.has_iff.1 hp
   have := hsub i o' ho'
   rw [h1] at this; cases this
   exact .inl ⟨i, o, l, ho', h2, by simp [cutRho, hp, h3], h4⟩
  | false => exact .inr ⟨i, o, l, by rw [Obs.get_rest, hp]; exact h1, h2, h3, h4⟩
 ·rintro (⟨i, o, l, h1, h2, h3, h4⟩ | ⟨i, o, l, h1, h2, h3, h4⟩)
  ·exact ⟨i, o, l, hsub i o h1, h2, cutRho_le h3, h4⟩
  ·rw [Obs.get_rest] at h1
   split at h1
   ·cases h1
   ·exact ⟨i, o, l, h1, h2, h3, h4⟩
theorem rest_get {i : Nat} {o : Ob} (h : (obs.rest pre).get i = some o) : obs.get i = some o ∧ pre.has i = false := by
 rw [Obs.get_rest] at h
 split at h
 ·cases h
 ·rename_i hp; exact ⟨h, by simpa using hp⟩
theorem rest_apart (hsub : ∀ i o, pre.get i = some o → obs.get i = some o) (hok : ObsOK w O ρ obs) {b : Nat} (h1 : Owned (cutRho pre.has ρ) pre b) (h2 : Owned ρ (obs.rest pre) b) : False := by
 obtain ⟨i, o, l, a1, a2, a3, a4⟩ := h1
 obtain ⟨j, o', l', b1, b2, b3, b4⟩ := h2
 have := hok.inj i j o o' l l' (hsub i o a1) (rest_get b1).1 a2 b2 (cutRho_le a3) b3 (a4.trans b4.symm)
 subst this
 have := (rest_get b1).2
 rw [Obs.has_iff.2 ⟨o, a1⟩] at this; cases this
/-- The names behind a call. -/
def joinRho (rest : Obs) (ρ ρ' : Rho) : Rho := fun i => if rest.has i then ρ i else ρ' i
theorem owned_join {rest : Obs} (hdis : ∀ i, post.has i = true → rest.has i = false) (b : Nat) : Owned (joinRho rest ρ ρ') (post ++ rest) b ↔ Owned ρ' post b ∨ Owned ρ rest b := by
 constructor
 ·rintro ⟨i, o, l, h1, h2, h3, h4⟩
  rw [Obs.get_append] at h1
  cases hp : post.get i with
  | some x =>
   simp only [hp, Option.some.injEq] at h1
   subst h1
   have := hdis i (Obs.has_iff.2 ⟨_, hp⟩)
   simp only [joinRho, this] at h3
   exact .inl ⟨i, x, l, hp, h2, h3, h4⟩
  | none =>
   simp only [hp] at h1
   simp only [joinRho, Obs.has_iff.2 ⟨_, h1⟩, if_true] at h3
   exact .inr ⟨i, o, l, h1, h2, h3, h4⟩
 ·rintro (⟨i, o, l, h1, h2, h3, h4⟩ | ⟨i, o, l, h1, h2, h3, h4⟩)
  ·have := hdis i (Obs.has_iff.2 ⟨_, h1⟩)
   exact ⟨i, o, l, by rw [Obs.get_append, h1], h2, by simp [joinRho, this, h3], h4⟩
  ·have hn : post.get i = none := by
    cases hp : post.get i with
    | none => rfl
    | some x =>
     have := hdis i (Obs.has_iff.2 ⟨_, hp⟩)
     rw [Obs.has_iff.2 ⟨_, h1⟩] at this; cases this
   exact ⟨i, o, l, by rw [Obs.get_append, hn]; exact h1, h2, by simp [joinRho, Obs.has_iff.2 ⟨_, h1⟩, h3], h4⟩
theorem frame_join (stab : Nat → Bool) (hsub : ∀ i o, pre.get i = some o → obs.get i = some o) (hok : ObsOK w O ρ obs) (h : Tr0 (Ot O ρ (obs.rest pre)) w (cutRho pre.has ρ) pre w' ρ' post)
  (hdis : ∀ i, post.has i = true → (obs.rest pre).has i = false) (hle : ∀ i l, stab i = true → cutRho pre.has ρ i = some l → ρ' i = some l) (hrs : ∀ i o, (obs.rest pre).get i = some o → o.okB stab = true) :
  Tr0 O w ρ obs w' (joinRho (obs.rest pre) ρ ρ') (post ++ obs.rest pre) ∧ (∀ i l, stab i = true → ρ i = some l → joinRho (obs.rest pre) ρ ρ' i = some l) ∧
  ∀ r v, V w' (Ot (Ot O ρ (obs.rest pre)) ρ' post) ρ' r v → V w' (Ot O (joinRho (obs.rest pre) ρ ρ') (post ++ obs.rest pre)) (joinRho (obs.rest pre) ρ ρ') r v := by
 have hj := owned_join (ρ := ρ) (ρ' := ρ') hdis
 have hkeep : ∀ i l, stab i = true → ρ i = some l → joinRho (obs.rest pre) ρ ρ' i = some l := by
  intro i l hs hl
  unfold joinRho
  split
  ·exact hl
  ·rename_i hr
   refine hle i l hs ?_
   have : pre.has i = true := by
    cases hp : pre.has i with
    | true => rfl
    | false =>
     have hg : (obs.rest pre).get i = obs.get i := by rw [Obs.get_rest, hp]; rfl
     cases ho : obs.get i with
     | none => rw [hok.fresh i ho] at hl; cases hl
     | some o => exact absurd (Obs.has_iff.2 ⟨o, hg.trans ho⟩) hr
   simp [cutRho, this, hl]
 have hle2 : RhoLe ρ' (joinRho (obs.rest pre) ρ ρ') := by
  intro i l hl
  unfold joinRho
  split
  ·rename_i hr
   have : post.get i = none := by
    cases hp : post.get i with
    | none => rfl
    | some x => have := hdis i (Obs.has_iff.2 ⟨_, hp⟩); rw [hr] at this; cases this
   rw [h.ok.fresh i this] at hl; cases hl
  ·exact hl
 have hset : ∀ b, Ot (Ot O ρ (obs.rest pre)) ρ' post b ↔ Ot O (joinRho (obs.rest pre) ρ ρ') (post ++ obs.rest pre) b := by
  intro b
  unfold Ot
  rw [hj b]
  constructor
  ·rintro ((g | g) | g)
   ·exact .inl g
   ·exact .inr (.inr g)
   ·exact .inr (.inl g)
  ·rintro (g | g | g)
   ·exact .inl (.inl g)
   ·exact .inr g
   ·exact .inl (.inr g)
 have hnew : ∀ b, Owned (joinRho (obs.rest pre) ρ ρ') (post ++ obs.rest pre) b → Owned ρ obs b ∨ w.heap.size ≤ b := by
  intro b hb
  rcases (hj b).1 hb with g | g
  ·rcases h.new b g with g | g
   ·exact .inl ((owned_split hsub b).2 (.inl g))
   ·exact .inr g
  ·exact .inl ((owned_split hsub b).2 (.inr g))
 have hsame : ∀ b, b < w.heap.size → ¬ Owned ρ obs b → w'.heap[b]? = w.heap[b]? := fun b hb ho => h.same b hb fun g => ho ((owned_split hsub b).2 (.inl g))
 have hkept : Kept w (Ot O ρ obs) w' (Ot O (joinRho (obs.rest pre) ρ ρ') (post ++ obs.rest pre)) := by
  refine ⟨h.size, fun b hb ho => ⟨fun _ _ _ => hsame b hb fun g => ho (.inr g), fun g => ?_⟩⟩
  rcases g with g | g
  ·exact ho (.inl g)
  ·rcases hnew b g with g | g
   ·exact ho (.inr g)
   ·omega
 refine ⟨⟨h.size, hsame, hnew, ⟨fun b hb => h.ok.lt b (.inl hb), ?_, ?_, ?_⟩, h.os⟩, hkeep, fun r v hv => V.mono (Kept.subO fun b hb => (hset b).2 hb) hle2 r v hv⟩
 ·intro i hi
  rw [Obs.get_append] at hi
  cases hp : post.get i with
  | some x => simp [hp] at hi
  | none =>
   simp only [hp] at hi
   simp only [joinRho, Obs.has, hi, Option.isSome_none]
   exact h.ok.fresh i hp
 ·intro i o h1 h2
  rw [Obs.get_append] at h1
  cases hp : post.get i with
  | some x =>
   simp only [hp, Option.some.injEq] at h1
   subst h1
   obtain ⟨l, h3, h4, h5⟩ := h.ok.own i x hp h2
   exact ⟨l, hle2 i l h3, fun hb => h4 (.inl hb), h5.mono (Kept.subO fun b hb => (hset b).2 hb) hle2 rfl⟩
  | none =>
   simp only [hp] at h1
   obtain ⟨l, h3, h4, h5⟩ := hok.own i o (rest_get h1).1 h2
   have hr : (obs.rest pre).has i = true := Obs.has_iff.2 ⟨_, h1⟩
   have hblk : w'.heap[l.b]? = w.heap[l.b]? := h.same l.b (h5.lt h2) fun g => rest_apart hsub hok g ⟨i, o, l, h1, h2, h3, rfl⟩
   refine ⟨l, by simp [joinRho, hr, h3], h4, (h5.cut (hrs i o h1)).mono hkept ?_ hblk⟩
   intro j lj hlj
   unfold cutRho at hlj
   split at hlj
   ·rename_i hs; exact hkeep j lj hs hlj
   ·cases hlj
 ·intro i j o o' l l' a1 a2 a3 a4 a5 a6 a7
  have key : ∀ i o l, Obs.get (post ++ obs.rest pre) i = some o → joinRho (obs.rest pre) ρ ρ' i = some l → (post.get i = some o ∧ ρ' i = some l) ∨ ((obs.rest pre).get i = some o ∧ ρ i = some l) := by
   intro i o l h1 h3
   rw [Obs.get_append] at h1
   cases hp : post.get i with
   | some x =>
    simp only [hp, Option.some.injEq] at h1
    subst h1
    have := hdis i (Obs.has_iff.2 ⟨_, hp⟩)
    simp only [joinRho, this] at h3
    exact .inl ⟨rfl, h3⟩
   | none =>
    simp only [hp] at h1
    simp only [joinRho, Obs.has_iff.2 ⟨_, h1⟩, if_true] at h3
    exact .inr ⟨h1, h3⟩
  have cross : ∀ i j o o' l l', post.get i = some o → o.live = true → ρ' i = some l → (obs.rest pre).get j = some o' → o'.live = true → ρ j = some l' → l.b = l'.b → False := by
   intro i j o o' l l' b1 b2 b3 b4 b5 b6 b7
   obtain ⟨l2, c1, c2, _⟩ := h.ok.own i o b1 b2
   rw [b3] at c1; cases c1
   exact c2 (.inr ⟨j, o', l', b4, b5, b6, b7.symm⟩)
  rcases key i o l a1 a5 with ⟨b1, b2⟩ | ⟨b1, b2⟩ <;> rcases key j o' l' a2 a6 with ⟨c1, c2⟩ | ⟨c1, c2⟩
  ·exact h.ok.inj i j o o' l l' b1 c1 a3 a4 b2 c2 a7
  ·exact (cross i j o o' l l' b1 a3 b2 c1 a4 c2 a7).elim
  ·exact (cross j i o' o l' l c1 a4 c2 b1 a3 b2 a7.symm).elim
  ·exact hok.inj i j o o' l l' (rest_get b1).1 (rest_get c1).1 a3 a4 b2 c2 a7
end
end Go.T
namespace Go.T
open Go
variable [Noise]
/-- Called with objects that lie so, the function returns; the objects then lie so. -/
structure FcO (P : Program) (f : FuncId) (args : List D) (pre : Obs) (r : D) (post : Obs) : Prop where
 out : ∀ w O ρ vals, ObsOK w O ρ pre → Gl w (Ot O ρ pre) → Vs w (Ot O ρ pre) ρ args vals → Calls P f vals.toArray w (fun e w' => ∃ v ρ', e = .returned v ∧ Tr O w ρ pre w' ρ' post ∧ V w' (Ot O ρ' post) ρ' r v)
def disjB (a b : Obs) : Bool := a.all fun p => !b.has p.1
theorem disjB_has {a b : Obs} (h : disjB a b = true) : ∀ i, a.has i = true → b.has i = false := by
 intro i hi
 obtain ⟨o, ho⟩ := Obs.has_iff.1 hi
 have key : ∀ a : Obs, disjB a b = true → a.get i = some o → b.has i = false := by
  intro a
  induction a with
  | nil => intro _ h; simp [Obs.get] at h
  | cons p r ih =>
   obtain ⟨t, d⟩ := p
   intro hd hg
   simp only [disjB, List.all_cons, Bool.and_eq_true, Bool.not_eq_true'] at hd
   rw [Obs.get_cons] at hg
   by_cases e : t = i
   ·subst e; exact hd.1
   ·rw [if_neg e] at hg; exact ih hd.2 hg
 exact key a h ho
theorem ObsLe.okB {pre obs : Obs} (h : ObsLe pre obs pre) : ∀ i o, pre.get i = some o → o.okB pre.has = true := fun i o ho => (h.sound i o ho).2
theorem Vs.cutL {w : World} {O : Nat → Prop} {ρ : Rho} {f : Nat → Bool} {ds : List D} {vs : List Value} (hp : D.okB.okL f ds = true) (h : Vs w O ρ ds vs) : Vs w O (cutRho f ρ) ds vs := Vs.cut ds vs hp h
theorem frame_split' {w : World} {O : Nat → Prop} {ρ : Rho} {obs pre : Obs} (hsub : ∀ i o, pre.get i = some o → obs.get i = some o) (hp : ∀ i o, pre.get i = some o → o.okB pre.has = true) (hok : ObsOK w O ρ obs) : ObsOK w (Ot O ρ (obs.rest pre)) (cutRho pre.has ρ) pre := by
 refine ⟨?_, fun i hi => by simp [cutRho, Obs.has, hi], fun i o h1 h2 => ?_, fun i j o o' l l' a b c d e e' => hok.inj i j o o' l l' (hsub _ _ a) (hsub _ _ b) c d (cutRho_le e) (cutRho_le e')⟩
 ·rintro b (hb | hb)
  ·exact hok.lt b hb
  ·exact (hok.block ((owned_split hsub b).2 (.inr hb))).1
 ·obtain ⟨l, h3, h4, h5⟩ := hok.own i o (hsub i o h1) h2
  have hl : cutRho pre.has ρ i = some l := by simp [cutRho, Obs.has, h1, h3]
  refine ⟨l, hl, ?_, (h5.subO (Kept.subO ?_)).cut (hp i o h1)⟩
  ·rintro (hb | hb)
   ·exact h4 hb
   ·exact rest_apart hsub hok ⟨i, o, l, h1, h2, hl, rfl⟩ hb
  ·rintro b ((hb | hb) | hb)
   ·exact .inl hb
   ·exact .inr ((owned_split hsub b).2 (.inr hb))
   ·exact .inr ((owned_split hsub b).2 (.inl hb))
theorem ot_split {w : World} {O : Nat → Prop} {ρ : Rho} {obs pre : Obs} (hsub : ∀ i o, pre.get i = some o → obs.get i = some o) (b : Nat) : Ot (Ot O ρ (obs.rest pre)) (cutRho pre.has ρ) pre b → Ot O ρ obs b := by
 rintro ((hb | hb) | hb)
 ·exact .inl hb
 ·exact .inr ((owned_split hsub b).2 (.inr hb))
 ·exact .inr ((owned_split hsub b).2 (.inl hb))
section
variable {P : Program} {env : Env} {dst : Option Tmp} {ty : TypeId} {pos : String} {aft : Array Edge} {g : Option (Nat × Bool)}
/-- A call by whatever road that enters the function with these values. -/
theorem QStep.enterO {o : Oper} {f : FuncId} {ds : List D} {r : D} {pre post obs : Obs} (hf : FcO P f ds pre r post) (hle : ObsLe pre obs pre) (hds : D.okB.okL pre.has ds = true) (hdis : disjB post (obs.rest pre) = true)
  (h : ∀ (O : Nat → Prop) (ρ : Rho) (a : Act) (w : World), ObsOK w O ρ obs → (∀ x ∈ o.op.operands.toList, ∀ d', env.op x = some d' → V w (Ot O ρ obs) ρ d' (a.eval x)) → ∃ vals : List Value, (execOp a.eval o).run P w = .ok (.enter f vals.toArray) w ∧ Vs w (Ot O ρ obs) ρ ds vals) :
  QStep P o env obs r (post ++ obs.rest pre) := by
 intro O ρ a w hok hgl hv
 obtain ⟨vals, hrun, hvs⟩ := h O ρ a w hok hv
 have hsub : ∀ i o, pre.get i = some o → obs.get i = some o := fun i o ho => (hle.sound i o ho).1
 unfold Oper.wp
 rw [hrun]
 simp only [Oper.upon]
 have hvs' : Vs w (Ot (Ot O ρ (obs.rest pre)) (cutRho pre.has ρ) pre) (cutRho pre.has ρ) ds vals :=
  Vs.cutL hds (Vs.mono (Kept.subO fun b hb => ot_split (w := w) hsub b hb) (RhoLe.refl _) _ _ hvs)
 refine Calls.mono (hf.out w _ _ vals (frame_split' hsub hle.okB hok) (hgl.mono (Kept.subO fun b hb => ot_split (w := w) hsub b hb)) hvs') ?_
 rintro e w' ⟨v, ρ', rfl, htr, hr⟩
 obtain ⟨h1, h2, h3⟩ := frame_join (fun _ => true) hsub hok htr.to0 (disjB_has hdis) (fun i l _ hl => htr.le i l hl) (fun i o _ => Ob.okB_true o)
 exact ⟨_, v, rfl, ⟨fun i l hl => h2 i l rfl hl, h1.size, h1.same, h1.new, h1.ok, h1.os⟩, h3 r v hr⟩
theorem q_callO {f : FuncId} {xs : List Operand} {tys : Array TypeId} {ds : List D} {r : D} {pre post obs : Obs}
  (hcall : ∀ (args : Array Value) (w : World), (callFunc f args).run P w = .ok (.enter f args) w) (hx : env.opsD xs = some ds) (hf : FcO P f ds pre r post) (hle : ObsLe pre obs pre) (hds : D.okB.okL pre.has ds = true) (hdis : disjB post (obs.rest pre) = true) :
  QStep P ⟨dst, .call ⟨.value (.func f), xs.toArray, tys⟩, ty, pos, aft, g⟩ env obs r (post ++ obs.rest pre) := by
 refine QStep.enterO hf hle hds hdis fun O ρ a w hok hv => ?_
 refine ⟨xs.map a.eval, ?_, opsD_V xs ds hx (fun x hx d' h => hv x (by simp [Op.operands, Call.operands, hx]) d' h)⟩
 have h1 : execOp a.eval ⟨dst, .call ⟨.value (.func f), xs.toArray, tys⟩, ty, pos, aft, g⟩ = callFunc f (xs.map a.eval).toArray := by
  simp [execOp, resolve, Deferred.ofValue, Act.eval, invoke, Bind.bind, Sem.bind, Pure.pure]
 rw [h1, hcall]
theorem fn_V {w : World} {O : Nat → Prop} {ρ : Rho} {f : FuncId} {fs caps : List D} {v : Value} (h : V w O ρ (.fn (.func f) fs caps) v) : ∃ us vs, v = .func (.func f) us vs ∧ Vs w O ρ fs us.toList ∧ Vs w O ρ caps vs.toList := by simpa only [V] using h
theorem exec_callV (a : Act) {y : Operand} {f : FuncId} {us vs : Array Value} {xs : List Operand} {tys : Array TypeId} (h : a.eval y = .func (.func f) us vs) :
  execOp a.eval ⟨dst, .call ⟨.value y, xs.toArray, tys⟩, ty, pos, aft, g⟩ = callFunc f (us.toList ++ xs.map a.eval ++ vs.toList).toArray := by
 have : us ++ (xs.map a.eval).toArray ++ vs = (us.toList ++ xs.map a.eval ++ vs.toList).toArray := by simp
 simp [execOp, resolve, Deferred.ofValue, h, invoke, Bind.bind, Sem.bind, Pure.pure, this]
/-- A call of a function value. -/
theorem q_callF {f : FuncId} {y : Operand} {xs : List Operand} {tys : Array TypeId} {ds fs caps : List D} {r : D}
  (hcall : ∀ (args : Array Value) (w : World), (callFunc f args).run P w = .ok (.enter f args) w) (hy : env.op y = some (.fn (.func f) fs caps)) (hx : env.opsD xs = some ds) (hf : Fc P f (fs ++ ds ++ caps) r) (obs : Obs) :
  QStep P ⟨dst, .call ⟨.value y, xs.toArray, tys⟩, ty, pos, aft, g⟩ env obs r obs := by
 intro O ρ a w hok hgl hv
 obtain ⟨us, vs, e1, e2, e3⟩ := fn_V (hv y (by simp [Op.operands, Call.operands]) _ hy)
 have hvs := opsD_V xs ds hx (fun x hx d' h => hv x (by simp [Op.operands, Call.operands, hx]) d' h)
 unfold Oper.wp
 rw [exec_callV a e1, hcall]
 simp only [Oper.upon]
 refine Calls.mono (hf.out w (Ot O ρ obs) ρ _ ?_ hgl ((e2.append hvs).append e3)) ?_
 ·rintro b (hb | hb)
  ·exact hok.lt b hb
  ·exact (hok.block hb).1
 ·rintro e w' ⟨v, rfl, h1, h2⟩
  exact ⟨ρ, v, rfl, Tr.of_keep h2 hok, h1⟩
end
/-- A variable that nobody writes any more. -/
theorem box_iptr {O : Nat → Prop} {w : World} {ρ : Rho} {obs : Obs} {id : Nat} {ds : List D} {v : Value} (hok : ObsOK w O ρ obs) (ho : obs.get id = some (.cells ds)) (hp : D.pureB.pureL ds = true) (h1 : oneL ds = true) (hv : V w (Ot O ρ obs) ρ (.box id 0) v) :
  V w (Ot O ρ (obs.set id .dead)) ρ (.iptr ds) v := by
 simp only [V] at hv ⊢
 obtain ⟨l, e1, e⟩ := hv
 obtain ⟨l', h3, h4, vs, T, h5, h6⟩ := hok.own id _ ho rfl
 rw [e1] at h3; cases h3
 have hk := (Tr.die id hok).kept
 refine ⟨l.b, 0, e, ⟨(Array.getElem?_eq_some_iff.1 h5).1, ?_⟩, ?_⟩
 ·rintro (hb | ⟨i, x, l', g1, g2, g3, g4⟩)
  ·exact h4 hb
  ·have hx := dead_sub i x g1 g2
   have := hok.inj i id x _ l' l hx ho g2 rfl g3 e1 g4
   subst this
   rw [Obs.get_set] at g1
   simp only [if_true, Option.some.injEq] at g1
   subst g1; simp [Ob.live] at g2
 ·refine Vc.of_blk h5 ds 0 ?_ ?_
  ·have hl := h6.length
   rw [List.drop_zero, List.take_of_length_le (by omega)]
   exact Vs.mono hk (RhoLe.refl _) _ _ (Vs.pure ds _ hp h6)
  ·have hl := h6.length
   rw [List.drop_zero, List.take_of_length_le (by omega)]
   exact Vs.one h1 h6
/-- The variable to which slot t points: nobody writes it any more. -/
theorem Le.freezeB {F : Fr} {env : Env} {obs : Obs} {ds : List D} (t id : Nat) (ht : env.get t = some (.box id 0)) (ho : obs.get id = some (.cells ds)) (hp : D.pureB.pureL ds = true) (h1 : oneL ds = true) :
  Le F env obs ((t, .iptr ds) :: env) (obs.set id .dead) := .step fun O ρ w f hok hv => by
 have htr := Tr.die id hok
 refine ⟨ρ, htr, fun s d h => ?_⟩
 rw [Env.get_cons] at h
 by_cases e : t = s
 ·rw [if_pos e] at h
  cases h
  subst e
  exact box_iptr hok ho hp h1 (hv t _ ht)
 ·rw [if_neg e] at h
  exact htr.V (hv s d h)
/-- What the function leaves. -/
def retO (ts : List Nat) (r : D) (post : Obs) : Exit → Env → Obs → Prop
 | .ret, env, obs | .normal, env, obs => (∃ ds, getAll env ts = some ds ∧ Sub (mkRes ds) r) ∧ ObsLe post obs post
 | _, _, _ => False
theorem FcO.mk' {P : Program} {f : FuncId} {fn : Func} {c : Code} {args : List D} {r : D} {pre post : Obs} (ts : List Nat) (hf : P.funcs[f]? = some fn) (hb : fn.body = some c) {N : Nat} (hN : fn.ntmps = N) (hn : Nat.ble args.length N = true) (hps : (pre.map (·.1)).all post.has = true) (hr : r.okB post.has = true)
  (hres : ∀ tmps w, (results fn tmps).run P w = .ok (resV ts tmps) w) (h : Run P ⟨N, pre.map (·.1), false, none⟩ [c] (retO ts r post) (args0 args 0) pre) : FcO P f args pre r post := ⟨fun w O ρ vals hok hgl hv => by
 refine calls_of_WP hf hb h.start (St.begin fn.ntmps hN (Nat.le_of_ble_eq_true hn) hok hgl hv _ none (fun _ _ e => by cases e)) ?_ ?_
 ·intro e env' obs' hq
  cases e <;> first | exact .inl rfl | exact .inr rfl | exact hq.elim
 ·intro e env' obs' tmps w' ρ' hq hkeep htr henv
  have : (∃ ds, getAll env' ts = some ds ∧ Sub (mkRes ds) r) ∧ ObsLe post obs' post := by cases e <;> first | exact hq | exact hq.elim
  obtain ⟨⟨ds, h1, h2⟩, h3⟩ := this
  have hO : ∀ b, Owned (cutRho post.has ρ') post b → Owned ρ' obs' b := by
   rintro b ⟨i, o, l, g1, g2, g3, g4⟩
   exact ⟨i, o, l, (h3.sound i o g1).1, g2, cutRho_le g3, g4⟩
  refine ⟨_, hres _ _, _, cutRho post.has ρ', rfl, ⟨?_, htr.size, htr.same, fun b hb => htr.new b (hO b hb), htr.ok.sub h3.sound, htr.os⟩, ?_⟩
  ·intro i l hl
   have hi : pre.has i = true := by
    cases hp : pre.get i with
    | none => rw [hok.fresh i hp] at hl; cases hl
    | some o => exact Obs.has_iff.2 ⟨o, hp⟩
   have hm : i ∈ pre.map (·.1) := by
    obtain ⟨o, ho⟩ := Obs.has_iff.1 hi
    have key : ∀ p : Obs, p.get i = some o → i ∈ p.map (·.1) := by
     intro p
     induction p with
     | nil => intro h; simp [Obs.get] at h
     | cons q r ih =>
      obtain ⟨t, d⟩ := q
      intro h
      rw [Obs.get_cons] at h
      by_cases e : t = i
      ·subst e; simp
      ·rw [if_neg e] at h; exact List.mem_cons_of_mem _ (ih h)
    exact key pre ho
   have := List.all_eq_true.1 hps i hm
   simp [cutRho, this, hkeep i hm l hl]
  ·have h4 := h2.out _ _ _ _ (Vs.res (getAll_V henv ts ds h1))
   exact V.cut r _ hr (V.mono (Kept.subO fun b hb => hb.imp _root_.id (hO b)) (RhoLe.refl _) _ _ h4)⟩
theorem retO1 {env : Env} {obs post : Obs} {t : Nat} {d r : D} (h : env.get t = some d) (s : Sub d r) (hp : ObsLe post obs post) : retO [t] r post .ret env obs := ⟨⟨[d], by simp [getAll, h], s⟩, hp⟩
theorem retO2 {env : Env} {obs post : Obs} {t u : Nat} {d e d' e' : D} (h : env.get t = some d) (h' : env.get u = some e) (s : Sub d d') (s' : Sub e e') (hp : ObsLe post obs post) : retO [t, u] (.tup [d', e']) post .ret env obs := ⟨⟨[d, e], by simp [getAll, h, h'], .tup2 s s'⟩, hp⟩
theorem retO0 {env : Env} {obs post : Obs} {r : D} (s : Sub (.tup []) r) (hp : ObsLe post obs post) : retO [] r post .ret env obs := ⟨⟨[], rfl, s⟩, hp⟩
theorem retO0n {env : Env} {obs post : Obs} {r : D} (s : Sub (.tup []) r) (hp : ObsLe post obs post) : retO [] r post .normal env obs := ⟨⟨[], rfl, s⟩, hp⟩
/-! Regions in the text's order, step by step. -/
structure Tx (P : Program) (F : Fr) (ops : Array Oper) (K : Env → Obs → Prop) (l : List Oper) (env : Env) (obs : Obs) : Prop where
 out : ∀ (C : Ctx) (Q : Exit → Act → World → Prop), (∀ a w env' obs', K env' obs' → St F C env' obs' a w → Q .normal a w) → ∀ (i : Nat) a w, ops.toList.drop i = l → St F C env obs a w → wpOpsIn (fz C.ro) 0 P ops Q (List.range' i l.length) a w
section
variable {P : Program} {F : Fr} {ops : Array Oper} {K : Env → Obs → Prop} {l : List Oper} {env : Env} {obs : Obs} {o : Oper}
theorem Tx.nil (h : K env obs) : Tx P F ops K [] env obs := ⟨fun C Q hQ i a w _ hs => by
 simp only [List.length_nil, List.range', wpOpsIn]
 exact hQ a w env obs h hs⟩
theorem drop_head {ops : Array Oper} {i : Nat} {o : Oper} {l : List Oper} (h : ops.toList.drop i = o :: l) : ops[i]? = some o ∧ ops.toList.drop (i + 1) = l := by
 constructor
 ·have := congrArg List.head? h
  simpa [List.head?_drop] using this
 ·rw [← List.drop_drop, h]; rfl
/-- A step with several ways on. -/
theorem Tx.many (hg : On ops env o) (h : ∀ (C : Ctx) (Q : Exit → Act → World → Prop) (k : Act → World → Prop) (a : Act) (w : World) (ρ : Rho), StR F C env obs a w ρ → (∀ a' w' env' obs', Tx P F ops K l env' obs' → St F C env' obs' a' w' → k a' w') → o.wpIn (fz C.ro) 0 P a w k Q) : Tx P F ops K (o :: l) env obs := ⟨fun C Q hQ i a w hd hs => by
 obtain ⟨ho, hd'⟩ := drop_head hd
 obtain ⟨ρ, hst⟩ := hs
 simp only [List.length_cons, List.range', wpOpsIn, ho]
 rw [if_pos (wanted_on hg (fun _ _ t _ _ d h => hst.env t d h))]
 exact h C Q _ a w ρ hst (fun a' w' env' obs' hk hs' => hk.out C Q hQ (i + 1) a' w' hd' hs')⟩
theorem Tx.q {d : D} {obs' : Obs} (hd : dstB F.N o.dst = true) (hg : On ops env o) (h : QStep P o env obs d obs') (k : Tx P F ops K l (env.put o.dst d) obs') : Tx P F ops K (o :: l) env obs :=
 .many hg fun C Q kk a w ρ hst hk => by
  have := h C.O ρ a w hst.tr.ok hst.glob (fun x _ d' h => op_of_env hst.env x d' h)
  refine Oper.wpIn_mono ?_ (wp_toIn C.ro this (by rintro a' w' ⟨ρ', v, rfl, _⟩; exact Act.put_def ..))
  rintro a' w' ⟨ρ', v, rfl, htr', hv⟩
  exact hk _ _ _ _ k ⟨ρ', hst.step htr' (env_put hst.size hd (fun t d h => htr'.V (hst.env t d h)) hv) (Act.size_put _ _ _) (Act.put_def ..)⟩
/-- One of several ends. -/
def QStepN (P : Program) (o : Oper) (env : Env) (obs : Obs) {ι : Type} (A : ι → Prop) (d : ι → D) (obs' : ι → Obs) : Prop :=
 ∀ (O : Nat → Prop) (ρ : Rho) (a : Act) (w : World), ObsOK w O ρ obs → Gl w (Ot O ρ obs) →
  (∀ x ∈ o.op.operands.toList, ∀ d', env.op x = some d' → V w (Ot O ρ obs) ρ d' (a.eval x)) →
  o.wp P a w (fun a' w' => ∃ i ρ' v, A i ∧ a' = a.put o.dst v ∧ Tr O w ρ obs w' ρ' (obs' i) ∧ V w' (Ot O ρ' (obs' i)) ρ' (d i) v) (fun _ _ _ => False)
theorem Tx.n {ι : Type} {A : ι → Prop} {d : ι → D} {obs' : ι → Obs} (hd : dstB F.N o.dst = true) (hg : On ops env o) (h : QStepN P o env obs A d obs') (k : ∀ i, A i → Tx P F ops K l (env.put o.dst (d i)) (obs' i)) : Tx P F ops K (o :: l) env obs :=
 .many hg fun C Q kk a w ρ hst hk => by
  have := h C.O ρ a w hst.tr.ok hst.glob (fun x _ d' h => op_of_env hst.env x d' h)
  refine Oper.wpIn_mono ?_ (wp_toIn C.ro this (by rintro a' w' ⟨i, ρ', v, _, rfl, _⟩; exact Act.put_def ..))
  rintro a' w' ⟨i, ρ', v, hA, rfl, htr', hv⟩
  exact hk _ _ _ _ (k i hA) ⟨ρ', hst.step htr' (env_put hst.size hd (fun t d h => htr'.V (hst.env t d h)) hv) (Act.size_put _ _ _) (Act.put_def ..)⟩
theorem Tx.off (hd : dstB F.N o.dst = true) (hg : Off ops env o) (k : Tx P F ops K l (env.put o.dst (.raw undef)) obs) : Tx P F ops K (o :: l) env obs := ⟨fun C Q hQ i a w hdr hs => by
 obtain ⟨ho, hd'⟩ := drop_head hdr
 obtain ⟨ρ, hst⟩ := hs
 simp only [List.length_cons, List.range', wpOpsIn, ho]
 rw [if_neg (by simp [wanted_off hg (fun _ _ t _ _ d h => hst.env t d h)])]
 exact ⟨fun _ _ => trivial, k.out C Q hQ (i + 1) _ _ hd' ⟨ρ, hst.step (Tr.refl hst.tr.ok) (env_put hst.size hd hst.env (by simp [V])) (Act.size_put _ _ _) (Act.put_def ..)⟩⟩⟩
theorem Tx.split {t : Nat} {g : Bool} (hx : env.get t = some (.raw (.bool g))) (ht : g = true → Tx P F ops K l env obs) (hf : g = false → Tx P F ops K l env obs) : Tx P F ops K l env obs := by
 cases g with
 | true => exact ht rfl
 | false => exact hf rfl
theorem Tx.weak {env' : Env} {obs' : Obs} (h : Le F env obs env' obs') (k : Tx P F ops K l env' obs') : Tx P F ops K l env obs := ⟨fun C Q hQ i a w hd hs => k.out C Q hQ i a w hd (h.out C a w hs)⟩
theorem Run.regT {Q : Exit → Env → Obs → Prop} {cs : List Code} {id : Nat} {l : List Oper} (h : Tx P F l.toArray (Run P F cs Q) l env obs) : Run P F (.region id l.toArray false :: cs) Q env obs := ⟨⟨fun C a w hs => by
 refine wpIn_region ?_
 rw [List.range_eq_range']
 have := h.out C (fun e a' w' => ∃ env' obs', thenQ (WPd P F cs Q) Q e env' obs' ∧ St F C env' obs' a' w') (fun a w env' obs' hk hs => ⟨env', obs', hk.out, hs⟩) 0 a w (by simp) hs
 simpa using this⟩⟩
end
end Go.T
namespace Go.T
open Go
variable [Noise]
theorem Ob.okB_all {o : Ob} {f g : Nat → Bool} (h : ∀ i, f i = true → g i = true) (ho : o.okB f = true) : o.okB g = true := by
 cases o with
 | dead => rfl
 | cells ds => exact D.okL_all ds h ho
 | arr sz rows => rfl
 | lp st pend s env => exact D.okL_all _ h ho
 | mp kvs =>
  simp only [Ob.okB, Bool.and_eq_true] at ho ⊢
  exact ⟨D.okL_all _ h ho.1, D.okL_all _ h ho.2⟩
 | mi m since seen => exact h m ho
 | bld j n => exact h j ho
 | ba s => rfl
 | res sz => rfl
 | mj ks vs seen => rfl
theorem Owned.congr {ρ : Rho} {obs obs' : Obs} (h : ∀ i, obs.get i = obs'.get i) (b : Nat) : Owned ρ obs b ↔ Owned ρ obs' b := by
 unfold Owned; simp only [h]
theorem Ot.congr {O : Nat → Prop} {ρ : Rho} {obs obs' : Obs} (h : ∀ i, obs.get i = obs'.get i) (b : Nat) : Ot O ρ obs b ↔ Ot O ρ obs' b := by
 unfold Ot; rw [Owned.congr h b]
theorem ObsOK.congr {w : World} {O : Nat → Prop} {ρ : Rho} {obs obs' : Obs} (h : ∀ i, obs.get i = obs'.get i) (hok : ObsOK w O ρ obs) : ObsOK w O ρ obs' := by
 refine ⟨hok.lt, fun i hi => hok.fresh i (by rw [h]; exact hi), fun i o h1 h2 => ?_, fun i j o o' l l' a b => hok.inj i j o o' l l' (by rw [h]; exact a) (by rw [h]; exact b)⟩
 obtain ⟨l, h3, h4, h5⟩ := hok.own i o (by rw [h]; exact h1) h2
 exact ⟨l, h3, h4, h5.subO (Kept.subO fun b hb => (Ot.congr h b).2 hb)⟩
theorem Tr0.congr {O : Nat → Prop} {w w' : World} {ρ ρ' : Rho} {obs obs1 obs2 : Obs} (h : ∀ i, obs1.get i = obs2.get i) (ht : Tr0 O w ρ obs w' ρ' obs1) : Tr0 O w ρ obs w' ρ' obs2 :=
 ⟨ht.size, ht.same, fun b hb => ht.new b ((Owned.congr h b).2 hb), ht.ok.congr h, ht.os⟩
theorem Tr0.congrL {O : Nat → Prop} {w w' : World} {ρ ρ' : Rho} {obs obs' obs1 : Obs} (h : ∀ i, obs.get i = obs'.get i) (ht : Tr0 O w ρ obs w' ρ' obs1) : Tr0 O w ρ obs' w' ρ' obs1 :=
 ⟨ht.size, fun b hb ho => ht.same b hb fun g => ho ((Owned.congr h b).1 g), fun b hb => (ht.new b hb).imp (Owned.congr h b).1 _root_.id, ht.ok, ht.os⟩
theorem Le.congr {F : Fr} {env : Env} {obs obs' : Obs} (h : ∀ i, obs.get i = obs'.get i) : Le F env obs env obs' := ⟨fun C a w ⟨ρ, hs⟩ =>
 ⟨ρ, hs.keep, hs.tr.congr h, fun t d hd => V.mono (Kept.subO fun b hb => (Ot.congr h b).2 hb) (RhoLe.refl _) _ _ (hs.env t d hd), hs.size, hs.marks.mono (Nat.le_refl _) (fun b _ ho => ⟨rfl, fun g => ho ((Ot.congr h b).2 g)⟩), hs.rd, hs.yl, hs.gl⟩⟩
/-- What a call of yield does to the caller's objects: B, behind it B', or, if the loop is left, one of X. -/
structure YieldStep (P : Program) (idL lb : Nat) (ids : List Nat) (x : List D) (B B' : Obs) (X : Obs → Prop) : Prop where
 out : ∀ (O : Nat → Prop) (ρ : Rho) (w : World) (vals : List Value) (l : Loc), ρ idL = some l → l.b = lb → ObsOK w O ρ B → Gl w (Ot O ρ B) → Vs w (Ot O ρ B) ρ x vals →
  ∃ fn tmps assign body, (Instr.yield lb vals.toArray).run P w = .ok (.round lb fn tmps assign body) w ∧
   RoundIn Fence.wide 0 P lb fn tmps assign body w (fun e w' => ∃ b ρ' o, e = .returned (.bool b) ∧ ((b = true ∧ o = B') ∨ (b = false ∧ X o)) ∧ Tr0 O w ρ B w' ρ' o ∧ ∀ i ∈ ids, ∀ l, ρ i = some l → ρ' i = some l)
structure YEnv {α : Type} (P : Program) (lo idL lb : Nat) (ids : List Nat) (B : List α → Obs) (X : Obs → Prop) (enc : α → List D) (ok : List α → Prop) : Prop where
 mem : idL ∈ ids
 has : ∀ pre, ids.all (B pre).has = true
 hasX : ∀ o, X o → ids.all o.has = true
 okb : ∀ pre i o, (B pre).get i = some o → o.okB (B pre).has = true
 okX : ∀ o, X o → ∀ i x, o.get i = some x → x.okB o.has = true
 free : ∀ pre i, lo ≤ i → i < lo + 100 → (B pre).get i = none
 freeX : ∀ o, X o → ∀ i, lo ≤ i → i < lo + 100 → o.get i = none
 step : ∀ pre x, ok (pre ++ [x]) → YieldStep P idL lb ids (enc x) (B pre) (B (pre ++ [x])) X
@[reducible] def yv (lb : Nat) : D := .raw (.func (.yield lb) #[] #[])
/-- A function to be ranged over: it hands on what enc says of elements; every beginning of what it hands on is ok; what it has handed on in all is fin. -/
structure FcY {α : Type} (P : Program) (f : FuncId) (lo : Nat) (caps : List D) (own : Obs) (enc : α → List D) (ok fin : List α → Prop) : Prop where
 out : ∀ (idL lb : Nat) (ids : List Nat) (B : List α → Obs) (X : Obs → Prop), YEnv P lo idL lb ids B X enc ok → ∀ w O ρ vals l, ρ idL = some l → l.b = lb → ObsOK w O ρ (own ++ B []) → Gl w (Ot O ρ (own ++ B [])) → Vs w (Ot O ρ (own ++ B [])) ρ caps vals →
  Calls P f (.func (.yield lb) #[] #[] :: vals).toArray w (fun e w' => ∃ v ρ' o, e = .returned v ∧ ((∃ xs, fin xs ∧ o = B xs) ∨ X o) ∧ Tr0 O w ρ (own ++ B []) w' ρ' o ∧ ∀ i ∈ ids, ∀ l, ρ i = some l → ρ' i = some l)
def inLo (lo : Nat) (own : Obs) : Bool := own.all fun p => Nat.ble lo p.1 && Nat.blt p.1 (lo + 100)
theorem inLo_has {lo : Nat} {own : Obs} (h : inLo lo own = true) : ∀ i, own.has i = true → lo ≤ i ∧ i < lo + 100 := by
 intro i hi
 obtain ⟨o, ho⟩ := Obs.has_iff.1 hi
 induction own with
 | nil => simp [Obs.get] at ho
 | cons p r ih =>
  obtain ⟨t, d⟩ := p
  simp only [inLo, List.all_cons, Bool.and_eq_true] at h
  rw [Obs.get_cons] at ho
  by_cases e : t = i
  ·subst e
   exact ⟨Nat.le_of_ble_eq_true h.1.1, by simpa [Nat.blt_eq] using h.1.2⟩
  ·rw [if_neg e] at ho
   exact ih h.2 (Obs.has_iff.2 ⟨o, ho⟩) ho
theorem has_mem {i : Nat} : ∀ {own : Obs}, i ∈ own.map (·.1) → own.has i = true
 | [], hi => by simp at hi
 | (t, d) :: r, hi => by
  simp only [Obs.has, Obs.get_cons]
  by_cases e : t = i
  ·simp [e]
  ·rw [if_neg e]
   simp only [List.map_cons, List.mem_cons] at hi
   exact has_mem (own := r) (hi.resolve_left (fun e' => e e'.symm))
/-- A part of the environment that names such objects alone. -/
inductive EnvF (f : Nat → Bool) (env : Env) : Env → Prop
 | nil : EnvF f env []
 | cons {t : Nat} {d : D} {e : Env} (h : env.get t = some d) (hp : d.okB f = true) (r : EnvF f env e) : EnvF f env ((t, d) :: e)
theorem EnvF.sound {f : Nat → Bool} {env env' : Env} (h : EnvF f env env') : ∀ t d, env'.get t = some d → env.get t = some d ∧ d.okB f = true := by
 induction h with
 | nil => intro t d h; simp [Env.get] at h
 | @cons t0 d0 e h hp _ ih =>
  intro t d hd
  rw [Env.get_cons] at hd
  by_cases e : t0 = t
  ·rw [if_pos e] at hd; cases hd; exact ⟨e ▸ h, hp⟩
  ·rw [if_neg e] at hd; exact ih t d hd
section
variable {P : Program} {F : Fr} {ops : Array Oper} {K : Env → Obs → Prop} {ol : List Oper} {env : Env}
theorem exec_yield (a : Act) {y : Operand} {lb : Nat} {xs : List Operand} {tys : Array TypeId} {dst : Option Tmp} {ty : TypeId} {pos : String} {aft : Array Edge} {g : Option (Nat × Bool)} (h : a.eval y = .func (.yield lb) #[] #[]) :
  execOp a.eval ⟨dst, .call ⟨.value y, xs.toArray, tys⟩, ty, pos, aft, g⟩ = Instr.yield lb (xs.map a.eval).toArray := by
 simp [execOp, resolve, Deferred.ofValue, h, invoke, Bind.bind, Sem.bind, Pure.pure]
/-- A call of yield. -/
theorem Tx.y2 {α : Type} {lo idL lb : Nat} {ids : List Nat} {B : List α → Obs} {X : Obs → Prop} {enc : α → List D} {ok : List α → Prop} (Y : YEnv P lo idL lb ids B X enc ok) {own : Obs} {pre : List α} {env' : Env} {y : Operand} {xs : List Operand} {tys : Array TypeId} {dst : Option Tmp} {ty : TypeId} {pos : String} {aft : Array Edge} {g : Option (Nat × Bool)}
  {p0 : List Nat} (x : α) (hFy : F.yl = some (idL, lb)) (hps : F.ps = ids ++ p0) (hp0 : p0.all own.has = true) (hd : dstB F.N dst = true) (hg : On ops env ⟨dst, .call ⟨.value y, xs.toArray, tys⟩, ty, pos, aft, g⟩) (hy : env.op y = some (yv lb)) (hx : env.opsD xs = some (enc x)) (hpu : D.pureB.pureL (enc x) = true) (hok : ok (pre ++ [x]))
  (hin : inLo lo own = true) (hoo : own.okB own.has = true) (he : EnvF own.has env env')
  (kT : Tx P F ops K ol (env'.put dst (.raw (.bool true))) (own ++ B (pre ++ [x]))) (kF : ∀ o, X o → Tx P F ops K ol (env'.put dst (.raw (.bool false))) (own ++ o)) :
  Tx P F ops K (⟨dst, .call ⟨.value y, xs.toArray, tys⟩, ty, pos, aft, g⟩ :: ol) env (own ++ B pre) :=
 .many hg fun C Q kk a w ρ hst hk => by
  have hev := op_of_env hst.env y _ hy
  simp only [V] at hev
  obtain ⟨_, l0, hl0, hlb⟩ := hst.yl idL lb hFy
  have hmem : idL ∈ F.ps := by rw [hps]; exact List.mem_append_left _ Y.mem
  have hρ := hst.keep idL hmem l0 hl0
  have hvs := opsD_V xs _ hx (fun x _ d' h => op_of_env hst.env x d' h)
  have hBn : ∀ i, own.has i = true → (B pre).get i = none := fun i hi => Y.free pre i (inLo_has hin i hi).1 (inLo_has hin i hi).2
  have hown_of : ∀ (o : Obs), (∀ i, own.has i = true → o.get i = none) → ∀ i x, o.get i = some x → Obs.get (own ++ o) i = some x := by
   intro o ho i x hi
   rw [Obs.get_append]
   cases hp : own.get i with
   | none => exact hi
   | some z => rw [ho i (Obs.has_iff.2 ⟨z, hp⟩)] at hi; cases hi
  have hsub := hown_of (B pre) hBn
  have hrest : ∀ i, (Obs.rest (own ++ B pre) (B pre)).get i = own.get i := by
   intro i
   rw [Obs.get_rest, Obs.get_append]
   cases hp : own.get i with
   | some z => simp [Obs.has, hBn i (Obs.has_iff.2 ⟨z, hp⟩)]
   | none =>
    cases hb : (B pre).get i with
    | none => simp [Obs.has, hb]
    | some z => simp [Obs.has, hb]
  have hrhas : ∀ i, (Obs.rest (own ++ B pre) (B pre)).has i = own.has i := fun i => by simp [Obs.has, hrest]
  have hidL : (B pre).has idL = true := List.all_eq_true.1 (Y.has pre) idL Y.mem
  have hok1 := frame_split' (obs := own ++ B pre) (pre := B pre) hsub (Y.okb pre) hst.tr.ok
  have hvs1 : Vs w (Ot (Ot C.O ρ (Obs.rest (own ++ B pre) (B pre))) (cutRho (B pre).has ρ) (B pre)) (cutRho (B pre).has ρ) (enc x) (xs.map a.eval) :=
   Vs.pure _ _ hpu (Vs.mono (Kept.subO fun b hb => ot_split (w := w) hsub b hb) (RhoLe.refl _) _ _ hvs)
  obtain ⟨fn, tmps, assign, body, hrun, hround⟩ := (Y.step pre x hok).out _ _ w (xs.map a.eval) l0 (by simp [cutRho, hidL, hρ]) hlb hok1 (hst.glob.mono (Kept.subO fun b hb => ot_split (w := w) hsub b hb)) hvs1
  refine ⟨fun _ _ => trivial, ?_⟩
  rw [Oper.semAt_eq _ _ _ (fun c hc => by cases hc), exec_yield a hev, hrun]
  simp only [Oper.uponIn]
  refine ⟨fun e => by simp [fz, Fence.wide] at e, ?_⟩
  have hround' : RoundIn (fz C.ro) 0 P lb fn tmps assign body w _ := hround
  refine hround'.mono ?_
  rintro e w' ⟨b, ρ', o, rfl, ho, htr, hkeep⟩
  have hfree : ∀ i, own.has i = true → o.get i = none := by
   rcases ho with ⟨_, rfl⟩ | ⟨_, ho⟩
   ·exact fun i hi => Y.free _ i (inLo_has hin i hi).1 (inLo_has hin i hi).2
   ·exact fun i hi => Y.freeX o ho i (inLo_has hin i hi).1 (inLo_has hin i hi).2
  obtain ⟨h1, h2, _⟩ := frame_join (fun i => ids.contains i || own.has i) hsub hst.tr.ok htr
   (fun i hi => by
    rw [hrhas]
    cases hp : own.has i with
    | false => rfl
    | true => rw [Obs.has, hfree i hp] at hi; cases hi)
   (fun i l hs hl => by
    simp only [Bool.or_eq_true, List.contains_iff_mem] at hs
    rcases hs with hs | hs
    ·exact hkeep i hs l hl
    ·simp [cutRho, Obs.has, hBn i hs] at hl)
   (fun i x hx => by
    rw [hrest] at hx
    exact Ob.okB_all (fun j hj => by simp [hj]) (Obs.okB_get hoo i x hx))
  have hcg : ∀ i, Obs.get (o ++ Obs.rest (own ++ B pre) (B pre)) i = Obs.get (own ++ o) i := by
   intro i
   rw [Obs.get_append, Obs.get_append, hrest]
   cases hp : own.get i with
   | none => cases o.get i <;> rfl
   | some z => rw [hfree i (Obs.has_iff.2 ⟨z, hp⟩)]
  have h1' := h1.congr hcg
  have hst' : ∀ v : Bool, St F C (env'.put dst (.raw (.bool v))) (own ++ o) (a.put dst (.bool v)) w' := fun v => by
   refine ⟨_, fun i hi l hl => h2 i l ?_ (hst.keep i hi l hl), hst.tr.trans h1', ?_, (Act.size_put _ _ _).trans hst.size, ?_, hst.rd, hst.yl, hst.gl⟩
   ·rw [hps] at hi
    simp only [Bool.or_eq_true, List.contains_iff_mem]
    rcases List.mem_append.1 hi with hi | hi
    ·exact .inl hi
    ·refine .inr ?_
     exact List.all_eq_true.1 hp0 _ hi
   ·refine env_put hst.size hd (fun t d hd' => ?_) (by simp [V])
    obtain ⟨g1, g2⟩ := he.sound t d hd'
    refine V.mono h1'.kept ?_ _ _ (V.cut d _ g2 (hst.env t d g1))
    intro j lj hlj
    unfold cutRho at hlj
    split at hlj
    ·rename_i hs; exact h2 j lj (by simp [hs]) hlj
    ·cases hlj
   ·rw [Act.put_def]; exact h1'.marks hst.marks
  rcases ho with ⟨rfl, rfl⟩ | ⟨rfl, ho⟩
  ·exact hk _ _ _ _ kT (hst' true)
  ·exact hk _ _ _ _ (kF o ho) (hst' false)
theorem Tx.y {α : Type} {lo idL lb : Nat} {ids : List Nat} {B : List α → Obs} {X : Obs → Prop} {enc : α → List D} {ok : List α → Prop} (Y : YEnv P lo idL lb ids B X enc ok) {own : Obs} {pre : List α} {env' : Env} {y : Operand} {xs : List Operand} {tys : Array TypeId} {dst : Option Tmp} {ty : TypeId} {pos : String} {aft : Array Edge} {g : Option (Nat × Bool)}
  (x : α) (hFy : F.yl = some (idL, lb)) (hps : F.ps = ids ++ own.map (·.1)) (hd : dstB F.N dst = true) (hg : On ops env ⟨dst, .call ⟨.value y, xs.toArray, tys⟩, ty, pos, aft, g⟩) (hy : env.op y = some (yv lb)) (hx : env.opsD xs = some (enc x)) (hpu : D.pureB.pureL (enc x) = true) (hok : ok (pre ++ [x]))
  (hin : inLo lo own = true) (hoo : own.okB own.has = true) (he : EnvF own.has env env')
  (kT : Tx P F ops K ol (env'.put dst (.raw (.bool true))) (own ++ B (pre ++ [x]))) (kF : ∀ o, X o → Tx P F ops K ol (env'.put dst (.raw (.bool false))) (own ++ o)) :
  Tx P F ops K (⟨dst, .call ⟨.value y, xs.toArray, tys⟩, ty, pos, aft, g⟩ :: ol) env (own ++ B pre) :=
 Tx.y2 Y x hFy hps (List.all_eq_true.2 fun i hi => has_mem hi) hd hg hy hx hpu hok hin hoo he kT kF
end
/-- What the function leaves. -/
def retY {α : Type} (B : List α → Obs) (X : Obs → Prop) (fin : List α → Prop) : Exit → Env → Obs → Prop
 | .ret, _, obs | .normal, _, obs => ∃ o, ((∃ xs, fin xs ∧ o = B xs) ∨ X o) ∧ ∀ i x, o.get i = some x → obs.get i = some x
 | _, _, _ => False
theorem retY_fin {α : Type} {B : List α → Obs} {X : Obs → Prop} {fin : List α → Prop} {env : Env} {obs : Obs} {e : Exit} (he : e = .ret ∨ e = .normal) (xs : List α) (hf : fin xs) (h : ∀ i x, (B xs).get i = some x → obs.get i = some x) : retY B X fin e env obs := by
 rcases he with rfl | rfl <;> exact ⟨_, .inl ⟨xs, hf, rfl⟩, h⟩
theorem retY_x {α : Type} {B : List α → Obs} {X : Obs → Prop} {fin : List α → Prop} {env : Env} {obs : Obs} {e : Exit} (he : e = .ret ∨ e = .normal) (o : Obs) (hx : X o) (h : ∀ i x, o.get i = some x → obs.get i = some x) : retY B X fin e env obs := by
 rcases he with rfl | rfl <;> exact ⟨_, .inr hx, h⟩
theorem own_get {own o : Obs} {lo : Nat} (hin : inLo lo own = true) (hf : ∀ i, lo ≤ i → i < lo + 100 → o.get i = none) : ∀ i x, o.get i = some x → Obs.get (own ++ o) i = some x := by
 intro i x hi
 rw [Obs.get_append]
 cases hp : own.get i with
 | none => exact hi
 | some z =>
  have := inLo_has hin i (Obs.has_iff.2 ⟨z, hp⟩)
  rw [hf i this.1 this.2] at hi; cases hi
theorem ps_ok {ids own : List Nat} {L o : Obs} (h : ids.all o.has = true) (h2 : own.all (Obs.has L) = true) : (ids ++ own).all (Obs.has (L ++ o)) = true := by
 rw [List.all_append, Bool.and_eq_true]
 constructor
 ·rw [List.all_eq_true] at h ⊢
  intro i hi
  obtain ⟨x, hx⟩ := Obs.has_iff.1 (h i hi)
  simp only [Obs.has, Obs.get_append]
  cases L.get i <;> simp [hx]
 ·rw [List.all_eq_true] at h2 ⊢
  intro i hi
  obtain ⟨x, hx⟩ := Obs.has_iff.1 (h2 i hi)
  simp [Obs.has, Obs.get_append, hx]
/-- The tail of the objects: the caller's. -/
theorem tail_ok {own own' o : Obs} {lo : Nat} (hin : inLo lo own = true) (hf : ∀ i, lo ≤ i → i < lo + 100 → o.get i = none) (hok : ∀ i x, o.get i = some x → x.okB o.has = true) : ∀ i x, o.get i = some x → Obs.get (own ++ o) i = some x ∧ x.okB (Obs.has (own' ++ o)) = true := by
 intro i x hi
 refine ⟨own_get hin hf i x hi, Ob.okB_all (fun j hj => ?_) (hok i x hi)⟩
 obtain ⟨y, hy⟩ := Obs.has_iff.1 hj
 simp only [Obs.has, Obs.get_append]
 cases own'.get j <;> simp [hy]
theorem FcY.mk' {α : Type} {P : Program} {f : FuncId} {fn : Func} {c : Code} {lo : Nat} {caps : List D} {own : Obs} {enc : α → List D} {ok fin : List α → Prop} (hf : P.funcs[f]? = some fn) (hb : fn.body = some c) {N : Nat} (hN : fn.ntmps = N) (hn : Nat.ble (caps.length + 1) N = true)
  (hres : ∀ tmps w, (results fn tmps).run P w = .ok (resV [] tmps) w)
  (h : ∀ (idL lb : Nat) (ids : List Nat) (B : List α → Obs) (X : Obs → Prop), YEnv P lo idL lb ids B X enc ok → Run P ⟨N, ids ++ own.map (·.1), false, some (idL, lb)⟩ [c] (retY B X fin) (args0 (yv lb :: caps) 0) (own ++ B [])) : FcY P f lo caps own enc ok fin := ⟨fun idL lb ids B X Y w O ρ vals l hl hlb hok hgl hv => by
 have hv' : Vs w (Ot O ρ (own ++ B [])) ρ (yv lb :: caps) (.func (.yield lb) #[] #[] :: vals) := by
  simp only [Vs]; exact ⟨_, _, rfl, by simp [V], hv⟩
 refine calls_of_WP hf hb (h idL lb ids B X Y).start (St.begin fn.ntmps hN (by have := Nat.le_of_ble_eq_true hn; simpa using this) hok hgl hv' _ _ (fun i b e => ?_)) ?_ ?_
 ·cases e; exact ⟨List.mem_append_left _ Y.mem, l, hl, hlb⟩
 ·intro e env' obs' hq
  cases e <;> first | exact .inl rfl | exact .inr rfl | exact hq.elim
 ·intro e env' obs' tmps w' ρ' hq hkeep htr henv
  have : ∃ o, ((∃ xs, fin xs ∧ o = B xs) ∨ X o) ∧ ∀ i x, o.get i = some x → obs'.get i = some x := by cases e <;> first | exact hq | exact hq.elim
  obtain ⟨o, ho, hsub⟩ := this
  have hokb : ∀ i x, o.get i = some x → x.okB o.has = true := by
   rcases ho with ⟨xs, _, rfl⟩ | ho
   ·exact Y.okb xs
   ·exact Y.okX o ho
  have hhas : ids.all o.has = true := by
   rcases ho with ⟨xs, _, rfl⟩ | ho
   ·exact Y.has xs
   ·exact Y.hasX o ho
  have hO : ∀ b, Owned (cutRho o.has ρ') o b → Owned ρ' obs' b := by
   rintro b ⟨i, x, l, g1, g2, g3, g4⟩
   exact ⟨i, x, l, hsub i x g1, g2, cutRho_le g3, g4⟩
  refine ⟨_, hres _ _, _, cutRho o.has ρ', o, rfl, ho, ⟨htr.size, htr.same, fun b hb => htr.new b (hO b hb), htr.ok.sub (fun i x hx => ⟨hsub i x hx, hokb i x hx⟩), htr.os⟩, fun i hi l hl => ?_⟩
  have := List.all_eq_true.1 hhas i hi
  simp [cutRho, this, hkeep i (List.mem_append_left _ hi) l hl]⟩
end Go.T
