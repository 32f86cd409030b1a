/-
  Contracts of the functions that the statement reaches, and the logic in which they are proved (no condition): parts W10, W11, W12, W13, W14, W15, W16, W17, Core16.
-/
import Derived.Test.YtlhemheagekhaaaGreatDoorA06
set_option linter.all false
namespace Go.T
open Go Go.Proofs
set_option maxRecDepth 20000
structure less35_ok_L0 (a b : List Entry) where
  pa : List Entry
  sa : List Entry
  pb : List Entry
  sb : List Entry
  out : List Entry
  hxa : sortE a = pa ++ sa
  hxb : sortE b = pb ++ sb
  hp : out ++ lessE sa sb = minusE a b
  hn : out.length ≤ pa.length
structure less35_ok_L1 (a b : List Entry) (x : Entry) (pa out sb0 : List Entry) where
  pb : List Entry
  sb : List Entry
  hxb : sortE b = pb ++ sb
  hd : sb.dropWhile (fun b => decide (cmpE b x < 0)) = sb0.dropWhile (fun b => decide (cmpE b x < 0))
theorem less35_ok (a b : List Entry) (ha : a.length ≤ 1000) (hb : b.length ≤ 1000) : Fc Tryz.prog 156 [sEntries a, sEntries b] (sEntries (minusE a b)) := by
  refine Fc.mk' [4] Tryz.func156 rfl Tryz.ntmps156 rfl rfl rfl (fun t w => results_tmp Tryz.results156 t _ w) ?_
  have hla0 := sortE_len a
  have hlb0 := sortE_len b
  refine Run.seq (Run.reg [.p] ?_)
  refine .ag rfl rfl <| .nil ?_
  refine Run.seq (Run.reg [.p, .p, .p, .p, .p, .p, .p, .p] ?_)
  refine .mv rfl rfl <| .p rfl trivial (fun _ => q_call Tryz.call205 rfl (sort35_ok _ (by first | assumption | omega | (simp at *; omega))) _) <| .mv rfl rfl <| .p rfl trivial (fun _ => q_call Tryz.call205 rfl (sort35_ok _ (by first | assumption | omega | (simp at *; omega))) _) <| .p rfl trivial (fun _ => q_buildSlice0 Tryz.underlying22 Tryz.sizeOf37 _) <| .ag rfl rfl <| .ag rfl rfl <| .ag rfl rfl <| .nil ?_
  refine Run.seq (Run.reg [.p] ?_)
  refine .ag rfl rfl <| .nil ?_
  refine Run.seq (Run.seq (Run.reg [.p] ?_))
  refine .ag rfl rfl <| .nil ?_
  refine Run.block ?_
  refine Run.loop (ι := less35_ok_L0 a b) (fun sx => [(5, sEntries (sortE a)), (6, sEntries (sortE b)), (7, .gs 0 sx.out.length), (8, .i sx.pb.length), (9, .i sx.pa.length)]) (fun sx => [(0, .arr 3 (sx.out.map encEntry))]) (fun sx => sx.sa.length) ⟨[], sortE a, [], sortE b, [], rfl, rfl, rfl, by simp⟩ ?_ ?_
  · exact (Le.own0 0 3).trans <| Le.mk rfl (.cons rfl (Sub.refl _) rfl (.cons rfl (Sub.refl _) rfl (.cons rfl (Sub.gsEmpty _ _) rfl (.cons rfl (Sub.int (by first | rfl | (simp; done) | omega | (simp; omega))) rfl (.cons rfl (Sub.int (by first | rfl | (simp; done) | omega | (simp; omega))) rfl .nil))))) (.arr rfl (by simp) .nil)
  · rintro ⟨pa, sa, pb, sb, out, hxa, hxb, hp, hn⟩
    show Run _ _ _ _ [(5, sEntries (sortE a)), (6, sEntries (sortE b)), (7, .gs 0 out.length), (8, .i pb.length), (9, .i pa.length)] [(0, .arr 3 (out.map encEntry))]
    have hla := congrArg List.length hxa
    simp only [List.length_append] at hla
    rcases sa with _ | ⟨x, sa⟩ <;> simp only [List.length_cons, List.length_nil] at hla
    · skip
      refine Run.seq (Run.seq (Run.reg [.p, .p, .p, .p] ?_))
      refine .mv rfl rfl <| .mv rfl rfl <| .p rfl trivial (fun _ => q_lenI Tryz.underlying22 rfl _) <| .p rfl trivial (fun _ => q_lss rfl rfl _) <| .nil ?_
      refine Run.condF rfl (by simp; omega) ?_
      refine Run.exit (tq_exit (bq_exit ?_))
      refine Run.seq (Run.reg [.p, .p] ?_)
      refine .mv rfl rfl <| .ag rfl rfl <| .nil ?_
      refine Run.weak (Le.freeze 4 0 rfl rfl (by simp)) ?_
      refine Run.ret (?_)
      exact ret1 rfl (Sub.snap (by simp [← hp, lessE]))
    · skip
      refine Run.seq (Run.seq (Run.reg [.p, .p, .p, .p] ?_))
      refine .mv rfl rfl <| .mv rfl rfl <| .p rfl trivial (fun _ => q_lenI Tryz.underlying22 rfl _) <| .p rfl trivial (fun _ => q_lss rfl rfl _) <| .nil ?_
      refine Run.condT rfl (by simp; omega) ?_
      refine Run.skip ?_
      refine Run.seq ?_
      refine Run.block ?_
      refine Run.seq ?_
      refine Run.block ?_
      refine Run.loop (ι := less35_ok_L1 a b x pa out sb) (fun sx => [(5, sEntries (sortE a)), (6, sEntries (sortE b)), (7, .gs 0 out.length), (8, .i sx.pb.length), (9, .i pa.length)]) (fun sx => [(0, .arr 3 (out.map encEntry))]) (fun sx => sx.sb.length) ⟨pb, sb, hxb, rfl⟩ ?_ ?_
      · exact Le.mk rfl (.cons rfl (Sub.refl _) rfl (.cons rfl (Sub.refl _) rfl (.cons rfl (Sub.gs (by simp)) rfl (.cons rfl (Sub.int (by first | rfl | (simp; done) | omega | (simp; omega))) rfl (.cons rfl (Sub.int (by first | rfl | (simp; done) | omega | (simp; omega))) rfl .nil))))) (.arr rfl (by simp) .nil)
      · rintro ⟨pb, sb, hxb, hd⟩
        show Run _ _ _ _ [(5, sEntries (sortE a)), (6, sEntries (sortE b)), (7, .gs 0 out.length), (8, .i pb.length), (9, .i pa.length)] [(0, .arr 3 (out.map encEntry))]
        have hlb := congrArg List.length hxb
        simp only [List.length_append] at hlb
        rcases sb with _ | ⟨y, sb⟩ <;> simp only [List.length_cons, List.length_nil] at hlb
        · skip
          refine Run.seq (Run.seq (Run.regD [.p, .p, .p, .p, .p, .p, .p, .p, .p, .p, .p, .p, .p, .p, .p, .p] Tryz_mixed (by decide +kernel) ?_))
          refine .mv rfl rfl <| .mv rfl rfl <| .p rfl trivial (fun _ => q_lenI Tryz.underlying22 rfl _) <| .p rfl trivial (fun _ => q_lss rfl rfl _) <| .mv rfl rfl ?_
          refine .off rfl (off_of rfl rfl rfl (by simp; omega)) ?_
          refine .off rfl (off_of rfl rfl rfl (by simp; omega)) ?_
          refine .off rfl (off_of rfl rfl rfl (by simp; omega)) ?_
          refine .off rfl (off_of rfl rfl rfl (by simp; omega)) ?_
          refine .off rfl (off_of rfl rfl rfl (by simp; omega)) ?_
          refine .off rfl (off_of rfl rfl rfl (by simp; omega)) ?_
          refine .off rfl (off_of rfl rfl rfl (by simp; omega)) ?_
          refine .off rfl (off_of rfl rfl rfl (by simp; omega)) ?_
          refine .off rfl (off_of rfl rfl rfl (by simp; omega)) ?_
          refine .off rfl (off_of rfl rfl rfl (by simp; omega)) ?_
          refine .p rfl trivial (fun _ => q_pickF rfl (by simp; omega) rfl _) <| .nil ?_
          refine Run.condF rfl rfl ?_
          refine Run.exit (tq_exit (bq_exit ?_))
          refine Run.seq (Run.seq (Run.regD [.p, .p, .p, .p, .p, .p, .p, .p, .p, .p, .p, .p, .p, .p, .p, .p] Tryz_mixed (by decide +kernel) ?_))
          refine .mv rfl rfl <| .mv rfl rfl <| .p rfl trivial (fun _ => q_lenI Tryz.underlying22 rfl _) <| .p rfl trivial (fun _ => q_lss rfl rfl _) <| .mv rfl rfl ?_
          refine .off rfl (off_of rfl rfl rfl (by simp; omega)) ?_
          refine .off rfl (off_of rfl rfl rfl (by simp; omega)) ?_
          refine .off rfl (off_of rfl rfl rfl (by simp; omega)) ?_
          refine .off rfl (off_of rfl rfl rfl (by simp; omega)) ?_
          refine .off rfl (off_of rfl rfl rfl (by simp; omega)) ?_
          refine .off rfl (off_of rfl rfl rfl (by simp; omega)) ?_
          refine .off rfl (off_of rfl rfl rfl (by simp; omega)) ?_
          refine .off rfl (off_of rfl rfl rfl (by simp; omega)) ?_
          refine .off rfl (off_of rfl rfl rfl (by simp; omega)) ?_
          refine .off rfl (off_of rfl rfl rfl (by simp; omega)) ?_
          refine .p rfl trivial (fun _ => q_pickF rfl (by simp; omega) rfl _) <| .nil ?_
          refine Run.condF rfl rfl ?_
          refine Run.skip ?_
          refine Run.reg [.p, .p, .p, .p, .p, .p, .w, .p] ?_
          refine .mv rfl rfl <| .mv rfl rfl <| .mv rfl rfl <| .p rfl trivial (fun _ => q_indexI Tryz.underlying22 Tryz.sizeOf37 rfl rfl (by omega) (idx_mid encEntry hxa rfl) _) <| .p rfl trivial (fun _ => q_loadIA Tryz.isAgg37 Tryz.sizeOf37 rfl rfl _) <| .p rfl trivial (fun _ => q_buildSlice' (n := 1) (rows := [encEntry x]) Tryz.underlying22 Tryz.sizeOf37 rfl rfl rfl Tryz.zeroValue37 rfl rfl rfl rfl rfl rfl rfl _) <| .w rfl trivial (q_append 1 Tryz.underlying22 Tryz.underlying22 Tryz.sizeOf37 Tryz.typeInfo37 Tryz.zeroValue37 rfl (bt := 48) rfl rfl rfl rfl (by simp) rfl rfl (by simp; omega)) <| .ag rfl rfl <| .nil ?_
          refine Run.nil (bq_norm ?_)
          refine Run.reg [.p, .p, .p] ?_
          refine .mv rfl rfl <| .p rfl trivial (fun _ => q_add rfl rfl (wrap64_ok (by omega) (by omega)) _) <| .ag rfl rfl <| .nil ?_
          refine Run.nil (tq_norm ?_)
          exact ⟨⟨pa ++ [x], sa, pb, [], out ++ [x], by simp [hxa], hxb, by rw [← hp, lessE_nil (x := x) (by simpa using hd.symm)]; simp, by simp; omega⟩, by simp, (Le.mk (obs' := [(1, _)]) rfl (show EnvLe _ _ [(5, _), (6, _), (7, _), (8, _), (9, _)] from (.same rfl rfl (.same rfl rfl (.same rfl rfl (.same rfl rfl (.same rfl rfl .nil)))))) (.cons (i := 1) rfl rfl .nil)).trans <| (Le.ren 7 1 0 rfl rfl (by simp) rfl).trans <| Le.mk rfl (.cons rfl (Sub.refl _) rfl (.cons rfl (Sub.refl _) rfl (.cons rfl (Sub.gs (by simp)) rfl (.cons rfl (Sub.int (by first | rfl | (simp; done) | omega | (simp; omega))) rfl (.cons rfl (Sub.int (by first | rfl | (simp; done) | omega | (simp; omega))) rfl .nil))))) (.arr rfl (by simp) .nil)⟩
        · skip
          refine Run.seq (Run.seq (Run.regD [.p, .p, .p, .p, .p, .p, .p, .p, .p, .p, .p, .p, .p, .p, .p, .p] Tryz_mixed (by decide +kernel) ?_))
          refine .mv rfl rfl <| .mv rfl rfl <| .p rfl trivial (fun _ => q_lenI Tryz.underlying22 rfl _) <| .p rfl trivial (fun _ => q_lss rfl rfl _) <| .mv rfl rfl <| .p rfl (on_of rfl rfl rfl (by simp; omega)) (fun _ => q_move rfl _) <| .p rfl (on_of rfl rfl rfl (by simp; omega)) (fun _ => q_move rfl _) <| .p rfl (on_of rfl rfl rfl (by simp; omega)) (fun _ => q_indexI Tryz.underlying22 Tryz.sizeOf37 rfl rfl (by omega) (idx_mid encEntry hxb rfl) _) <| .p rfl (on_of rfl rfl rfl (by simp; omega)) (fun _ => q_loadIA Tryz.isAgg37 Tryz.sizeOf37 rfl rfl _) <| .p rfl (on_of rfl rfl rfl (by simp; omega)) (fun _ => q_move rfl _) <| .p rfl (on_of rfl rfl rfl (by simp; omega)) (fun _ => q_move rfl _) <| .p rfl (on_of rfl rfl rfl (by simp; omega)) (fun _ => q_indexI Tryz.underlying22 Tryz.sizeOf37 rfl rfl (by omega) (idx_mid encEntry hxa rfl) _) <| .p rfl (on_of rfl rfl rfl (by simp; omega)) (fun _ => q_loadIA Tryz.isAgg37 Tryz.sizeOf37 rfl rfl _) <| .p rfl (on_of rfl rfl rfl (by simp; omega)) (fun _ => q_call Tryz.call206 rfl (cmpE35_ok _ _) _) <| .p rfl (on_of rfl rfl rfl (by simp; omega)) (fun _ => q_lss rfl rfl _) <| .p rfl trivial (fun _ => q_pickT rfl (by simp; omega) rfl _) <| .nil ?_
          refine Run.cond rfl (fun h1 => ?_) (fun h1 => ?_)
          · have ph1 := h1
            try simp only [bs, bne_iff_ne, ne_eq, List.length_map] at ph1
            refine Run.skip ?_
            refine Run.block ?_
            refine Run.reg [.p, .p, .p] ?_
            refine .mv rfl rfl <| .p rfl trivial (fun _ => q_add rfl rfl (wrap64_ok (by omega) (by omega)) _) <| .ag rfl rfl <| .nil ?_
            refine Run.nil (bq_norm ?_)
            refine Run.nil (tq_norm ?_)
            exact ⟨⟨pb ++ [y], sb, by simp [hxb], by rw [← hd, List.dropWhile_cons_of_pos (by simp; omega)]⟩, by simp, Le.mk rfl (.cons rfl (Sub.refl _) rfl (.cons rfl (Sub.refl _) rfl (.cons rfl (Sub.gs (by simp)) rfl (.cons rfl (Sub.int (by first | rfl | (simp; done) | omega | (simp; omega))) rfl (.cons rfl (Sub.int (by first | rfl | (simp; done) | omega | (simp; omega))) rfl .nil))))) (.arr rfl (by simp) .nil)⟩
          · have ph1 := h1
            try simp only [bs, bne_iff_ne, ne_eq, List.length_map] at ph1
            refine Run.exit (tq_exit (bq_exit ?_))
            refine Run.seq (Run.seq (Run.regD [.p, .p, .p, .p, .p, .p, .p, .p, .p, .p, .p, .p, .p, .p, .p, .p] Tryz_mixed (by decide +kernel) ?_))
            refine .mv rfl rfl <| .mv rfl rfl <| .p rfl trivial (fun _ => q_lenI Tryz.underlying22 rfl _) <| .p rfl trivial (fun _ => q_lss rfl rfl _) <| .mv rfl rfl <| .p rfl (on_of rfl rfl rfl (by simp; omega)) (fun _ => q_move rfl _) <| .p rfl (on_of rfl rfl rfl (by simp; omega)) (fun _ => q_move rfl _) <| .p rfl (on_of rfl rfl rfl (by simp; omega)) (fun _ => q_indexI Tryz.underlying22 Tryz.sizeOf37 rfl rfl (by omega) (idx_mid encEntry hxb rfl) _) <| .p rfl (on_of rfl rfl rfl (by simp; omega)) (fun _ => q_loadIA Tryz.isAgg37 Tryz.sizeOf37 rfl rfl _) <| .p rfl (on_of rfl rfl rfl (by simp; omega)) (fun _ => q_move rfl _) <| .p rfl (on_of rfl rfl rfl (by simp; omega)) (fun _ => q_move rfl _) <| .p rfl (on_of rfl rfl rfl (by simp; omega)) (fun _ => q_indexI Tryz.underlying22 Tryz.sizeOf37 rfl rfl (by omega) (idx_mid encEntry hxa rfl) _) <| .p rfl (on_of rfl rfl rfl (by simp; omega)) (fun _ => q_loadIA Tryz.isAgg37 Tryz.sizeOf37 rfl rfl _) <| .p rfl (on_of rfl rfl rfl (by simp; omega)) (fun _ => q_call Tryz.call206 rfl (cmpE35_ok _ _) _) <| .p rfl (on_of rfl rfl rfl (by simp; omega)) (fun _ => q_eql rfl rfl _) <| .p rfl trivial (fun _ => q_pickT rfl (by simp; omega) rfl _) <| .nil ?_
            refine Run.cond rfl (fun h2 => ?_) (fun h2 => ?_)
            · have ph2 := h2
              try simp only [bs, bne_iff_ne, ne_eq, List.length_map] at ph2
              refine Run.seq (Run.reg [.p, .p, .p] ?_)
              refine .mv rfl rfl <| .p rfl trivial (fun _ => q_add rfl rfl (wrap64_ok (by omega) (by omega)) _) <| .ag rfl rfl <| .nil ?_
              refine Run.exit (bq_exit ?_)
              refine Run.reg [.p, .p, .p] ?_
              refine .mv rfl rfl <| .p rfl trivial (fun _ => q_add rfl rfl (wrap64_ok (by omega) (by omega)) _) <| .ag rfl rfl <| .nil ?_
              refine Run.nil (tq_norm ?_)
              exact ⟨⟨pa ++ [x], sa, pb ++ [y], sb, out, by simp [hxa], by simp [hxb], by rw [← hp, lessE_eq (x := x) (y := y) (r := sb) (hd.symm.trans (List.dropWhile_cons_of_neg (by simp; omega))) (by assumption)], by simp; omega⟩, by simp, Le.mk rfl (.cons rfl (Sub.refl _) rfl (.cons rfl (Sub.refl _) rfl (.cons rfl (Sub.gs (by simp)) rfl (.cons rfl (Sub.int (by first | rfl | (simp; done) | omega | (simp; omega))) rfl (.cons rfl (Sub.int (by first | rfl | (simp; done) | omega | (simp; omega))) rfl .nil))))) (.arr rfl (by simp) .nil)⟩
            · have ph2 := h2
              try simp only [bs, bne_iff_ne, ne_eq, List.length_map] at ph2
              refine Run.skip ?_
              refine Run.reg [.p, .p, .p, .p, .p, .p, .w, .p] ?_
              refine .mv rfl rfl <| .mv rfl rfl <| .mv rfl rfl <| .p rfl trivial (fun _ => q_indexI Tryz.underlying22 Tryz.sizeOf37 rfl rfl (by omega) (idx_mid encEntry hxa rfl) _) <| .p rfl trivial (fun _ => q_loadIA Tryz.isAgg37 Tryz.sizeOf37 rfl rfl _) <| .p rfl trivial (fun _ => q_buildSlice' (n := 1) (rows := [encEntry x]) Tryz.underlying22 Tryz.sizeOf37 rfl rfl rfl Tryz.zeroValue37 rfl rfl rfl rfl rfl rfl rfl _) <| .w rfl trivial (q_append 1 Tryz.underlying22 Tryz.underlying22 Tryz.sizeOf37 Tryz.typeInfo37 Tryz.zeroValue37 rfl (bt := 48) rfl rfl rfl rfl (by simp) rfl rfl (by simp; omega)) <| .ag rfl rfl <| .nil ?_
              refine Run.nil (bq_norm ?_)
              refine Run.reg [.p, .p, .p] ?_
              refine .mv rfl rfl <| .p rfl trivial (fun _ => q_add rfl rfl (wrap64_ok (by omega) (by omega)) _) <| .ag rfl rfl <| .nil ?_
              refine Run.nil (tq_norm ?_)
              exact ⟨⟨pa ++ [x], sa, pb, y :: sb, out ++ [x], by simp [hxa], hxb, by rw [← hp, lessE_ne (x := x) (y := y) (r := sb) (hd.symm.trans (List.dropWhile_cons_of_neg (by simp; omega))) (by assumption)]; simp, by simp; omega⟩, by simp, (Le.mk (obs' := [(1, _)]) rfl (show EnvLe _ _ [(5, _), (6, _), (7, _), (8, _), (9, _)] from (.same rfl rfl (.same rfl rfl (.same rfl rfl (.same rfl rfl (.same rfl rfl .nil)))))) (.cons (i := 1) rfl rfl .nil)).trans <| (Le.ren 7 1 0 rfl rfl (by simp) rfl).trans <| Le.mk rfl (.cons rfl (Sub.refl _) rfl (.cons rfl (Sub.refl _) rfl (.cons rfl (Sub.gs (by simp)) rfl (.cons rfl (Sub.int (by first | rfl | (simp; done) | omega | (simp; omega))) rfl (.cons rfl (Sub.int (by first | rfl | (simp; done) | omega | (simp; omega))) rfl .nil))))) (.arr rfl (by simp) .nil)⟩
end Go.T
namespace Go.T
open Go Go.Proofs
set_option maxRecDepth 20000
structure minus35_ok_L0 (a b : List Entry) (ha : a.length ≤ 1000) (hb : b.length ≤ 1000) (hva : validE a = true) (hvb : validE b = true) (hsa : ∀ e ∈ a, smallE e) (hsb : ∀ e ∈ b, smallE e) where
  pre : List Entry
  rest : List Entry
  hx : (a ++ b) = pre ++ rest
theorem minus35_ok (a b : List Entry) (ha : a.length ≤ 1000) (hb : b.length ≤ 1000) (hva : validE a = true) (hvb : validE b = true) (hsa : ∀ e ∈ a, smallE e) (hsb : ∀ e ∈ b, smallE e) : Fc Tryz.prog 103 [sEntries a, sEntries b] (.tup [sEntries (minusE a b), sEntries (minusE b a), .i 0]) := by
  refine Fc.mk' [4, 5, 6] Tryz.func103 rfl Tryz.ntmps103 rfl rfl rfl (fun t w => results_tmp3 Tryz.results103 t _ w) ?_
  refine Run.seq (Run.reg [.p, .p, .p] ?_)
  refine .ag rfl rfl <| .ag rfl rfl <| .ag rfl rfl <| .nil ?_
  refine Run.seq (Run.reg [.p, .p, .w, .p, .w, .p] ?_)
  refine .p rfl trivial (fun _ => q_buildSlice0 Tryz.underlying22 Tryz.sizeOf37 _) <| .mv rfl rfl <| .w rfl trivial (QStep.own0 0 3 (t := 9) rfl (Sub.gsEmpty _ _) (q_append 1 Tryz.underlying22 Tryz.underlying22 Tryz.sizeOf37 Tryz.typeInfo37 Tryz.zeroValue37 rfl (bt := 48) rfl rfl rfl rfl rfl rfl rfl (by simp; omega))) <| .mv rfl rfl <| .w rfl trivial (q_append 2 Tryz.underlying22 Tryz.underlying22 Tryz.sizeOf37 Tryz.typeInfo37 Tryz.zeroValue37 rfl (bt := 48) rfl rfl rfl rfl (by simp) rfl rfl (by simp; omega)) <| .ag rfl rfl <| .nil ?_
  refine Run.seq (Run.seq (Run.reg [.p] ?_))
  refine .ag rfl rfl <| .nil ?_
  refine Run.block ?_
  refine Run.weak (Le.freeze 7 2 rfl rfl (by simp)) ?_
  refine Run.loop (ι := minus35_ok_L0 a b ha hb hva hvb hsa hsb) (fun sx => [(0, sEntries a), (1, sEntries b), (7, sEntries (a ++ b)), (8, .i sx.pre.length)]) (fun sx => []) (fun sx => sx.rest.length) ⟨[], a ++ b, rfl⟩ ?_ ?_
  · exact Le.mk rfl (.cons rfl (Sub.refl _) rfl (.cons rfl (Sub.refl _) rfl (.cons rfl (Sub.snap (by simp)) rfl (.cons rfl (Sub.int (by first | rfl | (simp; done) | omega | (simp; omega))) rfl .nil)))) .nil
  · rintro ⟨pre, rest, hx⟩
    show Run _ _ _ _ [(0, sEntries a), (1, sEntries b), (7, sEntries (a ++ b)), (8, .i pre.length)] []
    have hl := congrArg List.length hx
    simp only [List.length_append] at hl
    refine Run.bSnap 7 rfl (fun hb2 => ?_)
    simp only [List.length_map, big] at hb2
    rcases rest with _ | ⟨x, rest⟩
    · skip
      refine Run.seq (Run.seq (Run.reg [.p, .p, .p, .p] ?_))
      refine .mv rfl rfl <| .mv rfl rfl <| .p rfl trivial (fun _ => q_lenI Tryz.underlying22 rfl _) <| .p rfl trivial (fun _ => q_lss rfl rfl _) <| .nil ?_
      refine Run.condF rfl (by simp at hl ⊢; omega) ?_
      refine Run.exit (tq_exit (bq_exit ?_))
      refine Run.seq (Run.reg [.p, .p, .p, .p, .p, .p, .p, .p, .p] ?_)
      refine .mv rfl rfl <| .mv rfl rfl <| .p rfl trivial (fun _ => q_call Tryz.call156 rfl (less35_ok _ _ (by first | assumption | omega | (simp at *; omega)) (by first | assumption | omega | (simp at *; omega))) _) <| .mv rfl rfl <| .mv rfl rfl <| .p rfl trivial (fun _ => q_call Tryz.call156 rfl (less35_ok _ _ (by first | assumption | omega | (simp at *; omega)) (by first | assumption | omega | (simp at *; omega))) _) <| .ag rfl rfl <| .ag rfl rfl <| .ag rfl rfl <| .nil ?_
      refine Run.ret (?_)
      exact ret3 rfl rfl rfl (Sub.snap (by rfl)) (Sub.snap (by rfl)) (Sub.int (by rfl))
    · simp only [List.length_cons] at hl
      have hsm : smallE x := by
            have : x ∈ a ++ b := by (rw [hx]; simp)
            rcases List.mem_append.1 this with h | h
            · exact hsa x h
            · exact hsb x h
      have hv : checkE x = 0 := by
            have : x ∈ a ++ b := by (rw [hx]; simp)
            rcases List.mem_append.1 this with h | h
            · simpa using List.all_eq_true.1 hva x h
            · simpa using List.all_eq_true.1 hvb x h
      refine Run.seq (Run.seq (Run.reg [.p, .p, .p, .p] ?_))
      refine .mv rfl rfl <| .mv rfl rfl <| .p rfl trivial (fun _ => q_lenI Tryz.underlying22 rfl _) <| .p rfl trivial (fun _ => q_lss rfl rfl _) <| .nil ?_
      refine Run.condT rfl (by simp at hl ⊢; omega) ?_
      refine Run.skip ?_
      refine Run.seq ?_
      refine Run.block ?_
      refine Run.seq (Run.reg [.p, .p, .p, .p, .p, .p] ?_)
      refine .mv rfl rfl <| .mv rfl rfl <| .p rfl trivial (fun _ => q_indexI Tryz.underlying22 Tryz.sizeOf37 rfl rfl (by omega) (idx_mid encEntry hx rfl) _) <| .p rfl trivial (fun _ => q_loadIA Tryz.isAgg37 Tryz.sizeOf37 rfl rfl _) <| .p rfl trivial (fun _ => q_call Tryz.call56 rfl (check35_ok _ hsm) _) <| .p rfl trivial (fun _ => q_neq rfl rfl _) <| .nil ?_
      refine Run.condF rfl (by simp [hv]) ?_
      refine Run.skip ?_
      refine Run.nil (bq_norm ?_)
      refine Run.reg [.p, .p, .p] ?_
      refine .mv rfl rfl <| .p rfl trivial (fun _ => q_add rfl rfl (wrap64_ok (by omega) (by omega)) _) <| .ag rfl rfl <| .nil ?_
      refine Run.nil (tq_norm ?_)
      exact ⟨⟨pre ++ [x], rest, by simp [hx]⟩, by simp, Le.mk rfl (.cons rfl (Sub.refl _) rfl (.cons rfl (Sub.refl _) rfl (.cons rfl (Sub.snap (by simp)) rfl (.cons rfl (Sub.int (by first | rfl | (simp; done) | omega | (simp; omega))) rfl .nil)))) .nil⟩
end Go.T
namespace Go.T
open Go Go.Proofs
set_option maxRecDepth 20000
structure opposite35_ok_L0 (e : Entry) where
  pre : List Line
  rest : List Line
  hx : e.lines = pre ++ rest
theorem opposite35_ok (e : Entry) (hs : smallE e) : Fc Tryz.prog 105 [.agg (encEntry e)] (.agg (encEntry (opposite e))) := by
  refine Fc.mkR Tryz.func105 rfl Tryz.ntmps105 rfl rfl rfl ?_
  refine Run.bAgg 0 2 rfl rfl (fun hb => ?_)
  simp only [List.length_map, big] at hb
  obtain ⟨hs1, hs2, hs3⟩ := hs
  refine Run.seq (Run.reg [.w, .w] ?_)
  refine .w rfl trivial (q_boxA 0 rfl rfl) <| .w rfl trivial (q_alloc 1 Tryz.zeroValue37 rfl) <| .nil ?_
  refine Run.seq (Run.reg [.p, .r, .p, .r, .p, .w, .w] ?_)
  refine .p rfl trivial (fun _ => q_fieldB (n := 0) 34 0 Tryz.underlying37 Tryz.sizeOf34 rfl rfl _) <| .r rfl trivial (q_load1 Tryz.isAgg34 rfl rfl rfl) <| .p rfl trivial (fun _ => q_fieldB (n := 0) 9 1 Tryz.underlying37 Tryz.sizeOf9 rfl rfl _) <| .r rfl trivial (q_load1 Tryz.isAgg9 rfl rfl rfl) <| .p rfl trivial (fun _ => q_build (pl := #[(0, 1), (1, 1), (2, 1)]) Tryz.underlying37 Tryz.zeroValue37 (fun w => by kernel_rfl) rfl rfl _) <| .w rfl trivial (q_alloc 2 Tryz.zeroValue37 rfl) <| .w rfl trivial (q_storeW Tryz.sizeOf37 rfl rfl rfl rfl rfl rfl) <| .nil ?_
  refine Run.seq (Run.seq (Run.reg [.p] ?_))
  refine .ag rfl rfl <| .nil ?_
  refine Run.block ?_
  refine Run.loop (ι := opposite35_ok_L0 e) (fun sx => [(1, .box 0 0), (2, .box 1 0), (3, .box 2 0), (4, .i sx.pre.length)]) (fun sx => [(0, .cells (encEntry e)), (1, .cells [.i 0, .str [], .raw (.slice none 0 0)]), (2, .cells [.i e.day, .str e.cause, .gs 3 sx.pre.length]), (3, .arr 3 (sx.pre.map fun l => encLine { l with amount := negS l.amount }))]) (fun sx => sx.rest.length) ⟨[], e.lines, rfl⟩ ?_ ?_
  · exact (Le.own0 3 3).trans <| (Le.subO 2 2 rfl rfl (Sub.gsNil _)).trans <| Le.mk rfl (.cons rfl (Sub.refl _) rfl (.cons rfl (Sub.refl _) rfl (.cons rfl (Sub.refl _) rfl (.cons rfl (Sub.int (by first | rfl | (simp; done) | omega | (simp; omega))) rfl .nil)))) (.cons rfl rfl (.cons rfl rfl (.eq rfl (by first | rfl | simp) rfl (.arr rfl (by simp) .nil))))
  · rintro ⟨pre, rest, hx⟩
    show Run _ _ _ _ [(1, .box 0 0), (2, .box 1 0), (3, .box 2 0), (4, .i pre.length)] [(0, .cells (encEntry e)), (1, .cells [.i 0, .str [], .raw (.slice none 0 0)]), (2, .cells [.i e.day, .str e.cause, .gs 3 pre.length]), (3, .arr 3 (pre.map fun l => encLine { l with amount := negS l.amount }))]
    have hl := congrArg List.length hx
    simp only [List.length_append] at hl
    rcases rest with _ | ⟨x, rest⟩
    · skip
      refine Run.seq (Run.seq (Run.reg [.p, .p, .r, .p, .p] ?_))
      refine .mv rfl rfl <| .p rfl trivial (fun _ => q_fieldB (n := 0) 35 2 Tryz.underlying37 Tryz.sizeOf35 rfl rfl _) <| .r rfl trivial (q_load1 Tryz.isAgg35 rfl rfl rfl) <| .p rfl trivial (fun _ => q_lenI Tryz.underlying35 rfl _) <| .p rfl trivial (fun _ => q_lss rfl rfl _) <| .nil ?_
      refine Run.condF rfl (by simp at hl ⊢; omega) ?_
      refine Run.exit (tq_exit (bq_exit ?_))
      refine Run.seq (Run.reg [.r, .w] ?_)
      refine .r rfl trivial (q_loadW Tryz.isAgg37 Tryz.sizeOf37 rfl rfl rfl) <| .w rfl trivial (q_storeW Tryz.sizeOf37 rfl rfl rfl rfl rfl rfl) <| .nil ?_
      refine Run.weak (Le.freezeO 1 2 3 rfl rfl rfl (by simp)) ?_
      refine Run.ret (?_)
      exact Rd.cA Tryz.results105 Tryz.isAgg37 Tryz.sizeOf37 rfl rfl rfl (Sub.agg (.cons (Sub.int (by rfl)) (.cons (Sub.str (by rfl)) (.cons (Sub.snap (by simp [opposite, hx])) .nil))))
    · simp only [List.length_cons] at hl
      refine Run.seq (Run.seq (Run.reg [.p, .p, .r, .p, .p] ?_))
      refine .mv rfl rfl <| .p rfl trivial (fun _ => q_fieldB (n := 0) 35 2 Tryz.underlying37 Tryz.sizeOf35 rfl rfl _) <| .r rfl trivial (q_load1 Tryz.isAgg35 rfl rfl rfl) <| .p rfl trivial (fun _ => q_lenI Tryz.underlying35 rfl _) <| .p rfl trivial (fun _ => q_lss rfl rfl _) <| .nil ?_
      refine Run.condT rfl (by simp; omega) ?_
      refine Run.skip ?_
      refine Run.seq ?_
      refine Run.block ?_
      refine Run.seq (Run.reg [.p, .r, .p, .p, .p, .w, .w] ?_)
      refine .p rfl trivial (fun _ => q_fieldB (n := 0) 35 2 Tryz.underlying37 Tryz.sizeOf35 rfl rfl _) <| .r rfl trivial (q_load1 Tryz.isAgg35 rfl rfl rfl) <| .mv rfl rfl <| .p rfl trivial (fun _ => q_indexI Tryz.underlying35 Tryz.sizeOf92 rfl rfl (by omega) (idx_mid encLine hx rfl) _) <| .p rfl trivial (fun _ => q_loadIA Tryz.isAgg92 Tryz.sizeOf92 rfl rfl _) <| .w rfl trivial (q_alloc 4 Tryz.zeroValue92 rfl) <| .w rfl trivial (q_storeW Tryz.sizeOf92 rfl rfl rfl rfl rfl rfl) <| .nil ?_
      refine Run.seq (Run.reg [.p, .r, .p, .p, .w] ?_)
      refine .p rfl trivial (fun _ => q_fieldB (n := 0) 54 2 Tryz.underlying92 Tryz.sizeOf54 rfl rfl _) <| .r rfl trivial (q_load1 Tryz.isAgg54 rfl rfl rfl) <| .p rfl trivial (fun _ => q_call Tryz.call157 rfl (neg01_ok _ (by have := (hs3 x (by rw [hx]; simp)).2.2; omega)) _) <| .p rfl trivial (fun _ => q_fieldB (n := 0) 54 2 Tryz.underlying92 Tryz.sizeOf54 rfl rfl _) <| .w rfl trivial (q_store1 Tryz.sizeOf54 rfl rfl rfl rfl (by first | (simp; done) | decide)) <| .nil ?_
      refine Run.reg [.p, .r, .r, .p, .w, .p, .w] ?_
      refine .p rfl trivial (fun _ => q_fieldB (n := 0) 35 2 Tryz.underlying37 Tryz.sizeOf35 rfl rfl _) <| .r rfl trivial (q_load1 Tryz.isAgg35 rfl rfl rfl) <| .r rfl trivial (q_loadW Tryz.isAgg92 Tryz.sizeOf92 rfl rfl rfl) <| .p rfl trivial (fun _ => q_buildSlice' (n := 1) (rows := [encLine { x with amount := negS x.amount }]) Tryz.underlying35 Tryz.sizeOf92 rfl rfl rfl Tryz.zeroValue92 rfl rfl rfl rfl rfl rfl rfl _) <| .w rfl trivial (q_append 5 Tryz.underlying35 Tryz.underlying35 Tryz.sizeOf92 Tryz.typeInfo92 Tryz.zeroValue92 rfl (bt := 48) rfl rfl rfl rfl (by simp) rfl rfl (by simp; omega)) <| .p rfl trivial (fun _ => q_fieldB (n := 0) 35 2 Tryz.underlying37 Tryz.sizeOf35 rfl rfl _) <| .w rfl trivial (q_store1 Tryz.sizeOf35 rfl rfl rfl rfl (by first | (simp; done) | decide)) <| .nil ?_
      refine Run.nil (bq_norm ?_)
      refine Run.reg [.p, .p, .p] ?_
      refine .mv rfl rfl <| .p rfl trivial (fun _ => q_add rfl rfl (wrap64_ok (by omega) (by omega)) _) <| .ag rfl rfl <| .nil ?_
      refine Run.nil (tq_norm ?_)
      exact ⟨⟨pre ++ [x], rest, by simp [hx]⟩, by simp, (Le.mk (obs' := [(0, _), (1, _), (2, _), (5, _)]) rfl (show EnvLe _ _ [(1, _), (2, _), (3, _), (4, _)] from (.same rfl rfl (.same rfl rfl (.same rfl rfl (.same rfl rfl .nil))))) (.cons (i := 0) rfl rfl (.cons (i := 1) rfl rfl (.cons (i := 2) rfl rfl (.cons (i := 5) rfl rfl .nil))))).trans <| (Le.renO 2 2 5 3 rfl rfl rfl (by simp) rfl).trans <| Le.mk rfl (.cons rfl (Sub.refl _) rfl (.cons rfl (Sub.refl _) rfl (.cons rfl (Sub.refl _) rfl (.cons rfl (Sub.int (by first | rfl | (simp; done) | omega | (simp; omega))) rfl .nil)))) (.cons rfl rfl (.cons rfl rfl (.eq rfl (by first | rfl | simp) rfl (.arr rfl (by simp) .nil))))⟩
end Go.T
namespace Go.T
open Go Go.Proofs
set_option maxRecDepth 20000
structure posting50_ok_L0 (a b : List Entry) (cl : List Close) (known : Int) (by_ : Str) where
  pre : List Entry
  rest : List Entry
  hx : (minusE a b) = pre ++ rest
structure posting50_ok_L1 (a b : List Entry) (cl : List Close) (known : Int) (by_ : Str) where
  pre : List Entry
  rest : List Entry
  hx : (minusE b a) = pre ++ rest
theorem posting50_ok (a b : List Entry) (cl : List Close) (known : Int) (by_ : Str) (ha : a.length ≤ 1000) (hb : b.length ≤ 1000) (hva : validE a = true) (hvb : validE b = true) (hsa : ∀ e ∈ a, smallE e) (hsb : ∀ e ∈ b, smallE e) (hd : ∀ c ∈ cl, validDay c.day = true) : Fc Tryz.prog 51 [sEntries a, sEntries b, sCloses cl, .i known, .str by_] (sPosteds (postings a b cl known by_)) := by
  refine Fc.mk' [10] Tryz.func51 rfl Tryz.ntmps51 rfl rfl rfl (fun t w => results_tmp Tryz.results51 t _ w) ?_
  have hla : (minusE a b).length ≤ 1000 := by have h1 := lessE_len (sortE a) (sortE b); have h2 := sortE_len a; unfold minusE; omega
  have hlb : (minusE b a).length ≤ 1000 := by have h1 := lessE_len (sortE b) (sortE a); have h2 := sortE_len b; unfold minusE; omega
  refine Run.seq (Run.reg [.p] ?_)
  refine .ag rfl rfl <| .nil ?_
  refine Run.seq (Run.reg [.p, .p, .p, .p, .p, .p, .p, .p, .p, .p] ?_)
  refine .mv rfl rfl <| .mv rfl rfl <| .p rfl trivial (fun _ => q_call Tryz.call103 rfl (minus35_ok _ _ (by first | assumption | omega | (simp at *; omega)) (by first | assumption | omega | (simp at *; omega)) (by first | assumption | omega | (simp at *; omega)) (by first | assumption | omega | (simp at *; omega)) (by first | assumption | omega | (simp at *; omega)) (by first | assumption | omega | (simp at *; omega))) _) <| .mv rfl rfl <| .p rfl trivial (fun _ => q_extract rfl rfl _) <| .p rfl trivial (fun _ => q_extract rfl rfl _) <| .p rfl trivial (fun _ => q_extract rfl rfl _) <| .ag rfl rfl <| .ag rfl rfl <| .ag rfl rfl <| .nil ?_
  refine Run.seq (Run.reg [.p, .p, .p, .p] ?_)
  refine .mv rfl rfl <| .mv rfl rfl <| .p rfl trivial (fun _ => q_call Tryz.call104 rfl (opens49_ok _ _ hd) _) <| .ag rfl rfl <| .nil ?_
  refine Run.seq (Run.reg [.p, .p] ?_)
  refine .p rfl trivial (fun _ => q_buildSlice0 Tryz.underlying27 Tryz.sizeOf39 _) <| .ag rfl rfl <| .nil ?_
  refine Run.seq (Run.seq (Run.reg [.p] ?_))
  refine .ag rfl rfl <| .nil ?_
  refine Run.block ?_
  refine Run.loop (ι := posting50_ok_L0 a b cl known by_) (fun sx => [(3, .i known), (4, .str by_), (12, sEntries (minusE b a)), (14, .i (opens cl known)), (11, sEntries (minusE a b)), (15, .gs 0 sx.pre.length), (16, .i sx.pre.length)]) (fun sx => [(0, .arr 6 ((sx.pre.map fun e => Posted.mk (max (opens cl known) e.day) known by_ (opposite e)).map encPosted))]) (fun sx => sx.rest.length) ⟨[], minusE a b, rfl⟩ ?_ ?_
  · exact (Le.own0 0 6).trans <| Le.mk rfl (.cons rfl (Sub.int (by first | rfl | (simp; done) | omega | (simp; omega))) rfl (.cons rfl (Sub.str (by first | rfl | (simp; done) | omega | (simp; omega))) rfl (.cons rfl (Sub.refl _) rfl (.cons rfl (Sub.int (by first | rfl | (simp; done) | omega | (simp; omega))) rfl (.cons rfl (Sub.refl _) rfl (.cons rfl (Sub.gsEmpty _ _) rfl (.cons rfl (Sub.int (by first | rfl | (simp; done) | omega | (simp; omega))) rfl .nil))))))) (.arr rfl (by simp) .nil)
  · rintro ⟨pre, rest, hx⟩
    show Run _ _ _ _ [(3, .i known), (4, .str by_), (12, sEntries (minusE b a)), (14, .i (opens cl known)), (11, sEntries (minusE a b)), (15, .gs 0 pre.length), (16, .i pre.length)] [(0, .arr 6 ((pre.map fun e => Posted.mk (max (opens cl known) e.day) known by_ (opposite e)).map encPosted))]
    have hl := congrArg List.length hx
    simp only [List.length_append] at hl
    rcases rest with _ | ⟨x, rest⟩
    · skip
      refine Run.seq (Run.seq (Run.reg [.p, .p, .p, .p] ?_))
      refine .mv rfl rfl <| .mv rfl rfl <| .p rfl trivial (fun _ => q_lenI Tryz.underlying22 rfl _) <| .p rfl trivial (fun _ => q_lss rfl rfl _) <| .nil ?_
      refine Run.condF rfl (by simp at hl ⊢; omega) ?_
      refine Run.exit (tq_exit (bq_exit ?_))
      refine Run.seq (Run.seq (Run.reg [.p] ?_))
      refine .ag rfl rfl <| .nil ?_
      refine Run.block ?_
      refine Run.loop (ι := posting50_ok_L1 a b cl known by_) (fun sx => [(3, .i known), (4, .str by_), (12, sEntries (minusE b a)), (14, .i (opens cl known)), (15, .gs 0 ((minusE a b).length + sx.pre.length)), (17, .i sx.pre.length)]) (fun sx => [(0, .arr 6 ((((minusE a b).map fun e => Posted.mk (max (opens cl known) e.day) known by_ (opposite e)) ++ (sx.pre.map fun e => Posted.mk (max (opens cl known) e.day) known by_ e)).map encPosted))]) (fun sx => sx.rest.length) ⟨[], minusE b a, rfl⟩ ?_ ?_
      · exact Le.mk rfl (.cons rfl (Sub.int (by first | rfl | (simp; done) | omega | (simp; omega))) rfl (.cons rfl (Sub.str (by first | rfl | (simp; done) | omega | (simp; omega))) rfl (.cons rfl (Sub.refl _) rfl (.cons rfl (Sub.int (by first | rfl | (simp; done) | omega | (simp; omega))) rfl (.cons rfl (Sub.gs (by first | (simp; done) | (simp [hx]; done) | (simp; omega) | (simp_all))) rfl (.cons rfl (Sub.int (by first | rfl | (simp; done) | omega | (simp; omega))) rfl .nil)))))) (.arr rfl (by first | (simp; done) | (simp [hx]; done) | (simp_all)) .nil)
      · rintro ⟨pre, rest, hx⟩
        show Run _ _ _ _ [(3, .i known), (4, .str by_), (12, sEntries (minusE b a)), (14, .i (opens cl known)), (15, .gs 0 ((minusE a b).length + pre.length)), (17, .i pre.length)] [(0, .arr 6 ((((minusE a b).map fun e => Posted.mk (max (opens cl known) e.day) known by_ (opposite e)) ++ (pre.map fun e => Posted.mk (max (opens cl known) e.day) known by_ e)).map encPosted))]
        have hl := congrArg List.length hx
        simp only [List.length_append] at hl
        rcases rest with _ | ⟨x, rest⟩
        · skip
          refine Run.seq (Run.seq (Run.reg [.p, .p, .p, .p] ?_))
          refine .mv rfl rfl <| .mv rfl rfl <| .p rfl trivial (fun _ => q_lenI Tryz.underlying22 rfl _) <| .p rfl trivial (fun _ => q_lss rfl rfl _) <| .nil ?_
          refine Run.condF rfl (by simp at hl ⊢; omega) ?_
          refine Run.exit (tq_exit (bq_exit ?_))
          refine Run.seq (Run.reg [.p, .p] ?_)
          refine .mv rfl rfl <| .ag rfl rfl <| .nil ?_
          refine Run.weak (Le.freeze 10 0 rfl rfl (by first | (simp; done) | (simp; omega))) ?_
          refine Run.ret (?_)
          exact ret1 rfl (Sub.snap (by simp [postings, hx]))
        · simp only [List.length_cons] at hl
          refine Run.seq (Run.seq (Run.reg [.p, .p, .p, .p] ?_))
          refine .mv rfl rfl <| .mv rfl rfl <| .p rfl trivial (fun _ => q_lenI Tryz.underlying22 rfl _) <| .p rfl trivial (fun _ => q_lss rfl rfl _) <| .nil ?_
          refine Run.condT rfl (by simp; omega) ?_
          refine Run.skip ?_
          refine Run.seq ?_
          refine Run.block ?_
          refine Run.regD [.p, .p, .p, .p, .p, .p, .p, .p, .p, .p, .p, .p, .p, .p, .p, .p, .w, .p] Tryz_mixed (by decide +kernel) ?_
          refine .mv rfl rfl <| .mv rfl rfl <| .mv rfl rfl <| .mv rfl rfl <| .p rfl trivial (fun _ => q_indexI Tryz.underlying22 Tryz.sizeOf37 rfl rfl (by omega) (idx_mid encEntry hx rfl) _) <| .p rfl trivial (fun _ => q_fieldI (n := 0) 34 0 Tryz.underlying37 Tryz.sizeOf34 rfl rfl rfl _) <| .p rfl trivial (fun _ => q_loadI Tryz.isAgg34 rfl _) <| .p rfl trivial (fun _ => q_max rfl rfl rfl _) <| .mv rfl rfl <| .mv rfl rfl <| .mv rfl rfl <| .mv rfl rfl <| .p rfl trivial (fun _ => q_indexI Tryz.underlying22 Tryz.sizeOf37 rfl rfl (by omega) (idx_mid encEntry hx rfl) _) <| .p rfl trivial (fun _ => q_loadIA Tryz.isAgg37 Tryz.sizeOf37 rfl rfl _) <| .p rfl trivial (fun _ => q_build (pl := #[(0, 1), (1, 1), (2, 1), (3, 3)]) Tryz.underlying39 Tryz.zeroValue39 (fun w => by kernel_rfl) rfl rfl _) <| .p rfl trivial (fun _ => q_buildSlice' (n := 1) (rows := [encPosted ⟨max (opens cl known) x.day, known, by_, x⟩]) Tryz.underlying27 Tryz.sizeOf39 rfl rfl rfl Tryz.zeroValue39 rfl rfl rfl rfl rfl rfl rfl _) <| .w rfl trivial (q_append 1 Tryz.underlying27 Tryz.underlying27 Tryz.sizeOf39 Tryz.typeInfo39 Tryz.zeroValue39 rfl (bt := 80) rfl rfl rfl rfl (by first | (simp; done) | (simp; omega)) rfl rfl (by simp; omega)) <| .ag rfl rfl <| .nil ?_
          refine Run.nil (bq_norm ?_)
          refine Run.reg [.p, .p, .p] ?_
          refine .mv rfl rfl <| .p rfl trivial (fun _ => q_add rfl rfl (wrap64_ok (by omega) (by omega)) _) <| .ag rfl rfl <| .nil ?_
          refine Run.nil (tq_norm ?_)
          exact ⟨⟨pre ++ [x], rest, by simp [hx]⟩, by simp, (Le.mk (obs' := [(1, _)]) rfl (show EnvLe _ _ [(3, _), (4, _), (12, _), (14, _), (15, _), (17, _)] from (.same rfl rfl (.same rfl rfl (.same rfl rfl (.same rfl rfl (.same rfl rfl (.same rfl rfl .nil))))))) (.cons (i := 1) rfl rfl .nil)).trans <| (Le.ren 15 1 0 rfl rfl (by first | (simp; done) | (simp; omega)) rfl).trans <| Le.mk rfl (.cons rfl (Sub.int (by first | rfl | (simp; done) | omega | (simp; omega))) rfl (.cons rfl (Sub.str (by first | rfl | (simp; done) | omega | (simp; omega))) rfl (.cons rfl (Sub.refl _) rfl (.cons rfl (Sub.int (by first | rfl | (simp; done) | omega | (simp; omega))) rfl (.cons rfl (Sub.gs (by first | (simp; done) | (simp [hx]; done) | (simp; omega) | (simp_all))) rfl (.cons rfl (Sub.int (by first | rfl | (simp; done) | omega | (simp; omega))) rfl .nil)))))) (.arr rfl (by first | (simp; done) | (simp [hx]; done) | (simp_all)) .nil)⟩
    · simp only [List.length_cons] at hl
      refine Run.seq (Run.seq (Run.reg [.p, .p, .p, .p] ?_))
      refine .mv rfl rfl <| .mv rfl rfl <| .p rfl trivial (fun _ => q_lenI Tryz.underlying22 rfl _) <| .p rfl trivial (fun _ => q_lss rfl rfl _) <| .nil ?_
      refine Run.condT rfl (by simp; omega) ?_
      refine Run.skip ?_
      refine Run.seq ?_
      refine Run.block ?_
      refine Run.regD [.p, .p, .p, .p, .p, .p, .p, .p, .p, .p, .p, .p, .p, .p, .p, .p, .p, .w, .p] Tryz_mixed (by decide +kernel) ?_
      refine .mv rfl rfl <| .mv rfl rfl <| .mv rfl rfl <| .mv rfl rfl <| .p rfl trivial (fun _ => q_indexI Tryz.underlying22 Tryz.sizeOf37 rfl rfl (by omega) (idx_mid encEntry hx rfl) _) <| .p rfl trivial (fun _ => q_fieldI (n := 0) 34 0 Tryz.underlying37 Tryz.sizeOf34 rfl rfl rfl _) <| .p rfl trivial (fun _ => q_loadI Tryz.isAgg34 rfl _) <| .p rfl trivial (fun _ => q_max rfl rfl rfl _) <| .mv rfl rfl <| .mv rfl rfl <| .mv rfl rfl <| .mv rfl rfl <| .p rfl trivial (fun _ => q_indexI Tryz.underlying22 Tryz.sizeOf37 rfl rfl (by omega) (idx_mid encEntry hx rfl) _) <| .p rfl trivial (fun _ => q_loadIA Tryz.isAgg37 Tryz.sizeOf37 rfl rfl _) <| .p rfl trivial (fun _ => q_call Tryz.call105 rfl (opposite35_ok _ (hsa x ((sortE_mem a x).1 (lessE_mem x _ _ (by show x ∈ minusE a b; rw [hx]; simp))))) _) <| .p rfl trivial (fun _ => q_build (pl := #[(0, 1), (1, 1), (2, 1), (3, 3)]) Tryz.underlying39 Tryz.zeroValue39 (fun w => by kernel_rfl) rfl rfl _) <| .p rfl trivial (fun _ => q_buildSlice' (n := 1) (rows := [encPosted ⟨max (opens cl known) x.day, known, by_, opposite x⟩]) Tryz.underlying27 Tryz.sizeOf39 rfl rfl rfl Tryz.zeroValue39 rfl rfl rfl rfl rfl rfl rfl _) <| .w rfl trivial (q_append 1 Tryz.underlying27 Tryz.underlying27 Tryz.sizeOf39 Tryz.typeInfo39 Tryz.zeroValue39 rfl (bt := 80) rfl rfl rfl rfl (by first | (simp; done) | (simp; omega)) rfl rfl (by simp; omega)) <| .ag rfl rfl <| .nil ?_
      refine Run.nil (bq_norm ?_)
      refine Run.reg [.p, .p, .p] ?_
      refine .mv rfl rfl <| .p rfl trivial (fun _ => q_add rfl rfl (wrap64_ok (by omega) (by omega)) _) <| .ag rfl rfl <| .nil ?_
      refine Run.nil (tq_norm ?_)
      exact ⟨⟨pre ++ [x], rest, by simp [hx]⟩, by simp, (Le.mk (obs' := [(1, _)]) rfl (show EnvLe _ _ [(3, _), (4, _), (12, _), (14, _), (11, _), (15, _), (16, _)] from (.same rfl rfl (.same rfl rfl (.same rfl rfl (.same rfl rfl (.same rfl rfl (.same rfl rfl (.same rfl rfl .nil)))))))) (.cons (i := 1) rfl rfl .nil)).trans <| (Le.ren 15 1 0 rfl rfl (by first | (simp; done) | (simp; omega)) rfl).trans <| Le.mk rfl (.cons rfl (Sub.int (by first | rfl | (simp; done) | omega | (simp; omega))) rfl (.cons rfl (Sub.str (by first | rfl | (simp; done) | omega | (simp; omega))) rfl (.cons rfl (Sub.refl _) rfl (.cons rfl (Sub.int (by first | rfl | (simp; done) | omega | (simp; omega))) rfl (.cons rfl (Sub.refl _) rfl (.cons rfl (Sub.gs (by simp)) rfl (.cons rfl (Sub.int (by first | rfl | (simp; done) | omega | (simp; omega))) rfl .nil))))))) (.arr rfl (by simp) .nil)⟩
end Go.T
namespace Go.T
open Go Go.Proofs
set_option maxRecDepth 20000
theorem step50_ok (a b : List Entry) (cl : List Close) (known : Int) (by_ : Str) (ha : a.length ≤ 1000) (hb : b.length ≤ 1000) (hsa : ∀ e ∈ a, smallE e) (hsb : ∀ e ∈ b, smallE e) : Fc Tryz.prog 14 [sEntries a, sEntries b, sCloses cl, .i known, .str by_] (.tup [sPosteds (refStep a b cl known by_).1, .i (refStep a b cl known by_).2]) := by
  refine Fc.mk' [10, 11] Tryz.func14 rfl Tryz.ntmps14 rfl rfl rfl (fun t w => results_tmp2 Tryz.results14 t _ w) ?_
  refine Run.seq (Run.reg [.p, .p] ?_)
  refine .ag rfl rfl <| .ag rfl rfl <| .nil ?_
  refine Run.seq (Run.seq (Run.reg [.p, .p, .p, .p, .p, .p, .p, .p, .p, .p, .p, .p, .p] ?_))
  refine .mv rfl rfl <| .p rfl trivial (fun _ => q_call Tryz.call48 rfl (valid50_ok _ hsa) _) <| .p rfl trivial (fun _ => q_not rfl _) <| .mv rfl rfl <| .gF rfl (.inl rfl) rfl rfl rfl (fun hg => pk (fun _ => q_move rfl _)) <| .gF rfl (.inl rfl) rfl rfl rfl (fun hg => pk (fun _ => q_call Tryz.call48 (opsC (opT rfl (nt hg)) (rfl)) (valid50_ok _ hsb) _)) <| .gF rfl (.inl rfl) rfl rfl rfl (fun hg => pk (fun _ => q_not (opT rfl (nt hg)) _)) <| .p rfl trivial (fun _ => q_or rfl rfl _) <| .mv rfl rfl <| .gF rfl (.inl rfl) rfl rfl rfl (fun hg => pk (fun _ => q_move rfl _)) <| .gF rfl (.inl rfl) rfl rfl rfl (fun hg => pk (fun _ => q_call Tryz.call49 (opsC (opT rfl (nt hg)) (rfl)) (check49_ok _) _)) <| .gF rfl (.inl rfl) rfl rfl rfl (fun hg => pk (fun _ => q_neq (opT rfl (nt hg)) rfl _)) <| .p rfl trivial (fun _ => q_or rfl rfl _) <| .nil ?_
  refine Run.cond rfl (fun h1 => ?_) (fun h1 => ?_)
  · have ph1 := h1
    try simp only [bs, bne_iff_ne, ne_eq, List.length_map] at ph1
    refine Run.seq (Run.reg [.p, .p, .p] ?_)
    refine .p rfl trivial (fun _ => q_buildSlice0 Tryz.underlying27 Tryz.sizeOf39 _) <| .ag rfl rfl <| .ag rfl rfl <| .nil ?_
    refine Run.ret (?_)
    exact ret2 rfl rfl (by exact (Sub.empty _ _ _).trans (Sub.snap (by grind [refStep]))) (Sub.int (by grind [refStep]))
  · have ph1 := h1
    try simp only [bs, bne_iff_ne, ne_eq, List.length_map] at ph1
    refine Run.skip ?_
    refine Run.seq (Run.seq (Run.reg [.p, .p] ?_))
    refine .mv rfl rfl <| .p rfl trivial (fun _ => q_lss rfl rfl _) <| .nil ?_
    refine Run.cond rfl (fun h2 => ?_) (fun h2 => ?_)
    · have ph2 := h2
      try simp only [bs, bne_iff_ne, ne_eq, List.length_map] at ph2
      refine Run.seq (Run.reg [.p, .p, .p] ?_)
      refine .p rfl trivial (fun _ => q_buildSlice0 Tryz.underlying27 Tryz.sizeOf39 _) <| .ag rfl rfl <| .ag rfl rfl <| .nil ?_
      refine Run.ret (?_)
      exact ret2 rfl rfl (by exact (Sub.empty _ _ _).trans (Sub.snap (by grind [refStep]))) (Sub.int (by grind [refStep]))
    · have ph2 := h2
      try simp only [bs, bne_iff_ne, ne_eq, List.length_map] at ph2
      refine Run.skip ?_
      refine Run.seq (Run.seq (Run.reg [.p, .p, .p] ?_))
      refine .mv rfl rfl <| .p rfl trivial (fun _ => q_call Tryz.call50 rfl (name10_ok _) _) <| .p rfl trivial (fun _ => q_not rfl _) <| .nil ?_
      refine Run.cond rfl (fun h3 => ?_) (fun h3 => ?_)
      · have ph3 := h3
        try simp only [bs, bne_iff_ne, ne_eq, List.length_map] at ph3
        refine Run.seq (Run.reg [.p, .p, .p] ?_)
        refine .p rfl trivial (fun _ => q_buildSlice0 Tryz.underlying27 Tryz.sizeOf39 _) <| .ag rfl rfl <| .ag rfl rfl <| .nil ?_
        refine Run.ret (?_)
        exact ret2 rfl rfl (by exact (Sub.empty _ _ _).trans (Sub.snap (by grind [refStep]))) (Sub.int (by grind [refStep]))
      · have ph3 := h3
        try simp only [bs, bne_iff_ne, ne_eq, List.length_map] at ph3
        refine Run.skip ?_
        refine Run.seq (Run.reg [.p, .p, .p, .p, .p, .p, .p] ?_)
        refine .mv rfl rfl <| .mv rfl rfl <| .mv rfl rfl <| .mv rfl rfl <| .mv rfl rfl <| .p rfl trivial (fun _ => q_call Tryz.call51 rfl (posting50_ok _ _ _ _ _ ha hb (by grind) (by grind) hsa hsb (days_ok (by grind))) _) <| .ag rfl rfl <| .nil ?_
        refine Run.seq (Run.seq (Run.reg [.p, .p, .p] ?_))
        refine .mv rfl rfl <| .p rfl trivial (fun _ => q_lenI Tryz.underlying27 rfl _) <| .p rfl trivial (fun _ => q_gtr rfl rfl _) <| .nil ?_
        refine Run.cond rfl (fun h4 => ?_) (fun h4 => ?_)
        · have ph4 := h4
          try simp only [bs, bne_iff_ne, ne_eq, List.length_map] at ph4
          refine Run.seq (Run.reg [.p, .p, .p] ?_)
          refine .p rfl trivial (fun _ => q_buildSlice0 Tryz.underlying27 Tryz.sizeOf39 _) <| .ag rfl rfl <| .ag rfl rfl <| .nil ?_
          refine Run.ret (?_)
          exact ret2 rfl rfl (by exact (Sub.empty _ _ _).trans (Sub.snap (by grind [refStep]))) (Sub.int (by grind [refStep]))
        · have ph4 := h4
          try simp only [bs, bne_iff_ne, ne_eq, List.length_map] at ph4
          refine Run.skip ?_
          refine Run.seq (Run.reg [.p, .p, .p] ?_)
          refine .mv rfl rfl <| .ag rfl rfl <| .ag rfl rfl <| .nil ?_
          refine Run.ret (?_)
          exact ret2 rfl rfl (Sub.snap (by grind [refStep])) (Sub.int (by grind [refStep]))
end Go.T
namespace Go.T
open Go Go.Proofs
set_option maxRecDepth 20000
structure sameOne35_ok_L0 (a b : Entry) where
  pre : List Line
  rest : List Line
  sb : List Line
  hx : a.lines = pre ++ rest
  hxb : b.lines = pre ++ sb
  hn : pre.length = pre.length
  hdc : a.day = b.day ∧ a.cause = b.cause
  hll : rest.length = sb.length
theorem sameOne35_ok (a b : Entry) : Fc Tryz.prog 106 [.agg (encEntry a), .agg (encEntry b)] (.b (decide (a = b))) := by
  refine Fc.mk' [4] Tryz.func106 rfl Tryz.ntmps106 rfl rfl rfl (fun t w => results_tmp Tryz.results106 t _ w) ?_
  refine Run.bAgg 0 2 rfl rfl (fun hb => ?_)
  simp only [List.length_map, big] at hb
  refine Run.seq (Run.reg [.w, .w, .p] ?_)
  refine .w rfl trivial (q_boxA 0 rfl rfl) <| .w rfl trivial (q_boxA 1 rfl rfl) <| .ag rfl rfl <| .nil ?_
  refine Run.seq (Run.seq (Run.reg [.p, .r, .p, .r, .p, .p, .p, .r, .p, .r, .p, .p, .p, .p, .r, .p, .p, .r, .p, .p, .p] ?_))
  refine .p rfl trivial (fun _ => q_fieldB (n := 0) 34 0 Tryz.underlying37 Tryz.sizeOf34 rfl rfl _) <| .r rfl trivial (q_load1 Tryz.isAgg34 rfl rfl rfl) <| .p rfl trivial (fun _ => q_fieldB (n := 0) 34 0 Tryz.underlying37 Tryz.sizeOf34 rfl rfl _) <| .r rfl trivial (q_load1 Tryz.isAgg34 rfl rfl rfl) <| .p rfl trivial (fun _ => q_neq rfl rfl _) <| .mv rfl rfl <| .gF rfl (.inl rfl) rfl rfl rfl (fun hg => pk (fun _ => q_fieldB (n := 0) 9 1 Tryz.underlying37 Tryz.sizeOf9 rfl rfl _)) <| .gF rfl (.inr rfl) rfl rfl rfl (fun hg => rk (q_load1 Tryz.isAgg9 (opT rfl (nt hg)) rfl rfl)) <| .gF rfl (.inl rfl) rfl rfl rfl (fun hg => pk (fun _ => q_fieldB (n := 0) 9 1 Tryz.underlying37 Tryz.sizeOf9 rfl rfl _)) <| .gF rfl (.inr rfl) rfl rfl rfl (fun hg => rk (q_load1 Tryz.isAgg9 (opT rfl (nt hg)) rfl rfl)) <| .gF rfl (.inl rfl) rfl rfl rfl (fun hg => pk (fun _ => q_neqS (opT rfl (nt hg)) (opT rfl (nt hg)) _)) <| .p rfl trivial (fun _ => q_or rfl rfl _) <| .mv rfl rfl <| .gF rfl (.inl rfl) rfl rfl rfl (fun hg => pk (fun _ => q_fieldB (n := 0) 35 2 Tryz.underlying37 Tryz.sizeOf35 rfl rfl _)) <| .gF rfl (.inr rfl) rfl rfl rfl (fun hg => rk (q_load1 Tryz.isAgg35 (opT rfl (nt hg)) rfl rfl)) <| .gF rfl (.inl rfl) rfl rfl rfl (fun hg => pk (fun _ => q_lenI Tryz.underlying35 (opT rfl (nt hg)) _)) <| .gF rfl (.inl rfl) rfl rfl rfl (fun hg => pk (fun _ => q_fieldB (n := 0) 35 2 Tryz.underlying37 Tryz.sizeOf35 rfl rfl _)) <| .gF rfl (.inr rfl) rfl rfl rfl (fun hg => rk (q_load1 Tryz.isAgg35 (opT rfl (nt hg)) rfl rfl)) ?_
  refine .gF rfl (.inl rfl) rfl rfl rfl (fun hg => pk (fun _ => q_lenI Tryz.underlying35 (opT rfl (nt hg)) _)) <| .gF rfl (.inl rfl) rfl rfl rfl (fun hg => pk (fun _ => q_neq (opT rfl (nt hg)) (opT rfl (nt hg)) _)) <| .p rfl trivial (fun _ => q_or rfl rfl _) <| .nil ?_
  refine Run.cond rfl (fun h1 => ?_) (fun h1 => ?_)
  · have ph1 := h1
    try simp only [bs, bne_iff_ne, ne_eq, List.length_map] at ph1
    refine Run.seq (Run.reg [.p] ?_)
    refine .ag rfl rfl <| .nil ?_
    refine Run.ret (?_)
    exact ret1 rfl (Sub.bool (by first | exact same_end hdc hx hxb hll | exact same_bad hx hxb (by assumption) | grind))
  · have ph1 := h1
    try simp only [bs, bne_iff_ne, ne_eq, List.length_map] at ph1
    refine Run.skip ?_
    refine Run.seq (Run.seq (Run.reg [.p] ?_))
    refine .ag rfl rfl <| .nil ?_
    refine Run.block ?_
    refine Run.loop (ι := sameOne35_ok_L0 a b) (fun sx => [(2, .box 0 0), (3, .box 1 0), (5, .i sx.pre.length)]) (fun sx => [(0, .cells (encEntry a)), (1, .cells (encEntry b))]) (fun sx => sx.rest.length) ⟨[], a.lines, b.lines, rfl, rfl, rfl, by grind, by grind⟩ ?_ ?_
    · exact Le.mk rfl (.cons rfl (Sub.refl _) rfl (.cons rfl (Sub.refl _) rfl (.cons rfl (Sub.int (by first | rfl | (simp; done) | omega | (simp; omega))) rfl .nil))) (.cons rfl rfl (.cons rfl rfl .nil))
    · rintro ⟨pre, rest, sb, hx, hxb, hn, hdc, hll⟩
      show Run _ _ _ _ [(2, .box 0 0), (3, .box 1 0), (5, .i pre.length)] [(0, .cells (encEntry a)), (1, .cells (encEntry b))]
      have hl := congrArg List.length hx
      simp only [List.length_append] at hl
      rcases rest with _ | ⟨x, rest⟩
      · skip
        refine Run.seq (Run.seq (Run.reg [.p, .p, .r, .p, .p] ?_))
        refine .mv rfl rfl <| .p rfl trivial (fun _ => q_fieldB (n := 0) 35 2 Tryz.underlying37 Tryz.sizeOf35 rfl rfl _) <| .r rfl trivial (q_load1 Tryz.isAgg35 rfl rfl rfl) <| .p rfl trivial (fun _ => q_lenI Tryz.underlying35 rfl _) <| .p rfl trivial (fun _ => q_lss rfl rfl _) <| .nil ?_
        refine Run.condF rfl (by simp at hl ⊢; omega) ?_
        refine Run.exit (tq_exit (bq_exit ?_))
        refine Run.seq (Run.reg [.p] ?_)
        refine .ag rfl rfl <| .nil ?_
        refine Run.ret (?_)
        exact ret1 rfl (Sub.bool (by first | exact same_end hdc hx hxb hll | exact same_bad hx hxb (by assumption) | grind))
      · simp only [List.length_cons] at hl
        rcases sb with _ | ⟨y, sb⟩
        · simp at hll
        refine Run.seq (Run.seq (Run.reg [.p, .p, .r, .p, .p] ?_))
        refine .mv rfl rfl <| .p rfl trivial (fun _ => q_fieldB (n := 0) 35 2 Tryz.underlying37 Tryz.sizeOf35 rfl rfl _) <| .r rfl trivial (q_load1 Tryz.isAgg35 rfl rfl rfl) <| .p rfl trivial (fun _ => q_lenI Tryz.underlying35 rfl _) <| .p rfl trivial (fun _ => q_lss rfl rfl _) <| .nil ?_
        refine Run.condT rfl (by simp; omega) ?_
        refine Run.skip ?_
        refine Run.seq ?_
        refine Run.block ?_
        refine Run.seq (Run.regD [.p, .r, .p, .p, .p, .p, .r, .p, .p, .p, .p] Tryz_mixed (by decide +kernel) ?_)
        refine .p rfl trivial (fun _ => q_fieldB (n := 0) 35 2 Tryz.underlying37 Tryz.sizeOf35 rfl rfl _) <| .r rfl trivial (q_load1 Tryz.isAgg35 rfl rfl rfl) <| .mv rfl rfl <| .p rfl trivial (fun _ => q_indexI Tryz.underlying35 Tryz.sizeOf92 rfl rfl (by omega) (idx_mid encLine hx rfl) _) <| .p rfl trivial (fun _ => q_loadIA Tryz.isAgg92 Tryz.sizeOf92 rfl rfl _) <| .p rfl trivial (fun _ => q_fieldB (n := 0) 35 2 Tryz.underlying37 Tryz.sizeOf35 rfl rfl _) <| .r rfl trivial (q_load1 Tryz.isAgg35 rfl rfl rfl) <| .mv rfl rfl <| .p rfl trivial (fun _ => q_indexI Tryz.underlying35 Tryz.sizeOf92 rfl rfl (by omega) (idx_mid encLine hxb (by rw [hn])) _) <| .p rfl trivial (fun _ => q_loadIA Tryz.isAgg92 Tryz.sizeOf92 rfl rfl _) <| .p rfl trivial (fun _ => q_neqA (xs := [x.account, x.currency, x.amount]) (ys := [y.account, y.currency, y.amount]) Tryz.underlying92 (by kernel_rfl) (by kernel_rfl) (.cons (by decide +kernel) Tryz.underlying9 Tryz.isAgg9 rfl (.cons (by decide +kernel) Tryz.underlying9 Tryz.isAgg9 rfl (.cons (by decide +kernel) Tryz.underlying54 Tryz.isAgg54 rfl (.nil _)))) rfl rfl rfl rfl rfl rfl _) <| .nil ?_
        refine Run.cond rfl (fun h2 => ?_) (fun h2 => ?_)
        · have ph2 := h2
          try simp only [bs, bne_iff_ne, ne_eq, List.length_map] at ph2
          refine Run.seq (Run.reg [.p] ?_)
          refine .ag rfl rfl <| .nil ?_
          refine Run.ret (bq_ret (tq_ret (bq_ret (?_))))
          exact ret1 rfl (Sub.bool (by first | exact same_end hdc hx hxb hll | exact same_bad hx hxb (by assumption) | grind))
        · have ph2 := h2
          try simp only [bs, bne_iff_ne, ne_eq, List.length_map] at ph2
          refine Run.skip ?_
          refine Run.nil (bq_norm ?_)
          refine Run.reg [.p, .p, .p] ?_
          refine .mv rfl rfl <| .p rfl trivial (fun _ => q_add rfl rfl (wrap64_ok (by omega) (by omega)) _) <| .ag rfl rfl <| .nil ?_
          refine Run.nil (tq_norm ?_)
          exact ⟨⟨pre ++ [x], rest, sb, by simp [hx], by rw [hxb, line_eq (x := x) (y := y) (by assumption)]; simp, rfl, hdc, by simpa using hll⟩, by simp, Le.mk rfl (.cons rfl (Sub.refl _) rfl (.cons rfl (Sub.refl _) rfl (.cons rfl (Sub.int (by first | rfl | (simp; done) | omega | (simp; omega))) rfl .nil))) (.cons rfl rfl (.cons rfl rfl .nil))⟩
end Go.T
namespace Go.T
open Go Go.Proofs
set_option maxRecDepth 20000
theorem sameOne50_ok (a b : Posted) : Fc Tryz.prog 52 [.agg (encPosted a), .agg (encPosted b)] (.b (decide (a = b))) := by
  refine Fc.mk' [4] Tryz.func52 rfl Tryz.ntmps52 rfl rfl rfl (fun t w => results_tmp Tryz.results52 t _ w) ?_
  refine Run.seq (Run.reg [.w, .w, .p] ?_)
  refine .w rfl trivial (q_boxA 0 rfl rfl) <| .w rfl trivial (q_boxA 1 rfl rfl) <| .ag rfl rfl <| .nil ?_
  refine Run.seq (Run.reg [.p, .r, .p, .r, .p, .p, .p, .r, .p, .r, .p, .p, .p, .p, .r, .p, .r, .p, .p, .p, .p, .r, .p, .r, .p, .p, .p] ?_)
  refine .p rfl trivial (fun _ => q_fieldB (n := 0) 34 0 Tryz.underlying39 Tryz.sizeOf34 rfl rfl _) <| .r rfl trivial (q_load1 Tryz.isAgg34 rfl rfl rfl) <| .p rfl trivial (fun _ => q_fieldB (n := 0) 34 0 Tryz.underlying39 Tryz.sizeOf34 rfl rfl _) <| .r rfl trivial (q_load1 Tryz.isAgg34 rfl rfl rfl) <| .p rfl trivial (fun _ => q_eql rfl rfl _) <| .mv rfl rfl <| .gT rfl (.inl rfl) rfl rfl rfl (fun hg => pk (fun _ => q_fieldB (n := 0) 3 1 Tryz.underlying39 Tryz.sizeOf3 rfl rfl _)) <| .gT rfl (.inr rfl) rfl rfl rfl (fun hg => rk (q_load1 Tryz.isAgg3 (opT rfl hg) rfl rfl)) <| .gT rfl (.inl rfl) rfl rfl rfl (fun hg => pk (fun _ => q_fieldB (n := 0) 3 1 Tryz.underlying39 Tryz.sizeOf3 rfl rfl _)) <| .gT rfl (.inr rfl) rfl rfl rfl (fun hg => rk (q_load1 Tryz.isAgg3 (opT rfl hg) rfl rfl)) <| .gT rfl (.inl rfl) rfl rfl rfl (fun hg => pk (fun _ => q_eql (opT rfl hg) (opT rfl hg) _)) <| .p rfl trivial (fun _ => q_and rfl rfl _) <| .mv rfl rfl <| .gT rfl (.inl rfl) rfl rfl rfl (fun hg => pk (fun _ => q_fieldB (n := 0) 9 2 Tryz.underlying39 Tryz.sizeOf9 rfl rfl _)) <| .gT rfl (.inr rfl) rfl rfl rfl (fun hg => rk (q_load1 Tryz.isAgg9 (opT rfl hg) rfl rfl)) <| .gT rfl (.inl rfl) rfl rfl rfl (fun hg => pk (fun _ => q_fieldB (n := 0) 9 2 Tryz.underlying39 Tryz.sizeOf9 rfl rfl _)) <| .gT rfl (.inr rfl) rfl rfl rfl (fun hg => rk (q_load1 Tryz.isAgg9 (opT rfl hg) rfl rfl)) <| .gT rfl (.inl rfl) rfl rfl rfl (fun hg => pk (fun _ => q_eqlS (opT rfl hg) (opT rfl hg) _)) <| .p rfl trivial (fun _ => q_and rfl rfl _) ?_
  refine .mv rfl rfl <| .gT rfl (.inl rfl) rfl rfl rfl (fun hg => pk (fun _ => q_fieldB (n := 2) 37 3 Tryz.underlying39 Tryz.sizeOf37 rfl rfl _)) <| .gT rfl (.inr rfl) rfl rfl rfl (fun hg => rk (q_loadA Tryz.isAgg37 Tryz.sizeOf37 (opT rfl hg) rfl (by simp) rfl)) <| .gT rfl (.inl rfl) rfl rfl rfl (fun hg => pk (fun _ => q_fieldB (n := 2) 37 3 Tryz.underlying39 Tryz.sizeOf37 rfl rfl _)) <| .gT rfl (.inr rfl) rfl rfl rfl (fun hg => rk (q_loadA Tryz.isAgg37 Tryz.sizeOf37 (opT rfl hg) rfl (by simp) rfl)) <| .gT rfl (.inl rfl) rfl rfl rfl (fun hg => pk (fun _ => q_call Tryz.call106 (opsC (opT rfl hg) (opsC (opT rfl hg) (rfl))) (sameOne35_ok a.entry b.entry) _)) <| .p rfl trivial (fun _ => q_and rfl rfl _) <| .ag rfl rfl <| .nil ?_
  refine Run.ret (?_)
  exact ret1 rfl (Sub.bool (by (cases a; cases b; grind)))
structure same50_ok_L0 (a b : List Posted) where
  pre : List Posted
  rest : List Posted
  sb : List Posted
  hx : a = pre ++ rest
  hxb : b = pre ++ sb
  hll : rest.length = sb.length
theorem same50_ok (a b : List Posted) : Fc Tryz.prog 15 [sPosteds a, sPosteds b] (.b (decide (a = b))) := by
  refine Fc.mk' [4] Tryz.func15 rfl Tryz.ntmps15 rfl rfl rfl (fun t w => results_tmp Tryz.results15 t _ w) ?_
  refine Run.bSnap 0 rfl (fun hb => ?_)
  simp only [List.length_map, big] at hb
  refine Run.seq (Run.reg [.p] ?_)
  refine .ag rfl rfl <| .nil ?_
  refine Run.seq (Run.seq (Run.reg [.p, .p, .p, .p, .p] ?_))
  refine .mv rfl rfl <| .p rfl trivial (fun _ => q_lenI Tryz.underlying27 rfl _) <| .mv rfl rfl <| .p rfl trivial (fun _ => q_lenI Tryz.underlying27 rfl _) <| .p rfl trivial (fun _ => q_neq rfl rfl _) <| .nil ?_
  refine Run.cond rfl (fun h1 => ?_) (fun h1 => ?_)
  · have ph1 := h1
    try simp only [bs, bne_iff_ne, ne_eq, List.length_map] at ph1
    refine Run.seq (Run.reg [.p] ?_)
    refine .ag rfl rfl <| .nil ?_
    refine Run.ret (?_)
    exact ret1 rfl (Sub.bool (by first | (obtain rfl : sb = [] := List.length_eq_zero_iff.1 hll.symm; simp [hx, hxb]; done) | (subst hx; subst hxb; simp; intro h; exact absurd h (by assumption)) | grind))
  · have ph1 := h1
    try simp only [bs, bne_iff_ne, ne_eq, List.length_map] at ph1
    refine Run.skip ?_
    refine Run.seq (Run.seq (Run.reg [.p] ?_))
    refine .ag rfl rfl <| .nil ?_
    refine Run.block ?_
    refine Run.loop (ι := same50_ok_L0 a b) (fun sx => [(0, sPosteds a), (1, sPosteds b), (5, .i sx.pre.length)]) (fun sx => []) (fun sx => sx.rest.length) ⟨[], a, b, rfl, rfl, by grind⟩ ?_ ?_
    · exact Le.mk rfl (.cons rfl (Sub.refl _) rfl (.cons rfl (Sub.refl _) rfl (.cons rfl (Sub.int (by first | rfl | (simp; done) | omega | (simp; omega))) rfl .nil))) .nil
    · rintro ⟨pre, rest, sb, hx, hxb, hll⟩
      show Run _ _ _ _ [(0, sPosteds a), (1, sPosteds b), (5, .i pre.length)] []
      have hl := congrArg List.length hx
      simp only [List.length_append] at hl
      rcases rest with _ | ⟨x, rest⟩
      · skip
        refine Run.seq (Run.seq (Run.reg [.p, .p, .p, .p] ?_))
        refine .mv rfl rfl <| .mv rfl rfl <| .p rfl trivial (fun _ => q_lenI Tryz.underlying27 rfl _) <| .p rfl trivial (fun _ => q_lss rfl rfl _) <| .nil ?_
        refine Run.condF rfl (by simp at hl ⊢; omega) ?_
        refine Run.exit (tq_exit (bq_exit ?_))
        refine Run.seq (Run.reg [.p] ?_)
        refine .ag rfl rfl <| .nil ?_
        refine Run.ret (?_)
        exact ret1 rfl (Sub.bool (by first | (obtain rfl : sb = [] := List.length_eq_zero_iff.1 hll.symm; simp [hx, hxb]; done) | (subst hx; subst hxb; simp; intro h; exact absurd h (by assumption)) | grind))
      · simp only [List.length_cons] at hl
        rcases sb with _ | ⟨y, sb⟩
        · simp at hll
        refine Run.seq (Run.seq (Run.reg [.p, .p, .p, .p] ?_))
        refine .mv rfl rfl <| .mv rfl rfl <| .p rfl trivial (fun _ => q_lenI Tryz.underlying27 rfl _) <| .p rfl trivial (fun _ => q_lss rfl rfl _) <| .nil ?_
        refine Run.condT rfl (by simp; omega) ?_
        refine Run.skip ?_
        refine Run.seq ?_
        refine Run.block ?_
        refine Run.seq (Run.regD [.p, .p, .p, .p, .p, .p, .p, .p, .p, .p] Tryz_mixed (by decide +kernel) ?_)
        refine .mv rfl rfl <| .mv rfl rfl <| .p rfl trivial (fun _ => q_indexI Tryz.underlying27 Tryz.sizeOf39 rfl rfl (by omega) (idx_mid encPosted hx rfl) _) <| .p rfl trivial (fun _ => q_loadIA Tryz.isAgg39 Tryz.sizeOf39 rfl rfl _) <| .mv rfl rfl <| .mv rfl rfl <| .p rfl trivial (fun _ => q_indexI Tryz.underlying27 Tryz.sizeOf39 rfl rfl (by omega) (idx_mid encPosted hxb rfl) _) <| .p rfl trivial (fun _ => q_loadIA Tryz.isAgg39 Tryz.sizeOf39 rfl rfl _) <| .p rfl trivial (fun _ => q_call Tryz.call52 rfl (sameOne50_ok _ _) _) <| .p rfl trivial (fun _ => q_not rfl _) <| .nil ?_
        refine Run.cond rfl (fun h2 => ?_) (fun h2 => ?_)
        · have ph2 := h2
          try simp only [bs, bne_iff_ne, ne_eq, List.length_map] at ph2
          refine Run.seq (Run.reg [.p] ?_)
          refine .ag rfl rfl <| .nil ?_
          refine Run.ret (bq_ret (tq_ret (bq_ret (?_))))
          exact ret1 rfl (Sub.bool (by first | (obtain rfl : sb = [] := List.length_eq_zero_iff.1 hll.symm; simp [hx, hxb]; done) | (subst hx; subst hxb; simp; intro h; exact absurd h (by assumption)) | grind))
        · have ph2 := h2
          try simp only [bs, bne_iff_ne, ne_eq, List.length_map] at ph2
          refine Run.skip ?_
          refine Run.nil (bq_norm ?_)
          refine Run.reg [.p, .p, .p] ?_
          refine .mv rfl rfl <| .p rfl trivial (fun _ => q_add rfl rfl (wrap64_ok (by omega) (by omega)) _) <| .ag rfl rfl <| .nil ?_
          refine Run.nil (tq_norm ?_)
          exact ⟨⟨pre ++ [x], rest, sb, by simp [hx], by grind, by simpa using hll⟩, by simp, Le.mk rfl (.cons rfl (Sub.refl _) rfl (.cons rfl (Sub.refl _) rfl (.cons rfl (Sub.int (by first | rfl | (simp; done) | omega | (simp; omega))) rfl .nil))) .nil⟩
end Go.T
namespace Go.T
open Go Go.Proofs
set_option maxRecDepth 20000
structure isCause_ok_L0 (s : Str) where
  pre : List UInt8
  rest : List UInt8
  hx : s = pre ++ rest
  hp : pre.all causeChar = true
theorem isCause_ok (s : Str) : Fc Tryz.prog 114 [.str s] (.b (isCause s)) := by
  refine Fc.mk' [2] Tryz.func114 rfl Tryz.ntmps114 rfl rfl rfl (fun t w => results_tmp Tryz.results114 t _ w) ?_
  refine Run.bStr 0 rfl (fun hb => ?_)
  simp only [big] at hb
  refine Run.seq (Run.reg [.p] ?_)
  refine .ag rfl rfl <| .nil ?_
  refine Run.seq (Run.seq (Run.reg [.p, .p, .p] ?_))
  refine .mv rfl rfl <| .p rfl trivial (fun _ => q_lenS Tryz.underlying9 rfl _) <| .mv rfl rfl <| .nil ?_
  refine Run.block ?_
  refine Run.loop (ι := isCause_ok_L0 s) (fun sx => [(0, .str s), (6, .i s.length), (7, .i sx.pre.length)]) (fun sx => []) (fun sx => sx.rest.length) ⟨[], s, rfl, rfl⟩ ?_ ?_
  · exact Le.mk rfl (.cons rfl (Sub.str (by first | rfl | (simp; done) | omega | (simp; omega))) rfl (.cons rfl (Sub.int (by first | rfl | (simp; done) | omega | (simp; omega))) rfl (.cons rfl (Sub.int (by first | rfl | (simp; done) | omega | (simp; omega))) rfl .nil))) .nil
  · rintro ⟨pre, rest, hx, hp⟩
    show Run _ _ _ _ [(0, .str s), (6, .i s.length), (7, .i pre.length)] []
    have hl := congrArg List.length hx
    simp only [List.length_append] at hl
    rcases rest with _ | ⟨x, rest⟩
    · skip
      refine Run.seq (Run.reg [.p] ?_)
      refine .p rfl trivial (fun _ => q_lss rfl rfl _) <| .nil ?_
      refine Run.seq ?_
      refine Run.condF rfl (by simp at hl ⊢; omega) ?_
      refine Run.exit (tq_exit (bq_exit ?_))
      refine Run.seq (Run.reg [.p, .p, .p, .p, .p, .p, .p, .p, .p] ?_)
      refine .mv rfl rfl <| .p rfl trivial (fun _ => q_lenS Tryz.underlying9 rfl _) <| .p rfl trivial (fun _ => q_geq rfl rfl _) <| .mv rfl rfl <| .gT rfl (.inl rfl) rfl rfl rfl (fun hg => pk (fun _ => q_move rfl _)) <| .gT rfl (.inl rfl) rfl rfl rfl (fun hg => pk (fun _ => q_lenS Tryz.underlying9 (opT rfl hg) _)) <| .gT rfl (.inl rfl) rfl rfl rfl (fun hg => pk (fun _ => q_leq (opT rfl hg) rfl _)) <| .p rfl trivial (fun _ => q_and rfl rfl _) <| .ag rfl rfl <| .nil ?_
      refine Run.ret (?_)
      exact ret1 rfl (Sub.bool (by grind [isCause, causeChar]))
    · simp only [List.length_cons] at hl
      refine Run.seq (Run.reg [.p] ?_)
      refine .p rfl trivial (fun _ => q_lss rfl rfl _) <| .nil ?_
      refine Run.seq ?_
      refine Run.condT rfl (by simp; omega) ?_
      refine Run.skip ?_
      refine Run.seq ?_
      refine Run.block ?_
      refine Run.seq (Run.reg [.p, .p] ?_)
      refine .mv rfl rfl <| .ag rfl rfl <| .nil ?_
      refine Run.seq (Run.reg [.p, .p, .p, .p] ?_)
      refine .mv rfl rfl <| .mv rfl rfl <| .p rfl trivial (fun _ => q_indexS Tryz.underlying9 rfl rfl (by omega) (idx_midS hx rfl) _) <| .ag rfl rfl <| .nil ?_
      refine Run.seq (Run.reg [.p, .p, .p, .p, .p, .p, .p, .p, .p, .p, .p, .p, .p, .p, .p, .p, .p, .p, .p, .p, .p, .p, .p, .p, .p, .p] ?_)
      refine .mv rfl rfl <| .p rfl trivial (fun _ => q_lss rfl rfl _) <| .mv rfl rfl <| .gF rfl (.inl rfl) rfl rfl rfl (fun hg => pk (fun _ => q_move rfl _)) <| .gF rfl (.inl rfl) rfl rfl rfl (fun hg => pk (fun _ => q_gtr (opT rfl (nt hg)) rfl _)) <| .p rfl trivial (fun _ => q_or rfl rfl _) <| .mv rfl rfl <| .gT rfl (.inl rfl) rfl rfl rfl (fun hg => pk (fun _ => q_move rfl _)) <| .gT rfl (.inl rfl) rfl rfl rfl (fun hg => pk (fun _ => q_lss (opT rfl hg) rfl _)) <| .gT rfl (.inl rfl) rfl rfl rfl (fun hg => pk (fun _ => q_move (opT rfl hg) _)) ?_
      refine .nF rfl (.inl rfl) rfl rfl rfl (fun hc hg => pk (fun _ => q_move rfl _)) ?_
      refine .nF rfl (.inl rfl) rfl rfl rfl (fun hc hg => pk (fun _ => q_gtr (opT rfl (bF hc hg)) rfl _)) ?_
      refine .gT rfl (.inl rfl) rfl rfl rfl (fun hg => pk (fun _ => q_or (opT rfl hg) (opA rfl hg) _)) <| .p rfl trivial (fun _ => q_and rfl rfl _) <| .mv rfl rfl <| .gT rfl (.inl rfl) rfl rfl rfl (fun hg => pk (fun _ => q_move rfl _)) <| .gT rfl (.inl rfl) rfl rfl rfl (fun hg => pk (fun _ => q_neq (opT rfl hg) rfl _)) <| .p rfl trivial (fun _ => q_and rfl rfl _) <| .mv rfl rfl <| .gT rfl (.inl rfl) rfl rfl rfl (fun hg => pk (fun _ => q_move rfl _)) <| .gT rfl (.inl rfl) rfl rfl rfl (fun hg => pk (fun _ => q_neq (opT rfl hg) rfl _)) <| .p rfl trivial (fun _ => q_and rfl rfl _) <| .mv rfl rfl <| .gT rfl (.inl rfl) rfl rfl rfl (fun hg => pk (fun _ => q_move rfl _)) <| .gT rfl (.inl rfl) rfl rfl rfl (fun hg => pk (fun _ => q_neq (opT rfl hg) rfl _)) <| .p rfl trivial (fun _ => q_and rfl rfl _) <| .nil ?_
      refine Run.cond rfl (fun h1 => ?_) (fun h1 => ?_)
      · have ph1 := h1
        try simp only [bs, bne_iff_ne, ne_eq, List.length_map] at ph1
        refine Run.seq (Run.reg [.p] ?_)
        refine .ag rfl rfl <| .nil ?_
        refine Run.ret (bq_ret (tq_ret (bq_ret (?_))))
        exact ret1 rfl (Sub.bool (by grind [isCause, causeChar]))
      · have ph1 := h1
        try simp only [bs, bne_iff_ne, ne_eq, List.length_map] at ph1
        refine Run.skip ?_
        refine Run.nil (bq_norm ?_)
        refine Run.reg [.p, .p] ?_
        refine .p rfl trivial (fun _ => q_add rfl rfl (wrap64_ok (by omega) (by omega)) _) <| .mv rfl rfl <| .nil ?_
        refine Run.nil (tq_norm ?_)
        exact ⟨⟨pre ++ [x], rest, by simp [hx], by grind [causeChar]⟩, by simp, Le.mk rfl (.cons rfl (Sub.str (by first | rfl | (simp; done) | omega | (simp; omega))) rfl (.cons rfl (Sub.int (by first | rfl | (simp; done) | omega | (simp; omega))) rfl (.cons rfl (Sub.int (by first | rfl | (simp; done) | omega | (simp; omega))) rfl .nil))) .nil⟩
theorem checkHead_ok (e : Entry) : Fc Tryz.prog 59 [.agg (encEntry e)] (.i (checkHead e)) := by
  refine Fc.mk' [2] Tryz.func59 rfl Tryz.ntmps59 rfl rfl rfl (fun t w => results_tmp Tryz.results59 t _ w) ?_
  refine Run.seq (Run.reg [.w, .p] ?_)
  refine .w rfl trivial (q_boxA 0 rfl rfl) <| .ag rfl rfl <| .nil ?_
  refine Run.seq (Run.seq (Run.reg [.p, .r, .p, .p, .p, .r, .p, .p] ?_))
  refine .p rfl trivial (fun _ => q_fieldB (n := 0) 34 0 Tryz.underlying37 Tryz.sizeOf34 rfl rfl _) <| .r rfl trivial (q_load1 Tryz.isAgg34 rfl rfl rfl) <| .p rfl trivial (fun _ => q_lss rfl rfl _) <| .mv rfl rfl <| .gF rfl (.inl rfl) rfl rfl rfl (fun hg => pk (fun _ => q_fieldB (n := 0) 34 0 Tryz.underlying37 Tryz.sizeOf34 rfl rfl _)) <| .gF rfl (.inr rfl) rfl rfl rfl (fun hg => rk (q_load1 Tryz.isAgg34 (opT rfl (nt hg)) rfl rfl)) <| .gF rfl (.inl rfl) rfl rfl rfl (fun hg => pk (fun _ => q_gtr (opT rfl (nt hg)) rfl _)) <| .p rfl trivial (fun _ => q_or rfl rfl _) <| .nil ?_
  refine Run.cond rfl (fun h1 => ?_) (fun h1 => ?_)
  · have ph1 := h1
    try simp only [bs, bne_iff_ne, ne_eq, List.length_map] at ph1
    refine Run.seq (Run.reg [.p] ?_)
    refine .ag rfl rfl <| .nil ?_
    refine Run.ret (?_)
    exact ret1 rfl (Sub.int (by grind [checkHead, validDay]))
  · have ph1 := h1
    try simp only [bs, bne_iff_ne, ne_eq, List.length_map] at ph1
    refine Run.skip ?_
    refine Run.seq (Run.seq (Run.reg [.p, .r, .p, .p] ?_))
    refine .p rfl trivial (fun _ => q_fieldB (n := 0) 9 1 Tryz.underlying37 Tryz.sizeOf9 rfl rfl _) <| .r rfl trivial (q_load1 Tryz.isAgg9 rfl rfl rfl) <| .p rfl trivial (fun _ => q_call Tryz.call114 rfl (isCause_ok _) _) <| .p rfl trivial (fun _ => q_not rfl _) <| .nil ?_
    refine Run.cond rfl (fun h2 => ?_) (fun h2 => ?_)
    · have ph2 := h2
      try simp only [bs, bne_iff_ne, ne_eq, List.length_map] at ph2
      refine Run.seq (Run.reg [.p] ?_)
      refine .ag rfl rfl <| .nil ?_
      refine Run.ret (?_)
      exact ret1 rfl (Sub.int (by grind [checkHead, validDay]))
    · have ph2 := h2
      try simp only [bs, bne_iff_ne, ne_eq, List.length_map] at ph2
      refine Run.skip ?_
      refine Run.seq (Run.reg [.p] ?_)
      refine .ag rfl rfl <| .nil ?_
      refine Run.ret (?_)
      exact ret1 rfl (Sub.int (by grind [checkHead, validDay]))
structure isCode_ok_L0 (s : Str) where
  pre : List UInt8
  rest : List UInt8
  hx : s = pre ++ rest
  hp : pre.all (fun c => 65 ≤ c.toNat && c.toNat ≤ 90) = true
theorem isCode_ok (s : Str) : Fc Tryz.prog 166 [.str s] (.b (isCode s)) := by
  refine Fc.mk' [2] Tryz.func166 rfl Tryz.ntmps166 rfl rfl rfl (fun t w => results_tmp Tryz.results166 t _ w) ?_
  refine Run.bStr 0 rfl (fun hb => ?_)
  simp only [big] at hb
  refine Run.seq (Run.reg [.p] ?_)
  refine .ag rfl rfl <| .nil ?_
  refine Run.seq (Run.seq (Run.reg [.p, .p, .p] ?_))
  refine .mv rfl rfl <| .p rfl trivial (fun _ => q_lenS Tryz.underlying9 rfl _) <| .mv rfl rfl <| .nil ?_
  refine Run.block ?_
  refine Run.loop (ι := isCode_ok_L0 s) (fun sx => [(0, .str s), (5, .i s.length), (6, .i sx.pre.length)]) (fun sx => []) (fun sx => sx.rest.length) ⟨[], s, rfl, rfl⟩ ?_ ?_
  · exact Le.mk rfl (.cons rfl (Sub.str (by first | rfl | (simp; done) | omega | (simp; omega))) rfl (.cons rfl (Sub.int (by first | rfl | (simp; done) | omega | (simp; omega))) rfl (.cons rfl (Sub.int (by first | rfl | (simp; done) | omega | (simp; omega))) rfl .nil))) .nil
  · rintro ⟨pre, rest, hx, hp⟩
    show Run _ _ _ _ [(0, .str s), (5, .i s.length), (6, .i pre.length)] []
    have hl := congrArg List.length hx
    simp only [List.length_append] at hl
    rcases rest with _ | ⟨x, rest⟩
    · skip
      refine Run.seq (Run.reg [.p] ?_)
      refine .p rfl trivial (fun _ => q_lss rfl rfl _) <| .nil ?_
      refine Run.seq ?_
      refine Run.condF rfl (by simp at hl ⊢; omega) ?_
      refine Run.exit (tq_exit (bq_exit ?_))
      refine Run.seq (Run.reg [.p, .p, .p, .p] ?_)
      refine .mv rfl rfl <| .p rfl trivial (fun _ => q_lenS Tryz.underlying9 rfl _) <| .p rfl trivial (fun _ => q_eql rfl rfl _) <| .ag rfl rfl <| .nil ?_
      refine Run.ret (?_)
      exact ret1 rfl (Sub.bool (by grind [isCode]))
    · simp only [List.length_cons] at hl
      refine Run.seq (Run.reg [.p] ?_)
      refine .p rfl trivial (fun _ => q_lss rfl rfl _) <| .nil ?_
      refine Run.seq ?_
      refine Run.condT rfl (by simp; omega) ?_
      refine Run.skip ?_
      refine Run.seq ?_
      refine Run.block ?_
      refine Run.seq (Run.reg [.p, .p] ?_)
      refine .mv rfl rfl <| .ag rfl rfl <| .nil ?_
      refine Run.seq (Run.reg [.p, .p, .p, .p, .p, .p, .p, .p, .p, .p] ?_)
      refine .mv rfl rfl <| .mv rfl rfl <| .p rfl trivial (fun _ => q_indexS Tryz.underlying9 rfl rfl (by omega) (idx_midS hx rfl) _) <| .p rfl trivial (fun _ => q_lss rfl rfl _) <| .mv rfl rfl <| .gF rfl (.inl rfl) rfl rfl rfl (fun hg => pk (fun _ => q_move rfl _)) <| .gF rfl (.inl rfl) rfl rfl rfl (fun hg => pk (fun _ => q_move rfl _)) <| .gF rfl (.inl rfl) rfl rfl rfl (fun hg => pk (fun _ => q_indexS Tryz.underlying9 (opT rfl (nt hg)) (opT rfl (nt hg)) (by omega) (idx_midS hx rfl) _)) <| .gF rfl (.inl rfl) rfl rfl rfl (fun hg => pk (fun _ => q_gtr (opT rfl (nt hg)) rfl _)) <| .p rfl trivial (fun _ => q_or rfl rfl _) <| .nil ?_
      refine Run.cond rfl (fun h1 => ?_) (fun h1 => ?_)
      · have ph1 := h1
        try simp only [bs, bne_iff_ne, ne_eq, List.length_map] at ph1
        refine Run.seq (Run.reg [.p] ?_)
        refine .ag rfl rfl <| .nil ?_
        refine Run.ret (bq_ret (tq_ret (bq_ret (?_))))
        exact ret1 rfl (Sub.bool (by grind [isCode]))
      · have ph1 := h1
        try simp only [bs, bne_iff_ne, ne_eq, List.length_map] at ph1
        refine Run.skip ?_
        refine Run.nil (bq_norm ?_)
        refine Run.reg [.p, .p] ?_
        refine .p rfl trivial (fun _ => q_add rfl rfl (wrap64_ok (by omega) (by omega)) _) <| .mv rfl rfl <| .nil ?_
        refine Run.nil (tq_norm ?_)
        exact ⟨⟨pre ++ [x], rest, by simp [hx], by grind⟩, by simp, Le.mk rfl (.cons rfl (Sub.str (by first | rfl | (simp; done) | omega | (simp; omega))) rfl (.cons rfl (Sub.int (by first | rfl | (simp; done) | omega | (simp; omega))) rfl (.cons rfl (Sub.int (by first | rfl | (simp; done) | omega | (simp; omega))) rfl .nil))) .nil⟩
theorem isNaNS_ok (s : Str) : Fc Tryz.prog 169 [.str s] (.b false) := by
  refine Fc.mk' [2] Tryz.func169 rfl Tryz.ntmps169 rfl rfl rfl (fun t w => results_tmp Tryz.results169 t _ w) ?_
  refine Run.seq (Run.reg [.p] ?_)
  refine .ag rfl rfl <| .nil ?_
  refine Run.seq (Run.reg [.p, .p, .p, .p] ?_)
  refine .mv rfl rfl <| .mv rfl rfl <| .p rfl trivial (fun _ => q_neqS rfl rfl _) <| .ag rfl rfl <| .nil ?_
  refine Run.ret (?_)
  exact ret1 rfl (Sub.bool (by simp))
theorem cmpS_ok (a b : Str) : Fc Tryz.prog 119 [.str a, .str b] (.i (cmpT a b)) := by
  refine Fc.mk' [4] Tryz.func119 rfl Tryz.ntmps119 rfl rfl rfl (fun t w => results_tmp Tryz.results119 t _ w) ?_
  refine Run.seq (Run.reg [.p] ?_)
  refine .ag rfl rfl <| .nil ?_
  refine Run.seq (Run.reg [.p, .p, .p] ?_)
  refine .mv rfl rfl <| .p rfl trivial (fun _ => q_call Tryz.call169 rfl (isNaNS_ok _) _) <| .ag rfl rfl <| .nil ?_
  refine Run.seq (Run.reg [.p, .p, .p] ?_)
  refine .mv rfl rfl <| .p rfl trivial (fun _ => q_call Tryz.call169 rfl (isNaNS_ok _) _) <| .ag rfl rfl <| .nil ?_
  refine Run.seq (Run.seq (Run.reg [.p] ?_))
  refine .mv rfl rfl <| .nil ?_
  refine Run.condF rfl rfl ?_
  refine Run.skip ?_
  refine Run.seq (Run.seq (Run.reg [.p] ?_))
  refine .mv rfl rfl <| .nil ?_
  refine Run.condF rfl rfl ?_
  refine Run.skip ?_
  refine Run.seq (Run.seq (Run.reg [.p, .p, .p] ?_))
  refine .mv rfl rfl <| .mv rfl rfl <| .p rfl trivial (fun _ => q_lssS rfl rfl _) <| .nil ?_
  refine Run.cond rfl (fun h1 => ?_) (fun h1 => ?_)
  · have ph1 := h1
    try simp only [bs, bne_iff_ne, ne_eq, List.length_map] at ph1
    refine Run.seq (Run.reg [.p] ?_)
    refine .ag rfl rfl <| .nil ?_
    refine Run.ret (?_)
    exact ret1 rfl (Sub.int (by grind [cmpT]))
  · have ph1 := h1
    try simp only [bs, bne_iff_ne, ne_eq, List.length_map] at ph1
    refine Run.skip ?_
    refine Run.seq (Run.seq (Run.reg [.p, .p, .p] ?_))
    refine .mv rfl rfl <| .mv rfl rfl <| .p rfl trivial (fun _ => q_gtrS rfl rfl _) <| .nil ?_
    refine Run.cond rfl (fun h2 => ?_) (fun h2 => ?_)
    · have ph2 := h2
      try simp only [bs, bne_iff_ne, ne_eq, List.length_map] at ph2
      refine Run.seq (Run.reg [.p] ?_)
      refine .ag rfl rfl <| .nil ?_
      refine Run.ret (?_)
      exact ret1 rfl (Sub.int (by grind [cmpT]))
    · have ph2 := h2
      try simp only [bs, bne_iff_ne, ne_eq, List.length_map] at ph2
      refine Run.skip ?_
      refine Run.seq (Run.reg [.p] ?_)
      refine .ag rfl rfl <| .nil ?_
      refine Run.ret (?_)
      exact ret1 rfl (Sub.int (by grind [cmpT]))
end Go.T
namespace Go.T
open Go
theorem Obs.get_append : ∀ (a b : Obs) (i : Nat), Obs.get (a ++ b) i = match a.get i with | some x => some x | none => b.get i
  | [], b, i => by simp [Obs.get]
  | (t, d) :: r, b, i => by
    rw [List.cons_append, Obs.get_cons, Obs.get_cons]
    by_cases h : t = i
    · simp [h]
    · rw [if_neg h, if_neg h]; exact Obs.get_append r b i
/-- What lies beside some objects. -/
def Obs.rest : Obs → Obs → Obs
  | [], _ => []
  | (t, d) :: r, pre => bif pre.has t then Obs.rest r pre else (t, d) :: Obs.rest r pre
theorem Obs.get_rest (pre : Obs) (i : Nat) : ∀ obs : Obs, (obs.rest pre).get i = if pre.has i then none else obs.get i
  | [] => by simp [Obs.rest, Obs.get]
  | (t, d) :: r => by
    simp only [Obs.rest]
    cases h : pre.has t with
    | true =>
      rw [cond_true, Obs.get_rest pre i r, Obs.get_cons]
      by_cases e : t = i
      · subst e; simp [h]
      · rw [if_neg e]
    | false =>
      rw [cond_false, Obs.get_cons, Obs.get_rest pre i r, Obs.get_cons]
      by_cases e : t = i
      · subst e; simp [h]
      · rw [if_neg e, if_neg e]
theorem Obs.has_iff {obs : Obs} {i : Nat} : obs.has i = true ↔ ∃ o, obs.get i = some o := by
  unfold Obs.has
  cases obs.get i <;> simp
mutual
theorem D.okB_all : ∀ (d : D) {f g : Nat → Bool}, (∀ i, f i = true → g i = true) → d.okB f = true → d.okB g = true
  | .any, _, _, _, _ | .raw _, _, _, _, _ | .str _, _, _, _, _ | .snap _ _ _, _, _, _, _ | .iptr _, _, _, _, _ => rfl
  | .agg ds, f, g, h, hd => by simp only [D.okB] at hd ⊢; exact D.okL_all ds h hd
  | .tup ds, f, g, h, hd => by simp only [D.okB] at hd ⊢; exact D.okL_all ds h hd
  | .fn _ ax bs, f, g, h, hd => by
    simp only [D.okB, Bool.and_eq_true] at hd ⊢
    exact ⟨D.okL_all ax h hd.1, D.okL_all bs h hd.2⟩
  | .box i _, f, g, h, hd | .gs i _, f, g, h, hd | .eptr i _, f, g, h, hd | .mapr i, f, g, h, hd | .bsl i _ _, f, g, h, hd | .gr i _, f, g, h, hd => by simp only [D.okB] at hd ⊢; exact h i hd
theorem D.okL_all : ∀ (ds : List D) {f g : Nat → Bool}, (∀ i, f i = true → g i = true) → D.okB.okL f ds = true → D.okB.okL g ds = true
  | [], _, _, _, _ => rfl
  | d :: ds, f, g, h, hd => by
    simp only [D.okB.okL, Bool.and_eq_true] at hd ⊢
    exact ⟨D.okB_all d h hd.1, D.okL_all ds h hd.2⟩
end
mutual
theorem D.okB_true : ∀ (d : D), d.okB (fun _ => true) = true
  | .any | .raw _ | .str _ | .snap _ _ _ | .iptr _ | .box _ _ | .gs _ _ | .eptr _ _ | .mapr _ | .bsl _ _ _ | .gr _ _ => rfl
  | .agg ds => by simp only [D.okB]; exact D.okL_true ds
  | .tup ds => by simp only [D.okB]; exact D.okL_true ds
  | .fn _ ax bs => by simp only [D.okB, Bool.and_eq_true]; exact ⟨D.okL_true ax, D.okL_true bs⟩
theorem D.okL_true : ∀ (ds : List D), D.okB.okL (fun _ => true) ds = true
  | [] => rfl
  | d :: ds => by simp only [D.okB.okL, Bool.and_eq_true]; exact ⟨D.okB_true d, D.okL_true ds⟩
end
theorem Ob.okB_true (o : Ob) : o.okB (fun _ => true) = true := by
  cases o <;> simp [Ob.okB, D.okL_true]
/-- All objects of a list name none but such. -/
def Obs.okB (f : Nat → Bool) : Obs → Bool
  | [] => true
  | (_, o) :: r => o.okB f && Obs.okB f r
theorem Obs.okB_get {f : Nat → Bool} : ∀ {obs : Obs}, obs.okB f = true → ∀ i o, obs.get i = some o → o.okB f = true
  | [], _, i, o, h => by simp [Obs.get] at h
  | (t, d) :: r, h, i, o, hg => by
    simp only [Obs.okB, Bool.and_eq_true] at h
    rw [Obs.get_cons] at hg
    by_cases e : t = i
    · rw [if_pos e] at hg; cases hg; exact h.1
    · rw [if_neg e] at hg; exact Obs.okB_get h.2 i o hg
section
variable {w w' : World} {O : Nat → Prop} {ρ ρ' : Rho} {obs pre post : Obs}
theorem owned_split (hsub : ∀ i o, pre.get i = some o → obs.get i = some o) (b : Nat) : Owned ρ obs b ↔ Owned (cutRho pre.has ρ) pre b ∨ Owned ρ (obs.rest pre) b := by
  constructor
  · rintro ⟨i, o, l, h1, h2, h3, h4⟩
    cases hp : pre.has i with
    | true =>
      obtain ⟨o', ho'⟩ := Obs.has_iff.1 hp
      have := hsub i o' ho'
      rw [h1] at this; cases this
      exact .inl ⟨i, o, l, ho', h2, by simp [cutRho, hp, h3], h4⟩
    | false => exact .inr ⟨i, o, l, by rw [Obs.get_rest, hp]; exact h1, h2, h3, h4⟩
  · rintro (⟨i, o, l, h1, h2, h3, h4⟩ | ⟨i, o, l, h1, h2, h3, h4⟩)
    · exact ⟨i, o, l, hsub i o h1, h2, cutRho_le h3, h4⟩
    · rw [Obs.get_rest] at h1
      split at h1
      · cases h1
      · exact ⟨i, o, l, h1, h2, h3, h4⟩
theorem rest_get {i : Nat} {o : Ob} (h : (obs.rest pre).get i = some o) : obs.get i = some o ∧ pre.has i = false := by
  rw [Obs.get_rest] at h
  split at h
  · cases h
  · rename_i hp; exact ⟨h, by simpa using hp⟩
theorem rest_apart (hsub : ∀ i o, pre.get i = some o → obs.get i = some o) (hok : ObsOK w O ρ obs) {b : Nat} (h1 : Owned (cutRho pre.has ρ) pre b) (h2 : Owned ρ (obs.rest pre) b) : False := by
  obtain ⟨i, o, l, a1, a2, a3, a4⟩ := h1
  obtain ⟨j, o', l', b1, b2, b3, b4⟩ := h2
  have := hok.inj i j o o' l l' (hsub i o a1) (rest_get b1).1 a2 b2 (cutRho_le a3) b3 (a4.trans b4.symm)
  subst this
  have := (rest_get b1).2
  rw [Obs.has_iff.2 ⟨o, a1⟩] at this; cases this
theorem frame_split (hsub : ∀ i o, pre.get i = some o → obs.get i = some o) (hp : pre.okB pre.has = true) (hok : ObsOK w O ρ obs) : ObsOK w (Ot O ρ (obs.rest pre)) (cutRho pre.has ρ) pre := by
  refine ⟨?_, fun i hi => by simp [cutRho, Obs.has, hi], fun i o h1 h2 => ?_, fun i j o o' l l' a b c d e e' => hok.inj i j o o' l l' (hsub _ _ a) (hsub _ _ b) c d (cutRho_le e) (cutRho_le e')⟩
  · rintro b (hb | hb)
    · exact hok.lt b hb
    · exact (hok.block ((owned_split hsub b).2 (.inr hb))).1
  · obtain ⟨l, h3, h4, h5⟩ := hok.own i o (hsub i o h1) h2
    have hl : cutRho pre.has ρ i = some l := by simp [cutRho, Obs.has, h1, h3]
    refine ⟨l, hl, ?_, (h5.subO (Kept.subO ?_)).cut (Obs.okB_get hp i o h1)⟩
    · rintro (hb | hb)
      · exact h4 hb
      · exact rest_apart hsub hok ⟨i, o, l, h1, h2, hl, rfl⟩ hb
    · rintro b ((hb | hb) | hb)
      · exact .inl hb
      · exact .inr ((owned_split hsub b).2 (.inr hb))
      · exact .inr ((owned_split hsub b).2 (.inl hb))
/-- The names behind a call. -/
def joinRho (rest : Obs) (ρ ρ' : Rho) : Rho := fun i => if rest.has i then ρ i else ρ' i
theorem owned_join {rest : Obs} (hdis : ∀ i, post.has i = true → rest.has i = false) (b : Nat) : Owned (joinRho rest ρ ρ') (post ++ rest) b ↔ Owned ρ' post b ∨ Owned ρ rest b := by
  constructor
  · rintro ⟨i, o, l, h1, h2, h3, h4⟩
    rw [Obs.get_append] at h1
    cases hp : post.get i with
    | some x =>
      simp only [hp, Option.some.injEq] at h1
      subst h1
      have := hdis i (Obs.has_iff.2 ⟨_, hp⟩)
      simp only [joinRho, this] at h3
      exact .inl ⟨i, x, l, hp, h2, h3, h4⟩
    | none =>
      simp only [hp] at h1
      simp only [joinRho, Obs.has_iff.2 ⟨_, h1⟩, if_true] at h3
      exact .inr ⟨i, o, l, h1, h2, h3, h4⟩
  · rintro (⟨i, o, l, h1, h2, h3, h4⟩ | ⟨i, o, l, h1, h2, h3, h4⟩)
    · have := hdis i (Obs.has_iff.2 ⟨_, h1⟩)
      exact ⟨i, o, l, by rw [Obs.get_append, h1], h2, by simp [joinRho, this, h3], h4⟩
    · have hn : post.get i = none := by
        cases hp : post.get i with
        | none => rfl
        | some x =>
          have := hdis i (Obs.has_iff.2 ⟨_, hp⟩)
          rw [Obs.has_iff.2 ⟨_, h1⟩] at this; cases this
      exact ⟨i, o, l, by rw [Obs.get_append, hn]; exact h1, h2, by simp [joinRho, Obs.has_iff.2 ⟨_, h1⟩, h3], h4⟩
theorem frame_join (stab : Nat → Bool) (hsub : ∀ i o, pre.get i = some o → obs.get i = some o) (hok : ObsOK w O ρ obs) (h : Tr0 (Ot O ρ (obs.rest pre)) w (cutRho pre.has ρ) pre w' ρ' post)
    (hdis : ∀ i, post.has i = true → (obs.rest pre).has i = false) (hle : ∀ i l, stab i = true → cutRho pre.has ρ i = some l → ρ' i = some l) (hrs : ∀ i o, (obs.rest pre).get i = some o → o.okB stab = true) :
    Tr0 O w ρ obs w' (joinRho (obs.rest pre) ρ ρ') (post ++ obs.rest pre) ∧ (∀ i l, stab i = true → ρ i = some l → joinRho (obs.rest pre) ρ ρ' i = some l) ∧
    ∀ r v, V w' (Ot (Ot O ρ (obs.rest pre)) ρ' post) ρ' r v → V w' (Ot O (joinRho (obs.rest pre) ρ ρ') (post ++ obs.rest pre)) (joinRho (obs.rest pre) ρ ρ') r v := by
  have hj := owned_join (ρ := ρ) (ρ' := ρ') hdis
  have hkeep : ∀ i l, stab i = true → ρ i = some l → joinRho (obs.rest pre) ρ ρ' i = some l := by
    intro i l hs hl
    unfold joinRho
    split
    · exact hl
    · rename_i hr
      refine hle i l hs ?_
      have : pre.has i = true := by
        cases hp : pre.has i with
        | true => rfl
        | false =>
          have hg : (obs.rest pre).get i = obs.get i := by rw [Obs.get_rest, hp]; rfl
          cases ho : obs.get i with
          | none => rw [hok.fresh i ho] at hl; cases hl
          | some o => exact absurd (Obs.has_iff.2 ⟨o, hg.trans ho⟩) hr
      simp [cutRho, this, hl]
  have hle2 : RhoLe ρ' (joinRho (obs.rest pre) ρ ρ') := by
    intro i l hl
    unfold joinRho
    split
    · rename_i hr
      have : post.get i = none := by
        cases hp : post.get i with
        | none => rfl
        | some x => have := hdis i (Obs.has_iff.2 ⟨_, hp⟩); rw [hr] at this; cases this
      rw [h.ok.fresh i this] at hl; cases hl
    · exact hl
  have hset : ∀ b, Ot (Ot O ρ (obs.rest pre)) ρ' post b ↔ Ot O (joinRho (obs.rest pre) ρ ρ') (post ++ obs.rest pre) b := by
    intro b
    unfold Ot
    rw [hj b]
    constructor
    · rintro ((g | g) | g)
      · exact .inl g
      · exact .inr (.inr g)
      · exact .inr (.inl g)
    · rintro (g | g | g)
      · exact .inl (.inl g)
      · exact .inr g
      · exact .inl (.inr g)
  have hnew : ∀ b, Owned (joinRho (obs.rest pre) ρ ρ') (post ++ obs.rest pre) b → Owned ρ obs b ∨ w.heap.size ≤ b := by
    intro b hb
    rcases (hj b).1 hb with g | g
    · rcases h.new b g with g | g
      · exact .inl ((owned_split hsub b).2 (.inl g))
      · exact .inr g
    · exact .inl ((owned_split hsub b).2 (.inr g))
  have hsame : ∀ b, b < w.heap.size → ¬ Owned ρ obs b → w'.heap[b]? = w.heap[b]? := fun b hb ho => h.same b hb fun g => ho ((owned_split hsub b).2 (.inl g))
  have hkept : Kept w (Ot O ρ obs) w' (Ot O (joinRho (obs.rest pre) ρ ρ') (post ++ obs.rest pre)) := by
    refine ⟨h.size, fun b hb ho => ⟨fun _ _ _ _ => hsame b hb fun g => ho (.inr g), fun g => ?_⟩⟩
    rcases g with g | g
    · exact ho (.inl g)
    · rcases hnew b g with g | g
      · exact ho (.inr g)
      · omega
  refine ⟨⟨h.size, hsame, hnew, ⟨fun b hb => h.ok.lt b (.inl hb), ?_, ?_, ?_⟩, h.os⟩, hkeep, fun r v hv => V.mono (Kept.subO fun b hb => (hset b).2 hb) hle2 r v hv⟩
  · intro i hi
    rw [Obs.get_append] at hi
    cases hp : post.get i with
    | some x => simp [hp] at hi
    | none =>
      simp only [hp] at hi
      simp only [joinRho, Obs.has, hi, Option.isSome_none]
      exact h.ok.fresh i hp
  · intro i o h1 h2
    rw [Obs.get_append] at h1
    cases hp : post.get i with
    | some x =>
      simp only [hp, Option.some.injEq] at h1
      subst h1
      obtain ⟨l, h3, h4, h5⟩ := h.ok.own i x hp h2
      exact ⟨l, hle2 i l h3, fun hb => h4 (.inl hb), h5.mono (Kept.subO fun b hb => (hset b).2 hb) hle2 rfl⟩
    | none =>
      simp only [hp] at h1
      obtain ⟨l, h3, h4, h5⟩ := hok.own i o (rest_get h1).1 h2
      have hr : (obs.rest pre).has i = true := Obs.has_iff.2 ⟨_, h1⟩
      have hblk : w'.heap[l.b]? = w.heap[l.b]? := h.same l.b (h5.lt h2) fun g => rest_apart hsub hok g ⟨i, o, l, h1, h2, h3, rfl⟩
      refine ⟨l, by simp [joinRho, hr, h3], h4, (h5.cut (hrs i o h1)).mono hkept ?_ hblk⟩
      intro j lj hlj
      unfold cutRho at hlj
      split at hlj
      · rename_i hs; exact hkeep j lj hs hlj
      · cases hlj
  · intro i j o o' l l' a1 a2 a3 a4 a5 a6 a7
    have key : ∀ i o l, Obs.get (post ++ obs.rest pre) i = some o → joinRho (obs.rest pre) ρ ρ' i = some l → (post.get i = some o ∧ ρ' i = some l) ∨ ((obs.rest pre).get i = some o ∧ ρ i = some l) := by
      intro i o l h1 h3
      rw [Obs.get_append] at h1
      cases hp : post.get i with
      | some x =>
        simp only [hp, Option.some.injEq] at h1
        subst h1
        have := hdis i (Obs.has_iff.2 ⟨_, hp⟩)
        simp only [joinRho, this] at h3
        exact .inl ⟨rfl, h3⟩
      | none =>
        simp only [hp] at h1
        simp only [joinRho, Obs.has_iff.2 ⟨_, h1⟩, if_true] at h3
        exact .inr ⟨h1, h3⟩
    have cross : ∀ i j o o' l l', post.get i = some o → o.live = true → ρ' i = some l → (obs.rest pre).get j = some o' → o'.live = true → ρ j = some l' → l.b = l'.b → False := by
      intro i j o o' l l' b1 b2 b3 b4 b5 b6 b7
      obtain ⟨l2, c1, c2, _⟩ := h.ok.own i o b1 b2
      rw [b3] at c1; cases c1
      exact c2 (.inr ⟨j, o', l', b4, b5, b6, b7.symm⟩)
    rcases key i o l a1 a5 with ⟨b1, b2⟩ | ⟨b1, b2⟩ <;> rcases key j o' l' a2 a6 with ⟨c1, c2⟩ | ⟨c1, c2⟩
    · exact h.ok.inj i j o o' l l' b1 c1 a3 a4 b2 c2 a7
    · exact (cross i j o o' l l' b1 a3 b2 c1 a4 c2 a7).elim
    · exact (cross j i o' o l' l c1 a4 c2 b1 a3 b2 a7.symm).elim
    · exact hok.inj i j o o' l l' (rest_get b1).1 (rest_get c1).1 a3 a4 b2 c2 a7
end
end Go.T
