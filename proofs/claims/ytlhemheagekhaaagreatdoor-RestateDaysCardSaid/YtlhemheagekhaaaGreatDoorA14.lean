/-
  Contracts of the functions that the statement reaches, and the logic in which they are proved (no condition): parts W38, W39, W40, W41, W42, W43.
-/
import Derived.Test.YtlhemheagekhaaaGreatDoorA13
set_option linter.all false
namespace Go.T
open Go Go.Proofs
set_option maxRecDepth 20000
structure changeY_ok_L0 (a b : List Entry) where
  pre : List Entry
  rest : List Entry
  acc : List Entry
  hx : a = pre ++ rest
  hacc : acc = pre.map opposite
structure changeY_ok_L1 (a b : List Entry) where
  pre2 : List Entry
  rest2 : List Entry
  acc2 : List Entry
  hx2 : b = pre2 ++ rest2
  hacc2 : acc2 = a.map opposite ++ pre2
theorem changeY_ok (a b : List Entry) (ha : a.length ≤ 1000000) (hb : b.length ≤ 1000000) (has : ∀ e ∈ a, smallE e ∧ checkE e = 0) : FcY (α := Entry) Tryz.prog 101 7500 [.box 7500 0, .box 7501 0] [(7500, .cells [sEntries a]), (7501, .cells [sEntries b])] (fun e => [.agg (encEntry e)]) (fun p => p <+: a.map opposite ++ b) (fun p => p = a.map opposite ++ b) := by
  refine FcY.mk' Tryz.func101 rfl Tryz.ntmps101 rfl (fun t w => results_none Tryz.results101 t _ w) (fun idL lb ids B X Y => ?_)
  refine Run.seq (Run.seq (Run.reg [.r, .p, .p] ?_))
  refine .r rfl trivial (q_load1 Tryz.isAgg22 rfl rfl rfl) <| .p rfl trivial (fun _ => q_lenI Tryz.underlying22 rfl _) <| .mv rfl rfl <| .nil ?_
  refine Run.block ?_
  refine Run.loop (ι := changeY_ok_L0 a b) (fun sx => [(0, yv lb), (1, .box 7500 0), (2, .box 7501 0), (10, sEntries a), (11, .i a.length), (12, .i sx.pre.length)]) (fun sx => ([(7500, .cells [sEntries a]), (7501, .cells [sEntries b])] ++ B sx.acc)) (fun sx => sx.rest.length) ⟨[], a, [], rfl, rfl⟩ ?_ ?_
  · exact Le.mk (ps_ok (Y.has _) rfl) (.cons rfl (Sub.refl _) rfl (.cons rfl (Sub.refl _) rfl (.cons rfl (Sub.refl _) rfl (.cons rfl (Sub.refl _) rfl (.cons rfl (Sub.int (by first | rfl | (simp; done) | omega | (simp; omega))) rfl (.cons rfl (Sub.int (by first | rfl | (simp; done) | omega | (simp; omega))) rfl .nil)))))) (.eq rfl (by first | rfl | (simp; done)) rfl (.eq rfl (by first | rfl | (simp; done)) rfl (.tail (tail_ok (own := [(7500, _), (7501, _)]) (own' := [(7500, _), (7501, _)]) rfl (Y.free _) (Y.okb _)))))
  · rintro ⟨pre, rest, acc, hx, hacc⟩
    show Run _ _ _ _ [(0, yv lb), (1, .box 7500 0), (2, .box 7501 0), (10, sEntries a), (11, .i a.length), (12, .i pre.length)] ([(7500, .cells [sEntries a]), (7501, .cells [sEntries b])] ++ B acc)
    have hl := congrArg List.length hx
    simp only [List.length_append] at hl
    rcases rest with _ | ⟨x, rest⟩
    · have hpa : a = pre := by simpa using hx
      refine Run.seq (Run.reg [.p] ?_)
      refine .p rfl trivial (fun _ => q_lss rfl rfl _) <| .nil ?_
      refine Run.seq ?_
      refine Run.condF rfl (by simp at hl ⊢; omega) ?_
      refine Run.exit (tq_exit (bq_exit ?_))
      refine Run.seq (Run.reg [.r, .p, .p] ?_)
      refine .r rfl trivial (q_load1 Tryz.isAgg22 rfl rfl rfl) <| .p rfl trivial (fun _ => q_lenI Tryz.underlying22 rfl _) <| .mv rfl rfl <| .nil ?_
      refine Run.block ?_
      refine Run.loop (ι := changeY_ok_L1 a b) (fun sx => [(0, yv lb), (1, .box 7500 0), (2, .box 7501 0), (26, sEntries b), (27, .i b.length), (28, .i sx.pre2.length)]) (fun sx => ([(7500, .cells [sEntries a]), (7501, .cells [sEntries b])] ++ B sx.acc2)) (fun sx => sx.rest2.length) ⟨[], b, acc, rfl, by rw [hacc, hpa]; simp⟩ ?_ ?_
      · exact Le.mk (ps_ok (Y.has _) rfl) (.cons rfl (Sub.refl _) rfl (.cons rfl (Sub.refl _) rfl (.cons rfl (Sub.refl _) rfl (.cons rfl (Sub.refl _) rfl (.cons rfl (Sub.int (by first | rfl | (simp; done) | omega | (simp; omega))) rfl (.cons rfl (Sub.int (by first | rfl | (simp; done) | omega | (simp; omega))) rfl .nil)))))) (.eq rfl (by first | rfl | (simp; done)) rfl (.eq rfl (by first | rfl | (simp; done)) rfl (.tail (tail_ok (own := [(7500, _), (7501, _)]) (own' := [(7500, _), (7501, _)]) rfl (Y.free _) (Y.okb _)))))
      · rintro ⟨pre2, rest2, acc2, hx2, hacc2⟩
        show Run _ _ _ _ [(0, yv lb), (1, .box 7500 0), (2, .box 7501 0), (26, sEntries b), (27, .i b.length), (28, .i pre2.length)] ([(7500, .cells [sEntries a]), (7501, .cells [sEntries b])] ++ B acc2)
        have hl2 := congrArg List.length hx2
        simp only [List.length_append] at hl2
        rcases rest2 with _ | ⟨x2, rest2⟩
        · skip
          refine Run.seq (Run.reg [.p] ?_)
          refine .p rfl trivial (fun _ => q_lss rfl rfl _) <| .nil ?_
          refine Run.seq ?_
          refine Run.condF rfl (by simp at hl2 ⊢; omega) ?_
          refine Run.exit (tq_exit (bq_exit ?_))
          refine Run.nil ?_
          exact retY_fin (.inr rfl) (acc2) (by rw [hacc2, hx2]; simp) (own_get (own := [(7500, _), (7501, _)]) rfl (Y.free _))
        · simp only [List.length_cons] at hl2
          refine Run.seq (Run.reg [.p] ?_)
          refine .p rfl trivial (fun _ => q_lss rfl rfl _) <| .nil ?_
          refine Run.seq ?_
          refine Run.condT rfl (by simp; omega) ?_
          refine Run.skip ?_
          refine Run.seq ?_
          refine Run.block ?_
          refine Run.seq (Run.reg [.p, .p, .w, .w] ?_)
          refine .p rfl trivial (fun _ => q_indexI Tryz.underlying22 Tryz.sizeOf37 rfl rfl (by omega) (idx_mid encEntry hx2 rfl) _) <| .p rfl trivial (fun _ => q_loadIA Tryz.isAgg37 Tryz.sizeOf37 rfl rfl _) <| .w rfl trivial (q_alloc 7502 Tryz.zeroValue37 (Y.free _ 7502 (by decide) (by decide))) <| .w rfl trivial (q_storeW Tryz.sizeOf37 rfl rfl rfl rfl rfl rfl) <| .nil ?_
          refine Run.seq (Run.regT ?_)
          refine Tx.q rfl trivial (q_move rfl _) ?_
          refine Tx.q rfl trivial (q_loadW Tryz.isAgg37 Tryz.sizeOf37 rfl rfl rfl) ?_
          refine Tx.weak (Le.mk (obs' := [(7500, _), (7501, _)] ++ B (acc2)) (ps_ok (Y.has _) rfl) (show EnvLe _ _ [(0, _), (1, _), (2, _), (26, _), (27, _), (28, _), (29, _), (30, _), (31, _), (32, _), (33, _)] from (.same rfl rfl (.same rfl rfl (.same rfl rfl (.same rfl rfl (.same rfl rfl (.same rfl rfl (.same rfl rfl (.same rfl rfl (.same rfl rfl (.same rfl rfl (.same rfl rfl .nil)))))))))))) (.cons (i := 7500) rfl rfl (.cons (i := 7501) rfl rfl (.tail (tail_ok (own := [(7502, _), (7500, _), (7501, _)]) (own' := [(7500, _), (7501, _)]) rfl (Y.free _) (Y.okb _)))))) ?_
          refine Tx.y Y (own := [(7500, _), (7501, _)]) (pre := acc2) (env' := [(0, _), (1, _), (2, _), (26, _), (27, _), (28, _), (29, _), (30, _), (31, _), (32, _), (33, _)]) x2 rfl rfl rfl trivial rfl rfl rfl (⟨rest2, by rw [hacc2, hx2]; simp⟩) rfl rfl (.cons rfl rfl (.cons rfl rfl (.cons rfl rfl (.cons rfl rfl (.cons rfl rfl (.cons rfl rfl (.cons rfl rfl (.cons rfl rfl (.cons rfl rfl (.cons rfl rfl (.cons rfl rfl .nil))))))))))) ?_ (fun o hX => ?_)
          · skip
            refine Tx.q rfl trivial (q_not rfl _) ?_
            refine Tx.nil ?_
            refine Run.condF rfl rfl ?_
            refine Run.skip ?_
            refine Run.nil (bq_norm ?_)
            refine Run.reg [.p, .p] ?_
            refine .p rfl trivial (fun _ => q_add rfl rfl (wrap64_ok (by omega) (by omega)) _) <| .mv rfl rfl <| .nil ?_
            refine Run.nil (tq_norm ?_)
            exact ⟨⟨pre2 ++ [x2], rest2, acc2 ++ [x2], by simp [hx2], by simp [hacc2]⟩, by simp, Le.mk (ps_ok (Y.has _) rfl) (.cons rfl (Sub.refl _) rfl (.cons rfl (Sub.refl _) rfl (.cons rfl (Sub.refl _) rfl (.cons rfl (Sub.refl _) rfl (.cons rfl (Sub.int (by first | rfl | (simp; done) | omega | (simp; omega))) rfl (.cons rfl (Sub.int (by first | rfl | (simp; done) | omega | (simp; omega))) rfl .nil)))))) (.eq rfl (by first | rfl | (simp; done)) rfl (.eq rfl (by first | rfl | (simp; done)) rfl (.tail (tail_ok (own := [(7500, _), (7501, _)]) (own' := [(7500, _), (7501, _)]) rfl (Y.free _) (Y.okb _)))))⟩
          · skip
            refine Tx.q rfl trivial (q_not rfl _) ?_
            refine Tx.nil ?_
            refine Run.condT rfl rfl ?_
            refine Run.ret (bq_ret (tq_ret (bq_ret (?_))))
            exact retY_x (.inl rfl) o hX (own_get (own := [(7500, _), (7501, _)]) rfl (Y.freeX _ hX))
    · simp only [List.length_cons] at hl
      refine Run.seq (Run.reg [.p] ?_)
      refine .p rfl trivial (fun _ => q_lss rfl rfl _) <| .nil ?_
      refine Run.seq ?_
      refine Run.condT rfl (by simp; omega) ?_
      refine Run.skip ?_
      refine Run.seq ?_
      refine Run.block ?_
      refine Run.seq (Run.reg [.p, .p, .w, .w] ?_)
      refine .p rfl trivial (fun _ => q_indexI Tryz.underlying22 Tryz.sizeOf37 rfl rfl (by omega) (idx_mid encEntry hx rfl) _) <| .p rfl trivial (fun _ => q_loadIA Tryz.isAgg37 Tryz.sizeOf37 rfl rfl _) <| .w rfl trivial (q_alloc 7502 Tryz.zeroValue37 (Y.free _ 7502 (by decide) (by decide))) <| .w rfl trivial (q_storeW Tryz.sizeOf37 rfl rfl rfl rfl rfl rfl) <| .nil ?_
      refine Run.seq (Run.reg [.r, .p, .p, .p, .p, .w, .w, .p] ?_)
      refine .r rfl trivial (q_loadW Tryz.isAgg37 Tryz.sizeOf37 rfl rfl rfl) <| .p rfl trivial (fun _ => q_call Tryz.call102 rfl (reverse_ok _ (has x (by rw [hx]; simp)).1 (has x (by rw [hx]; simp)).2) _) <| .mv rfl rfl <| .p rfl trivial (fun _ => q_extract rfl rfl _) <| .p rfl trivial (fun _ => q_extract rfl rfl _) <| .w rfl trivial (q_alloc 7503 Tryz.zeroValue37 (Y.free _ 7503 (by decide) (by decide))) <| .w rfl trivial (q_storeW Tryz.sizeOf37 rfl rfl rfl rfl rfl rfl) <| .ag rfl rfl <| .nil ?_
      refine Run.seq (Run.regT ?_)
      refine Tx.q rfl trivial (q_move rfl _) ?_
      refine Tx.q rfl trivial (q_loadW Tryz.isAgg37 Tryz.sizeOf37 rfl rfl rfl) ?_
      refine Tx.weak (Le.mk (obs' := [(7500, _), (7501, _)] ++ B (acc)) (ps_ok (Y.has _) rfl) (show EnvLe _ _ [(0, _), (1, _), (2, _), (10, _), (11, _), (12, _), (13, _), (14, _), (15, _), (17, _), (18, _), (16, _), (19, _), (20, _), (7, _), (21, _), (22, _)] from (.same rfl rfl (.same rfl rfl (.same rfl rfl (.same rfl rfl (.same rfl rfl (.same rfl rfl (.same rfl rfl (.same rfl rfl (.same rfl rfl (.same rfl rfl (.same rfl rfl (.same rfl rfl (.same rfl rfl (.same rfl rfl (.same rfl rfl (.same rfl rfl (.same rfl rfl .nil)))))))))))))))))) (.cons (i := 7500) rfl rfl (.cons (i := 7501) rfl rfl (.tail (tail_ok (own := [(7503, _), (7502, _), (7500, _), (7501, _)]) (own' := [(7500, _), (7501, _)]) rfl (Y.free _) (Y.okb _)))))) ?_
      refine Tx.y Y (own := [(7500, _), (7501, _)]) (pre := acc) (env' := [(0, _), (1, _), (2, _), (10, _), (11, _), (12, _), (13, _), (14, _), (15, _), (17, _), (18, _), (16, _), (19, _), (20, _), (7, _), (21, _), (22, _)]) (opposite x) rfl rfl rfl trivial rfl rfl rfl (⟨rest.map opposite ++ b, by rw [hacc, hx]; simp⟩) rfl rfl (.cons rfl rfl (.cons rfl rfl (.cons rfl rfl (.cons rfl rfl (.cons rfl rfl (.cons rfl rfl (.cons rfl rfl (.cons rfl rfl (.cons rfl rfl (.cons rfl rfl (.cons rfl rfl (.cons rfl rfl (.cons rfl rfl (.cons rfl rfl (.cons rfl rfl (.cons rfl rfl (.cons rfl rfl .nil))))))))))))))))) ?_ (fun o hX => ?_)
      · skip
        refine Tx.q rfl trivial (q_not rfl _) ?_
        refine Tx.nil ?_
        refine Run.condF rfl rfl ?_
        refine Run.skip ?_
        refine Run.nil (bq_norm ?_)
        refine Run.reg [.p, .p] ?_
        refine .p rfl trivial (fun _ => q_add rfl rfl (wrap64_ok (by omega) (by omega)) _) <| .mv rfl rfl <| .nil ?_
        refine Run.nil (tq_norm ?_)
        exact ⟨⟨pre ++ [x], rest, acc ++ [opposite x], by simp [hx], by simp [hacc]⟩, by simp, Le.mk (ps_ok (Y.has _) rfl) (.cons rfl (Sub.refl _) rfl (.cons rfl (Sub.refl _) rfl (.cons rfl (Sub.refl _) rfl (.cons rfl (Sub.refl _) rfl (.cons rfl (Sub.int (by first | rfl | (simp; done) | omega | (simp; omega))) rfl (.cons rfl (Sub.int (by first | rfl | (simp; done) | omega | (simp; omega))) rfl .nil)))))) (.eq rfl (by first | rfl | (simp; done)) rfl (.eq rfl (by first | rfl | (simp; done)) rfl (.tail (tail_ok (own := [(7500, _), (7501, _)]) (own' := [(7500, _), (7501, _)]) rfl (Y.free _) (Y.okb _)))))⟩
      · skip
        refine Tx.q rfl trivial (q_not rfl _) ?_
        refine Tx.nil ?_
        refine Run.condT rfl rfl ?_
        refine Run.ret (bq_ret (tq_ret (bq_ret (?_))))
        exact retY_x (.inl rfl) o hX (own_get (own := [(7500, _), (7501, _)]) rfl (Y.freeX _ hX))
theorem changeF_ok (a b : List Entry) : FcO Tryz.prog 46 [sEntries a, sEntries b] [] (.fn (.func 101) [] [.box 7500 0, .box 7501 0]) [(7500, .cells [sEntries a]), (7501, .cells [sEntries b])] := by
  refine FcO.mk' [4] Tryz.func46 rfl Tryz.ntmps46 rfl rfl rfl (fun t w => results_tmp Tryz.results46 t _ w) ?_
  refine Run.seq (Run.reg [.w, .w, .p] ?_)
  refine .w rfl trivial (q_box1 7500 rfl rfl rfl) <| .w rfl trivial (q_box1 7501 rfl rfl rfl) <| .ag rfl rfl <| .nil ?_
  refine Run.seq (Run.reg [.p, .p] ?_)
  refine .p rfl trivial (fun _ => q_makeFunc (xs := []) (ys := _) rfl rfl _) <| .ag rfl rfl <| .nil ?_
  refine Run.ret (?_)
  exact retO1 rfl (by exact Sub.refl _) (.eq rfl (by rfl) rfl (.eq rfl (by rfl) rfl .nil))
end Go.T
namespace Go.T
open Go Go.Proofs
set_option maxRecDepth 20000
structure merge_ok_L0 (a b : List Entry) where
  x : List Entry
  y : List Entry
  ra : List Entry
  rb : List Entry
  hr : (x ++ (mergeE cmpEn ra rb).1, y ++ (mergeE cmpEn ra rb).2) = mergeE cmpEn a b
  ma : ∀ e ∈ ra, smallE e
  mb : ∀ e ∈ rb, smallE e
  hxl : x.length + ra.length ≤ a.length
  hyl : y.length + rb.length ≤ b.length
theorem merge_ok (a b : List Entry) (hal : a.length ≤ 1000) (hbl : b.length ≤ 1000) (ha : ∀ e ∈ a, smallE e) (hb : ∀ e ∈ b, smallE e) : Fc Tryz.prog 100 [sEntries a, sEntries b, .fn (.func 99) [] []] (.tup [sEntries (mergeE cmpEn a b).1, sEntries (mergeE cmpEn a b).2]) := by
  refine Fc.mk' [6, 7] Tryz.func100 rfl Tryz.ntmps100 rfl rfl rfl (fun t w => results_tmp2 Tryz.results100 t _ w) ?_
  refine Run.seq (Run.reg [.p, .p] ?_)
  refine .ag rfl rfl <| .ag rfl rfl <| .nil ?_
  refine Run.seq (Run.reg [.p, .p] ?_)
  refine .ag rfl rfl <| .ag rfl rfl <| .nil ?_
  refine Run.seq ?_
  refine Run.block ?_
  refine Run.loop (ι := merge_ok_L0 a b) (fun sx => [(0, sEntries sx.ra), (1, sEntries sx.rb), (2, .fn (.func 99) [] []), (8, .gs 0 sx.x.length), (9, .gs 1 sx.y.length)]) (fun sx => [(0, .arr 3 (sx.x.map encEntry)), (1, .arr 3 (sx.y.map encEntry))]) (fun sx => sx.ra.length + sx.rb.length) ⟨[], [], a, b, by simp, ha, hb, by simp, by simp⟩ ?_ ?_
  · exact (Le.own0 0 3).trans <| (Le.own0 1 3).trans <| Le.mk rfl (.cons rfl (Sub.refl _) rfl (.cons rfl (Sub.refl _) rfl (.cons rfl (Sub.refl _) rfl (.cons rfl (Sub.gsNil _) rfl (.cons rfl (Sub.gsNil _) rfl .nil))))) (.arr rfl (by simp) (.arr rfl (by simp) .nil))
  · rintro ⟨x, y, ra, rb, hr, ma, mb, hxl, hyl⟩
    show Run _ _ _ _ [(0, sEntries ra), (1, sEntries rb), (2, .fn (.func 99) [] []), (8, .gs 0 x.length), (9, .gs 1 y.length)] [(0, .arr 3 (x.map encEntry)), (1, .arr 3 (y.map encEntry))]
    rcases ra with _ | ⟨u, ra⟩ <;> rcases rb with _ | ⟨v, rb⟩
    · skip
      refine Run.seq (Run.seq (Run.reg [.p, .p, .p, .p, .p, .p, .p, .p] ?_))
      refine .mv rfl rfl <| .p rfl trivial (fun _ => q_lenI Tryz.underlying22 rfl _) <| .p rfl trivial (fun _ => q_gtr rfl rfl _) <| .mv rfl rfl <| .gT rfl (.inl rfl) rfl rfl rfl (fun hg => pk (fun _ => q_move rfl _)) <| .gT rfl (.inl rfl) rfl rfl rfl (fun hg => pk (fun _ => q_lenI Tryz.underlying22 (opT rfl hg) _)) <| .gT rfl (.inl rfl) rfl rfl rfl (fun hg => pk (fun _ => q_gtr (opT rfl hg) rfl _)) <| .p rfl trivial (fun _ => q_and rfl rfl _) <| .nil ?_
      refine Run.condF rfl (by simp) ?_
      refine Run.exit (tq_exit (bq_exit ?_))
      refine Run.seq (Run.reg [.p, .p, .w, .p, .p, .w, .p, .p] ?_)
      refine .mv rfl rfl <| .mv rfl rfl <| .w rfl trivial (q_append 2 Tryz.underlying22 Tryz.underlying22 Tryz.sizeOf37 Tryz.typeInfo37 Tryz.zeroValue37 rfl (bt := 48) rfl rfl rfl rfl (by simp) rfl rfl (by simp at *; omega)) <| .mv rfl rfl <| .mv rfl rfl <| .w rfl trivial (q_append 3 Tryz.underlying22 Tryz.underlying22 Tryz.sizeOf37 Tryz.typeInfo37 Tryz.zeroValue37 rfl (bt := 48) rfl rfl rfl rfl (by simp) rfl rfl (by simp at *; omega)) <| .ag rfl rfl <| .ag rfl rfl <| .nil ?_
      refine Run.weak (Le.freeze 6 2 rfl rfl (by simp)) ?_
      refine Run.weak (Le.freeze 7 3 rfl rfl (by simp)) ?_
      refine Run.ret (?_)
      exact ret2 rfl rfl (Sub.snap (by rw [← hr]; simp [mergeE_nil1, mergeE_nil2])) (Sub.snap (by rw [← hr]; simp [mergeE_nil1, mergeE_nil2]))
    · skip
      refine Run.seq (Run.seq (Run.reg [.p, .p, .p, .p, .p, .p, .p, .p] ?_))
      refine .mv rfl rfl <| .p rfl trivial (fun _ => q_lenI Tryz.underlying22 rfl _) <| .p rfl trivial (fun _ => q_gtr rfl rfl _) <| .mv rfl rfl <| .gT rfl (.inl rfl) rfl rfl rfl (fun hg => pk (fun _ => q_move rfl _)) <| .gT rfl (.inl rfl) rfl rfl rfl (fun hg => pk (fun _ => q_lenI Tryz.underlying22 (opT rfl hg) _)) <| .gT rfl (.inl rfl) rfl rfl rfl (fun hg => pk (fun _ => q_gtr (opT rfl hg) rfl _)) <| .p rfl trivial (fun _ => q_and rfl rfl _) <| .nil ?_
      refine Run.condF rfl (by simp) ?_
      refine Run.exit (tq_exit (bq_exit ?_))
      refine Run.seq (Run.reg [.p, .p, .w, .p, .p, .w, .p, .p] ?_)
      refine .mv rfl rfl <| .mv rfl rfl <| .w rfl trivial (q_append 2 Tryz.underlying22 Tryz.underlying22 Tryz.sizeOf37 Tryz.typeInfo37 Tryz.zeroValue37 rfl (bt := 48) rfl rfl rfl rfl (by simp) rfl rfl (by simp at *; omega)) <| .mv rfl rfl <| .mv rfl rfl <| .w rfl trivial (q_append 3 Tryz.underlying22 Tryz.underlying22 Tryz.sizeOf37 Tryz.typeInfo37 Tryz.zeroValue37 rfl (bt := 48) rfl rfl rfl rfl (by simp) rfl rfl (by simp at *; omega)) <| .ag rfl rfl <| .ag rfl rfl <| .nil ?_
      refine Run.weak (Le.freeze 6 2 rfl rfl (by simp)) ?_
      refine Run.weak (Le.freeze 7 3 rfl rfl (by simp)) ?_
      refine Run.ret (?_)
      exact ret2 rfl rfl (Sub.snap (by rw [← hr]; simp [mergeE_nil1, mergeE_nil2])) (Sub.snap (by rw [← hr]; simp [mergeE_nil1, mergeE_nil2]))
    · skip
      refine Run.seq (Run.seq (Run.reg [.p, .p, .p, .p, .p, .p, .p, .p] ?_))
      refine .mv rfl rfl <| .p rfl trivial (fun _ => q_lenI Tryz.underlying22 rfl _) <| .p rfl trivial (fun _ => q_gtr rfl rfl _) <| .mv rfl rfl <| .gT rfl (.inl rfl) rfl rfl rfl (fun hg => pk (fun _ => q_move rfl _)) <| .gT rfl (.inl rfl) rfl rfl rfl (fun hg => pk (fun _ => q_lenI Tryz.underlying22 (opT rfl hg) _)) <| .gT rfl (.inl rfl) rfl rfl rfl (fun hg => pk (fun _ => q_gtr (opT rfl hg) rfl _)) <| .p rfl trivial (fun _ => q_and rfl rfl _) <| .nil ?_
      refine Run.condF rfl (by simp) ?_
      refine Run.exit (tq_exit (bq_exit ?_))
      refine Run.seq (Run.reg [.p, .p, .w, .p, .p, .w, .p, .p] ?_)
      refine .mv rfl rfl <| .mv rfl rfl <| .w rfl trivial (q_append 2 Tryz.underlying22 Tryz.underlying22 Tryz.sizeOf37 Tryz.typeInfo37 Tryz.zeroValue37 rfl (bt := 48) rfl rfl rfl rfl (by simp) rfl rfl (by simp at *; omega)) <| .mv rfl rfl <| .mv rfl rfl <| .w rfl trivial (q_append 3 Tryz.underlying22 Tryz.underlying22 Tryz.sizeOf37 Tryz.typeInfo37 Tryz.zeroValue37 rfl (bt := 48) rfl rfl rfl rfl (by simp) rfl rfl (by simp at *; omega)) <| .ag rfl rfl <| .ag rfl rfl <| .nil ?_
      refine Run.weak (Le.freeze 6 2 rfl rfl (by simp)) ?_
      refine Run.weak (Le.freeze 7 3 rfl rfl (by simp)) ?_
      refine Run.ret (?_)
      exact ret2 rfl rfl (Sub.snap (by rw [← hr]; simp [mergeE_nil1, mergeE_nil2])) (Sub.snap (by rw [← hr]; simp [mergeE_nil1, mergeE_nil2]))
    · skip
      refine Run.seq (Run.seq (Run.reg [.p, .p, .p, .p, .p, .p, .p, .p] ?_))
      refine .mv rfl rfl <| .p rfl trivial (fun _ => q_lenI Tryz.underlying22 rfl _) <| .p rfl trivial (fun _ => q_gtr rfl rfl _) <| .mv rfl rfl <| .gT rfl (.inl rfl) rfl rfl rfl (fun hg => pk (fun _ => q_move rfl _)) <| .gT rfl (.inl rfl) rfl rfl rfl (fun hg => pk (fun _ => q_lenI Tryz.underlying22 (opT rfl hg) _)) <| .gT rfl (.inl rfl) rfl rfl rfl (fun hg => pk (fun _ => q_gtr (opT rfl hg) rfl _)) <| .p rfl trivial (fun _ => q_and rfl rfl _) <| .nil ?_
      refine Run.condT rfl (by simp <;> omega) ?_
      refine Run.skip ?_
      refine Run.block ?_
      refine Run.seq (Run.regD [.p, .p, .p, .p, .p, .p, .p, .p, .p] Tryz_mixed (by decide +kernel) ?_)
      refine .mv rfl rfl <| .mv rfl rfl <| .p rfl trivial (fun _ => q_indexI Tryz.underlying22 Tryz.sizeOf37 rfl rfl (by decide) rfl _) <| .p rfl trivial (fun _ => q_loadIA Tryz.isAgg37 Tryz.sizeOf37 rfl rfl _) <| .mv rfl rfl <| .p rfl trivial (fun _ => q_indexI Tryz.underlying22 Tryz.sizeOf37 rfl rfl (by decide) rfl _) <| .p rfl trivial (fun _ => q_loadIA Tryz.isAgg37 Tryz.sizeOf37 rfl rfl _) <| .p rfl trivial (fun _ => q_callF Tryz.call99 rfl rfl (cmpEn_ok _ _ (fun l hl => ((ma u (by simp)).2.2 l hl).2.2) (fun l hl => ((mb v (by simp)).2.2 l hl).2.2)) _) <| .ag rfl rfl <| .nil ?_
      refine Run.block ?_
      refine Run.seq (Run.reg [.p, .p, .p] ?_)
      refine .mv rfl rfl <| .p rfl trivial (fun _ => q_lss rfl rfl _) <| .ag rfl rfl <| .nil ?_
      refine Run.cond rfl (fun h1 => ?_) (fun h1 => ?_)
      · have ph1 := h1
        try simp only [bs, bne_iff_ne, ne_eq, List.length_map] at ph1
        refine Run.regD [.p, .p, .p, .p, .p, .w, .p, .p, .p, .p] Tryz_mixed (by decide +kernel) ?_
        refine .mv rfl rfl <| .mv rfl rfl <| .p rfl trivial (fun _ => q_indexI Tryz.underlying22 Tryz.sizeOf37 rfl rfl (by decide) rfl _) <| .p rfl trivial (fun _ => q_loadIA Tryz.isAgg37 Tryz.sizeOf37 rfl rfl _) <| .p rfl trivial (fun _ => q_buildSlice' (n := 1) (rows := [u].map encEntry) Tryz.underlying22 Tryz.sizeOf37 rfl rfl rfl Tryz.zeroValue37 rfl rfl rfl rfl rfl rfl rfl _) <| .w rfl trivial (q_append 2 Tryz.underlying22 Tryz.underlying22 Tryz.sizeOf37 Tryz.typeInfo37 Tryz.zeroValue37 rfl (bt := 48) rfl rfl rfl rfl (by simp) rfl rfl (by simp at *; omega)) <| .mv rfl rfl <| .p rfl trivial (fun _ => q_sliceI Tryz.underlying22 Tryz.sizeOf37 rfl (l := 1) (r := ra.map encEntry) (.inr ⟨_, _, rfl, rfl⟩) (.inl ⟨rfl, rfl⟩) (by simp) (by simp) (List.take_of_length_le (by simp)) _) <| .ag rfl rfl <| .ag rfl rfl <| .nil ?_
        refine Run.nil (bq_norm ?_)
        refine Run.nil (bq_norm ?_)
        refine Run.nil (tq_norm ?_)
        exact ⟨⟨x ++ [u], y, ra, v :: rb, by rw [← hr, mergeE_step]; (first | rw [if_pos (by omega)] | rw [if_neg (by omega), if_pos (by omega)] | rw [if_neg (by omega), if_neg (by omega)]); simp, fun e he => ma e (by simp_all), fun e he => mb e (by simp_all), by first | omega | (simp only [List.length_append, List.length_cons, List.length_nil] at *; omega), by first | omega | (simp only [List.length_append, List.length_cons, List.length_nil] at *; omega)⟩, by first | (simp; done) | (simp; omega), (Le.mk (obs' := [(2, _), (1, _)]) rfl (show EnvLe _ _ [(0, _), (1, _), (2, _), (8, _), (9, _)] from (.same rfl rfl (.same rfl rfl (.same rfl rfl (.same rfl rfl (.same rfl rfl .nil)))))) (.cons (i := 2) rfl rfl (.cons (i := 1) rfl rfl .nil))).trans <| (Le.ren 8 2 0 rfl rfl (by simp) rfl).trans <| Le.mk rfl (.cons rfl (Sub.refl _) rfl (.cons rfl (Sub.refl _) rfl (.cons rfl (Sub.refl _) rfl (.cons rfl (Sub.gs (by simp)) rfl (.cons rfl (Sub.gs (by simp)) rfl .nil))))) (.arr rfl (by simp) (.arr rfl (by simp) .nil))⟩
      · have ph1 := h1
        try simp only [bs, bne_iff_ne, ne_eq, List.length_map] at ph1
        refine Run.seq (Run.reg [.p, .p, .p] ?_)
        refine .mv rfl rfl <| .p rfl trivial (fun _ => q_gtr rfl rfl _) <| .ag rfl rfl <| .nil ?_
        refine Run.cond rfl (fun h2 => ?_) (fun h2 => ?_)
        · have ph2 := h2
          try simp only [bs, bne_iff_ne, ne_eq, List.length_map] at ph2
          refine Run.regD [.p, .p, .p, .p, .p, .w, .p, .p, .p, .p] Tryz_mixed (by decide +kernel) ?_
          refine .mv rfl rfl <| .mv rfl rfl <| .p rfl trivial (fun _ => q_indexI Tryz.underlying22 Tryz.sizeOf37 rfl rfl (by decide) rfl _) <| .p rfl trivial (fun _ => q_loadIA Tryz.isAgg37 Tryz.sizeOf37 rfl rfl _) <| .p rfl trivial (fun _ => q_buildSlice' (n := 1) (rows := [v].map encEntry) Tryz.underlying22 Tryz.sizeOf37 rfl rfl rfl Tryz.zeroValue37 rfl rfl rfl rfl rfl rfl rfl _) <| .w rfl trivial (q_append 2 Tryz.underlying22 Tryz.underlying22 Tryz.sizeOf37 Tryz.typeInfo37 Tryz.zeroValue37 rfl (bt := 48) rfl rfl rfl rfl (by simp) rfl rfl (by simp at *; omega)) <| .mv rfl rfl <| .p rfl trivial (fun _ => q_sliceI Tryz.underlying22 Tryz.sizeOf37 rfl (l := 1) (r := rb.map encEntry) (.inr ⟨_, _, rfl, rfl⟩) (.inl ⟨rfl, rfl⟩) (by simp) (by simp) (List.take_of_length_le (by simp)) _) <| .ag rfl rfl <| .ag rfl rfl <| .nil ?_
          refine Run.nil (bq_norm ?_)
          refine Run.nil (bq_norm ?_)
          refine Run.nil (tq_norm ?_)
          exact ⟨⟨x, y ++ [v], u :: ra, rb, by rw [← hr, mergeE_step]; (first | rw [if_pos (by omega)] | rw [if_neg (by omega), if_pos (by omega)] | rw [if_neg (by omega), if_neg (by omega)]); simp, fun e he => ma e (by simp_all), fun e he => mb e (by simp_all), by first | omega | (simp only [List.length_append, List.length_cons, List.length_nil] at *; omega), by first | omega | (simp only [List.length_append, List.length_cons, List.length_nil] at *; omega)⟩, by first | (simp; done) | (simp; omega), (Le.mk (obs' := [(0, _), (2, _)]) rfl (show EnvLe _ _ [(0, _), (1, _), (2, _), (8, _), (9, _)] from (.same rfl rfl (.same rfl rfl (.same rfl rfl (.same rfl rfl (.same rfl rfl .nil)))))) (.cons (i := 0) rfl rfl (.cons (i := 2) rfl rfl .nil))).trans <| (Le.ren 9 2 1 rfl rfl (by simp) rfl).trans <| Le.mk rfl (.cons rfl (Sub.refl _) rfl (.cons rfl (Sub.refl _) rfl (.cons rfl (Sub.refl _) rfl (.cons rfl (Sub.gs (by simp)) rfl (.cons rfl (Sub.gs (by simp)) rfl .nil))))) (.arr rfl (by simp) (.arr rfl (by simp) .nil))⟩
        · have ph2 := h2
          try simp only [bs, bne_iff_ne, ne_eq, List.length_map] at ph2
          refine Run.regD [.p, .p, .p, .p, .p, .p] Tryz_mixed (by decide +kernel) ?_
          refine .mv rfl rfl <| .p rfl trivial (fun _ => q_sliceI Tryz.underlying22 Tryz.sizeOf37 rfl (l := 1) (r := ra.map encEntry) (.inr ⟨_, _, rfl, rfl⟩) (.inl ⟨rfl, rfl⟩) (by simp) (by simp) (List.take_of_length_le (by simp)) _) <| .mv rfl rfl <| .p rfl trivial (fun _ => q_sliceI Tryz.underlying22 Tryz.sizeOf37 rfl (l := 1) (r := rb.map encEntry) (.inr ⟨_, _, rfl, rfl⟩) (.inl ⟨rfl, rfl⟩) (by simp) (by simp) (List.take_of_length_le (by simp)) _) <| .ag rfl rfl <| .ag rfl rfl <| .nil ?_
          refine Run.nil (bq_norm ?_)
          refine Run.nil (bq_norm ?_)
          refine Run.nil (tq_norm ?_)
          exact ⟨⟨x, y, ra, rb, by rw [← hr, mergeE_step]; (first | rw [if_pos (by omega)] | rw [if_neg (by omega), if_pos (by omega)] | rw [if_neg (by omega), if_neg (by omega)]), fun e he => ma e (by simp_all), fun e he => mb e (by simp_all), by first | omega | (simp only [List.length_append, List.length_cons, List.length_nil] at *; omega), by first | omega | (simp only [List.length_append, List.length_cons, List.length_nil] at *; omega)⟩, by first | (simp; done) | (simp; omega), Le.mk rfl (.cons rfl (Sub.refl _) rfl (.cons rfl (Sub.refl _) rfl (.cons rfl (Sub.refl _) rfl (.cons rfl (Sub.gs (by simp)) rfl (.cons rfl (Sub.gs (by simp)) rfl .nil))))) (.arr rfl (by simp) (.arr rfl (by simp) .nil))⟩
end Go.T
namespace Go.T
open Go Go.Proofs
set_option maxRecDepth 20000
theorem clone7600_ok (l : List Entry) (hs : l.length ≤ 1000) : FcO Tryz.prog 97 [sEntries l] [] (.gs 7600 l.length) [(7600, .arr 3 (l.map encEntry))] := by
  refine FcO.mk' [2] Tryz.func97 rfl Tryz.ntmps97 rfl rfl rfl (fun t w => results_tmp Tryz.results97 t _ w) ?_
  refine Run.seq (Run.reg [.p] ?_)
  refine .ag rfl rfl <| .nil ?_
  refine Run.seq (Run.seq (Run.regT ?_))
  refine Tx.q rfl trivial (q_move rfl _) ?_
  refine Tx.n rfl trivial (q_eqlNilN Tryz.underlying22 rfl rfl _) (fun nb hnb => ?_)
  dsimp only
  refine Tx.nil ?_
  refine Run.cond rfl (fun h1 => ?_) (fun h1 => ?_)
  · have ph1 := h1
    try simp only [bs, bne_iff_ne, ne_eq, List.length_map] at ph1
    refine Run.seq (Run.reg [.p] ?_)
    refine .ag rfl rfl <| .nil ?_
    have hl0 : l = [] := by
      by_cases hc : l = []
      · exact hc
      · have := hnb (by simpa using hc); simp_all
    subst hl0
    refine Run.weak (Le.own0 7600 3) ?_
    refine Run.ret (?_)
    exact retO1 rfl (by exact Sub.gsNil _) (.eq rfl (by first | rfl | simp) rfl .nil)
  · have ph1 := h1
    try simp only [bs, bne_iff_ne, ne_eq, List.length_map] at ph1
    refine Run.skip ?_
    refine Run.seq (Run.reg [.p, .p, .w, .p] ?_)
    refine .p rfl trivial (fun _ => q_buildSlice0 Tryz.underlying22 Tryz.sizeOf37 _) <| .mv rfl rfl <| .w rfl trivial (QStep.own0 7599 3 (t := 5) rfl (Sub.gsEmpty _ _) (q_append 7600 Tryz.underlying22 Tryz.underlying22 Tryz.sizeOf37 Tryz.typeInfo37 Tryz.zeroValue37 rfl (bt := 48) rfl rfl rfl rfl rfl rfl rfl (by simp; omega))) <| .ag rfl rfl <| .nil ?_
    refine Run.ret (?_)
    exact retO1 rfl (by exact Sub.gs (by simp)) (.eq rfl (by first | rfl | simp) rfl .nil)
theorem clone7700_ok (l : List Entry) (hs : l.length ≤ 1000) : FcO Tryz.prog 97 [sEntries l] [] (.gs 7700 l.length) [(7700, .arr 3 (l.map encEntry))] := by
  refine FcO.mk' [2] Tryz.func97 rfl Tryz.ntmps97 rfl rfl rfl (fun t w => results_tmp Tryz.results97 t _ w) ?_
  refine Run.seq (Run.reg [.p] ?_)
  refine .ag rfl rfl <| .nil ?_
  refine Run.seq (Run.seq (Run.regT ?_))
  refine Tx.q rfl trivial (q_move rfl _) ?_
  refine Tx.n rfl trivial (q_eqlNilN Tryz.underlying22 rfl rfl _) (fun nb hnb => ?_)
  dsimp only
  refine Tx.nil ?_
  refine Run.cond rfl (fun h1 => ?_) (fun h1 => ?_)
  · have ph1 := h1
    try simp only [bs, bne_iff_ne, ne_eq, List.length_map] at ph1
    refine Run.seq (Run.reg [.p] ?_)
    refine .ag rfl rfl <| .nil ?_
    have hl0 : l = [] := by
      by_cases hc : l = []
      · exact hc
      · have := hnb (by simpa using hc); simp_all
    subst hl0
    refine Run.weak (Le.own0 7700 3) ?_
    refine Run.ret (?_)
    exact retO1 rfl (by exact Sub.gsNil _) (.eq rfl (by first | rfl | simp) rfl .nil)
  · have ph1 := h1
    try simp only [bs, bne_iff_ne, ne_eq, List.length_map] at ph1
    refine Run.skip ?_
    refine Run.seq (Run.reg [.p, .p, .w, .p] ?_)
    refine .p rfl trivial (fun _ => q_buildSlice0 Tryz.underlying22 Tryz.sizeOf37 _) <| .mv rfl rfl <| .w rfl trivial (QStep.own0 7699 3 (t := 5) rfl (Sub.gsEmpty _ _) (q_append 7700 Tryz.underlying22 Tryz.underlying22 Tryz.sizeOf37 Tryz.typeInfo37 Tryz.zeroValue37 rfl (bt := 48) rfl rfl rfl rfl rfl rfl rfl (by simp; omega))) <| .ag rfl rfl <| .nil ?_
    refine Run.ret (?_)
    exact retO1 rfl (by exact Sub.gs (by simp)) (.eq rfl (by first | rfl | simp) rfl .nil)
end Go.T
namespace Go.T
open Go Go.Proofs
set_option maxRecDepth 20000
structure ins7600_ok_L0 (l : List Entry) where
  pre : List Entry
  rest : List Entry
  hf : rest.foldl (insI cmpEn) pre.reverse = l.foldl (insI cmpEn) []
  hpl : pre.length + rest.length = l.length
  h1 : pre.length ≠ 0
  mp : ∀ e ∈ pre, smallE e
  mr : ∀ e ∈ rest, smallE e
structure ins7600_ok_L1 (l : List Entry) (pre : List Entry) (x : Entry) (rest : List Entry) where
  p : List Entry
  q : List Entry
  hr : q.reverse ++ insI cmpEn p.reverse x = insI cmpEn pre.reverse x
  hpq : p.length + q.length = pre.length
  ms : ∀ e ∈ p, smallE e
  mq : ∀ e ∈ q, smallE e
theorem ins7600_ok (l : List Entry) (hl : l.length ≤ 1000) (hs : ∀ e ∈ l, smallE e) (h0 : l ≠ []) : FcO Tryz.prog 194 [.gs 7600 l.length, .i 0, .i l.length, .fn (.func 99) [] []] [(7600, .arr 3 (l.map encEntry))] (.tup []) [(7600, .arr 3 ((sortI cmpEn l).map encEntry))] := by
  refine FcO.mk' [] Tryz.func194 rfl Tryz.ntmps194 rfl rfl rfl (fun t w => results_none Tryz.results194 t _ w) ?_
  have hl0 : l.length ≠ 0 := fun e => h0 (List.length_eq_zero_iff.1 e)
  refine Run.seq (Run.reg [.p, .p, .p] ?_)
  refine .mv rfl rfl <| .p rfl trivial (fun _ => q_add rfl rfl (wrap64_ok (by first | omega | (simp; done) | (simp; omega) | (simp at *; omega)) (by first | omega | (simp; done) | (simp; omega) | (simp at *; omega))) _) <| .ag rfl rfl <| .nil ?_
  refine Run.block ?_
  refine Run.loop (ι := ins7600_ok_L0 l) (fun sx => [(0, .gs 7600 l.length), (1, .i 0), (2, .i l.length), (3, .fn (.func 99) [] []), (8, .i sx.pre.length)]) (fun sx => [(7600, .arr 3 ((sx.pre ++ sx.rest).map encEntry))]) (fun sx => sx.rest.length) ⟨l.take 1, l.drop 1, by cases l <;> rfl, by simp; omega, by simp; omega, fun e he => hs e (List.mem_of_mem_take he), fun e he => hs e (List.mem_of_mem_drop he)⟩ ?_ ?_
  · exact Le.mk rfl (.cons rfl (Sub.gs (by simp)) rfl (.cons rfl (Sub.int (by first | rfl | (simp; done) | omega | (simp; omega))) rfl (.cons rfl (Sub.int (by first | rfl | (simp; done) | omega | (simp; omega))) rfl (.cons rfl (Sub.refl _) rfl (.cons rfl (Sub.int (by first | rfl | (simp; done) | omega | (simp; omega))) rfl .nil))))) (.arr rfl (by first | (rw [List.take_append_drop]; done) | (simp; done)) .nil)
  · rintro ⟨pre, rest, hf, hpl, h1, mp, mr⟩
    show Run _ _ _ _ [(0, .gs 7600 l.length), (1, .i 0), (2, .i l.length), (3, .fn (.func 99) [] []), (8, .i pre.length)] [(7600, .arr 3 ((pre ++ rest).map encEntry))]
    rcases rest with _ | ⟨x, rest⟩
    · skip
      refine Run.seq (Run.seq (Run.reg [.p, .p, .p] ?_))
      refine .mv rfl rfl <| .mv rfl rfl <| .p rfl trivial (fun _ => q_lss rfl rfl _) <| .nil ?_
      refine Run.condF rfl (by simp at *; omega) ?_
      refine Run.exit (tq_exit (bq_exit ?_))
      refine Run.nil ?_
      exact retO0n  (Sub.refl _) (.eq rfl (by simp [sortI, ← hf]) rfl .nil)
    · have hxs := mr x (by simp)
      simp only [List.length_cons] at hpl
      refine Run.seq (Run.seq (Run.reg [.p, .p, .p] ?_))
      refine .mv rfl rfl <| .mv rfl rfl <| .p rfl trivial (fun _ => q_lss rfl rfl _) <| .nil ?_
      refine Run.condT rfl (by simp; omega) ?_
      refine Run.skip ?_
      refine Run.seq ?_
      refine Run.block ?_
      refine Run.seq (Run.reg [.p, .p] ?_)
      refine .mv rfl rfl <| .ag rfl rfl <| .nil ?_
      refine Run.block ?_
      refine Run.loop (ι := ins7600_ok_L1 l pre x rest) (fun sx => [(0, .gs 7600 l.length), (1, .i 0), (2, .i l.length), (3, .fn (.func 99) [] []), (8, .i pre.length), (9, .i sx.p.length)]) (fun sx => [(7600, .arr 3 ((sx.p ++ x :: (sx.q ++ rest)).map encEntry))]) (fun sx => sx.p.length) ⟨pre, [], by simp, by simp, mp, by simp⟩ ?_ ?_
      · exact Le.mk rfl (.cons rfl (Sub.gs (by simp)) rfl (.cons rfl (Sub.int (by first | rfl | (simp; done) | omega | (simp; omega))) rfl (.cons rfl (Sub.int (by first | rfl | (simp; done) | omega | (simp; omega))) rfl (.cons rfl (Sub.refl _) rfl (.cons rfl (Sub.int (by first | rfl | (simp; done) | omega | (simp; omega))) rfl (.cons rfl (Sub.int (by first | rfl | (simp; done) | omega | (simp; omega))) rfl .nil)))))) (.arr rfl (by first | (simp; done) | exact swap_rows p y x (q ++ rest)) .nil)
      · rintro ⟨p, q, hr, hpq, ms, mq⟩
        show Run _ _ _ _ [(0, .gs 7600 l.length), (1, .i 0), (2, .i l.length), (3, .fn (.func 99) [] []), (8, .i pre.length), (9, .i p.length)] [(7600, .arr 3 ((p ++ x :: (q ++ rest)).map encEntry))]
        rcases snoc_cases p with rfl | ⟨p, y, rfl⟩
        · simp only [List.length_nil] at hpq
          refine Run.seq (Run.seq (Run.regD [.p, .p, .p, .p, .p, .p, .p, .p, .r, .p, .p, .p, .p, .r, .p, .p, .p] Tryz_mixed (by decide +kernel) ?_))
          refine .mv rfl rfl <| .mv rfl rfl <| .p rfl trivial (fun _ => q_gtr rfl rfl _) <| .mv rfl rfl ?_
          refine .off rfl (off_of rfl rfl rfl (by simp)) ?_
          refine .off rfl (off_of rfl rfl rfl (by simp)) ?_
          refine .off rfl (off_of rfl rfl rfl (by simp)) ?_
          refine .off rfl (off_of rfl rfl rfl (by simp)) ?_
          refine .off rfl (off_of rfl rfl rfl (by simp)) ?_
          refine .off rfl (off_of rfl rfl rfl (by simp)) ?_
          refine .off rfl (off_of rfl rfl rfl (by simp)) ?_
          refine .off rfl (off_of rfl rfl rfl (by simp)) ?_
          refine .off rfl (off_of rfl rfl rfl (by simp)) ?_
          refine .off rfl (off_of rfl rfl rfl (by simp)) ?_
          refine .off rfl (off_of rfl rfl rfl (by simp)) ?_
          refine .off rfl (off_of rfl rfl rfl (by simp)) ?_
          refine .p rfl trivial (fun _ => q_pickF rfl (by simp) rfl _) <| .nil ?_
          refine Run.condF rfl rfl ?_
          refine Run.exit (tq_exit (bq_exit ?_))
          refine Run.nil (bq_norm ?_)
          refine Run.reg [.p, .p, .p] ?_
          refine .mv rfl rfl <| .p rfl trivial (fun _ => q_add rfl rfl (wrap64_ok (by first | omega | (simp; done) | (simp; omega) | (simp at *; omega)) (by first | omega | (simp; done) | (simp; omega) | (simp at *; omega))) _) <| .ag rfl rfl <| .nil ?_
          refine Run.nil (tq_norm ?_)
          exact ⟨⟨[] ++ x :: q, rest, by rw [← hf, List.foldl_cons, ins_done1 hr], by simp at *; omega, by simp, by simp; exact ⟨hxs, mq⟩, fun e he => mr e (by simp [he])⟩, by simp, Le.mk rfl (.cons rfl (Sub.gs (by simp)) rfl (.cons rfl (Sub.int (by first | rfl | (simp; done) | omega | (simp; omega))) rfl (.cons rfl (Sub.int (by first | rfl | (simp; done) | omega | (simp; omega))) rfl (.cons rfl (Sub.refl _) rfl (.cons rfl (Sub.int (by first | rfl | (simp; done) | omega | (simp; omega))) rfl .nil))))) (.arr rfl (by first | (rw [List.take_append_drop]; done) | (simp; done)) .nil)⟩
        · simp only [List.length_append, List.length_singleton] at hpq
          refine Run.seq (Run.seq (Run.regD [.p, .p, .p, .p, .p, .p, .p, .p, .r, .p, .p, .p, .p, .r, .p, .p, .p] Tryz_mixed (by decide +kernel) ?_))
          refine .mv rfl rfl <| .mv rfl rfl <| .p rfl trivial (fun _ => q_gtr rfl rfl _) <| .mv rfl rfl <| .p rfl (on_of rfl rfl rfl (by first | (simp; done) | (simp; omega))) (fun _ => q_move rfl _) <| .p rfl (on_of rfl rfl rfl (by first | (simp; done) | (simp; omega))) (fun _ => q_move rfl _) <| .p rfl (on_of rfl rfl rfl (by first | (simp; done) | (simp; omega))) (fun _ => q_move rfl _) <| .p rfl (on_of rfl rfl rfl (by first | (simp; done) | (simp; omega))) (fun _ => q_indexG (off := ((p ++ [y]).length) * 3) Tryz.underlying22 Tryz.sizeOf37 rfl rfl (by first | omega | (simp; done) | (simp; omega) | (simp at *; omega)) (by first | (simp; done) | (simp; omega) | (simp at *; omega)) (by first | omega | (simp; done) | (simp; omega) | (simp at *; omega)) _) <| .r rfl (on_of rfl rfl rfl (by first | (simp; done) | (simp; omega))) (q_loadGA (j := (p ++ [y]).length) (r := _) Tryz.isAgg37 Tryz.sizeOf37 rfl rfl rfl rfl (rowX p y x (q ++ rest))) <| .p rfl (on_of rfl rfl rfl (by first | (simp; done) | (simp; omega))) (fun _ => q_move rfl _) <| .p rfl (on_of rfl rfl rfl (by first | (simp; done) | (simp; omega))) (fun _ => q_move rfl _) <| .p rfl (on_of rfl rfl rfl (by first | (simp; done) | (simp; omega))) (fun _ => q_sub rfl rfl (wrap64_ok (by first | omega | (simp; done) | (simp; omega) | (simp at *; omega)) (by first | omega | (simp; done) | (simp; omega) | (simp at *; omega))) _) <| .p rfl (on_of rfl rfl rfl (by first | (simp; done) | (simp; omega))) (fun _ => q_indexG (off := (p.length) * 3) Tryz.underlying22 Tryz.sizeOf37 rfl rfl (by first | omega | (simp; done) | (simp; omega) | (simp at *; omega)) (by first | (simp; done) | (simp; omega) | (simp at *; omega)) (by first | omega | (simp; done) | (simp; omega) | (simp at *; omega)) _) ?_
          refine .r rfl (on_of rfl rfl rfl (by first | (simp; done) | (simp; omega))) (q_loadGA (j := p.length) (r := _) Tryz.isAgg37 Tryz.sizeOf37 rfl rfl rfl rfl (rowY p y x (q ++ rest))) <| .p rfl (on_of rfl rfl rfl (by first | (simp; done) | (simp; omega))) (fun _ => q_callF Tryz.call99 rfl rfl (cmpEn_ok x y (fun m hm => (hxs.2.2 m hm).2.2) (fun m hm => ((ms y (by simp)).2.2 m hm).2.2)) _) <| .p rfl (on_of rfl rfl rfl (by first | (simp; done) | (simp; omega))) (fun _ => q_lss rfl rfl _) <| .p rfl trivial (fun _ => q_pickT rfl (by first | (simp; done) | (simp; omega)) rfl _) <| .nil ?_
          refine Run.cond rfl (fun h1 => ?_) (fun h1 => ?_)
          · have ph1 := h1
            try simp only [bs, bne_iff_ne, ne_eq, List.length_map] at ph1
            refine Run.skip ?_
            refine Run.seq ?_
            refine Run.block ?_
            refine Run.regD [.p, .p, .p, .p, .p, .p, .p, .p, .p, .r, .p, .p, .p, .r, .p, .w, .p, .w] Tryz_mixed (by decide +kernel) ?_
            refine .mv rfl rfl <| .mv rfl rfl <| .mv rfl rfl <| .mv rfl rfl <| .p rfl trivial (fun _ => q_sub rfl rfl (wrap64_ok (by first | omega | (simp; done) | (simp; omega) | (simp at *; omega)) (by first | omega | (simp; done) | (simp; omega) | (simp at *; omega))) _) <| .mv rfl rfl <| .mv rfl rfl <| .p rfl trivial (fun _ => q_sub rfl rfl (wrap64_ok (by first | omega | (simp; done) | (simp; omega) | (simp at *; omega)) (by first | omega | (simp; done) | (simp; omega) | (simp at *; omega))) _) <| .p rfl trivial (fun _ => q_indexG (off := (p.length) * 3) Tryz.underlying22 Tryz.sizeOf37 rfl rfl (by first | omega | (simp; done) | (simp; omega) | (simp at *; omega)) (by first | (simp; done) | (simp; omega) | (simp at *; omega)) (by first | omega | (simp; done) | (simp; omega) | (simp at *; omega)) _) <| .r rfl trivial (q_loadGA (j := p.length) (r := _) Tryz.isAgg37 Tryz.sizeOf37 rfl rfl rfl rfl (rowY p y x (q ++ rest))) <| .mv rfl rfl <| .mv rfl rfl <| .p rfl trivial (fun _ => q_indexG (off := ((p ++ [y]).length) * 3) Tryz.underlying22 Tryz.sizeOf37 rfl rfl (by first | omega | (simp; done) | (simp; omega) | (simp at *; omega)) (by first | (simp; done) | (simp; omega) | (simp at *; omega)) (by first | omega | (simp; done) | (simp; omega) | (simp at *; omega)) _) <| .r rfl trivial (q_loadGA (j := (p ++ [y]).length) (r := _) Tryz.isAgg37 Tryz.sizeOf37 rfl rfl rfl rfl (rowX p y x (q ++ rest))) <| .p rfl trivial (fun _ => q_indexG (off := ((p ++ [y]).length) * 3) Tryz.underlying22 Tryz.sizeOf37 rfl rfl (by first | omega | (simp; done) | (simp; omega) | (simp at *; omega)) (by first | (simp; done) | (simp; omega) | (simp at *; omega)) (by first | omega | (simp; done) | (simp; omega) | (simp at *; omega)) _) ?_
            refine .w rfl trivial (q_storeGA (j := (p ++ [y]).length) Tryz.sizeOf37 rfl rfl rfl rfl rfl rfl rfl rfl (by simp)) <| .p rfl trivial (fun _ => q_indexG (off := (p.length) * 3) Tryz.underlying22 Tryz.sizeOf37 rfl rfl (by first | omega | (simp; done) | (simp; omega) | (simp at *; omega)) (by first | (simp; done) | (simp; omega) | (simp at *; omega)) (by first | omega | (simp; done) | (simp; omega) | (simp at *; omega)) _) <| .w rfl trivial (q_storeGA (j := p.length) Tryz.sizeOf37 rfl rfl rfl rfl rfl rfl rfl rfl (by simp)) <| .nil ?_
            refine Run.nil (bq_norm ?_)
            refine Run.reg [.p, .p, .p] ?_
            refine .mv rfl rfl <| .p rfl trivial (fun _ => q_sub rfl rfl (wrap64_ok (by first | omega | (simp; done) | (simp; omega) | (simp at *; omega)) (by first | omega | (simp; done) | (simp; omega) | (simp at *; omega))) _) <| .ag rfl rfl <| .nil ?_
            refine Run.nil (tq_norm ?_)
            exact ⟨⟨p, y :: q, by rw [← hr]; simp only [List.reverse_append, List.reverse_cons, List.reverse_nil, List.nil_append, List.singleton_append, insI]; rw [if_pos (by simpa using ‹decide _ = true›)]; simp, by simp at *; omega, fun e he => ms e (by simp [he]), by intro e he; rcases List.mem_cons.1 he with rfl | h; exact ms _ (by simp); exact mq e h⟩, by simp, Le.mk rfl (.cons rfl (Sub.gs (by simp)) rfl (.cons rfl (Sub.int (by first | rfl | (simp; done) | omega | (simp; omega))) rfl (.cons rfl (Sub.int (by first | rfl | (simp; done) | omega | (simp; omega))) rfl (.cons rfl (Sub.refl _) rfl (.cons rfl (Sub.int (by first | rfl | (simp; done) | omega | (simp; omega))) rfl (.cons rfl (Sub.int (by first | rfl | (simp; done) | omega | (simp; omega))) rfl .nil)))))) (.arr rfl (by first | (simp; done) | exact swap_rows p y x (q ++ rest)) .nil)⟩
          · have ph1 := h1
            try simp only [bs, bne_iff_ne, ne_eq, List.length_map] at ph1
            refine Run.exit (tq_exit (bq_exit ?_))
            refine Run.nil (bq_norm ?_)
            refine Run.reg [.p, .p, .p] ?_
            refine .mv rfl rfl <| .p rfl trivial (fun _ => q_add rfl rfl (wrap64_ok (by first | omega | (simp; done) | (simp; omega) | (simp at *; omega)) (by first | omega | (simp; done) | (simp; omega) | (simp at *; omega))) _) <| .ag rfl rfl <| .nil ?_
            refine Run.nil (tq_norm ?_)
            exact ⟨⟨(p ++ [y]) ++ x :: q, rest, by rw [← hf, List.foldl_cons, ins_done2 hr (by omega)], by simp at *; omega, by simp, by intro e he; rcases List.mem_append.1 he with h | h; exact ms e h; rcases List.mem_cons.1 h with rfl | h; exact hxs; exact mq e h, fun e he => mr e (by simp [he])⟩, by simp, Le.mk rfl (.cons rfl (Sub.gs (by simp)) rfl (.cons rfl (Sub.int (by first | rfl | (simp; done) | omega | (simp; omega))) rfl (.cons rfl (Sub.int (by first | rfl | (simp; done) | omega | (simp; omega))) rfl (.cons rfl (Sub.refl _) rfl (.cons rfl (Sub.int (by first | rfl | (simp; done) | omega | (simp; omega))) rfl .nil))))) (.arr rfl (by first | (rw [List.take_append_drop]; done) | (simp; done)) .nil)⟩
structure insN7600_ok_L0  where
  u : Unit
theorem insN7600_ok  : FcO Tryz.prog 194 [.gs 7600 0, .i 0, .i 0, .fn (.func 99) [] []] [(7600, .arr 3 [])] (.tup []) [(7600, .arr 3 [])] := by
  refine FcO.mk' [] Tryz.func194 rfl Tryz.ntmps194 rfl rfl rfl (fun t w => results_none Tryz.results194 t _ w) ?_
  refine Run.seq (Run.reg [.p, .p, .p] ?_)
  refine .mv rfl rfl <| .p rfl trivial (fun _ => q_add rfl rfl (wrap64_ok (by omega) (by omega)) _) <| .ag rfl rfl <| .nil ?_
  refine Run.block ?_
  refine Run.loop (ι := insN7600_ok_L0) (fun sx => [(2, .i 0), (8, .i 1)]) (fun sx => [(7600, .arr 3 [])]) (fun sx => 0) ⟨()⟩ ?_ ?_
  · exact Le.mk rfl (.cons rfl (Sub.int (by first | rfl | (simp; done) | omega | (simp; omega))) rfl (.cons rfl (Sub.int (by first | rfl | (simp; done) | omega | (simp; omega))) rfl .nil)) (.arr rfl (by simp) .nil)
  · rintro ⟨u⟩
    show Run _ _ _ _ [(2, .i 0), (8, .i 1)] [(7600, .arr 3 [])]
    skip
    · skip
      refine Run.seq (Run.seq (Run.reg [.p, .p, .p] ?_))
      refine .mv rfl rfl <| .mv rfl rfl <| .p rfl trivial (fun _ => q_lss rfl rfl _) <| .nil ?_
      refine Run.condF rfl (rfl) ?_
      refine Run.exit (tq_exit (bq_exit ?_))
      refine Run.nil ?_
      exact retO0n  (Sub.refl _) (.eq rfl (by rfl) rfl .nil)
theorem insA7600_ok (l : List Entry) (hl : l.length ≤ 1000) (hs : ∀ e ∈ l, smallE e) : FcO Tryz.prog 194 [.gs 7600 l.length, .i 0, .i l.length, .fn (.func 99) [] []] [(7600, .arr 3 (l.map encEntry))] (.tup []) [(7600, .arr 3 ((sortI cmpEn l).map encEntry))] := by
  by_cases h : l = []
  · subst h; exact insN7600_ok
  · exact ins7600_ok l hl hs h
structure ins7700_ok_L0 (l : List Entry) where
  pre : List Entry
  rest : List Entry
  hf : rest.foldl (insI cmpEn) pre.reverse = l.foldl (insI cmpEn) []
  hpl : pre.length + rest.length = l.length
  h1 : pre.length ≠ 0
  mp : ∀ e ∈ pre, smallE e
  mr : ∀ e ∈ rest, smallE e
structure ins7700_ok_L1 (l : List Entry) (pre : List Entry) (x : Entry) (rest : List Entry) where
  p : List Entry
  q : List Entry
  hr : q.reverse ++ insI cmpEn p.reverse x = insI cmpEn pre.reverse x
  hpq : p.length + q.length = pre.length
  ms : ∀ e ∈ p, smallE e
  mq : ∀ e ∈ q, smallE e
theorem ins7700_ok (l : List Entry) (hl : l.length ≤ 1000) (hs : ∀ e ∈ l, smallE e) (h0 : l ≠ []) : FcO Tryz.prog 194 [.gs 7700 l.length, .i 0, .i l.length, .fn (.func 99) [] []] [(7700, .arr 3 (l.map encEntry))] (.tup []) [(7700, .arr 3 ((sortI cmpEn l).map encEntry))] := by
  refine FcO.mk' [] Tryz.func194 rfl Tryz.ntmps194 rfl rfl rfl (fun t w => results_none Tryz.results194 t _ w) ?_
  have hl0 : l.length ≠ 0 := fun e => h0 (List.length_eq_zero_iff.1 e)
  refine Run.seq (Run.reg [.p, .p, .p] ?_)
  refine .mv rfl rfl <| .p rfl trivial (fun _ => q_add rfl rfl (wrap64_ok (by first | omega | (simp; done) | (simp; omega) | (simp at *; omega)) (by first | omega | (simp; done) | (simp; omega) | (simp at *; omega))) _) <| .ag rfl rfl <| .nil ?_
  refine Run.block ?_
  refine Run.loop (ι := ins7700_ok_L0 l) (fun sx => [(0, .gs 7700 l.length), (1, .i 0), (2, .i l.length), (3, .fn (.func 99) [] []), (8, .i sx.pre.length)]) (fun sx => [(7700, .arr 3 ((sx.pre ++ sx.rest).map encEntry))]) (fun sx => sx.rest.length) ⟨l.take 1, l.drop 1, by cases l <;> rfl, by simp; omega, by simp; omega, fun e he => hs e (List.mem_of_mem_take he), fun e he => hs e (List.mem_of_mem_drop he)⟩ ?_ ?_
  · exact Le.mk rfl (.cons rfl (Sub.gs (by simp)) rfl (.cons rfl (Sub.int (by first | rfl | (simp; done) | omega | (simp; omega))) rfl (.cons rfl (Sub.int (by first | rfl | (simp; done) | omega | (simp; omega))) rfl (.cons rfl (Sub.refl _) rfl (.cons rfl (Sub.int (by first | rfl | (simp; done) | omega | (simp; omega))) rfl .nil))))) (.arr rfl (by first | (rw [List.take_append_drop]; done) | (simp; done)) .nil)
  · rintro ⟨pre, rest, hf, hpl, h1, mp, mr⟩
    show Run _ _ _ _ [(0, .gs 7700 l.length), (1, .i 0), (2, .i l.length), (3, .fn (.func 99) [] []), (8, .i pre.length)] [(7700, .arr 3 ((pre ++ rest).map encEntry))]
    rcases rest with _ | ⟨x, rest⟩
    · skip
      refine Run.seq (Run.seq (Run.reg [.p, .p, .p] ?_))
      refine .mv rfl rfl <| .mv rfl rfl <| .p rfl trivial (fun _ => q_lss rfl rfl _) <| .nil ?_
      refine Run.condF rfl (by simp at *; omega) ?_
      refine Run.exit (tq_exit (bq_exit ?_))
      refine Run.nil ?_
      exact retO0n  (Sub.refl _) (.eq rfl (by simp [sortI, ← hf]) rfl .nil)
    · have hxs := mr x (by simp)
      simp only [List.length_cons] at hpl
      refine Run.seq (Run.seq (Run.reg [.p, .p, .p] ?_))
      refine .mv rfl rfl <| .mv rfl rfl <| .p rfl trivial (fun _ => q_lss rfl rfl _) <| .nil ?_
      refine Run.condT rfl (by simp; omega) ?_
      refine Run.skip ?_
      refine Run.seq ?_
      refine Run.block ?_
      refine Run.seq (Run.reg [.p, .p] ?_)
      refine .mv rfl rfl <| .ag rfl rfl <| .nil ?_
      refine Run.block ?_
      refine Run.loop (ι := ins7700_ok_L1 l pre x rest) (fun sx => [(0, .gs 7700 l.length), (1, .i 0), (2, .i l.length), (3, .fn (.func 99) [] []), (8, .i pre.length), (9, .i sx.p.length)]) (fun sx => [(7700, .arr 3 ((sx.p ++ x :: (sx.q ++ rest)).map encEntry))]) (fun sx => sx.p.length) ⟨pre, [], by simp, by simp, mp, by simp⟩ ?_ ?_
      · exact Le.mk rfl (.cons rfl (Sub.gs (by simp)) rfl (.cons rfl (Sub.int (by first | rfl | (simp; done) | omega | (simp; omega))) rfl (.cons rfl (Sub.int (by first | rfl | (simp; done) | omega | (simp; omega))) rfl (.cons rfl (Sub.refl _) rfl (.cons rfl (Sub.int (by first | rfl | (simp; done) | omega | (simp; omega))) rfl (.cons rfl (Sub.int (by first | rfl | (simp; done) | omega | (simp; omega))) rfl .nil)))))) (.arr rfl (by first | (simp; done) | exact swap_rows p y x (q ++ rest)) .nil)
      · rintro ⟨p, q, hr, hpq, ms, mq⟩
        show Run _ _ _ _ [(0, .gs 7700 l.length), (1, .i 0), (2, .i l.length), (3, .fn (.func 99) [] []), (8, .i pre.length), (9, .i p.length)] [(7700, .arr 3 ((p ++ x :: (q ++ rest)).map encEntry))]
        rcases snoc_cases p with rfl | ⟨p, y, rfl⟩
        · simp only [List.length_nil] at hpq
          refine Run.seq (Run.seq (Run.regD [.p, .p, .p, .p, .p, .p, .p, .p, .r, .p, .p, .p, .p, .r, .p, .p, .p] Tryz_mixed (by decide +kernel) ?_))
          refine .mv rfl rfl <| .mv rfl rfl <| .p rfl trivial (fun _ => q_gtr rfl rfl _) <| .mv rfl rfl ?_
          refine .off rfl (off_of rfl rfl rfl (by simp)) ?_
          refine .off rfl (off_of rfl rfl rfl (by simp)) ?_
          refine .off rfl (off_of rfl rfl rfl (by simp)) ?_
          refine .off rfl (off_of rfl rfl rfl (by simp)) ?_
          refine .off rfl (off_of rfl rfl rfl (by simp)) ?_
          refine .off rfl (off_of rfl rfl rfl (by simp)) ?_
          refine .off rfl (off_of rfl rfl rfl (by simp)) ?_
          refine .off rfl (off_of rfl rfl rfl (by simp)) ?_
          refine .off rfl (off_of rfl rfl rfl (by simp)) ?_
          refine .off rfl (off_of rfl rfl rfl (by simp)) ?_
          refine .off rfl (off_of rfl rfl rfl (by simp)) ?_
          refine .off rfl (off_of rfl rfl rfl (by simp)) ?_
          refine .p rfl trivial (fun _ => q_pickF rfl (by simp) rfl _) <| .nil ?_
          refine Run.condF rfl rfl ?_
          refine Run.exit (tq_exit (bq_exit ?_))
          refine Run.nil (bq_norm ?_)
          refine Run.reg [.p, .p, .p] ?_
          refine .mv rfl rfl <| .p rfl trivial (fun _ => q_add rfl rfl (wrap64_ok (by first | omega | (simp; done) | (simp; omega) | (simp at *; omega)) (by first | omega | (simp; done) | (simp; omega) | (simp at *; omega))) _) <| .ag rfl rfl <| .nil ?_
          refine Run.nil (tq_norm ?_)
          exact ⟨⟨[] ++ x :: q, rest, by rw [← hf, List.foldl_cons, ins_done1 hr], by simp at *; omega, by simp, by simp; exact ⟨hxs, mq⟩, fun e he => mr e (by simp [he])⟩, by simp, Le.mk rfl (.cons rfl (Sub.gs (by simp)) rfl (.cons rfl (Sub.int (by first | rfl | (simp; done) | omega | (simp; omega))) rfl (.cons rfl (Sub.int (by first | rfl | (simp; done) | omega | (simp; omega))) rfl (.cons rfl (Sub.refl _) rfl (.cons rfl (Sub.int (by first | rfl | (simp; done) | omega | (simp; omega))) rfl .nil))))) (.arr rfl (by first | (rw [List.take_append_drop]; done) | (simp; done)) .nil)⟩
        · simp only [List.length_append, List.length_singleton] at hpq
          refine Run.seq (Run.seq (Run.regD [.p, .p, .p, .p, .p, .p, .p, .p, .r, .p, .p, .p, .p, .r, .p, .p, .p] Tryz_mixed (by decide +kernel) ?_))
          refine .mv rfl rfl <| .mv rfl rfl <| .p rfl trivial (fun _ => q_gtr rfl rfl _) <| .mv rfl rfl <| .p rfl (on_of rfl rfl rfl (by first | (simp; done) | (simp; omega))) (fun _ => q_move rfl _) <| .p rfl (on_of rfl rfl rfl (by first | (simp; done) | (simp; omega))) (fun _ => q_move rfl _) <| .p rfl (on_of rfl rfl rfl (by first | (simp; done) | (simp; omega))) (fun _ => q_move rfl _) <| .p rfl (on_of rfl rfl rfl (by first | (simp; done) | (simp; omega))) (fun _ => q_indexG (off := ((p ++ [y]).length) * 3) Tryz.underlying22 Tryz.sizeOf37 rfl rfl (by first | omega | (simp; done) | (simp; omega) | (simp at *; omega)) (by first | (simp; done) | (simp; omega) | (simp at *; omega)) (by first | omega | (simp; done) | (simp; omega) | (simp at *; omega)) _) <| .r rfl (on_of rfl rfl rfl (by first | (simp; done) | (simp; omega))) (q_loadGA (j := (p ++ [y]).length) (r := _) Tryz.isAgg37 Tryz.sizeOf37 rfl rfl rfl rfl (rowX p y x (q ++ rest))) <| .p rfl (on_of rfl rfl rfl (by first | (simp; done) | (simp; omega))) (fun _ => q_move rfl _) <| .p rfl (on_of rfl rfl rfl (by first | (simp; done) | (simp; omega))) (fun _ => q_move rfl _) <| .p rfl (on_of rfl rfl rfl (by first | (simp; done) | (simp; omega))) (fun _ => q_sub rfl rfl (wrap64_ok (by first | omega | (simp; done) | (simp; omega) | (simp at *; omega)) (by first | omega | (simp; done) | (simp; omega) | (simp at *; omega))) _) <| .p rfl (on_of rfl rfl rfl (by first | (simp; done) | (simp; omega))) (fun _ => q_indexG (off := (p.length) * 3) Tryz.underlying22 Tryz.sizeOf37 rfl rfl (by first | omega | (simp; done) | (simp; omega) | (simp at *; omega)) (by first | (simp; done) | (simp; omega) | (simp at *; omega)) (by first | omega | (simp; done) | (simp; omega) | (simp at *; omega)) _) ?_
          refine .r rfl (on_of rfl rfl rfl (by first | (simp; done) | (simp; omega))) (q_loadGA (j := p.length) (r := _) Tryz.isAgg37 Tryz.sizeOf37 rfl rfl rfl rfl (rowY p y x (q ++ rest))) <| .p rfl (on_of rfl rfl rfl (by first | (simp; done) | (simp; omega))) (fun _ => q_callF Tryz.call99 rfl rfl (cmpEn_ok x y (fun m hm => (hxs.2.2 m hm).2.2) (fun m hm => ((ms y (by simp)).2.2 m hm).2.2)) _) <| .p rfl (on_of rfl rfl rfl (by first | (simp; done) | (simp; omega))) (fun _ => q_lss rfl rfl _) <| .p rfl trivial (fun _ => q_pickT rfl (by first | (simp; done) | (simp; omega)) rfl _) <| .nil ?_
          refine Run.cond rfl (fun h1 => ?_) (fun h1 => ?_)
          · have ph1 := h1
            try simp only [bs, bne_iff_ne, ne_eq, List.length_map] at ph1
            refine Run.skip ?_
            refine Run.seq ?_
            refine Run.block ?_
            refine Run.regD [.p, .p, .p, .p, .p, .p, .p, .p, .p, .r, .p, .p, .p, .r, .p, .w, .p, .w] Tryz_mixed (by decide +kernel) ?_
            refine .mv rfl rfl <| .mv rfl rfl <| .mv rfl rfl <| .mv rfl rfl <| .p rfl trivial (fun _ => q_sub rfl rfl (wrap64_ok (by first | omega | (simp; done) | (simp; omega) | (simp at *; omega)) (by first | omega | (simp; done) | (simp; omega) | (simp at *; omega))) _) <| .mv rfl rfl <| .mv rfl rfl <| .p rfl trivial (fun _ => q_sub rfl rfl (wrap64_ok (by first | omega | (simp; done) | (simp; omega) | (simp at *; omega)) (by first | omega | (simp; done) | (simp; omega) | (simp at *; omega))) _) <| .p rfl trivial (fun _ => q_indexG (off := (p.length) * 3) Tryz.underlying22 Tryz.sizeOf37 rfl rfl (by first | omega | (simp; done) | (simp; omega) | (simp at *; omega)) (by first | (simp; done) | (simp; omega) | (simp at *; omega)) (by first | omega | (simp; done) | (simp; omega) | (simp at *; omega)) _) <| .r rfl trivial (q_loadGA (j := p.length) (r := _) Tryz.isAgg37 Tryz.sizeOf37 rfl rfl rfl rfl (rowY p y x (q ++ rest))) <| .mv rfl rfl <| .mv rfl rfl <| .p rfl trivial (fun _ => q_indexG (off := ((p ++ [y]).length) * 3) Tryz.underlying22 Tryz.sizeOf37 rfl rfl (by first | omega | (simp; done) | (simp; omega) | (simp at *; omega)) (by first | (simp; done) | (simp; omega) | (simp at *; omega)) (by first | omega | (simp; done) | (simp; omega) | (simp at *; omega)) _) <| .r rfl trivial (q_loadGA (j := (p ++ [y]).length) (r := _) Tryz.isAgg37 Tryz.sizeOf37 rfl rfl rfl rfl (rowX p y x (q ++ rest))) <| .p rfl trivial (fun _ => q_indexG (off := ((p ++ [y]).length) * 3) Tryz.underlying22 Tryz.sizeOf37 rfl rfl (by first | omega | (simp; done) | (simp; omega) | (simp at *; omega)) (by first | (simp; done) | (simp; omega) | (simp at *; omega)) (by first | omega | (simp; done) | (simp; omega) | (simp at *; omega)) _) ?_
            refine .w rfl trivial (q_storeGA (j := (p ++ [y]).length) Tryz.sizeOf37 rfl rfl rfl rfl rfl rfl rfl rfl (by simp)) <| .p rfl trivial (fun _ => q_indexG (off := (p.length) * 3) Tryz.underlying22 Tryz.sizeOf37 rfl rfl (by first | omega | (simp; done) | (simp; omega) | (simp at *; omega)) (by first | (simp; done) | (simp; omega) | (simp at *; omega)) (by first | omega | (simp; done) | (simp; omega) | (simp at *; omega)) _) <| .w rfl trivial (q_storeGA (j := p.length) Tryz.sizeOf37 rfl rfl rfl rfl rfl rfl rfl rfl (by simp)) <| .nil ?_
            refine Run.nil (bq_norm ?_)
            refine Run.reg [.p, .p, .p] ?_
            refine .mv rfl rfl <| .p rfl trivial (fun _ => q_sub rfl rfl (wrap64_ok (by first | omega | (simp; done) | (simp; omega) | (simp at *; omega)) (by first | omega | (simp; done) | (simp; omega) | (simp at *; omega))) _) <| .ag rfl rfl <| .nil ?_
            refine Run.nil (tq_norm ?_)
            exact ⟨⟨p, y :: q, by rw [← hr]; simp only [List.reverse_append, List.reverse_cons, List.reverse_nil, List.nil_append, List.singleton_append, insI]; rw [if_pos (by simpa using ‹decide _ = true›)]; simp, by simp at *; omega, fun e he => ms e (by simp [he]), by intro e he; rcases List.mem_cons.1 he with rfl | h; exact ms _ (by simp); exact mq e h⟩, by simp, Le.mk rfl (.cons rfl (Sub.gs (by simp)) rfl (.cons rfl (Sub.int (by first | rfl | (simp; done) | omega | (simp; omega))) rfl (.cons rfl (Sub.int (by first | rfl | (simp; done) | omega | (simp; omega))) rfl (.cons rfl (Sub.refl _) rfl (.cons rfl (Sub.int (by first | rfl | (simp; done) | omega | (simp; omega))) rfl (.cons rfl (Sub.int (by first | rfl | (simp; done) | omega | (simp; omega))) rfl .nil)))))) (.arr rfl (by first | (simp; done) | exact swap_rows p y x (q ++ rest)) .nil)⟩
          · have ph1 := h1
            try simp only [bs, bne_iff_ne, ne_eq, List.length_map] at ph1
            refine Run.exit (tq_exit (bq_exit ?_))
            refine Run.nil (bq_norm ?_)
            refine Run.reg [.p, .p, .p] ?_
            refine .mv rfl rfl <| .p rfl trivial (fun _ => q_add rfl rfl (wrap64_ok (by first | omega | (simp; done) | (simp; omega) | (simp at *; omega)) (by first | omega | (simp; done) | (simp; omega) | (simp at *; omega))) _) <| .ag rfl rfl <| .nil ?_
            refine Run.nil (tq_norm ?_)
            exact ⟨⟨(p ++ [y]) ++ x :: q, rest, by rw [← hf, List.foldl_cons, ins_done2 hr (by omega)], by simp at *; omega, by simp, by intro e he; rcases List.mem_append.1 he with h | h; exact ms e h; rcases List.mem_cons.1 h with rfl | h; exact hxs; exact mq e h, fun e he => mr e (by simp [he])⟩, by simp, Le.mk rfl (.cons rfl (Sub.gs (by simp)) rfl (.cons rfl (Sub.int (by first | rfl | (simp; done) | omega | (simp; omega))) rfl (.cons rfl (Sub.int (by first | rfl | (simp; done) | omega | (simp; omega))) rfl (.cons rfl (Sub.refl _) rfl (.cons rfl (Sub.int (by first | rfl | (simp; done) | omega | (simp; omega))) rfl .nil))))) (.arr rfl (by first | (rw [List.take_append_drop]; done) | (simp; done)) .nil)⟩
structure insN7700_ok_L0  where
  u : Unit
theorem insN7700_ok  : FcO Tryz.prog 194 [.gs 7700 0, .i 0, .i 0, .fn (.func 99) [] []] [(7700, .arr 3 [])] (.tup []) [(7700, .arr 3 [])] := by
  refine FcO.mk' [] Tryz.func194 rfl Tryz.ntmps194 rfl rfl rfl (fun t w => results_none Tryz.results194 t _ w) ?_
  refine Run.seq (Run.reg [.p, .p, .p] ?_)
  refine .mv rfl rfl <| .p rfl trivial (fun _ => q_add rfl rfl (wrap64_ok (by omega) (by omega)) _) <| .ag rfl rfl <| .nil ?_
  refine Run.block ?_
  refine Run.loop (ι := insN7700_ok_L0) (fun sx => [(2, .i 0), (8, .i 1)]) (fun sx => [(7700, .arr 3 [])]) (fun sx => 0) ⟨()⟩ ?_ ?_
  · exact Le.mk rfl (.cons rfl (Sub.int (by first | rfl | (simp; done) | omega | (simp; omega))) rfl (.cons rfl (Sub.int (by first | rfl | (simp; done) | omega | (simp; omega))) rfl .nil)) (.arr rfl (by simp) .nil)
  · rintro ⟨u⟩
    show Run _ _ _ _ [(2, .i 0), (8, .i 1)] [(7700, .arr 3 [])]
    skip
    · skip
      refine Run.seq (Run.seq (Run.reg [.p, .p, .p] ?_))
      refine .mv rfl rfl <| .mv rfl rfl <| .p rfl trivial (fun _ => q_lss rfl rfl _) <| .nil ?_
      refine Run.condF rfl (rfl) ?_
      refine Run.exit (tq_exit (bq_exit ?_))
      refine Run.nil ?_
      exact retO0n  (Sub.refl _) (.eq rfl (by rfl) rfl .nil)
theorem insA7700_ok (l : List Entry) (hl : l.length ≤ 1000) (hs : ∀ e ∈ l, smallE e) : FcO Tryz.prog 194 [.gs 7700 l.length, .i 0, .i l.length, .fn (.func 99) [] []] [(7700, .arr 3 (l.map encEntry))] (.tup []) [(7700, .arr 3 ((sortI cmpEn l).map encEntry))] := by
  by_cases h : l = []
  · subst h; exact insN7700_ok
  · exact ins7700_ok l hl hs h
end Go.T
namespace Go.T
open Go Go.Proofs
set_option maxRecDepth 20000
theorem bitsLen_ok (n : Nat) (h : n ≤ 1000) : Fc Tryz.prog 152 [.raw (.int .u64 (n : Int))] .any := .of_calls fun w O ρ vals _ hv => by
  simp only [Vs, V] at hv
  obtain ⟨u, us, rfl, rfl, rfl⟩ := hv
  refine (Tryz.bits_Len (n : Int) w (by omega) (by omega)).mono ?_
  rintro e w' ⟨rfl, rfl⟩
  exact ⟨_, rfl, by simp [V], Keep.refl _⟩
structure pdq7600_ok_L0 (l : List Entry) where
  u : Unit
theorem pdq7600_ok (l : List Entry) (hl : l.length ≤ 12) (hs : ∀ e ∈ l, smallE e) : FcO Tryz.prog 151 [.gs 7600 l.length, .i 0, .i l.length, .any, .fn (.func 99) [] []] [(7600, .arr 3 (l.map encEntry))] (.tup []) [(7600, .arr 3 ((sortI cmpEn l).map encEntry))] := by
  refine FcO.mk' [] Tryz.func151 rfl Tryz.ntmps151 rfl rfl rfl (fun t w => results_none Tryz.results151 t _ w) ?_
  refine Run.seq (Run.reg [.p] ?_)
  refine .ag rfl rfl <| .nil ?_
  refine Run.seq (Run.reg [.p] ?_)
  refine .ag rfl rfl <| .nil ?_
  refine Run.block ?_
  refine Run.loop (ι := pdq7600_ok_L0 l) (fun sx => [(0, .gs 7600 l.length), (1, .i 0), (2, .i l.length), (4, .fn (.func 99) [] [])]) (fun sx => [(7600, .arr 3 (l.map encEntry))]) (fun sx => 0) ⟨()⟩ ?_ ?_
  · exact Le.mk rfl (.cons rfl (Sub.gs (by simp)) rfl (.cons rfl (Sub.int (by first | rfl | (simp; done) | omega | (simp; omega))) rfl (.cons rfl (Sub.int (by first | rfl | (simp; done) | omega | (simp; omega))) rfl (.cons rfl (Sub.refl _) rfl .nil)))) (.arr rfl (by simp) .nil)
  · rintro ⟨u⟩
    show Run _ _ _ _ [(0, .gs 7600 l.length), (1, .i 0), (2, .i l.length), (4, .fn (.func 99) [] [])] [(7600, .arr 3 (l.map encEntry))]
    skip
    · skip
      refine Run.block ?_
      refine Run.seq (Run.reg [.p, .p, .p, .p] ?_)
      refine .mv rfl rfl <| .mv rfl rfl <| .p rfl trivial (fun _ => q_sub rfl rfl (wrap64_ok (by omega) (by omega)) _) <| .ag rfl rfl <| .nil ?_
      refine Run.seq (Run.seq (Run.reg [.p, .p] ?_))
      refine .mv rfl rfl <| .p rfl trivial (fun _ => q_leq rfl rfl _) <| .nil ?_
      refine Run.condT rfl (by simp; omega) ?_
      refine Run.seq (Run.reg [.p, .p, .p, .p, .w] ?_)
      refine .mv rfl rfl <| .mv rfl rfl <| .mv rfl rfl <| .mv rfl rfl <| .w rfl trivial (q_callO Tryz.call194 rfl (insA7600_ok l (by omega) hs) (.cons rfl rfl .nil) rfl rfl) <| .nil ?_
      refine Run.ret (bq_ret (tq_ret (bq_ret (?_))))
      exact retO0  (Sub.refl _) (.eq rfl (by rfl) rfl .nil)
theorem sort7600_ok (l : List Entry) (hl : l.length ≤ 12) (hs : ∀ e ∈ l, smallE e) : FcO Tryz.prog 98 [.gs 7600 l.length, .fn (.func 99) [] []] [(7600, .arr 3 (l.map encEntry))] (.tup []) [(7600, .arr 3 ((sortI cmpEn l).map encEntry))] := by
  refine FcO.mk' [] Tryz.func98 rfl Tryz.ntmps98 rfl rfl rfl (fun t w => results_none Tryz.results98 t _ w) ?_
  refine Run.seq (Run.reg [.p, .p, .p] ?_)
  refine .mv rfl rfl <| .p rfl trivial (fun _ => q_lenG Tryz.underlying22 rfl _) <| .ag rfl rfl <| .nil ?_
  refine Run.reg [.p, .p, .p, .p, .p, .p, .w] ?_
  refine .mv rfl rfl <| .mv rfl rfl <| .mv rfl rfl <| .p rfl trivial (fun _ => q_conv Tryz.underlying3 Tryz.underlying202 rfl (wrapu64_ok (by first | omega | (simp; done) | (simp; omega) | (simp at *; omega)) (by first | omega | (simp; done) | (simp; omega) | (simp at *; omega))) _) <| .p rfl trivial (fun _ => q_call Tryz.call152 rfl (bitsLen_ok l.length (by omega)) _) <| .mv rfl rfl <| .w rfl trivial (q_callO Tryz.call151 rfl (pdq7600_ok l hl hs) (.cons rfl rfl .nil) rfl rfl) <| .nil ?_
  refine Run.nil ?_
  exact retO0n  (Sub.refl _) (.eq rfl (by rfl) rfl .nil)
structure pdq7700_ok_L0 (l : List Entry) where
  u : Unit
theorem pdq7700_ok (l : List Entry) (hl : l.length ≤ 12) (hs : ∀ e ∈ l, smallE e) : FcO Tryz.prog 151 [.gs 7700 l.length, .i 0, .i l.length, .any, .fn (.func 99) [] []] [(7700, .arr 3 (l.map encEntry))] (.tup []) [(7700, .arr 3 ((sortI cmpEn l).map encEntry))] := by
  refine FcO.mk' [] Tryz.func151 rfl Tryz.ntmps151 rfl rfl rfl (fun t w => results_none Tryz.results151 t _ w) ?_
  refine Run.seq (Run.reg [.p] ?_)
  refine .ag rfl rfl <| .nil ?_
  refine Run.seq (Run.reg [.p] ?_)
  refine .ag rfl rfl <| .nil ?_
  refine Run.block ?_
  refine Run.loop (ι := pdq7700_ok_L0 l) (fun sx => [(0, .gs 7700 l.length), (1, .i 0), (2, .i l.length), (4, .fn (.func 99) [] [])]) (fun sx => [(7700, .arr 3 (l.map encEntry))]) (fun sx => 0) ⟨()⟩ ?_ ?_
  · exact Le.mk rfl (.cons rfl (Sub.gs (by simp)) rfl (.cons rfl (Sub.int (by first | rfl | (simp; done) | omega | (simp; omega))) rfl (.cons rfl (Sub.int (by first | rfl | (simp; done) | omega | (simp; omega))) rfl (.cons rfl (Sub.refl _) rfl .nil)))) (.arr rfl (by simp) .nil)
  · rintro ⟨u⟩
    show Run _ _ _ _ [(0, .gs 7700 l.length), (1, .i 0), (2, .i l.length), (4, .fn (.func 99) [] [])] [(7700, .arr 3 (l.map encEntry))]
    skip
    · skip
      refine Run.block ?_
      refine Run.seq (Run.reg [.p, .p, .p, .p] ?_)
      refine .mv rfl rfl <| .mv rfl rfl <| .p rfl trivial (fun _ => q_sub rfl rfl (wrap64_ok (by omega) (by omega)) _) <| .ag rfl rfl <| .nil ?_
      refine Run.seq (Run.seq (Run.reg [.p, .p] ?_))
      refine .mv rfl rfl <| .p rfl trivial (fun _ => q_leq rfl rfl _) <| .nil ?_
      refine Run.condT rfl (by simp; omega) ?_
      refine Run.seq (Run.reg [.p, .p, .p, .p, .w] ?_)
      refine .mv rfl rfl <| .mv rfl rfl <| .mv rfl rfl <| .mv rfl rfl <| .w rfl trivial (q_callO Tryz.call194 rfl (insA7700_ok l (by omega) hs) (.cons rfl rfl .nil) rfl rfl) <| .nil ?_
      refine Run.ret (bq_ret (tq_ret (bq_ret (?_))))
      exact retO0  (Sub.refl _) (.eq rfl (by rfl) rfl .nil)
theorem sort7700_ok (l : List Entry) (hl : l.length ≤ 12) (hs : ∀ e ∈ l, smallE e) : FcO Tryz.prog 98 [.gs 7700 l.length, .fn (.func 99) [] []] [(7700, .arr 3 (l.map encEntry))] (.tup []) [(7700, .arr 3 ((sortI cmpEn l).map encEntry))] := by
  refine FcO.mk' [] Tryz.func98 rfl Tryz.ntmps98 rfl rfl rfl (fun t w => results_none Tryz.results98 t _ w) ?_
  refine Run.seq (Run.reg [.p, .p, .p] ?_)
  refine .mv rfl rfl <| .p rfl trivial (fun _ => q_lenG Tryz.underlying22 rfl _) <| .ag rfl rfl <| .nil ?_
  refine Run.reg [.p, .p, .p, .p, .p, .p, .w] ?_
  refine .mv rfl rfl <| .mv rfl rfl <| .mv rfl rfl <| .p rfl trivial (fun _ => q_conv Tryz.underlying3 Tryz.underlying202 rfl (wrapu64_ok (by first | omega | (simp; done) | (simp; omega) | (simp at *; omega)) (by first | omega | (simp; done) | (simp; omega) | (simp at *; omega))) _) <| .p rfl trivial (fun _ => q_call Tryz.call152 rfl (bitsLen_ok l.length (by omega)) _) <| .mv rfl rfl <| .w rfl trivial (q_callO Tryz.call151 rfl (pdq7700_ok l hl hs) (.cons rfl rfl .nil) rfl rfl) <| .nil ?_
  refine Run.nil ?_
  exact retO0n  (Sub.refl _) (.eq rfl (by rfl) rfl .nil)
end Go.T
namespace Go.T
open Go Go.Proofs
set_option maxRecDepth 20000
theorem grow_ok (n : Nat) (h0 : n ≠ 0) (hn : n ≤ 100000) : FcO Tryz.prog 108 [.raw (.slice none 0 0), .i n] [] (.gr 7800 0) [(7800, .res 3)] := by
  refine FcO.mk' [4] Tryz.func108 rfl Tryz.ntmps108 rfl rfl rfl (fun t w => results_tmp Tryz.results108 t _ w) ?_
  refine Run.seq (Run.reg [.p] ?_)
  refine .ag rfl rfl <| .nil ?_
  refine Run.seq (Run.seq (Run.reg [.p, .p] ?_))
  refine .mv rfl rfl <| .p rfl trivial (fun _ => q_lss rfl rfl _) <| .nil ?_
  refine Run.condF rfl (by simp) ?_
  refine Run.skip ?_
  refine Run.seq (Run.seq (Run.reg [.p, .p, .p, .p, .p, .p, .p, .p] ?_))
  refine .mv rfl rfl <| .mv rfl rfl <| .p rfl trivial (fun _ => q_capNil Tryz.underlying22 rfl _) <| .mv rfl rfl <| .p rfl trivial (fun _ => q_lenNil Tryz.underlying22 rfl _) <| .p rfl trivial (fun _ => q_sub rfl rfl (wrap64_ok (by first | omega | (simp; done) | (simp; omega) | (simp at *; omega)) (by first | omega | (simp; done) | (simp; omega) | (simp at *; omega))) _) <| .p rfl trivial (fun _ => q_sub rfl rfl (wrap64_ok (by first | omega | (simp; done) | (simp; omega) | (simp at *; omega)) (by first | omega | (simp; done) | (simp; omega) | (simp at *; omega))) _) <| .ag rfl rfl <| .nil ?_
  refine Run.seq (Run.reg [.p, .p] ?_)
  refine .mv rfl rfl <| .p rfl trivial (fun _ => q_gtr rfl rfl _) <| .nil ?_
  refine Run.condT rfl (by simp; omega) ?_
  refine Run.reg [.p, .p, .p, .p, .p, .w, .p, .p, .p, .p] ?_
  refine .mv rfl rfl <| .mv rfl rfl <| .p rfl trivial (fun _ => q_capNil Tryz.underlying22 rfl _) <| .p rfl trivial (fun _ => q_sliceNil Tryz.underlying22 Tryz.sizeOf37 rfl rfl _) <| .mv rfl rfl <| .w rfl trivial (q_appendMake (n := n) (bt := 48) 7800 Tryz.underlying22 Tryz.underlying3 Tryz.sizeOf37 Tryz.typeInfo37 Tryz.zeroValue37 rfl (by decide) rfl rfl rfl (by simp) h0 (by omega) (by omega) rfl) <| .mv rfl rfl <| .p rfl trivial (fun _ => q_lenNil Tryz.underlying22 rfl _) <| .p rfl trivial (fun _ => q_sliceGr Tryz.underlying22 Tryz.sizeOf37 rfl rfl _) <| .ag rfl rfl <| .nil ?_
  refine Run.seq (Run.reg [.p, .p] ?_)
  refine .mv rfl rfl <| .ag rfl rfl <| .nil ?_
  refine Run.ret (?_)
  exact retO1 rfl (by exact Sub.refl _) (.eq rfl (by rfl) rfl .nil)
theorem grow0_ok  : Fc Tryz.prog 108 [.raw (.slice none 0 0), .i 0] (.raw (.slice none 0 0)) := by
  refine Fc.mk' [4] Tryz.func108 rfl Tryz.ntmps108 rfl rfl rfl (fun t w => results_tmp Tryz.results108 t _ w) ?_
  refine Run.seq (Run.reg [.p] ?_)
  refine .ag rfl rfl <| .nil ?_
  refine Run.seq (Run.seq (Run.reg [.p, .p] ?_))
  refine .mv rfl rfl <| .p rfl trivial (fun _ => q_lss rfl rfl _) <| .nil ?_
  refine Run.condF rfl (rfl) ?_
  refine Run.skip ?_
  refine Run.seq (Run.seq (Run.reg [.p, .p, .p, .p, .p, .p, .p, .p] ?_))
  refine .mv rfl rfl <| .mv rfl rfl <| .p rfl trivial (fun _ => q_capNil Tryz.underlying22 rfl _) <| .mv rfl rfl <| .p rfl trivial (fun _ => q_lenNil Tryz.underlying22 rfl _) <| .p rfl trivial (fun _ => q_sub rfl rfl (wrap64_ok (by first | omega | (simp; done) | (simp; omega) | (simp at *; omega)) (by first | omega | (simp; done) | (simp; omega) | (simp at *; omega))) _) <| .p rfl trivial (fun _ => q_sub rfl rfl (wrap64_ok (by first | omega | (simp; done) | (simp; omega) | (simp at *; omega)) (by first | omega | (simp; done) | (simp; omega) | (simp at *; omega))) _) <| .ag rfl rfl <| .nil ?_
  refine Run.seq (Run.reg [.p, .p] ?_)
  refine .mv rfl rfl <| .p rfl trivial (fun _ => q_gtr rfl rfl _) <| .nil ?_
  refine Run.condF rfl (rfl) ?_
  refine Run.skip ?_
  refine Run.seq (Run.reg [.p, .p] ?_)
  refine .mv rfl rfl <| .ag rfl rfl <| .nil ?_
  refine Run.ret (?_)
  exact ret1 rfl (by exact Sub.refl _)
end Go.T
