/-
  Contracts of the functions that the statement reaches, and the logic in which they are proved (no condition): parts W48, W49, W50, W51, W52, W53, Law1, W54, Law2, Law3, Law4, Law5, Law6, Law7, Core29, Core30, LayS, Core31, Core32, Core33, W56.
-/
import Derived.Test.YtlhemheagekhaaaGreatDoorA13
import Derived.Shelf.SlSortCmp.WholeK
import Derived.Shelf.SlSortCmp.NoneTotal
set_option linter.all false
namespace Go.T
open Go Go.Proofs
set_option maxRecDepth 20000
def adjP (p : Posted) : Bool := decide (p.entry.day < p.day)
theorem adj_ok (p : Posted) : Fc Tryz.prog 66 [.agg (encPosted p)] (.b (adjP p)) := by
 refine Fc.mk' [2] Tryz.func66 rfl Tryz.ntmps66 rfl rfl rfl (fun t w => results_tmp Tryz.results66 t _ w) ?_
 refine Run.seq (Run.reg [.w, .p] ?_)
 refine .W rfl (q_boxA 0 rfl rfl) <| .ag rfl rfl <| .nil ?_
 refine Run.seq (Run.reg [.p, .r, .p, .p, .r, .p, .p] ?_)
 refine .P rfl (q_fieldB (n := 0) 34 0 Tryz.underlying39 Tryz.sizeOf34 rfl rfl) <| .R rfl (q_load1 Tryz.isAgg34 rfl rfl rfl) <| .P rfl (q_fieldB (n := 2) 37 3 Tryz.underlying39 Tryz.sizeOf37 rfl rfl) <| .P rfl (q_fieldB (n := 0) 34 0 Tryz.underlying37 Tryz.sizeOf34 rfl rfl) <| .R rfl (q_load1 Tryz.isAgg34 rfl rfl rfl) <| .P rfl (q_gtr rfl rfl) <| .ag rfl rfl <| .nil ?_
 refine Run.ret (?_)
 exact ret1 rfl (Sub.bool (by rfl))
theorem filterF_ok (l : List Posted) : Fc Tryz.prog 65 [sPosteds l, .fn (.func 66) [] []] (.fn (.func 121) [] [.iptr [sPosteds l], .iptr [.fn (.func 66) [] []]]) := by
 refine Fc.mk' [4] Tryz.func65 rfl Tryz.ntmps65 rfl rfl rfl (fun t w => results_tmp Tryz.results65 t _ w) ?_
 refine Run.seq (Run.reg [.w, .w, .p] ?_)
 refine .W rfl (q_box1 0 rfl rfl rfl) <| .W rfl (q_box1 1 rfl rfl rfl) <| .ag rfl rfl <| .nil ?_
 refine Run.weak (Le.freezeB 2 0 rfl rfl rfl rfl) ?_
 refine Run.weak (Le.freezeB 3 1 rfl rfl rfl rfl) ?_
 refine Run.seq (Run.reg [.p, .p] ?_)
 refine .P rfl (q_makeFunc (xs := []) (ys := _) rfl rfl) <| .ag rfl rfl <| .nil ?_
 refine Run.ret (?_)
 exact ret1 rfl (by exact Sub.refl _)
structure filterY_ok_L0 (l : List Posted) where
 pre : List Posted
 rest : List Posted
 acc : List Posted
 hx : l = pre ++ rest
 hacc : acc = pre.filter adjP
theorem filterY_ok (l : List Posted) (hl : l.length ≤ 1000000) : FcY (α := Posted) Tryz.prog 121 8000 [.iptr [sPosteds l], .iptr [.fn (.func 66) [] []]] [] (fun p => [.agg (encPosted p)]) (fun p => p <+: l.filter adjP) (fun p => p = l.filter adjP) := by
 refine FcY.mk' Tryz.func121 rfl Tryz.ntmps121 rfl (fun t w => results_none Tryz.results121 t _ w) (fun idL lb ids B X Y => ?_)
 refine Run.seq (Run.reg [.p, .p, .p] ?_)
 refine .P rfl (q_loadI Tryz.isAgg27 rfl) <| .P rfl (q_lenI Tryz.underlying27 rfl) <| .mv rfl rfl <| .nil ?_
 refine Run.block ?_
 refine Run.loop (ι := filterY_ok_L0 l) (fun sx => [(0, yv lb), (1, .iptr [sPosteds l]), (2, .iptr [.fn (.func 66) [] []]), (6, sPosteds l), (7, .i l.length), (8, .i sx.pre.length)]) (fun sx => ([] ++ B sx.acc)) (fun sx => sx.rest.length) ⟨[], l, [], rfl, rfl⟩ ?_ ?_
 ·exact Le.mk (ps_ok (Y.has _) rfl) (.same rfl rfl (.same rfl rfl (.same rfl rfl (.same rfl rfl (.cons rfl Sub.intA rfl (.cons rfl Sub.intA rfl .nil)))))) (.tail (tail_ok (own := []) (own' := []) rfl (Y.free _) (Y.okb _)))
 ·rintro ⟨pre, rest, acc, hx, hacc⟩
  show Run _ _ _ _ [(0, yv lb), (1, .iptr [sPosteds l]), (2, .iptr [.fn (.func 66) [] []]), (6, sPosteds l), (7, .i l.length), (8, .i pre.length)] ([] ++ B acc)
  have hl := congrArg List.length hx
  simp only [List.length_append] at hl
  rcases rest with _ | ⟨x, rest⟩
  ·skip
   refine Run.seq (Run.reg [.p] ?_)
   refine .P rfl (q_lss rfl rfl) <| .nil ?_
   refine Run.seq ?_
   refine Run.condF rfl (by simp at hl ⊢; omega) ?_
   refine Run.exit (tq_exit (bq_exit ?_))
   refine Run.nil ?_
   exact retY_fin (.inr rfl) (acc) (by rw [hacc, hx]; simp) (own_get (own := []) rfl (Y.free _))
  ·simp only [List.length_cons] at hl
   refine Run.seq (Run.reg [.p] ?_)
   refine .P rfl (q_lss rfl rfl) <| .nil ?_
   refine Run.seq ?_
   refine Run.condT rfl (by simp; omega) ?_
   refine Run.skip ?_
   refine Run.seq ?_
   refine Run.block ?_
   refine Run.seq (Run.reg [.p, .p, .w, .w] ?_)
   refine .P rfl (q_indexI Tryz.underlying27 Tryz.sizeOf39 rfl rfl (by omega) (idx_mid encPosted hx rfl)) <| .P rfl (q_loadIA Tryz.isAgg39 Tryz.sizeOf39 rfl rfl) <| .W rfl (q_alloc 8000 Tryz.zeroValue39 (Y.free _ 8000 (by decide) (by decide))) <| .W rfl (q_storeW Tryz.sizeOf39 rfl rfl rfl rfl rfl rfl) <| .nil ?_
   refine Run.seq (Run.regT ?_)
   refine Tx.q rfl trivial (q_loadI Tryz.isAgg69 rfl _) ?_
   refine Tx.q rfl trivial (q_loadW Tryz.isAgg39 Tryz.sizeOf39 rfl rfl rfl) ?_
   refine Tx.q rfl trivial (q_callF Tryz.call66 rfl rfl (adj_ok _) _) ?_
   refine Tx.q rfl trivial (q_move rfl _) ?_
   refine Tx.split (t := 15) rfl (fun h1 => ?_) (fun h1 => ?_)
   ·have ph1 := h1; try simp only [bs] at ph1
    refine Tx.q rfl (on_of rfl rfl rfl h1) (q_move rfl _) ?_
    refine Tx.q rfl (on_of rfl rfl rfl h1) (q_loadW Tryz.isAgg39 Tryz.sizeOf39 rfl rfl rfl) ?_
    refine Tx.weak (Le.mk (obs' := [] ++ B (acc)) (ps_ok (Y.has _) rfl) (show EnvLe _ _ [(0, _), (1, _), (2, _), (6, _), (7, _), (8, _), (9, _), (10, _), (11, _), (12, _), (13, _), (14, _), (15, _), (16, _), (17, _)] from (.same rfl rfl (.same rfl rfl (.same rfl rfl (.same rfl rfl (.same rfl rfl (.same rfl rfl (.same rfl rfl (.same rfl rfl (.same rfl rfl (.same rfl rfl (.same rfl rfl (.same rfl rfl (.same rfl rfl (.same rfl rfl (.same rfl rfl .nil)))))))))))))))) (.tail (tail_ok (own := [(8000, _)]) (own' := []) rfl (Y.free _) (Y.okb _)))) ?_
    refine Tx.y Y (own := []) (pre := acc) (env' := [(0, _), (1, _), (2, _), (6, _), (7, _), (8, _), (9, _), (10, _), (11, _), (12, _), (13, _), (14, _), (15, _), (16, _), (17, _)]) x rfl rfl rfl (on_of rfl rfl rfl h1) rfl rfl rfl (⟨rest.filter adjP, by rw [hacc, hx]; simp_all⟩) rfl rfl (.cons rfl rfl (.cons rfl rfl (.cons rfl rfl (.cons rfl rfl (.cons rfl rfl (.cons rfl rfl (.cons rfl rfl (.cons rfl rfl (.cons rfl rfl (.cons rfl rfl (.cons rfl rfl (.cons rfl rfl (.cons rfl rfl (.cons rfl rfl (.cons rfl rfl .nil))))))))))))))) ?_ (fun o hX => ?_)
    ·skip
     refine Tx.q rfl (on_of rfl rfl rfl h1) (q_not rfl _) ?_
     refine Tx.q rfl trivial (q_pickT rfl h1 rfl _) ?_
     refine Tx.nil ?_
     refine Run.condF rfl rfl ?_
     refine Run.skip ?_
     refine Run.nil (bq_norm ?_)
     refine Run.reg [.p, .p] ?_
     refine .P rfl (q_add rfl rfl (wrap64_ok (by omega) (by omega))) <| .mv rfl rfl <| .nil ?_
     refine Run.nil (tq_norm ?_)
     exact ⟨⟨pre ++ [x], rest, acc ++ [x], by simp [hx], by rw [hacc]; simp_all⟩, by simp, Le.mk (ps_ok (Y.has _) rfl) (.same rfl rfl (.same rfl rfl (.same rfl rfl (.same rfl rfl (.cons rfl Sub.intA rfl (.cons rfl Sub.intA rfl .nil)))))) (.tail (tail_ok (own := []) (own' := []) rfl (Y.free _) (Y.okb _)))⟩
    ·skip
     refine Tx.q rfl (on_of rfl rfl rfl h1) (q_not rfl _) ?_
     refine Tx.q rfl trivial (q_pickT rfl h1 rfl _) ?_
     refine Tx.nil ?_
     refine Run.condT rfl rfl ?_
     refine Run.ret (bq_ret (tq_ret (bq_ret (?_))))
     exact retY_x (.inl rfl) o hX (own_get (own := []) rfl (Y.freeX _ hX))
   ·have ph1 := h1; try simp only [bs] at ph1
    refine Tx.off rfl (off_of rfl rfl rfl h1) ?_
    refine Tx.off rfl (off_of rfl rfl rfl h1) ?_
    refine Tx.off rfl (off_of rfl rfl rfl h1) ?_
    refine Tx.off rfl (off_of rfl rfl rfl h1) ?_
    refine Tx.q rfl trivial (q_pickF rfl h1 rfl _) ?_
    refine Tx.nil ?_
    refine Run.condF rfl rfl ?_
    refine Run.skip ?_
    refine Run.nil (bq_norm ?_)
    refine Run.reg [.p, .p] ?_
    refine .P rfl (q_add rfl rfl (wrap64_ok (by omega) (by omega))) <| .mv rfl rfl <| .nil ?_
    refine Run.nil (tq_norm ?_)
    exact ⟨⟨pre ++ [x], rest, acc, by simp [hx], by rw [hacc]; simp_all⟩, by simp, Le.mk (ps_ok (Y.has _) rfl) (.same rfl rfl (.same rfl rfl (.same rfl rfl (.same rfl rfl (.cons rfl Sub.intA rfl (.cons rfl Sub.intA rfl .nil)))))) (.tail (tail_ok (own := [(8000, _)]) (own' := []) rfl (Y.free _) (Y.okb _)))⟩
end Go.T
namespace Go.T
open Go Go.Proofs
set_option maxRecDepth 20000
theorem appendSeq_ok (l : List Posted) (hl : l.length ≤ 1000000) : Fc Tryz.prog 120 [.raw (.slice none 0 0), .fn (.func 121) [] [.iptr [sPosteds l], .iptr [.fn (.func 66) [] []]]] (sPosteds (l.filter adjP)) := by
 refine Fc.mk' [4] Tryz.func120 rfl Tryz.ntmps120 rfl rfl rfl (fun t w => results_tmp Tryz.results120 t _ w) ?_
 refine Run.seq (Run.reg [.w, .p] ?_)
 refine .W rfl (q_box1 0 rfl rfl rfl) <| .ag rfl rfl <| .nil ?_
 refine Run.seq (Run.seq (Run.reg [.p] ?_))
 refine .mv rfl rfl <| .nil ?_
 refine Run.block ?_
 refine Run.rangeF (α := Posted) 7900 [0] [(0, _), (1, _), (2, _), (4, _), (6, _)] (fun (pre : List (Posted)) => [(0, .cells [.gs 1 pre.length]), (1, .arr 6 (pre.map encPosted))]) (fun _ _ => False) rfl Tryz.call121 (filterY_ok l hl) (env1 := [(0, _), (1, _), (2, _), (4, _), (6, _)]) ((Le.own0 1 6).trans <| (Le.subO 0 0 rfl rfl (Sub.gsNil 1)).trans <| Le.mk (obs' := [] ++ (fun (pre : List (Posted)) => [(0, .cells [.gs 1 pre.length]), (1, .arr 6 (pre.map encPosted))]) []) rfl (show EnvLe _ _ [(0, _), (1, _), (2, _), (4, _), (6, _)] from (.same rfl rfl (.same rfl rfl (.same rfl rfl (.same rfl rfl (.same rfl rfl .nil)))))) (.eqA rfl rfl (.eqA rfl rfl .nil))) rfl rfl (fun _ => rfl) (.cons rfl rfl (.cons rfl rfl (.cons rfl rfl (.cons rfl rfl (.cons rfl rfl .nil))))) rfl (fun _ => rfl) (by rintro j o h; exact h.elim) (fun _ => Obs.okB_get rfl) (by rintro j o h; exact h.elim) (fun _ => freeB_get rfl) (by rintro j o h; exact h.elim) (by decide) rfl (fun pre x hok => ?_) (fun xs hfin => ?_) (fun _ _ h => h.elim)
 ·skip
  have hpl := hok.length_le
  have hfl := List.length_filter_le adjP l
  simp only [List.length_append, List.length_singleton] at hpl
  refine Run.reg [.w, .w] ?_
  refine .W rfl (q_alloc 2 Tryz.zeroValue39 rfl) <| .W rfl (q_storeW Tryz.sizeOf39 rfl rfl rfl rfl rfl rfl) <| .nil ?_
  refine Run.nil ⟨rfl, ?_⟩
  refine Run.block ?_
  refine Run.reg [.r, .r, .p, .w, .w] ?_
  refine .R rfl (q_load1 Tryz.isAgg27 rfl rfl rfl) <| .R rfl (q_loadW Tryz.isAgg39 Tryz.sizeOf39 rfl rfl rfl) <| .P rfl (q_buildSlice' (n := 1) (rows := [encPosted x]) Tryz.underlying27 Tryz.sizeOf39 rfl rfl rfl Tryz.zeroValue39 rfl rfl rfl rfl rfl rfl rfl) <| .W rfl (q_append 3 Tryz.underlying27 Tryz.underlying27 Tryz.sizeOf39 Tryz.typeInfo39 Tryz.zeroValue39 rfl (bt := 80) rfl rfl rfl rfl (by simp) rfl rfl (by simp; omega)) <| .W rfl (q_store1 Tryz.sizeOf27 rfl rfl rfl rfl (by first | (simp; done) | decide)) <| .nil ?_
  refine Run.nil (bq_norm ?_)
  refine Run.nil ?_
  exact ⟨rfl, (Le.mk (env' := []) (obs' := [(7900, _), (0, _), (3, _)]) rfl .nil (.cons (i := 7900) rfl rfl (.cons (i := 0) rfl rfl (.cons (i := 3) rfl rfl .nil)))).trans <| (Le.renO 0 0 3 1 rfl rfl rfl (by simp) rfl).trans <| Le.mk rfl .nil (.cons rfl rfl (.eq rfl (by first | rfl | (simp; done) | (simp; omega)) rfl (.eq rfl (by first | rfl | (simp; done) | (simp; omega)) rfl .nil)))⟩
 ·skip
  subst hfin
  refine Run.nil (bq_norm ?_)
  refine Run.seq (Run.reg [.r, .p] ?_)
  refine .R rfl (q_load1 Tryz.isAgg27 rfl rfl rfl) <| .ag rfl rfl <| .nil ?_
  refine Run.weak (Le.freeze 4 1 rfl rfl (by simp)) ?_
  refine Run.ret (?_)
  exact ret1 rfl (Sub.snap (by rfl))
theorem collect_ok (l : List Posted) (hl : l.length ≤ 1000000) : Fc Tryz.prog 64 [.fn (.func 121) [] [.iptr [sPosteds l], .iptr [.fn (.func 66) [] []]]] (sPosteds (l.filter adjP)) := by
 refine Fc.mk' [2] Tryz.func64 rfl Tryz.ntmps64 rfl rfl rfl (fun t w => results_tmp Tryz.results64 t _ w) ?_
 refine Run.seq (Run.reg [.p] ?_)
 refine .ag rfl rfl <| .nil ?_
 refine Run.seq (Run.reg [.p, .p, .p] ?_)
 refine .mv rfl rfl <| .P rfl (q_call Tryz.call120 rfl (appendSeq_ok _ (by first | assumption | omega | (simp at *; omega)))) <| .ag rfl rfl <| .nil ?_
 refine Run.ret (?_)
 exact ret1 rfl (Sub.snap (by rfl))
theorem adjusting_ok (l : List Posted) (hl : l.length ≤ 1000000) : Fc Tryz.prog 19 [sPosteds l] (sPosteds (l.filter adjP)) := by
 refine Fc.mk' [2] Tryz.func19 rfl Tryz.ntmps19 rfl rfl rfl (fun t w => results_tmp Tryz.results19 t _ w) ?_
 refine Run.seq (Run.reg [.p] ?_)
 refine .ag rfl rfl <| .nil ?_
 refine Run.seq (Run.reg [.p, .p, .p, .p] ?_)
 refine .mv rfl rfl <| .P rfl (q_call Tryz.call65 rfl (filterF_ok _)) <| .P rfl (q_call Tryz.call64 rfl (collect_ok _ (by first | assumption | omega | (simp at *; omega)))) <| .ag rfl rfl <| .nil ?_
 refine Run.ret (?_)
 exact ret1 rfl (Sub.snap (by rfl))
end Go.T
namespace Go.T
open Go Go.Proofs
set_option maxRecDepth 20000
def purch (s : Str) : Entry := ⟨19732, [98, 49], [⟨[49, 46, 99, 97, 115, 104], [85, 83, 68], negS s⟩, ⟨[49, 46, 115, 101, 99, 117, 114, 105, 116, 105, 101, 115, 46, 97, 98, 99], [85, 83, 68], s⟩]⟩
theorem purchase_ok (s : Str) (hs : s.length ≤ 9000) : Fc Tryz.prog 42 [.str s] (.agg (encEntry (purch s))) := by
 refine Fc.mkR Tryz.func42 rfl Tryz.ntmps42 rfl rfl rfl ?_
 refine Run.seq (Run.reg [.w] ?_)
 refine .W rfl (q_alloc 0 Tryz.zeroValue37 rfl) <| .nil ?_
 refine Run.seq (Run.reg [.p, .p, .p, .p, .p, .p, .p, .w] ?_)
 refine .mv rfl rfl <| .P rfl (q_call Tryz.call75 rfl (neg2_ok _ hs)) <| .P rfl (q_build (pl := #[(0, 1), (1, 1), (2, 1)]) Tryz.underlying92 Tryz.zeroValue92 (fun w => by kernel_rfl) rfl rfl) <| .mv rfl rfl <| .P rfl (q_build (pl := #[(0, 1), (1, 1), (2, 1)]) Tryz.underlying92 Tryz.zeroValue92 (fun w => by kernel_rfl) rfl rfl) <| .P rfl (q_buildSlice' (n := 2) (rows := (purch s).lines.map encLine) Tryz.underlying35 Tryz.sizeOf92 rfl rfl rfl Tryz.zeroValue92 rfl rfl rfl rfl rfl rfl rfl) <| .P rfl (q_build (pl := #[(0, 1), (1, 1), (2, 1)]) Tryz.underlying37 Tryz.zeroValue37 (fun w => by kernel_rfl) rfl rfl) <| .W rfl (q_storeW Tryz.sizeOf37 rfl rfl rfl rfl rfl rfl) <| .nil ?_
 refine Run.ret (?_)
 exact Rd.cA Tryz.results42 Tryz.isAgg37 Tryz.sizeOf37 rfl rfl rfl (Sub.agg (.cons (Sub.int (by rfl)) (.cons (Sub.str (by rfl)) (.cons (Sub.snap (by rfl)) .nil))))
end Go.T
namespace Go.T
open Go Go.Proofs
set_option maxRecDepth 20000
theorem step_ok (a b : List Entry) (l : List Close) (known : Int) (by_ : Str) (hal : a.length ≤ 12) (hbl : b.length ≤ 12) (has : ∀ e ∈ a, smallE e) (hbs : ∀ e ∈ b, smallE e) :
  Fc Tryz.prog 13 [sEntries a, sEntries b, sCloses l, .i known, .str by_] (.tup [sPosteds (stepP a b l known by_).1, .i (stepP a b l known by_).2]) := by
 cases hv : validE (a ++ b) with
 | true => exact stepGood_ok a b l known by_ hal hbl has hbs hv
 | false => exact stepBad_ok a b l known by_ hal hbl has hbs hv
def awA : List Entry := [purch [49, 48, 48, 48]]
def awB : List Entry := [purch [57, 57, 48]]
def awC : List Close := [⟨19753, 5⟩]
def awP : List Posted := [⟨19754, 6, [98, 49], purch [45, 49, 48, 48, 48]⟩, ⟨19754, 6, [98, 49], purch [57, 57, 48]⟩]
def awQ : List Posted := [⟨19732, 5, [98, 49], purch [45, 49, 48, 48, 48]⟩, ⟨19732, 5, [98, 49], purch [57, 57, 48]⟩]
theorem aw1 : stepP awA awB awC 6 [98, 49] = (awP, 0) := by decide +kernel
theorem aw2 : stepP awA awB awC 5 [98, 49] = (awQ, 0) := by decide +kernel
theorem Fc.sub {P : Program} {f : FuncId} {xs xs' : List D} {r r' : D} (h : Fc P f xs r) (hs : Subs xs' xs) (hr : Sub r r') : Fc P f xs' r' := ⟨fun w O ρ vals h1 h2 h3 => by
 refine (h.out w O ρ vals h1 h2 (hs.out w O ρ vals h3)).mono ?_
 rintro e w' ⟨v, rfl, hv, hk⟩
 exact ⟨v, rfl, hr.out _ _ _ _ hv, hk⟩⟩
theorem smallP (s : Str) (h : s.length ≤ 12) : smallE (purch s) := by
 refine ⟨by simp [purch], by simp [purch], fun l hl => ?_⟩
 simp only [purch, List.mem_cons, List.not_mem_nil, or_false] at hl
 rcases hl with rfl | rfl
 ·refine ⟨by simp, by simp, ?_⟩
  have := digits_len s
  simp only [negS]
  split
  ·omega
  ·simp; omega
 ·exact ⟨by simp, by simp, by simp; omega⟩
theorem stepAw1 : Fc Tryz.prog 13 [.snap 3 true (awA.map encEntry), .snap 3 true (awB.map encEntry), .snap 2 true (awC.map encClose), .i 6, .str [98, 49]] (.tup [sPosteds awP, .i 0]) := by
 have h := step_ok awA awB awC 6 [98, 49] (by decide) (by decide) (by intro e he; simp only [awA, List.mem_singleton] at he; subst he; exact smallP _ (by decide)) (by intro e he; simp only [awB, List.mem_singleton] at he; subst he; exact smallP _ (by decide))
 rw [aw1] at h
 exact Fc.sub h (.cons (.unfull ..) (.cons (.unfull ..) (.cons (.unfull ..) (.cons (.refl _) (.cons (.refl _) .nil))))) (.refl _)
theorem stepAw2 : Fc Tryz.prog 13 [.snap 3 true (awA.map encEntry), .snap 3 true (awB.map encEntry), .snap 2 true (awC.map encClose), .i 5, .str [98, 49]] (.tup [sPosteds awQ, .i 0]) := by
 have h := step_ok awA awB awC 5 [98, 49] (by decide) (by decide) (by intro e he; simp only [awA, List.mem_singleton] at he; subst he; exact smallP _ (by decide)) (by intro e he; simp only [awB, List.mem_singleton] at he; subst he; exact smallP _ (by decide))
 rw [aw2] at h
 exact Fc.sub h (.cons (.unfull ..) (.cons (.unfull ..) (.cons (.unfull ..) (.cons (.refl _) (.cons (.refl _) .nil))))) (.refl _)
end Go.T
namespace Go.T
open Go Go.Proofs
set_option maxRecDepth 20000
theorem same50T_ok (a b : List Posted) : Fc Tryz.prog 15 [sPosteds a, .snap 6 true (b.map encPosted)] (.b (decide (a = b))) := Fc.sub (same50_ok a b) (.cons (.refl _) (.cons (.unfull ..) .nil)) (.refl _)
theorem awake_ok  : Fc Tryz.prog 12 [] (.b true) := by
 refine Fc.mk' [0] Tryz.func12 rfl Tryz.ntmps12 rfl rfl rfl (fun t w => results_tmp Tryz.results12 t _ w) ?_
 refine Run.seq (Run.reg [.p] ?_)
 refine .ag rfl rfl <| .nil ?_
 refine Run.seq (Run.reg [.p, .p, .p, .p, .p, .p] ?_)
 refine .P rfl (q_call Tryz.call42 rfl (purchase_ok [49, 48, 48, 48] (by decide))) <| .P rfl (q_buildSlice' (n := 1) (rows := awA.map encEntry) Tryz.underlying22 Tryz.sizeOf37 rfl rfl rfl Tryz.zeroValue37 rfl rfl rfl rfl rfl rfl rfl) <| .P rfl (q_call Tryz.call42 rfl (purchase_ok [57, 57, 48] (by decide))) <| .P rfl (q_buildSlice' (n := 1) (rows := awB.map encEntry) Tryz.underlying22 Tryz.sizeOf37 rfl rfl rfl Tryz.zeroValue37 rfl rfl rfl rfl rfl rfl rfl) <| .ag rfl rfl <| .ag rfl rfl <| .nil ?_
 refine Run.seq (Run.reg [.p, .p, .p] ?_)
 refine .P rfl (q_build (pl := #[(0, 1), (1, 1)]) Tryz.underlying76 Tryz.zeroValue76 (fun w => by kernel_rfl) rfl rfl) <| .P rfl (q_buildSlice' (n := 1) (rows := awC.map encClose) Tryz.underlying23 Tryz.sizeOf76 rfl rfl rfl Tryz.zeroValue76 rfl rfl rfl rfl rfl rfl rfl) <| .ag rfl rfl <| .nil ?_
 refine Run.seq (Run.reg [.p, .p, .p, .p, .p, .p, .p, .p, .p] ?_)
 refine .mv rfl rfl <| .mv rfl rfl <| .mv rfl rfl <| .P rfl (q_call Tryz.call13 rfl stepAw1) <| .mv rfl rfl <| .P rfl (q_extract rfl rfl) <| .P rfl (q_extract rfl rfl) <| .ag rfl rfl <| .ag rfl rfl <| .nil ?_
 refine Run.seq (Run.reg [.p, .p, .p, .p, .p, .p, .p, .p, .p] ?_)
 refine .mv rfl rfl <| .mv rfl rfl <| .mv rfl rfl <| .P rfl (q_call Tryz.call13 rfl stepAw2) <| .mv rfl rfl <| .P rfl (q_extract rfl rfl) <| .P rfl (q_extract rfl rfl) <| .ag rfl rfl <| .ag rfl rfl <| .nil ?_
 refine Run.seq (Run.reg [.p, .p, .p, .p, .p, .p] ?_)
 refine .P rfl (q_call Tryz.call42 rfl (purchase_ok [45, 49, 48, 48, 48] (by decide))) <| .P rfl (q_build (pl := #[(0, 1), (1, 1), (2, 1), (3, 3)]) Tryz.underlying39 Tryz.zeroValue39 (fun w => by kernel_rfl) rfl rfl) <| .P rfl (q_call Tryz.call42 rfl (purchase_ok [57, 57, 48] (by decide))) <| .P rfl (q_build (pl := #[(0, 1), (1, 1), (2, 1), (3, 3)]) Tryz.underlying39 Tryz.zeroValue39 (fun w => by kernel_rfl) rfl rfl) <| .P rfl (q_buildSlice' (n := 2) (rows := awP.map encPosted) Tryz.underlying27 Tryz.sizeOf39 rfl rfl rfl Tryz.zeroValue39 rfl rfl rfl rfl rfl rfl rfl) <| .ag rfl rfl <| .nil ?_
 refine Run.seq (Run.reg [.p, .p, .p, .p, .p, .p, .p, .p, .p, .p, .p, .p, .p, .p, .p, .p, .p, .p, .p, .p, .p, .p, .p, .p, .p, .p, .p, .p, .p, .p, .p, .p, .p, .p, .p, .p] ?_)
 refine .mv rfl rfl <| .P rfl (q_eql rfl rfl) <| .mv rfl rfl <| .gT rfl (.inl rfl) rfl rfl rfl (fun hg => pk (fun _ => q_move rfl _)) <| .gT rfl (.inl rfl) rfl rfl rfl (fun hg => pk (fun _ => q_eql (opT rfl hg) rfl _)) <| .P rfl (q_and rfl rfl) <| .mv rfl rfl <| .gT rfl (.inl rfl) rfl rfl rfl (fun hg => pk (fun _ => q_move rfl _)) <| .gT rfl (.inl rfl) rfl rfl rfl (fun hg => pk (fun _ => q_move rfl _)) <| .gT rfl (.inl rfl) rfl rfl rfl (fun hg => pk (fun _ => q_call Tryz.call15 (opsC (opT rfl hg) (opsC (opT rfl hg) (rfl))) (same50T_ok awP awP) _)) <| .P rfl (q_and rfl rfl) <| .mv rfl rfl <| .gT rfl (.inl rfl) rfl rfl rfl (fun hg => pk (fun _ => q_move rfl _)) <| .gT rfl (.inl rfl) rfl rfl rfl (fun hg => pk (fun _ => q_call Tryz.call19 (opsC (opT rfl hg) (rfl)) (adjusting_ok awP (by decide)) _)) <| .gT rfl (.inl rfl) rfl rfl rfl (fun hg => pk (fun _ => q_lenI Tryz.underlying27 (opT rfl hg) _)) <| .gT rfl (.inl rfl) rfl rfl rfl (fun hg => pk (fun _ => q_eql (opT rfl hg) rfl _)) <| .P rfl (q_and rfl rfl) <| .mv rfl rfl <| .gT rfl (.inl rfl) rfl rfl rfl (fun hg => pk (fun _ => q_move rfl _)) <| .gT rfl (.inl rfl) rfl rfl rfl (fun hg => pk (fun _ => q_lenI Tryz.underlying27 (opT rfl hg) _)) <| .gT rfl (.inl rfl) rfl rfl rfl (fun hg => pk (fun _ => q_eql (opT rfl hg) rfl _)) <| .P rfl (q_and rfl rfl) <| .mv rfl rfl <| .gT rfl (.inl rfl) rfl rfl rfl (fun hg => pk (fun _ => q_move rfl _)) <| .gT rfl (.inl rfl) rfl rfl rfl (fun hg => pk (fun _ => q_indexI Tryz.underlying27 Tryz.sizeOf39 (opT rfl hg) rfl (by decide) rfl _)) ?_
 refine .gT rfl (.inl rfl) rfl rfl rfl (fun hg => pk (fun _ => q_fieldI (n := 0) 34 0 Tryz.underlying39 Tryz.sizeOf34 rfl (opT rfl hg) rfl _)) <| .gT rfl (.inl rfl) rfl rfl rfl (fun hg => pk (fun _ => q_loadI Tryz.isAgg34 (opT rfl hg) _)) <| .gT rfl (.inl rfl) rfl rfl rfl (fun hg => pk (fun _ => q_eql (opT rfl hg) rfl _)) <| .P rfl (q_and rfl rfl) <| .mv rfl rfl <| .gT rfl (.inl rfl) rfl rfl rfl (fun hg => pk (fun _ => q_move rfl _)) <| .gT rfl (.inl rfl) rfl rfl rfl (fun hg => pk (fun _ => q_call Tryz.call19 (opsC (opT rfl hg) (rfl)) (adjusting_ok awQ (by decide)) _)) <| .gT rfl (.inl rfl) rfl rfl rfl (fun hg => pk (fun _ => q_lenI Tryz.underlying27 (opT rfl hg) _)) <| .gT rfl (.inl rfl) rfl rfl rfl (fun hg => pk (fun _ => q_eql (opT rfl hg) rfl _)) <| .P rfl (q_and rfl rfl) <| .ag rfl rfl <| .nil ?_
 refine Run.ret (?_)
 exact ret1 rfl (Sub.bool (by decide +kernel))
end Go.T
namespace Go.T
open Go Go.Proofs
set_option maxRecDepth 20000
end Go.T
namespace Go.T
open Go
end Go.T
namespace Go.T
open Go Go.Proofs
set_option maxRecDepth 20000
end Go.T
namespace Go.T
open Go
theorem lt_cons (c d : UInt8) (r s : Str) : Str.lt (c :: r) (d :: s) = (decide (c.toNat < d.toNat) || (decide (c = d) && Str.lt r s)) := by
 show (decide (c < d) || (c == d && Op.bytesLess r s)) = _
 have h1 : decide (c < d) = decide (c.toNat < d.toNat) := by simp [UInt8.lt_iff_toNat_lt]
 have h2 : (c == d) = decide (c = d) := by rw [Bool.eq_iff_iff]; simp
 rw [h1, h2]; rfl
theorem natVal_cons (c : UInt8) (r : Str) : natVal (c :: r) = (c.toNat - 48) * 10 ^ r.length + natVal r := by
 have e : natVal (c :: r) = natVal ([c] ++ r) := rfl
 rw [e, natVal_append]; simp [natVal]
theorem lt_val : ∀ (a b : Str), a.length = b.length → a.all isDig = true → b.all isDig = true → (Str.lt a b = true ↔ natVal a < natVal b)
 | [], [], _, _, _ => by simp [Str.lt, Op.bytesLess, natVal]
 | [], _ :: _, h, _, _ => by simp at h
 | _ :: _, [], h, _, _ => by simp at h
 | c :: r, d :: s, h, ha, hb => by
  simp only [List.length_cons, Nat.add_right_cancel_iff] at h
  simp only [List.all_cons, Bool.and_eq_true] at ha hb
  have ih := lt_val r s h ha.2 hb.2
  have hr := natVal_lt r ha.2
  have hs := natVal_lt s hb.2
  rw [lt_cons, natVal_cons, natVal_cons, h] at *
  have hc : 48 ≤ c.toNat := by have := ha.1; simp [isDig] at this; omega
  have hd : 48 ≤ d.toNat := by have := hb.1; simp [isDig] at this; omega
  simp only [Bool.or_eq_true, Bool.and_eq_true, decide_eq_true_eq]
  rcases Nat.lt_trichotomy c.toNat d.toNat with g | g | g
  ·have := Nat.mul_le_mul_right (10 ^ s.length) (show c.toNat - 48 + 1 ≤ d.toNat - 48 by omega)
   rw [Nat.add_mul, Nat.one_mul] at this
   constructor
   ·intro _; omega
   ·intro _; exact .inl g
  ·have e : c = d := UInt8.toNat_inj.1 g
   subst e
   simp only [Nat.lt_irrefl, false_or, true_and, ih]
   omega
  ·have := Nat.mul_le_mul_right (10 ^ s.length) (show d.toNat - 48 + 1 ≤ c.toNat - 48 by omega)
   rw [Nat.add_mul, Nat.one_mul] at this
   constructor
   ·rintro (h | h)
    ·omega
    ·have := h.1; subst this; omega
   ·intro _; omega
theorem natVal_ge {d : Str} (hd : d.all isDig = true) (h0 : d.head? ≠ some 48) (hn : d.length ≠ 0) : 10 ^ (d.length - 1) ≤ natVal d := by
 cases d with
 | nil => simp at hn
 | cons c r =>
  rw [natVal_cons]
  simp only [List.all_cons, Bool.and_eq_true] at hd
  have hc : 48 ≤ c.toNat := by have := hd.1; simp [isDig] at this; omega
  have : c.toNat ≠ 48 := fun e => by simp at h0; exact h0 (UInt8.toNat_inj.1 e)
  have := Nat.mul_le_mul_right (10 ^ r.length) (show 1 ≤ c.toNat - 48 by omega)
  simp only [List.length_cons, Nat.add_sub_cancel]
  omega
theorem natVal_short {a b : Str} (ha : a.all isDig = true) (hb : b.all isDig = true) (h0 : b.head? ≠ some 48) (h : a.length < b.length) : natVal a < natVal b := by
 have h1 := natVal_lt a ha
 have h2 := natVal_ge hb h0 (by omega)
 have h3 : 10 ^ a.length ≤ 10 ^ (b.length - 1) := Nat.pow_le_pow_right (by omega) (by omega)
 omega
theorem numCmp_sign (a b : Str) : numCmp a b = signI (val a - val b) := by
 have da := digits_dig a
 have db := digits_dig b
 have ha := digits_head a
 have hb := digits_head b
 have na : (digits a).2 = true → 0 < natVal (digits a).1 := fun h => by
  have := digits_neg a h
  have e : (digits a).1.length ≠ 0 := by intro e; apply this; rw [List.length_eq_zero_iff.1 e, groupsOf_nil]; rfl
  exact Nat.lt_of_lt_of_le (Nat.pow_pos (by omega)) (natVal_ge da ha e)
 have nb : (digits b).2 = true → 0 < natVal (digits b).1 := fun h => by
  have := digits_neg b h
  have e : (digits b).1.length ≠ 0 := by intro e; apply this; rw [List.length_eq_zero_iff.1 e, groupsOf_nil]; rfl
  exact Nat.lt_of_lt_of_le (Nat.pow_pos (by omega)) (natVal_ge db hb e)
 have key : (natVal (digits a).1 < natVal (digits b).1 ↔ (digits a).1.length < (digits b).1.length ∨ ((digits a).1.length = (digits b).1.length ∧ Str.lt (digits a).1 (digits b).1 = true)) ∧
   (natVal (digits b).1 < natVal (digits a).1 ↔ (digits b).1.length < (digits a).1.length ∨ ((digits a).1.length = (digits b).1.length ∧ Str.lt (digits b).1 (digits a).1 = true)) := by
  rcases Nat.lt_trichotomy (digits a).1.length (digits b).1.length with g | g | g
  ·have := natVal_short da db hb g
   constructor <;> constructor <;> intro h <;> omega
  ·rw [lt_val _ _ g da db, lt_val _ _ g.symm db da]
   constructor <;> constructor <;> intro h <;> omega
  ·have := natVal_short db da ha g
   constructor <;> constructor <;> intro h <;> omega
 unfold numCmp signI val
 cases hna : (digits a).2 <;> cases hnb : (digits b).2 <;> simp only [hna, hnb] at na nb ⊢ <;> simp only [ne_eq, not_true, if_false, Bool.false_eq_true, if_true, not_false_iff, reduceCtorEq] <;> (repeat' split) <;> grind
end Go.T
namespace Go.T
open Go
end Go.T
namespace Go.T
open Go
theorem lt_asymm : ∀ a b : Str, Str.lt a b = true → Str.lt b a = false
 | _, [], h => by simp [Str.lt, Op.bytesLess] at h
 | [], _ :: _, _ => by simp [Str.lt, Op.bytesLess]
 | c :: r, d :: s, h => by
  rw [lt_cons] at h ⊢
  have ih := lt_asymm r s
  simp only [Bool.or_eq_true, Bool.and_eq_true, decide_eq_true_eq] at h
  simp only [Bool.or_eq_false_iff, Bool.and_eq_false_iff, decide_eq_false_iff_not]
  rcases h with h | ⟨rfl, h⟩
  ·exact ⟨by omega, .inl (by rintro rfl; omega)⟩
  ·exact ⟨by omega, .inr (ih h)⟩
end Go.T
namespace Go.T
open Go Go.Proofs
end Go.T
namespace Go.T
open Go
theorem val_canon (s : Str) : canon s = ofInt (val s) := by
 have h1 := digits_nat s
 have h2 := digits_neg s
 unfold canon val ofInt
 cases h : (digits s).2 with
 | true =>
  have : natVal (digits s).1 ≠ 0 := fun e => by
   rw [e, natDig_zero] at h1
   exact h2 h (by rw [h1, groupsOf_nil]; rfl)
  simp only [if_true]
  rw [if_pos (by omega), Int.natAbs_neg, Int.natAbs_natCast, ← h1]
 | false =>
  simp only [Bool.false_eq_true, if_false]
  rw [if_neg (by omega), Int.natAbs_natCast, ← h1]
theorem negS_ofInt (s : Str) : negS s = ofInt (-val s) := by
 have h1 := digits_nat s
 have h2 := digits_neg s
 unfold negS val ofInt
 cases h : (digits s).2 with
 | true =>
  simp only [if_true, true_or]
  rw [if_neg (by omega), Int.neg_neg, Int.natAbs_natCast, ← h1]
 | false =>
  simp only [Bool.false_eq_true, if_false, false_or]
  by_cases e : (digits s).1 = []
  ·rw [if_pos e, e]
   simp [natVal, natDig_zero]
  ·have : natVal (digits s).1 ≠ 0 := fun e' => by rw [e', natDig_zero] at h1; exact e h1
   rw [if_neg e, if_pos (by omega), Int.natAbs_neg, Int.natAbs_natCast, ← h1]
theorem val_negS (s : Str) : val (negS s) = -val s := by rw [negS_ofInt, val_ofInt]
theorem checkE_parts {e : Entry} : checkE e = 0 ↔ checkHead e = 0 ∧ e.lines.length ≠ 0 ∧ e.lines.length ≤ 64 ∧ checkLines [] e.lines = 0 ∧ balanced e.lines = true := by
 unfold checkE; grind
end Go.T
namespace Go.T
open Go Go.Proofs
/-- The text of the laws' own name. -/
@[reducible] def kk : Str := [107]
end Go.T
namespace Go.T
open Go
open Go.ChangeMaps (setBlock)
variable [Noise]
variable {κ β : Type} [DecidableEq κ]
def findK (k : κ) : List κ → Nat → Option Nat
 | [], _ => none
 | x :: r, i => if k = x then some i else findK k r (i + 1)
/-- Keys that compare by value. -/
structure KeyT (P : Program) (kt : TypeId) (kD : κ → D) (kV : κ → Value) (kOk : κ → Prop) : Prop where
 val : ∀ {w : World} {O : Nat → Prop} {ρ : Rho} {k : κ} {v : Value}, V w O ρ (kD k) v → v = kV k ∧ kOk k
 back : ∀ {w : World} {O : Nat → Prop} {ρ : Rho} {k : κ}, kOk k → V w O ρ (kD k) (kV k)
 check : ∀ (b : Bool) (k : κ) (w : World), kOk k → (Instr.checkKey b 10000 kt (kV k)).run P w = .ok () w
 find : ∀ (k : κ) (es : List MapEntry) (ks : List κ) (w : World), es.map (·.key) = ks.map kV → (∀ x ∈ ks, kOk x) → kOk k →
  (Instr.findKey kt (kV k) es).run P w = .ok ((findK k ks 0).map fun j => (j, (es[j]?.map (·.val)).getD undef)) w
 stays : ∀ (k : κ) (w : World), (Instr.keyThatStays (kV k) (kV k)).run P w = .ok (kV k) w
@[reducible] def encGM (kD : κ → D) (vD : β → D) (m : List (κ × β)) : List (D × D) := m.map fun p => (kD p.1, vD p.2)
def getG (d : β) : List (κ × β) → κ → β
 | [], _ => d
 | (a, v) :: r, k => if k = a then v else getG d r k
def hasG (m : List (κ × β)) (k : κ) : Bool := m.any fun p => decide (k = p.1)
def setG : List (κ × β) → κ → β → List (κ × β)
 | [], k, v => [(k, v)]
 | (a, u) :: r, k, v => if k = a then (k, v) :: r else (a, u) :: setG r k v
theorem findK_cases (d : β) (k : κ) : ∀ (m : List (κ × β)) (i : Nat),
  (findK k (m.map (·.1)) i = none ∧ hasG m k = false ∧ getG d m k = d ∧ ∀ v, setG m k v = m ++ [(k, v)]) ∨
  (∃ j, j < m.length ∧ findK k (m.map (·.1)) i = some (i + j) ∧ m[j]? = some (k, getG d m k) ∧ hasG m k = true ∧ ∀ v, setG m k v = m.set j (k, v))
 | [], i => .inl ⟨rfl, rfl, rfl, fun _ => rfl⟩
 | (a, u) :: m, i => by
  by_cases h : k = a
  ·subst h
   exact .inr ⟨0, by simp, by simp [findK], by simp [getG], by simp [hasG], fun v => by simp [setG]⟩
  ·rcases findK_cases d k m (i + 1) with ⟨h1, h2, h3, h4⟩ | ⟨j, h1, h2, h3, h4, h5⟩
   ·exact .inl ⟨by simp [findK, h, h1], by simpa [hasG, h] using h2, by simp [getG, h, h3], fun v => by simp [setG, h, h4]⟩
   ·exact .inr ⟨j + 1, by simp; omega, by simp only [List.map_cons, findK, h, if_false, h2]; congr 1; omega, by simpa [getG, h] using h3, by simpa [hasG, h] using h4, fun v => by simp [setG, h, h5]⟩
section
variable {P : Program} {kt : TypeId} {kD : κ → D} {kV : κ → Value} {kOk : κ → Prop} {vD : β → D}
/-- What the entries of a map hold. -/
structure EsG (w : World) (O : Nat → Prop) (ρ : Rho) (kV : κ → Value) (vD : β → D) (es : Array MapEntry) (m : List (κ × β)) : Prop where
 len : es.size = m.length
 at_ : ∀ (i : Nat) (k : κ) (v : β), m[i]? = some (k, v) → ∃ e, es[i]? = some e ∧ e.born = i ∧ e.key = kV k ∧ V w O ρ (vD v) e.val
theorem EsG.keys {w : World} {O : Nat → Prop} {ρ : Rho} {es : Array MapEntry} {m : List (κ × β)} (h : EsG w O ρ kV vD es m) : es.toList.map (·.key) = (m.map (·.1)).map kV := by
 apply List.ext_getElem?
 intro i
 simp only [List.getElem?_map, Array.getElem?_toList]
 rcases Nat.lt_or_ge i m.length with g | g
 ·obtain ⟨e, g1, _, g3, _⟩ := h.at_ i (m[i]).1 (m[i]).2 (by simp [g])
  rw [g1, List.getElem?_eq_getElem g]; simp [g3]
 ·rw [Array.getElem?_eq_none (by rw [h.len]; exact g), List.getElem?_eq_none g]; rfl
theorem own_G (hK : KeyT P kt kD kV kOk) {w : World} {O : Nat → Prop} {ρ : Rho} {l : Loc} {m : List (κ × β)} (h : Own w O ρ l (.mp (encGM kD vD m))) : ∃ es, w.heap[l.b]? = some (.map es m.length) ∧ EsG w O ρ kV vD es m ∧ ∀ k ∈ m.map (·.1), kOk k := by
 obtain ⟨es, h1, h2, h3⟩ := h
 simp only [encGM, List.length_map] at h1 h2
 have key : ∀ (i : Nat) (k : κ) (v : β), m[i]? = some (k, v) → ∃ e : MapEntry, es[i]? = some e ∧ e.born = i ∧ e.key = kV k ∧ V w O ρ (vD v) e.val ∧ kOk k := by
  intro i k v hi
  obtain ⟨e, g1, g2, g3, g4⟩ := h3 i (kD k) (vD v) (by simp [encGM, hi])
  have := hK.val g3
  exact ⟨e, g1, g2, this.1, g4, this.2⟩
 refine ⟨es, h1, ⟨h2, fun i k v hi => ?_⟩, fun k hk => ?_⟩
 ·obtain ⟨e, g1, g2, g3, g4, _⟩ := key i k v hi; exact ⟨e, g1, g2, g3, g4⟩
 ·obtain ⟨p, hp, rfl⟩ := List.mem_map.1 hk
  obtain ⟨i, hi⟩ := List.getElem?_of_mem hp
  obtain ⟨_, _, _, _, _, g5⟩ := key i p.1 p.2 hi
  exact g5
theorem own_G' (hK : KeyT P kt kD kV kOk) {w : World} {O : Nat → Prop} {ρ : Rho} {l : Loc} {m : List (κ × β)} {es : Array MapEntry} (h1 : w.heap[l.b]? = some (.map es m.length)) (h2 : EsG w O ρ kV vD es m) (h3 : ∀ k ∈ m.map (·.1), kOk k) : Own w O ρ l (.mp (encGM kD vD m)) := by
 refine ⟨es, by simpa [encGM] using h1, by simpa [encGM] using h2.len, fun i kd vd hi => ?_⟩
 simp only [encGM, List.getElem?_map, Option.map_eq_some_iff] at hi
 obtain ⟨⟨k, v⟩, g1, g2⟩ := hi
 cases g2
 obtain ⟨e, g3, g4, g5, g6⟩ := h2.at_ i k v g1
 exact ⟨e, g3, g4, by rw [g5]; exact hK.back (h3 k (List.mem_map.2 ⟨(k, v), List.mem_of_getElem? g1, rfl⟩)), g6⟩
variable {env : Env} {dst : Option Tmp} {ty : TypeId} {pos : String} {aft : Array Edge} {g : Option (Nat × Bool)}
theorem q_makeMapG {t : TypeId} {obs : Obs} (id : Nat) (kD : κ → D) (vD : β → D) (hid : obs.get id = none) : QStep P ⟨dst, .makeMap t none, ty, pos, aft, g⟩ env obs (.mapr id) ((id, .mp (encGM kD vD [])) :: obs) := q_makeMapS id hid
theorem lookG (hK : KeyT P kt kD kV kOk) {O : Nat → Prop} {ρ : Rho} {w : World} {t et : TypeId} {id : Nat} {l : Loc} {m : List (κ × β)} {k : κ} {d : β} {obs : Obs} {zv : Value} {c : Bool} (hu : P.underlying t = some (.map kt et)) (hz : (zeroValue et).run P w = .ok zv w) (hzv : V w (Ot O ρ obs) ρ (vD d) zv)
  (hok : ObsOK w O ρ obs) (ho : obs.get id = some (.mp (encGM kD vD m))) (h2 : ρ id = some l) (hk : kOk k) :
  ∃ v, V w (Ot O ρ obs) ρ (vD (getG d m k)) v ∧ (Instr.lookup t (.map (some l.b)) (kV k) c).run P w = .ok (if c then .tuple #[v, .bool (hasG m k)] else v) w := by
 obtain ⟨l', h3, _, hown⟩ := hok.own id _ ho rfl
 rw [h2] at h3; cases h3
 obtain ⟨es, h4, h5, h6⟩ := own_G hK hown
 have hck := fun b => hK.check b k w hk
 have hfk := hK.find k es.toList (m.map (·.1)) w h5.keys h6 hk
 rcases findK_cases d k m 0 with ⟨g1, g2, g3, _⟩ | ⟨j, gj, g1, g2, g3, _⟩
 ·refine ⟨zv, by rw [g3]; exact hzv, ?_⟩
  rw [g1] at hfk
  cases c <;> simp [Instr.lookup, run_und hu, MapKept.run_getObj_map h4, hck, hfk, hz, g2]
 ·obtain ⟨e, k1, k2, k3, k4⟩ := h5.at_ j k _ g2
  refine ⟨e.val, k4, ?_⟩
  rw [g1] at hfk
  simp only [Option.map_some, Nat.zero_add, Array.getElem?_toList, k1, Option.getD_some] at hfk
  cases c <;> simp [Instr.lookup, run_und hu, MapKept.run_getObj_map h4, hck, hfk, g3]
theorem q_lookupG (hK : KeyT P kt kD kV kOk) {t et : TypeId} {x y : Operand} {id : Nat} {m : List (κ × β)} {k : κ} {d : β} {kd : D} {obs : Obs} {zv : Value} (hu : P.underlying t = some (.map kt et)) (hz : ∀ w, (zeroValue et).run P w = .ok zv w) (hzv : ∀ (w : World) O ρ, V w O ρ (vD d) zv)
  (hx : env.op x = some (.mapr id)) (hy : env.op y = some kd) (hkd : kd = kD k) (ho : obs.get id = some (.mp (encGM kD vD m))) :
  QStep P ⟨dst, .lookup t x y false, ty, pos, aft, g⟩ env obs (vD (getG d m k)) obs :=
 .val fun O ρ a w hok hv => by
  subst hkd
  have hvx := hv x (by simp [Op.operands]) _ hx
  have hvy := hK.val (hv y (by simp [Op.operands]) _ hy)
  simp only [V] at hvx
  obtain ⟨l, h2, e1⟩ := hvx
  obtain ⟨v, h3, h4⟩ := lookG (c := false) hK hu (hz w) (hzv w _ ρ) hok ho h2 hvy.2
  exact ⟨v, by simp [execOp, e1, hvy.1, h4], h3⟩
theorem setG_keys (hOk : κ → Prop) {m : List (κ × β)} {k : κ} {v : β} (h : ∀ x ∈ m.map (·.1), hOk x) (hk : hOk k) : ∀ x ∈ (setG m k v).map (·.1), hOk x := by
 induction m with
 | nil => intro x hx; simp [setG] at hx; subst hx; exact hk
 | cons p r ih =>
  obtain ⟨a, u⟩ := p
  intro x hx
  simp only [setG] at hx
  split at hx
  ·simp only [List.map_cons, List.mem_cons] at hx h
   rcases hx with rfl | hx
   ·exact hk
   ·exact h x (.inr hx)
  ·simp only [List.map_cons, List.mem_cons] at hx
   rcases hx with rfl | hx
   ·exact h _ (by simp)
   ·exact ih (fun y hy => h y (by simp only [List.map_cons, List.mem_cons]; exact .inr hy)) x hx
theorem setG_len (d : β) (m : List (κ × β)) (k : κ) (v : β) : (setG m k v).length = if hasG m k then m.length else m.length + 1 := by
 rcases findK_cases d k m 0 with ⟨_, g2, _, g4⟩ | ⟨j, _, _, _, g4, g5⟩
 ·rw [g4, g2]; simp
 ·rw [g5, g4]; simp
theorem q_mapUpdateG (hK : KeyT P kt kD kV kOk) {t et : TypeId} {x y z : Operand} {id : Nat} {m : List (κ × β)} {k : κ} {v : β} {kd vd : D} {obs : Obs} (hu : P.underlying t = some (.map kt et))
  (hx : env.op x = some (.mapr id)) (hy : env.op y = some kd) (hz : env.op z = some vd) (hkd : kd = kD k) (hvd : vd = vD v) (ho : obs.get id = some (.mp (encGM kD vD m))) :
  QStep P ⟨dst, .mapUpdate t x y z, ty, pos, aft, g⟩ env obs (.raw undef) (obs.set id (.mp (encGM kD vD (setG m k v)))) :=
 .step fun O ρ a w hok hv => by
  subst hkd; subst hvd
  have hvx := hv x (by simp [Op.operands]) _ hx
  have hvy := hK.val (hv y (by simp [Op.operands]) _ hy)
  have hvz := hv z (by simp [Op.operands]) _ hz
  simp only [V] at hvx
  obtain ⟨l, h2, e1⟩ := hvx
  obtain ⟨l', h3, _, hown⟩ := hok.own id _ ho rfl
  rw [h2] at h3; cases h3
  obtain ⟨es, h4, h5, h6⟩ := own_G hK hown
  have hck := fun b => hK.check b k w hvy.2
  have hfk := hK.find k es.toList (m.map (·.1)) w h5.keys h6 hvy.2
  have hset : ∀ o', (setObj l.b o').run P w = .ok () { w with heap := w.heap.setIfInBounds l.b o' } := fun o' => by simp [setObj, Sem.run, h4]
  have hlt := (Array.getElem?_eq_some_iff.1 h4).1
  have hks := setG_keys kOk (v := v) h6 hvy.2
  rcases findK_cases v k m 0 with ⟨g1, _, _, g4⟩ | ⟨j, gj, g1, g2, _, g4⟩
  ·rw [g1] at hfk
   refine ⟨undef, _, ρ, .inr ⟨?_, rfl⟩, Tr.upd (o' := .mp (encGM kD vD (setG m k v))) hok ho rfl h2 (.map (es.push { key := kV k, val := a.eval z, born := m.length }) (m.length + 1)) ?_, by simp [V]⟩
   ·simp [execOp, Instr.mapUpdate, run_und hu, e1, hvy.1, MapKept.run_getObj_map h4, hck, hfk, hset]
   ·intro hkp
    rw [g4] at hks hkp ⊢
    refine own_G' hK (es := es.push { key := kV k, val := a.eval z, born := m.length }) (by simp [hlt]) ⟨by simp [h5.len], fun i k' v' hi => ?_⟩ hks
    rw [Array.getElem?_push, h5.len]
    by_cases e : i = m.length
    ·subst e
     rw [List.getElem?_append_right (Nat.le_refl _)] at hi
     simp at hi
     obtain ⟨rfl, rfl⟩ := hi
     exact ⟨_, by rw [if_pos rfl], rfl, rfl, V.mono hkp (RhoLe.refl _) _ _ hvz⟩
    ·have hi' : i < m.length := by
      rcases Nat.lt_or_ge i m.length with q | q
      ·exact q
      ·rw [List.getElem?_eq_none (by simp; omega)] at hi; cases hi
     rw [List.getElem?_append_left hi'] at hi
     obtain ⟨x, q1, q2, q3, q4⟩ := h5.at_ i k' v' hi
     exact ⟨x, by rw [if_neg e]; exact q1, q2, q3, V.mono hkp (RhoLe.refl _) _ _ q4⟩
  ·obtain ⟨e, k1, k2, k3, _⟩ := h5.at_ j k _ g2
   rw [g1] at hfk
   simp only [Option.map_some, Nat.zero_add] at hfk
   refine ⟨undef, _, ρ, .inr ⟨?_, rfl⟩, Tr.upd (o' := .mp (encGM kD vD (setG m k v))) hok ho rfl h2 (.map (es.modify j fun e => { e with key := kV k, val := a.eval z }) m.length) ?_, by simp [V]⟩
   ·simp [execOp, Instr.mapUpdate, run_und hu, e1, hvy.1, MapKept.run_getObj_map h4, hck, hfk, hset, k1, k3, hK.stays]
   ·intro hkp
    rw [g4] at hks hkp ⊢
    refine own_G' hK (es := es.modify j fun e => { e with key := kV k, val := a.eval z }) (by simp [hlt]) ⟨by simp [h5.len], fun i k' v' hi => ?_⟩ hks
    rw [Array.getElem?_modify]
    rw [List.getElem?_set] at hi
    by_cases e' : j = i
    ·subst e'
     rw [if_pos rfl, if_pos gj] at hi
     cases hi
     exact ⟨{ e with key := kV k, val := a.eval z }, by rw [if_pos rfl, k1]; rfl, k2, rfl, V.mono hkp (RhoLe.refl _) _ _ hvz⟩
    ·rw [if_neg e'] at hi
     obtain ⟨x, q1, q2, q3, q4⟩ := h5.at_ i k' v' hi
     exact ⟨x, by rw [if_neg e']; exact q1, q2, q3, V.mono hkp (RhoLe.refl _) _ _ q4⟩
theorem EsG.mem {w : World} {O : Nat → Prop} {ρ : Rho} {es : Array MapEntry} {m : List (κ × β)} (h : EsG w O ρ kV vD es m) {e : MapEntry} (he : e ∈ es.toList) : ∃ k v, m[e.born]? = some (k, v) ∧ es[e.born]? = some e ∧ e.key = kV k ∧ V w O ρ (vD v) e.val := by
 obtain ⟨j, hj⟩ := List.getElem?_of_mem he
 rw [Array.getElem?_toList] at hj
 have hlt : j < m.length := by rw [← h.len]; exact (Array.getElem?_eq_some_iff.1 hj).1
 obtain ⟨e', g1, g2, g3, g4⟩ := h.at_ j (m[j]).1 (m[j]).2 (by simp [hlt])
 rw [hj] at g1; cases g1
 subst g2
 exact ⟨_, _, by simp [hlt], hj, g3, g4⟩
theorem EsG.borns {w : World} {O : Nat → Prop} {ρ : Rho} {es : Array MapEntry} {m : List (κ × β)} (h : EsG w O ρ kV vD es m) : es.toList.map (·.born) = List.range m.length := by
 apply List.ext_getElem?
 intro i
 rw [List.getElem?_map, Array.getElem?_toList]
 rcases Nat.lt_or_ge i m.length with g | g
 ·obtain ⟨e, g1, g2, _⟩ := h.at_ i (m[i]).1 (m[i]).2 (by simp [g])
  rw [g1, List.getElem?_range g]; simp [g2]
 ·rw [Array.getElem?_eq_none (by rw [h.len]; exact g), List.getElem?_eq_none (by simpa using g)]; rfl
def nextGA (m : List (κ × β)) (seen : List Nat) : Option (Nat × κ × β) → Prop
 | none => ∀ j, j < m.length → j ∈ seen
 | some (j, k, v) => m[j]? = some (k, v) ∧ j ∉ seen
@[reducible] def nextGD (kD : κ → D) (vD : β → D) : Option (Nat × κ × β) → D
 | none => .tup [.b false]
 | some (_, k, v) => .tup [.b true, kD k, vD v]
end
/-! Keys that are structs of strings. -/
@[reducible] def vStr (s : Str) : Value := .string ⟨s.toArray⟩
theorem Vs_strs' {w : World} {O : Nat → Prop} {ρ : Rho} : ∀ {ss : List Str}, (∀ s ∈ ss, s.length ≤ big) → Vs w O ρ (ss.map D.str) (ss.map vStr)
 | [], _ => by simp [Vs]
 | s :: ss, h => by
  simp only [List.map_cons, Vs, V]
  exact ⟨_, _, rfl, ⟨rfl, h s (by simp)⟩, Vs_strs' (fun x hx => h x (by simp [hx]))⟩
theorem Vs_strs_big {w : World} {O : Nat → Prop} {ρ : Rho} : ∀ {ss : List Str} {vs : List Value}, Vs w O ρ (ss.map D.str) vs → ∀ s ∈ ss, s.length ≤ big
 | [], _, _ => by simp
 | s :: ss, vs, h => by
  simp only [List.map_cons, Vs, V] at h
  obtain ⟨u, us, rfl, h1, h2⟩ := h
  intro x hx
  rcases List.mem_cons.1 hx with rfl | hx
  ·exact h1.2
  ·exact Vs_strs_big h2 x hx
theorem findK_ge {k : κ} : ∀ {ks : List κ} {i j : Nat}, findK k ks i = some j → i ≤ j
 | [], _, _, h => by simp [findK] at h
 | x :: ks, i, j, h => by
  simp only [findK] at h
  split at h
  ·simp at h; omega
  ·have := findK_ge h; omega
theorem findAsking_run {P : Program} {kt : TypeId} {kV : κ → Value} (w : World) (k : κ) (heq : ∀ k', (Op.equal kt (kV k) (kV k')).run P w = .ok (decide (k = k')) w) : ∀ (es : List MapEntry) (ks : List κ) (i : Nat), es.map (·.key) = ks.map kV →
  (Instr.findAsking kt (kV k) es i).run P w = .ok ((findK k ks i).map fun j => (j, (es[j - i]?.map (·.val)).getD undef)) w
 | [], [], i, _ => by simp [Instr.findAsking, findK]
 | [], _ :: _, i, h => by simp at h
 | _ :: _, [], i, h => by simp at h
 | e :: es, x :: ks, i, h => by
  simp only [List.map_cons, List.cons.injEq] at h
  by_cases hx : k = x
  ·subst hx
   simp [Instr.findAsking, h.1, heq, findK]
  ·have ih := findAsking_run w k heq es ks (i + 1) h.2
   simp only [Instr.findAsking, h.1, Sem.run_bind, heq, Result.andThen_ok, hx, decide_false, Bool.false_eq_true, if_false, ih, findK]
   cases hf : findK k ks (i + 1) with
   | none => rfl
   | some j =>
    have := findK_ge hf
    simp only [Option.map_some]
    rw [show j - i = (j - (i + 1)) + 1 by omega, List.getElem?_cons_succ]
@[reducible] def kPair (p : Str × Str) : D := .agg [.str p.1, .str p.2]
@[reducible] def vPair (p : Str × Str) : Value := .agg #[vStr p.1, vStr p.2]
@[reducible] def okPair (p : Str × Str) : Prop := p.1.length ≤ big ∧ p.2.length ≤ big
theorem keyPair {P : Program} {kt : TypeId} {f1 f2 : Field} (hu : P.underlying kt = some (.struct #[f1, f2])) (hp : P.stoodInHeld kt = false) (hf : StrF P [f1, f2] 0) : KeyT P kt kPair vPair okPair where
 val := by
  intro w O ρ k v h
  simp only [kPair, V] at h
  obtain ⟨vs, rfl, h⟩ := h
  have h1 := Vs_strs (ss := [k.1, k.2]) h
  have h2 := Vs_strs_big (ss := [k.1, k.2]) h
  refine ⟨?_, h2 _ (by simp), h2 _ (by simp)⟩
  have : vs = #[vStr k.1, vStr k.2] := by rw [← Array.toArray_toList (xs := vs), h1]; rfl
  rw [this]
 back := by
  intro w O ρ k h
  simp only [kPair, V]
  exact ⟨_, rfl, Vs_strs' (ss := [k.1, k.2]) (by simp; exact ⟨h.1, h.2⟩)⟩
 check := by
  intro b k w _
  have ck : ∀ (n : Nat) (t : TypeId) (s : Str), P.underlying t = some .string → (Instr.checkKey b (n + 1) t (vStr s)).run P w = .ok () w := fun n t s h => by
   rw [Instr.checkKey]; simp [run_und h]
  cases hf with
  | cons n1 u1 a1 o1 r =>
   cases r with
   | cons n2 u2 a2 o2 r =>
    show (Instr.checkKey b (9999 + 1) kt _).run P w = _
    rw [Instr.checkKey]
    have m1 : f1.name ≠ "_" := by simpa using n1
    have m2 : f2.name ≠ "_" := by simpa using n2
    simp [run_und hu, part, a1, a2, o1, o2, m1, m2, ck 9998 _ _ u1, ck 9998 _ _ u2]
 find := by
  intro k es ks w hes hks hk
  have heq : ∀ k' : Str × Str, (Op.equal kt (vPair k) (vPair k')).run P w = .ok (decide (k = k')) w := fun k' => by
   have hfo : P.fieldsOf kt = #[f1, f2] := by simp [Program.fieldsOf, hu]
   have h3 := run_equalIn_struct (P := P) w 9999 kt #[vStr k.1, vStr k.2] #[vStr k'.1, vStr k'.2] (by rw [hfo]; exact hu) hp
   have h6 := eqFields_str (d := 9998) hf (xs := [k.1, k.2]) (ys := [k'.1, k'.2]) rfl rfl w
   rw [hfo] at h3
   unfold Op.equal Op.maxDepth
   rw [h3]
   simp only [List.drop_zero] at h6
   refine h6.trans ?_
   congr 1
   rw [Bool.eq_iff_iff]
   obtain ⟨a, b⟩ := k
   obtain ⟨a', b'⟩ := k'
   simp
  have hfa := findAsking_run w k heq es ks 0 hes
  simp only [Nat.sub_zero] at hfa
  cases es with
  | nil =>
   cases ks with
   | nil => simp [Instr.findKey, run_und hu, Instr.findNow, findK]
   | cons _ _ => simp at hes
  | cons e es =>
   cases ks with
   | nil => simp at hes
   | cons x ks =>
    simp only [List.map_cons, List.cons.injEq] at hes
    simp [Instr.findKey, run_und hu, Instr.findNow, hes.1, Instr.sameNow]
    simpa using hfa
 stays := by
  intro k w
  simp [Instr.keyThatStays, Instr.sameBits, str_beq]
end Go.T
namespace Go.T
open Go Go.Proofs Go.Shelf Go.RowKit Go.Lib Go.Sort
/-- A comparison that leaves the clock in order. -/
@[reducible] def calm : Noise := ⟨False⟩
theorem grown_of_keep {w w' : World} (h : @Keep calm w w') : ∃ q os', w' = Sort.grow (w.drewN q) os' := by
  obtain ⟨h1, h2, h3, h4, h5⟩ := h
  have h6 : w'.tape = w.tape ∧ w.drawn ≤ w'.drawn := by
    rcases h5 with h | h
    · exact h
    · exact h.elim
  clear h5
  refine ⟨w'.drawn - w.drawn, w'.heap.extract w.heap.size w'.heap.size, ?_⟩
  have hh : w'.heap = w.heap ++ w'.heap.extract w.heap.size w'.heap.size := by
    apply Array.ext_getElem?
    intro i
    rcases Nat.lt_or_ge i w.heap.size with g | g
    · rw [Array.getElem?_append_left g, h2 i g]
    · rw [Array.getElem?_append_right g, Array.getElem?_extract]
      by_cases e : i < w'.heap.size
      · rw [if_pos (by omega)]; congr 1; omega
      · rw [if_neg (by omega), Array.getElem?_eq_none (by omega)]
  have hd : (w.drewN (w'.drawn - w.drawn)) = { w with drawn := w'.drawn } := by
    unfold World.drewN; congr 1; omega
  rw [hd]
  unfold Sort.grow
  cases w'
  simp only at *
  obtain ⟨h6, _⟩ := h6
  subst h3; subst h4; subst h6
  congr 1
section
variable {α : Type} [Inhabited α] {P : Program}
/-- Elements that are what they are, wherever they lie. -/
structure Elem (k : Nat) (encD : α → List D) (encV : α → List Value) : Prop where
  len : ∀ x, (encV x).length = k
  lenD : ∀ x, (encD x).length = k
  one : ∀ x, ∀ v ∈ encV x, v.oneCell' = true
  toV : ∀ x (w : World) (O : Nat → Prop) (ρ : Rho) vs, Vs w O ρ (encD x) vs → vs = encV x
  back : ∀ x (w : World) (O : Nat → Prop) (ρ : Rho), Vs w O ρ (encD x) (encV x)
variable {k : Nat} {encD : α → List D} {encV : α → List Value}
theorem heap_sortWorld {w : World} {blk off m : Nat} {dk : Array α} {os : Array Obj} {b : Nat} (hb : b < w.heap.size) (hne : b ≠ blk) : (sortWorldK encV k w blk off m dk os).heap[b]? = w.heap[b]? := by
  unfold sortWorldK putRowK putRow mapBlock Sort.grow Sort.ahead
  simp only
  rw [Array.getElem?_append_left (by simpa using hb), Array.getElem?_modify, if_neg (Ne.symm hne)]
theorem holds_of_Vr (hE : Elem k encD encV) {w : World} {O : Nat → Prop} {b off : Nat} {c : Array Value} {T : TypeId} {l : List α} (hb : w.heap[b]? = some (.cells c T (0, 0))) (h : Vr w O b off k (l.map encD)) : HoldsK encV k w b off l.toArray := by
  intro j hj
  rw [size_flatK] at hj
  simp only [List.size_toArray] at hj
  have k0 : 0 < k := by rcases Nat.eq_zero_or_pos k with e | e; · subst e; simp at hj
                        · exact e
  have hi : j / k < l.length := by rw [Nat.div_lt_iff_lt_mul k0]; exact hj
  have hc : j % k < k := Nat.mod_lt _ k0
  rw [get_flatK _ _ _ _ (by simpa using hj)]
  obtain ⟨_, h1⟩ := h.get _ _ (j / k) (encD l[j / k]) (by simp [hi])
  have hcl : j % k < (encD l[j / k]).length := by rw [hE.lenD]; exact hc
  obtain ⟨d, hd⟩ : ∃ d, (encD l[j / k])[j % k]? = some d := ⟨(encD l[j / k])[j % k], List.getElem?_eq_getElem hcl⟩
  have hvs := Vc.to_Vs hb _ _ h1
  have hv := hE.toV _ _ _ _ _ hvs.1
  obtain ⟨v, g1, g2⟩ := Vc.get _ _ h1 _ _ hd
  have e : off + j / k * k + j % k = off + j := by have := Nat.div_add_mod j k; rw [Nat.mul_comm] at this; omega
  rw [e] at g1
  have g3 : (encV l[j / k])[j % k]? = some v := by
    rw [← hv]
    have : c[off + j]? = some v := by simpa [World.cell?, hb] using g1
    rw [List.getElem?_take, if_pos (by rw [hE.lenD]; exact hc), List.getElem?_drop, e]
    simpa using this
  refine ⟨?_, by simp [World.frozen?, hb]⟩
  rw [g1]
  have e1 : (l.toArray)[j / k]! = l[j / k] := by simp [hi]
  have e2 : (encV l[j / k])[j % k]! = v := by rw [List.getElem!_eq_getElem?_getD, g3]; rfl
  rw [e1, e2]; rfl
theorem Vr_of_holds (hE : Elem k encD encV) {w : World} {O : Nat → Prop} {b off : Nat} {l : List α} (h : HoldsK encV k w b off l.toArray) : Vr w O b off k (l.map encD) := by
  have key : ∀ (r pre : List α), l = pre ++ r → Vr w O b (off + pre.length * k) k (r.map encD) := by
    intro r
    induction r with
    | nil => intro _ _; simp [Vr]
    | cons x r ih =>
      intro pre hp
      simp only [List.map_cons, Vr]
      have hi : pre.length < l.toArray.size := by subst hp; simp
      refine ⟨⟨hE.lenD x, ?_⟩, ?_⟩
      · have hx : (l.toArray)[pre.length]! = x := by subst hp; simp
        have cell : ∀ c, c < k → w.cell? ⟨b, off + pre.length * k + c, none⟩ = some (encV x)[c]! := fun c hc => by
          have := (h.cell hi hc).1
          rwa [hx] at this
        have gen : ∀ (ds : List D) (us : List Value) (n : Nat), Vs w O rho0 ds us → (∀ u ∈ us, u.oneCell' = true) → (∀ j u, us[j]? = some u → w.cell? ⟨b, n + j, none⟩ = some u) → Vc w O b n ds := by
          intro ds
          induction ds with
          | nil => intro us n _ _ _; simp [Vc]
          | cons d ds ih2 =>
            intro us n h1 h2 h3
            simp only [Vs] at h1
            obtain ⟨u, us', rfl, h4, h5⟩ := h1
            simp only [Vc]
            refine ⟨⟨u, ⟨by simpa using h3 0 u rfl, h2 u (by simp)⟩, h4⟩, ih2 us' (n + 1) h5 (fun v hv => h2 v (by simp [hv])) (fun j v hj => ?_)⟩
            have := h3 (j + 1) v (by simpa using hj)
            rwa [show n + (j + 1) = n + 1 + j by omega] at this
        refine gen _ (encV x) _ (hE.back x w O rho0) (hE.one x) (fun j u hj => ?_)
        have hjk : j < k := by rw [← hE.len x]; exact (List.getElem?_eq_some_iff.1 hj).1
        rw [cell j hjk, List.getElem!_eq_getElem?_getD, hj]; rfl
      · have := ih (pre ++ [x]) (by simp [hp])
        simp only [List.length_append, List.length_singleton, Nat.add_mul, Nat.one_mul] at this
        rwa [Nat.add_assoc]
  simpa using key l [] rfl
/-- A contract of the comparison: what the kit's sort asks of it. -/
theorem cmpLays_of (hE : Elem k encD encV) {g : Nat} {cf : α → α → Int} (hc : ∀ x y, @Fc calm P g [.agg (encD x), .agg (encD y)] (.i (cf x y))) {w : World} {O : Nat → Prop} {blk off size : Nat} (hgl : Gl w O) (hO : O blk) : CmpLays P g #[] encV k cf blk off size w := by
  intro m os dk _ x y
  have hg : Gl (sortWorldK encV k w blk off m dk os) (fun _ => False) := by
    intro t vs hm
    obtain ⟨⟨T, fr, h1⟩, h2⟩ := hgl t vs hm
    refine ⟨⟨T, fr, ?_⟩, fun h => h⟩
    rw [heap_sortWorld (Array.getElem?_eq_some_iff.1 h1).1 (fun e => h2 (e ▸ hO))]
    exact h1
  have := @Fc.out calm _ _ _ _ (hc x y) (sortWorldK encV k w blk off m dk os) (fun _ => False) rho0 [.agg (encV x).toArray, .agg (encV y).toArray] (fun _ h => h.elim) hg (by
    simp only [Vs, V]
    exact ⟨_, _, rfl, ⟨_, rfl, by simpa using hE.back x _ _ _⟩, _, _, rfl, ⟨_, rfl, by simpa using hE.back y _ _ _⟩, rfl⟩)
  refine Calls.mono (by simpa using this) ?_
  rintro e w' ⟨v, rfl, hv, hk⟩
  simp only [D.i, V] at hv
  subst hv
  exact ⟨rfl, grown_of_keep hk⟩
end
end Go.T
namespace Go.Proofs
open Go.Shelf Go.RowKit Go.Lib Go.Sort
def Tryz.sortKey_ren : Go.Shelf.Ren := ⟨fun | 6 => 171 | 15 => 152 | 14 => 211 | 28 => 202 | 29 => 203 | 20 => 255 | 21 => 256 | 22 => 257 | 23 => 258 | 24 => 259 | 25 => 260 | 26 => 261 | 27 => 262 | 46 => 280 | 47 => 248 | 48 => 249 | 49 => 281 | 50 => 282 | 57 => 290 | n => n, fun | 22 => 163 | 24 => 110 | 25 => 162 | 3 => 3 | 39 => 202 | 0 => 0 | 53 => 235 | 55 => 171 | 4 => 4 | 46 => 229 | 45 => 228 | 50 => 190 | 5 => 5 | 9 => 9 | 66 => 274 | 70 => 278 | 76 => 305 | 77 => 306 | n => n, fun | n => n⟩
theorem Tryz.sortKey : Go.Proofs.SlLaysF0.n6 Tryz.prog Tryz.sortKey_ren := {
 mixed := by kernel_rfl
 f6 := ⟨Tryz.f171.name, by decide, Tryz.func171.trans (congrArg some (by kernel_rfl))⟩
 f14 := ⟨Tryz.f211.name, by decide, Tryz.func211.trans (congrArg some (by kernel_rfl))⟩
 f15 := Tryz.func152.trans (congrArg some (by kernel_rfl))
 f20 := ⟨Tryz.f255.name, by decide, Tryz.func255.trans (congrArg some (by kernel_rfl))⟩
 f21 := ⟨Tryz.f256.name, by decide, Tryz.func256.trans (congrArg some (by kernel_rfl))⟩
 f22 := ⟨Tryz.f257.name, by decide, Tryz.func257.trans (congrArg some (by kernel_rfl))⟩
 f23 := ⟨Tryz.f258.name, by decide, Tryz.func258.trans (congrArg some (by kernel_rfl))⟩
 f24 := ⟨Tryz.f259.name, by decide, Tryz.func259.trans (congrArg some (by kernel_rfl))⟩
 f25 := ⟨Tryz.f260.name, by decide, Tryz.func260.trans (congrArg some (by kernel_rfl))⟩
 f26 := ⟨Tryz.f261.name, by decide, Tryz.func261.trans (congrArg some (by kernel_rfl))⟩
 f27 := ⟨Tryz.f262.name, by decide, Tryz.func262.trans (congrArg some (by kernel_rfl))⟩
 f28 := Tryz.func202.trans (congrArg some (by kernel_rfl))
 f29 := Tryz.func203.trans (congrArg some (by kernel_rfl))
 f46 := ⟨Tryz.f280.name, by decide, Tryz.func280.trans (congrArg some (by kernel_rfl))⟩
 f47 := Tryz.func248.trans (congrArg some (by kernel_rfl))
 f48 := Tryz.func249.trans (congrArg some (by kernel_rfl))
 f49 := ⟨Tryz.f281.name, by decide, Tryz.func281.trans (congrArg some (by kernel_rfl))⟩
 f50 := ⟨Tryz.f282.name, by decide, Tryz.func282.trans (congrArg some (by kernel_rfl))⟩
 f57 := ⟨Tryz.f290.name, by decide, Tryz.func290.trans (congrArg some (by kernel_rfl))⟩
 t0 := Tryz.underlying0
 a0 := Tryz.isAgg0
 z0 := Tryz.sizeOf0
 v0 := Tryz.zeroValue0
 t3 := Tryz.underlying3
 a3 := Tryz.isAgg3
 z3 := Tryz.sizeOf3
 v3 := Tryz.zeroValue3
 t4 := Tryz.underlying4
 a4 := Tryz.isAgg4
 z4 := Tryz.sizeOf4
 v4 := Tryz.zeroValue4
 t5 := Tryz.underlying5
 a5 := Tryz.isAgg5
 z5 := Tryz.sizeOf5
 v5 := Tryz.zeroValue5
 t9 := Tryz.underlying9
 a9 := Tryz.isAgg9
 z9 := Tryz.sizeOf9
 v9 := Tryz.zeroValue9
 t22 := Tryz.underlying163
 a22 := Tryz.isAgg163
 z22 := Tryz.sizeOf163
 v22 := Tryz.zeroValue163
 t25 := Tryz.underlying162
 a25 := Tryz.isAgg162
 z25 := Tryz.sizeOf162
 v25 := Tryz.zeroValue162
 t39 := Tryz.underlying202
 a39 := Tryz.isAgg202
 z39 := Tryz.sizeOf202
 v39 := Tryz.zeroValue202
 t45 := Tryz.underlying228
 a45 := Tryz.isAgg228
 z45 := Tryz.sizeOf228
 v45 := Tryz.zeroValue228
 t46 := Tryz.underlying229
 a46 := Tryz.isAgg229
 z46 := Tryz.sizeOf229
 v46 := Tryz.zeroValue229
 t50 := Tryz.underlying190
 a50 := Tryz.isAgg190
 z50 := Tryz.sizeOf190
 v50 := Tryz.zeroValue190
 t53 := Tryz.underlying235
 a53 := Tryz.isAgg235
 z53 := Tryz.sizeOf235
 v53 := Tryz.zeroValue235
 t55 := Tryz.underlying171
 a55 := Tryz.isAgg171
 z55 := Tryz.sizeOf171
 v55 := Tryz.zeroValue171
 t66 := Tryz.underlying274
 a66 := Tryz.isAgg274
 z66 := Tryz.sizeOf274
 v66 := Tryz.zeroValue274
 t70 := Tryz.underlying278
 a70 := Tryz.isAgg278
 z70 := Tryz.sizeOf278
 v70 := Tryz.zeroValue278
 t76 := Tryz.underlying305
 a76 := Tryz.isAgg305
 z76 := Tryz.sizeOf305
 v76 := Tryz.zeroValue305
 t77 := Tryz.underlying306
 a77 := Tryz.isAgg306
 z77 := Tryz.sizeOf306
 v77 := Tryz.zeroValue306
}
end Go.Proofs
namespace Go.T
open Go Go.Proofs Go.Shelf Go.RowKit Go.Lib Go.Sort
variable [Noise]
variable {α : Type} [Inhabited α] {P : Program} {k : Nat} {encD : α → List D} {encV : α → List Value}
theorem get_one {id : Nat} {x o : Ob} {i : Nat} (h : Obs.get [(id, x)] i = some o) : i = id ∧ o = x := by
 rw [Obs.get_cons] at h
 split at h
 ·rename_i e; cases h; exact ⟨e.symm, rfl⟩
 ·simp [Obs.get] at h
theorem get_none1 {id : Nat} {x y : Ob} {i : Nat} (h : Obs.get [(id, x)] i = none) : Obs.get [(id, y)] i = none := by
 rw [Obs.get_cons] at h ⊢
 split at h
 ·cases h
 ·rename_i e; rw [if_neg e]; rfl
theorem sort_FcO {r : Ren} (L : SlLaysF0.n6 P r) (aE : ∀ w, (isAgg (r.t 24)).run P w = .ok true w) (zE : ∀ w, (Go.sizeOf (r.t 24)).run P w = .ok k w) (hE : Elem k encD encV) {g : Nat} {cf : α → α → Int}
  (eg : ∀ (args : Array Value) (w : World), (callFunc g args).run P w = .ok (.enter g args) w) (hc : ∀ x y, @Fc calm P g [.agg (encD x), .agg (encD y)] (.i (cf x y))) (hO : SWO (ltOf cf)) (hT : ∀ x y, ltOf cf x y = false → ltOf cf y x = false → x = y)
  (id : Nat) (l : List α) (hl : l.length < 4611686018427387904) :
  FcO P (r.f 6) [.gs id l.length, .fn (.func g) [] []] [(id, .arr k (l.map encD))] (.tup []) [(id, .arr k ((l.mergeSort fun x y => !(ltOf cf) y x).map encD))] := ⟨fun w O ρ vals hok hgl hv => by
 simp only [Vs, V] at hv
 obtain ⟨v1, us, rfl, h1, v2, us', rfl, ⟨xs, ys, rfl, hxs, hys⟩, rfl⟩ := hv
 obtain rfl : xs = #[] := by rw [← Array.toArray_toList (xs := xs), hxs]
 obtain rfl : ys = #[] := by rw [← Array.toArray_toList (xs := ys), hys]
 rcases h1 with ⟨hn, a, rfl⟩ | ⟨hn, loc, hloc, rfl⟩
 ·obtain rfl : l = [] := List.length_eq_zero_iff.1 hn
  refine Calls.mono (AnyF.slices_SortFunc_none L a 0 (.func (.func g) #[] #[]) w) ?_
  rintro e w' ⟨rfl, rfl⟩
  refine ⟨_, ρ, rfl, ?_, by simp [V, Vs]⟩
  simpa using Tr.refl hok
 ·have hget : Obs.get [(id, Ob.arr k (l.map encD))] id = some (.arr k (l.map encD)) := by simp [Obs.get]
  have hlive : (Ob.arr k (l.map encD)).live = true := by
   cases l with
   | nil => simp at hn
   | cons x l => rfl
  obtain ⟨l', h3, hnO, c, T, hb, hsz, hln, hvr⟩ := hok.own id _ hget hlive
  rw [hloc] at h3; cases h3
  have hH := holds_of_Vr hE hb hvr
  have hblk : loc.b < w.heap.size := (Array.getElem?_eq_some_iff.1 hb).1
  have hown : Ot O ρ [(id, Ob.arr k (l.map encD))] loc.b := .inr ⟨id, _, loc, hget, hlive, hloc, rfl⟩
  have hcmp := cmpLays_of (blk := loc.b) (off := loc.off) (size := l.toArray.size) hE hc hgl hown
  refine Calls.mono (AnyQ.slices_SortFunc_total L k aE zE encV hE.len hE.one cf hO g #[] loc.b loc.off loc.cap l.toArray w eg hcmp hH hblk hl hT) ?_
  rintro e w' ⟨rfl, n, os, rfl⟩
  generalize hl2 : l.mergeSort (fun x y => !(ltOf cf) y x) = l2
  have hlen : l2.length = l.length := by rw [← hl2]; exact List.length_mergeSort l
  have hheap : (sortWorldK encV k w loc.b loc.off n l2.toArray os).heap[loc.b]? = some (.cells (putCells _root_.id loc.off (flatK encV k l2.toArray) c) T (0, 0)) := by
   unfold sortWorldK putRowK putRow mapBlock Sort.grow Sort.ahead
   simp only
   rw [Array.getElem?_append_left (by simpa using hblk), Array.getElem?_modify, if_pos rfl, hb]; rfl
  have hsize : w.heap.size ≤ (sortWorldK encV k w loc.b loc.off n l2.toArray os).heap.size := size_sortWorldK_c encV k w loc.b loc.off n l2.toArray os
  have hH2 : HoldsK encV k (sortWorldK encV k w loc.b loc.off n l2.toArray os) loc.b loc.off l2.toArray := holdsK_sortWorldK_c encV k w loc.b loc.off l.toArray l2.toArray n os hH hblk (by simpa using hlen)
  have hown2 : ∀ b, Owned ρ [(id, Ob.arr k (l2.map encD))] b → Owned ρ [(id, Ob.arr k (l.map encD))] b := by
   rintro b ⟨i, o, q, g1, g2, g3, g4⟩
   obtain ⟨rfl, _⟩ := get_one g1
   exact ⟨_, _, q, hget, hlive, g3, g4⟩
  refine ⟨_, ρ, rfl, ⟨RhoLe.refl _, hsize, fun b hb1 hb2 => ?_, fun b hb1 => .inl (hown2 b hb1), ⟨fun b hb1 => Nat.lt_of_lt_of_le (hok.lt b hb1) hsize, fun i hi => ?_, fun i o g1 g2 => ?_, fun i j o o' q q' g1 g2 _ _ _ _ _ => ?_⟩, rfl, rfl, .inl ⟨rfl, Nat.le_add_right _ _⟩⟩, by simp [V, Vs]⟩
  ·refine heap_sortWorld hb1 fun e => hb2 ?_
   exact ⟨id, _, loc, hget, hlive, hloc, e.symm⟩
  ·exact hok.fresh i (get_none1 hi)
  ·obtain ⟨rfl, rfl⟩ := get_one g1
   exact ⟨loc, hloc, hnO, _, T, hheap, by simpa [putCells] using hsz, by simpa [hlen] using hln, Vr_of_holds hE hH2⟩
  ·exact (get_one g1).1.trans (get_one g2).1.symm⟩
end Go.T
namespace Go.T
open Go
open Go.ChangeMaps (setBlock)
variable [Noise]
variable {κ β : Type} [DecidableEq κ]
@[reducible] def imapG (kD : κ → D) (vD : β → D) (m : List (κ × β)) : D := .imap (m.map fun p => kD p.1) (m.map fun p => vD p.2)
section
variable {P : Program} {kt : TypeId} {kD : κ → D} {kV : κ → Value} {kOk : κ → Prop} {vD : β → D}
theorem esG_of (hK : KeyT P kt kD kV kOk) {w : World} {O : Nat → Prop} {b : Nat} {m : List (κ × β)} (h : IMap w O b (m.map fun p => kD p.1) (m.map fun p => vD p.2)) :
  ∃ es, w.heap[b]? = some (.map es m.length) ∧ EsG w O rho0 kV vD es m ∧ ∀ k ∈ m.map (·.1), kOk k := by
 obtain ⟨es, h1, ⟨h2, h3, h4⟩, h5, h6⟩ := h
 have hl := h5.length
 simp only [List.length_map, Array.length_toList] at hl h2
 have key : ∀ (i : Nat) (k : κ) (v : β), m[i]? = some (k, v) → ∃ e : MapEntry, es[i]? = some e ∧ e.born = i ∧ e.key = kV k ∧ V w O rho0 (vD v) e.val ∧ kOk k := by
  intro i k v hi
  have hlt : i < es.size := by rw [hl]; exact (List.getElem?_eq_some_iff.1 hi).1
  obtain ⟨u, g1, g2⟩ := h5.get i (kD k) (by simp [hi])
  obtain ⟨u', g3, g4⟩ := h6.get i (vD v) (by simp [hi])
  have he : es[i]? = some es[i] := by simp [hlt]
  simp only [List.getElem?_map, Array.getElem?_toList, he, Option.map_some, Option.some.injEq] at g1 g3
  subst g1; subst g3
  have := hK.val g2
  exact ⟨es[i], he, h4 i _ he, this.1, g4, this.2⟩
 refine ⟨es, h2, ⟨hl, fun i k v hi => ?_⟩, fun k hk => ?_⟩
 ·obtain ⟨e, g1, g2, g3, g4, _⟩ := key i k v hi; exact ⟨e, g1, g2, g3, g4⟩
 ·obtain ⟨p, hp, rfl⟩ := List.mem_map.1 hk
  obtain ⟨i, hi⟩ := List.getElem?_of_mem hp
  obtain ⟨_, _, _, _, _, g5⟩ := key i p.1 p.2 hi
  exact g5
/-- The map to which slot t points: nobody writes it any more. -/
theorem Le.freezeM {F : Fr} {env : Env} {obs : Obs} {m : List (κ × β)} (t id : Nat) (ht : env.get t = some (.mapr id)) (ho : obs.get id = some (.mp (encGM kD vD m))) (hk : ∀ k, (kD k).pureB = true) (hv0 : ∀ v, (vD v).pureB = true) :
  Le F env obs ((t, imapG kD vD m) :: env) (obs.set id .dead) := .step fun O ρ w f hok hv => by
 have htr := Tr.die id hok
 refine ⟨ρ, htr, fun s d h => ?_⟩
 rw [Env.get_cons] at h
 by_cases e : t = s
 ·rw [if_pos e] at h
  cases h
  subst e
  have hvt := hv t _ ht
  simp only [V] at hvt
  obtain ⟨l, e1, e⟩ := hvt
  obtain ⟨l', h3, h4, es, h5, h6, h7⟩ := hok.own id _ ho rfl
  rw [e1] at h3; cases h3
  have hkp := htr.kept
  refine V_imap.2 ⟨l.b, e, es, ⟨(Array.getElem?_eq_some_iff.1 h5).1, ?_⟩, ⟨by simpa [encGM] using h5, by simp, fun i x hx => ?_⟩, ?_, ?_⟩
  ·rintro (hb | ⟨i, x, l', g1, g2, g3, g4⟩)
   ·exact h4 hb
   ·have hx := dead_sub i x g1 g2
    have := hok.inj i id x _ l' l hx ho g2 rfl g3 e1 g4
    subst this
    rw [Obs.get_set] at g1
    simp only [if_true, Option.some.injEq] at g1
    subst g1; simp [Ob.live] at g2
  ·have hi : i < m.length := by
    have := (Array.getElem?_eq_some_iff.1 hx).1
    rw [h6] at this; simpa [encGM] using this
   obtain ⟨x', g1, g2, _⟩ := h7 i (kD m[i].1) (vD m[i].2) (by simp [encGM, hi])
   rw [hx] at g1; cases g1; exact g2
  ·refine Vs.of_get (by simpa [encGM] using h6) fun i d v hd hvv => ?_
   simp only [List.getElem?_map, Option.map_eq_some_iff] at hd
   obtain ⟨p, hp, rfl⟩ := hd
   obtain ⟨x', g1, _, g3, _⟩ := h7 i (kD p.1) (vD p.2) (by simp [encGM, hp])
   simp only [List.getElem?_map, Array.getElem?_toList, g1, Option.map_some, Option.some.injEq] at hvv
   subst hvv
   exact V.mono hkp (RhoLe.refl _) _ _ (V.pure _ _ (hk _) g3)
  ·refine Vs.of_get (by simpa [encGM] using h6) fun i d v hd hvv => ?_
   simp only [List.getElem?_map, Option.map_eq_some_iff] at hd
   obtain ⟨p, hp, rfl⟩ := hd
   obtain ⟨x', g1, _, _, g4⟩ := h7 i (kD p.1) (vD p.2) (by simp [encGM, hp])
   simp only [List.getElem?_map, Array.getElem?_toList, g1, Option.map_some, Option.some.injEq] at hvv
   subst hvv
   exact V.mono hkp (RhoLe.refl _) _ _ (V.pure _ _ (hv0 _) g4)
 ·rw [if_neg e] at h
  exact htr.V (hv s d h)
variable {env : Env} {dst : Option Tmp} {ty : TypeId} {pos : String} {aft : Array Edge} {g : Option (Nat × Bool)}
theorem q_lookupI (hK : KeyT P kt kD kV kOk) {t et : TypeId} {x y : Operand} {m : List (κ × β)} {k : κ} {d : β} {kd md : D} {obs : Obs} {zv : Value} (hu : P.underlying t = some (.map kt et)) (hz : ∀ w, (zeroValue et).run P w = .ok zv w) (hzv : ∀ (w : World) O ρ, V w O ρ (vD d) zv)
  (hx : env.op x = some md) (hmd : md = imapG kD vD m) (hy : env.op y = some kd) (hkd : kd = kD k) :
  QStep P ⟨dst, .lookup t x y false, ty, pos, aft, g⟩ env obs (vD (getG d m k)) obs :=
 .val fun O ρ a w hok hv => by
  subst hkd; subst hmd
  obtain ⟨b, e1, him⟩ := V_imap.1 (hv x (by simp [Op.operands]) _ hx)
  have hvy := hK.val (hv y (by simp [Op.operands]) _ hy)
  obtain ⟨es, h4, h5, h6⟩ := esG_of hK him
  have hck := fun b => hK.check b k w hvy.2
  have hfk := hK.find k es.toList (m.map (·.1)) w h5.keys h6 hvy.2
  rcases findK_cases d k m 0 with ⟨g1, g2, g3, _⟩ | ⟨j, gj, g1, g2, g3, _⟩
  ·refine ⟨zv, ?_, by rw [g3]; exact hzv _ _ _⟩
   rw [g1] at hfk
   simp [execOp, e1, hvy.1, Instr.lookup, run_und hu, MapKept.run_getObj_map h4, hck, hfk, hz]
  ·obtain ⟨e, k1, k2, k3, k4⟩ := h5.at_ j k _ g2
   refine ⟨e.val, ?_, V.mono (Kept.refl _ _) (rho0_le ρ) _ _ k4⟩
   rw [g1] at hfk
   simp only [Option.map_some, Nat.zero_add, Array.getElem?_toList, k1, Option.getD_some] at hfk
   simp [execOp, e1, hvy.1, Instr.lookup, run_und hu, MapKept.run_getObj_map h4, hck, hfk]
theorem q_rangeI {t kt' et : TypeId} {x : Operand} {ks vs : List D} {obs : Obs} (idI : Nat) (hu : P.underlying t = some (.map kt' et)) (hx : env.op x = some (.imap ks vs)) (hid : obs.get idI = none) :
  QStep P ⟨dst, .range t x, ty, pos, aft, g⟩ env obs (.box idI 0) ((idI, .mj ks vs []) :: obs) :=
 .step fun O ρ a w hok hv => by
  obtain ⟨b, e1, him⟩ := V_imap.1 (hv x (by simp [Op.operands]) _ hx)
  obtain ⟨es, h1, ⟨h2, _, _⟩, _⟩ := id him
  have hr := run_range_map (P := P) w t kt' et b es ks.length hu h2
  refine ⟨.pointer (some ⟨w.heap.size, 0, none⟩), _, T.upd ρ idI ⟨w.heap.size, 0, 0⟩, .inl ?_, Tr.born hok hid (.mapIter (some b) ks.length #[] ks.length) rfl (fun i x h _ => h) (fun i h => h) ?_, ?_⟩
  ·simp only [execOp, e1]
   rw [Sem.run_bind, hr]
   rfl
  ·intro hk
   exact ⟨b, him.mono hk, by simp⟩
  ·simp only [V]; exact ⟨⟨w.heap.size, 0, 0⟩, by simp [T.upd], rfl⟩
@[reducible] def nextIO (obs : Obs) (idI : Nat) (ks vs : List D) (seen : List Nat) : Option (Nat × κ × β) → Obs
 | none => obs
 | some (j, _, _) => obs.set idI (.mj ks vs (seen ++ [j]))
theorem q_nextI (hK : KeyT P kt kD kV kOk) {x : Operand} {idI : Nat} {m : List (κ × β)} {seen : List Nat} {obs : Obs} (hx : env.op x = some (.box idI 0)) (hi : obs.get idI = some (.mj (m.map fun p => kD p.1) (m.map fun p => vD p.2) seen)) :
  QStepN P ⟨dst, .next x false, ty, pos, aft, g⟩ env obs (nextGA m seen) (nextGD kD vD) (nextIO obs idI (m.map fun p => kD p.1) (m.map fun p => vD p.2) seen) := by
 intro O ρ a w hok hgl hv
 have hvx := hv x (by simp [Op.operands]) _ hx
 simp only [V] at hvx
 obtain ⟨r, hr1, e1⟩ := hvx
 obtain ⟨r', hr2, _, b, him, hit⟩ := hok.own idI _ hi rfl
 rw [hr1] at hr2; cases hr2
 obtain ⟨es, h4, h5, h6⟩ := esG_of hK him
 simp only [List.length_map] at hit
 have hold : ∀ x ∈ es.toList, x.born < m.length := fun x hx => by
  obtain ⟨_, _, q, _⟩ := h5.mem hx
  exact (List.getElem?_eq_some_iff.1 q).1
 unfold Oper.wp
 have hex : (execOp a.eval ⟨dst, .next x false, ty, pos, aft, g⟩).run P w = ((Instr.next (.pointer (some ⟨r.b, 0, none⟩)) false ty).bind fun v => Sem.pure (Next.value v)).run P w := by
  simp only [execOp, e1]; rfl
 rw [hex]
 rcases run_next_at (P := P) w ty r.b b m.length m.length seen.toArray es m.length hit h4 hold (Nat.le_refl _) with ⟨hz, hrun⟩ | ⟨e, he, w1, hw1, hrun⟩
 ·have : ((Instr.next (.pointer (some ⟨r.b, 0, none⟩)) false ty).bind fun v => Sem.pure (Next.value v)).run P w = .ok (.value (.tuple #[.bool false])) w := by
   show (Sem.bind _ _).run P w = _
   rw [Sem.run_bind', hrun]; rfl
  rw [this]
  refine ⟨none, ρ, _, ?_, rfl, Tr.refl hok, by simp [V, Vs, D.b]⟩
  intro j hj
  have hz' : leftOf es seen.toArray = #[] := Array.eq_empty_of_size_eq_zero hz
  obtain ⟨e, g1, g2, _⟩ := h5.at_ j (m[j]).1 (m[j]).2 (by simp [hj])
  unfold leftOf at hz'
  rw [Array.filter_eq_empty_iff] at hz'
  have hmem : e ∈ es := Array.mem_of_getElem? g1
  have := hz' e hmem
  simp at this
  rw [g2] at this
  exact this
 ·have hee : e ∈ es.toList ∧ e.born ∉ seen := by
   unfold leftOf at he
   simp at he
   exact ⟨by simpa using he.1, by simpa using he.2⟩
  obtain ⟨k, v, g1, g2, g3, g4⟩ := h5.mem hee.1
  have : ((Instr.next (.pointer (some ⟨r.b, 0, none⟩)) false ty).bind fun v => Sem.pure (Next.value v)).run P w = .ok (.value (.tuple #[.bool true, e.key, e.val])) (setBlock w1 r.b (.mapIter (some b) m.length (seen.toArray.push e.born) m.length)) := by
   show (Sem.bind _ _).run P w = _
   rw [Sem.run_bind', hrun]; rfl
  rw [this]
  have htr1 : Tr O w ρ obs w1 ρ obs := by
   rcases hw1 with rfl | rfl
   ·exact Tr.refl hok
   ·exact Tr.drawn hok _ (by first | exact Nat.le_succ _ | omega)
  have hit1 : w1.heap[r.b]? = some (.mapIter (some b) m.length seen.toArray m.length) := by rcases hw1 with rfl | rfl <;> exact hit
  have htr2 := Tr.upd (o' := .mj (m.map fun p => kD p.1) (m.map fun p => vD p.2) (seen ++ [e.born])) htr1.ok hi rfl hr1 (.mapIter (some b) m.length (seen.toArray.push e.born) m.length) (fun hkk => ⟨b, (him.mono htr1.kept).mono hkk, by simp [(Array.getElem?_eq_some_iff.1 hit1).1]⟩)
  refine ⟨some (e.born, k, v), ρ, _, ⟨g1, hee.2⟩, rfl, htr1.trans htr2, ?_⟩
  simp only [V, Vs, D.b]
  refine ⟨_, rfl, _, _, rfl, rfl, _, _, rfl, ?_, _, _, rfl, (htr1.trans htr2).V (V.mono (Kept.refl _ _) (rho0_le ρ) _ _ g4), rfl⟩
  rw [g3]
  exact hK.back (h6 k (List.mem_map.2 ⟨(k, v), List.mem_of_getElem? g1, rfl⟩))
theorem q_entryI (hK : KeyT P kt kD kV kOk) {x : Operand} {idI j : Nat} {k : κ} {v : β} {m : List (κ × β)} {seen : List Nat} {obs : Obs} (hx : env.op x = some (.box idI 0)) (hi : obs.get idI = some (.mj (m.map fun p => kD p.1) (m.map fun p => vD p.2) (seen ++ [j]))) (hj : m[j]? = some (k, v)) :
  QStep P ⟨dst, .entry x, ty, pos, aft, g⟩ env obs (.tup [kD k, vD v]) obs :=
 .val fun O ρ a w hok hv => by
  have hvx := hv x (by simp [Op.operands]) _ hx
  simp only [V] at hvx
  obtain ⟨r, hr1, e1⟩ := hvx
  obtain ⟨r', hr2, _, b, him, hit⟩ := hok.own idI _ hi rfl
  rw [hr1] at hr2; cases hr2
  obtain ⟨es, h4, h5, h6⟩ := esG_of hK him
  obtain ⟨e, g1, g2, g3, g4⟩ := h5.at_ j k v hj
  have hit' : w.heap[r.b]? = some (.mapIter (some b) m.length (seen.toArray.push e.born) m.length) := by rw [hit, g2]; simp
  have hnd : (es.toList.map (·.born)).Nodup := by rw [h5.borns]; exact List.nodup_range
  have hrun := run_entry_at (P := P) w r.b b m.length seen.toArray es m.length e hit' h4 (by simpa using Array.mem_of_getElem? g1) hnd
  refine ⟨.tuple #[e.key, e.val], ?_, ?_⟩
  ·simp only [execOp, e1]
   rw [Sem.run_bind, hrun]
   rfl
  ·simp only [V, Vs]
   refine ⟨_, rfl, _, _, rfl, ?_, _, _, rfl, V.mono (Kept.refl _ _) (rho0_le ρ) _ _ g4, rfl⟩
   rw [g3]
   exact hK.back (h6 k (List.mem_map.2 ⟨(k, v), List.mem_of_getElem? hj, rfl⟩))
end
/-! Contracts with several outcomes. -/
structure FcE {ι : Type} (P : Program) (f : FuncId) (args : List D) (A : ι → Prop) (r : ι → D) : Prop where
 out : ∀ w O ρ vals, (∀ b, O b → b < w.heap.size) → Gl w O → Vs w O ρ args vals → Calls P f vals.toArray w (fun e w' => ∃ i v, A i ∧ e = .returned v ∧ V w' O ρ (r i) v ∧ Keep w w')
def retE {ι : Type} (ts : List Nat) (A : ι → Prop) (r : ι → D) : Exit → Env → Obs → Prop
 | .ret, env, _ | .normal, env, _ => ∃ i ds, A i ∧ getAll env ts = some ds ∧ Sub (mkRes ds) (r i)
 | _, _, _ => False
theorem FcE.mk' {ι : Type} {P : Program} {f : FuncId} {fn : Func} {c : Code} {args : List D} {A : ι → Prop} {r : ι → D} (ts : List Nat) (hf : P.funcs[f]? = some fn) (hb : fn.body = some c) {N : Nat} (hN : fn.ntmps = N) (hn : Nat.ble args.length N = true) (hp : D.pureB.pureL args = true) (hr : ∀ i, (r i).pureB = true)
  (hres : ∀ tmps w, (results fn tmps).run P w = .ok (resV ts tmps) w) (h : Run P ⟨N, [], false, none⟩ [c] (retE ts A r) (args0 args 0) []) : FcE P f args A r := ⟨fun w O ρ vals hO hgl hv0 => by
 have hno : ∀ b, ¬ Owned rho0 [] b := fun b ⟨i, o, l, h1, _⟩ => by simp [Obs.get] at h1
 have hok : ObsOK w O rho0 [] := ⟨hO, fun _ _ => rfl, fun i o h1 => by simp [Obs.get] at h1, fun i j o o' l l' h1 => by simp [Obs.get] at h1⟩
 have hv : Vs w (Ot O rho0 []) rho0 args vals := Vs.mono (Kept.subO fun b hb => hb.elim _root_.id (fun g => (hno b g).elim)) (RhoLe.refl _) _ _ (Vs.pure args vals hp hv0)
 refine calls_of_WP hf hb h.start (St.begin fn.ntmps hN (Nat.le_of_ble_eq_true hn) hok (hgl.mono (Kept.subO fun b hb => hb.elim _root_.id (fun g => (hno b g).elim))) hv [] none (fun _ _ e => by cases e)) ?_ ?_
 ·intro e env' obs' hq
  cases e <;> first | exact .inl rfl | exact .inr rfl | exact hq.elim
 ·intro e env' obs' tmps w' ρ' hq _ htr henv
  have : ∃ i ds, A i ∧ getAll env' ts = some ds ∧ Sub (mkRes ds) (r i) := by cases e <;> first | exact hq | exact hq.elim
  obtain ⟨i, ds, hA, h1, h2⟩ := this
  refine ⟨_, hres _ _, i, _, hA, rfl, ?_, htr.size, fun b hb => htr.same b hb (hno b), htr.os⟩
  have hvr := h2.out _ _ _ _ (Vs.res (getAll_V henv ts ds h1))
  exact V.pure _ _ (hr i) (V.mono (O' := O) (Kept.subO fun b hb => Or.inl hb) (RhoLe.refl _) _ _ hvr)⟩
end Go.T
namespace Go.T
open Go
variable [Noise]
structure FcOE {ι : Type} (P : Program) (f : FuncId) (args : List D) (pre : Obs) (A : ι → Prop) (r : ι → D) (post : ι → Obs) : Prop where
 out : ∀ w O ρ vals, ObsOK w O ρ pre → Gl w (Ot O ρ pre) → Vs w (Ot O ρ pre) ρ args vals → Calls P f vals.toArray w (fun e w' => ∃ i v ρ', A i ∧ e = .returned v ∧ Tr O w ρ pre w' ρ' (post i) ∧ V w' (Ot O ρ' (post i)) ρ' (r i) v)
def retOE {ι : Type} (ts : List Nat) (A : ι → Prop) (r : ι → D) (post : ι → Obs) : Exit → Env → Obs → Prop
 | .ret, env, obs | .normal, env, obs => ∃ i, A i ∧ (∃ ds, getAll env ts = some ds ∧ Sub (mkRes ds) (r i)) ∧ ObsLe (post i) obs (post i)
 | _, _, _ => False
theorem retOE1 {ι : Type} {A : ι → Prop} {r : ι → D} {post : ι → Obs} {env : Env} {obs : Obs} {t : Nat} {d : D} (i : ι) (hA : A i) (h : env.get t = some d) (s : Sub d (r i)) (hp : ObsLe (post i) obs (post i)) : retOE [t] A r post .ret env obs := ⟨i, hA, ⟨[d], by simp [getAll, h], s⟩, hp⟩
theorem FcOE.mk' {ι : Type} {P : Program} {f : FuncId} {fn : Func} {c : Code} {args : List D} {pre : Obs} {A : ι → Prop} {r : ι → D} {post : ι → Obs} (ts : List Nat) (hf : P.funcs[f]? = some fn) (hb : fn.body = some c) {N : Nat} (hN : fn.ntmps = N) (hn : Nat.ble args.length N = true) (hps : ∀ i, (pre.map (·.1)).all (post i).has = true) (hr : ∀ i, (r i).okB (post i).has = true)
  (hres : ∀ tmps w, (results fn tmps).run P w = .ok (resV ts tmps) w) (h : Run P ⟨N, pre.map (·.1), false, none⟩ [c] (retOE ts A r post) (args0 args 0) pre) : FcOE P f args pre A r post := ⟨fun w O ρ vals hok hgl hv => by
 refine calls_of_WP hf hb h.start (St.begin fn.ntmps hN (Nat.le_of_ble_eq_true hn) hok hgl hv _ none (fun _ _ e => by cases e)) ?_ ?_
 ·intro e env' obs' hq
  cases e <;> first | exact .inl rfl | exact .inr rfl | exact hq.elim
 ·intro e env' obs' tmps w' ρ' hq hkeep htr henv
  have : ∃ i, A i ∧ (∃ ds, getAll env' ts = some ds ∧ Sub (mkRes ds) (r i)) ∧ ObsLe (post i) obs' (post i) := by cases e <;> first | exact hq | exact hq.elim
  obtain ⟨k, hA, ⟨ds, h1, h2⟩, h3⟩ := this
  have hO : ∀ b, Owned (cutRho (post k).has ρ') (post k) b → Owned ρ' obs' b := by
   rintro b ⟨i, o, l, g1, g2, g3, g4⟩
   exact ⟨i, o, l, (h3.sound i o g1).1, g2, cutRho_le g3, g4⟩
  refine ⟨_, hres _ _, k, _, cutRho (post k).has ρ', hA, rfl, ⟨?_, htr.size, htr.same, fun b hb => htr.new b (hO b hb), htr.ok.sub h3.sound, htr.os⟩, ?_⟩
  ·intro i l hl
   have hi : pre.has i = true := by
    cases hp : pre.get i with
    | none => rw [hok.fresh i hp] at hl; cases hl
    | some o => exact Obs.has_iff.2 ⟨o, hp⟩
   have hm : i ∈ pre.map (·.1) := by
    obtain ⟨o, ho⟩ := Obs.has_iff.1 hi
    have key : ∀ p : Obs, p.get i = some o → i ∈ p.map (·.1) := by
     intro p
     induction p with
     | nil => intro h; simp [Obs.get] at h
     | cons q r ih =>
      obtain ⟨t, d⟩ := q
      intro h
      rw [Obs.get_cons] at h
      by_cases e : t = i
      ·subst e; simp
      ·rw [if_neg e] at h; exact List.mem_cons_of_mem _ (ih h)
    exact key pre ho
   have := List.all_eq_true.1 (hps k) i hm
   simp [cutRho, this, hkeep i hm l hl]
  ·have h4 := h2.out _ _ _ _ (Vs.res (getAll_V henv ts ds h1))
   exact V.cut (r k) _ (hr k) (V.mono (Kept.subO fun b hb => hb.imp _root_.id (hO b)) (RhoLe.refl _) _ _ h4)⟩
theorem q_callOE {ι : Type} {P : Program} {env : Env} {dst : Option Tmp} {ty : TypeId} {pos : String} {aft : Array Edge} {g : Option (Nat × Bool)} {f : FuncId} {xs : List Operand} {tys : Array TypeId} {ds : List D} {A : ι → Prop} {r : ι → D} {pre obs : Obs} {post : ι → Obs}
  (hcall : ∀ (args : Array Value) (w : World), (callFunc f args).run P w = .ok (.enter f args) w) (hx : env.opsD xs = some ds) (hf : FcOE P f ds pre A r post) (hle : ObsLe pre obs pre) (hds : D.okB.okL pre.has ds = true) (hdis : ∀ i, disjB (post i) (obs.rest pre) = true) :
  QStepN P ⟨dst, .call ⟨.value (.func f), xs.toArray, tys⟩, ty, pos, aft, g⟩ env obs A r (fun i => post i ++ obs.rest pre) := by
 intro O ρ a w hok hgl hv
 have hvs := opsD_V xs ds hx (fun x hx d' h => hv x (by simp [Op.operands, Call.operands, hx]) d' h)
 have hrun : (execOp a.eval ⟨dst, .call ⟨.value (.func f), xs.toArray, tys⟩, ty, pos, aft, g⟩).run P w = .ok (.enter f (xs.map a.eval).toArray) w := by
  have h1 : execOp a.eval ⟨dst, .call ⟨.value (.func f), xs.toArray, tys⟩, ty, pos, aft, g⟩ = callFunc f (xs.map a.eval).toArray := by
   simp [execOp, resolve, Deferred.ofValue, Act.eval, invoke, Bind.bind, Sem.bind, Pure.pure]
  rw [h1, hcall]
 have hsub : ∀ i o, pre.get i = some o → obs.get i = some o := fun i o ho => (hle.sound i o ho).1
 unfold Oper.wp
 rw [hrun]
 simp only [Oper.upon]
 have hvs' : Vs w (Ot (Ot O ρ (obs.rest pre)) (cutRho pre.has ρ) pre) (cutRho pre.has ρ) ds (xs.map a.eval) :=
  Vs.cutL hds (Vs.mono (Kept.subO fun b hb => ot_split (w := w) hsub b hb) (RhoLe.refl _) _ _ hvs)
 refine Calls.mono (hf.out w _ _ _ (frame_split' hsub hle.okB hok) (hgl.mono (Kept.subO fun b hb => ot_split (w := w) hsub b hb)) hvs') ?_
 rintro e w' ⟨i, v, ρ', hA, rfl, htr, hr⟩
 obtain ⟨h1, h2, h3⟩ := frame_join (fun _ => true) hsub hok htr.to0 (disjB_has (hdis i)) (fun i l _ hl => htr.le i l hl) (fun i o _ => Ob.okB_true o)
 exact ⟨i, _, v, hA, rfl, ⟨fun i l hl => h2 i l rfl hl, h1.size, h1.same, h1.new, h1.ok, h1.os⟩, h3 (r i) v hr⟩
end Go.T
namespace Go.T
open Go Go.Proofs
set_option maxRecDepth 20000
theorem tzKey : KeyT Tryz.prog 110 kPair vPair okPair := keyPair Tryz.underlying110 (by kernel_rfl) (.cons (by decide +kernel) Tryz.underlying9 Tryz.isAgg9 rfl (.cons (by decide +kernel) Tryz.underlying9 Tryz.isAgg9 rfl (.nil _)))
theorem vstr0 (w : World) (O : Nat → Prop) (ρ : Rho) : V w O ρ (D.str []) (.string ⟨#[]⟩) := by simp [V, big]
abbrev KM := List ((Str × Str) × Str)
def keyAt (m : KM) (j : Nat) : Option (Str × Str) := m[j]?.map (·.1)
theorem keyAt_range (m : KM) : (List.range m.length).filterMap (keyAt m) = m.map (·.1) := by
 induction m with
 | nil => rfl
 | cons p m ih =>
  rw [List.length_cons, List.range_succ_eq_map, List.filterMap_cons]
  simp only [keyAt, List.getElem?_cons_zero, Option.map_some, List.map_cons, List.filterMap_map]
  congr 1
theorem keys_perm {m : KM} {seen : List Nat} (hn : seen.Nodup) (hlt : ∀ j ∈ seen, j < m.length) (hall : ∀ j, j < m.length → j ∈ seen) : (seen.filterMap (keyAt m)).Perm (m.map (·.1)) := by
 rw [← keyAt_range]
 refine List.Perm.filterMap _ ((List.perm_ext_iff_of_nodup hn List.nodup_range).2 fun a => ?_)
 rw [List.mem_range]
 exact ⟨hlt a, hall a⟩
theorem seen_len {n : Nat} {seen : List Nat} (hn : seen.Nodup) (hlt : ∀ j ∈ seen, j < n) : seen.length ≤ n := by
 have := List.Nodup.length_le_of_subset hn (l₂ := List.range n) (fun j hj => List.mem_range.2 (hlt j hj))
 simpa using this
theorem nodup_snoc {seen : List Nat} {j : Nat} (hn : seen.Nodup) (hj : j ∉ seen) : (seen ++ [j]).Nodup := by
 rw [List.nodup_append]
 exact ⟨hn, by simp, by simp; intro a ha e; subst e; exact hj ha⟩
theorem keyAt_snoc {m : KM} {seen : List Nat} {j : Nat} {k : Str × Str} {v : Str} (h : m[j]? = some (k, v)) : (seen ++ [j]).filterMap (keyAt m) = seen.filterMap (keyAt m) ++ [k] := by
 rw [List.filterMap_append]; simp [keyAt, h]
theorem lt_snoc {m : KM} {seen : List Nat} {j : Nat} {kv : (Str × Str) × Str} (h : m[j]? = some kv) (hlt : ∀ j ∈ seen, j < m.length) : ∀ i ∈ seen ++ [j], i < m.length := by
 intro i hi
 rcases List.mem_append.1 hi with hi | hi
 ·exact hlt i hi
 ·simp at hi; subst hi; exact (List.getElem?_eq_some_iff.1 h).1
theorem fm_len (m : KM) (seen : List Nat) : (seen.filterMap (keyAt m)).length ≤ seen.length := List.length_filterMap_le _ _
theorem mapsKeys_ok (m : KM) : Fc Tryz.prog 126 [imapG kPair D.str m] (.fn (.func 172) [] [.iptr [imapG kPair D.str m]]) := by
 refine Fc.mk' [2] Tryz.func126 rfl Tryz.ntmps126 rfl rfl rfl (fun t w => results_tmp Tryz.results126 t _ w) ?_
 refine Run.seq (Run.reg [.w, .p] ?_)
 refine .W rfl (q_box1 0 rfl rfl rfl) <| .ag rfl rfl <| .nil ?_
 refine Run.weak (Le.freezeB 1 0 rfl rfl rfl rfl) ?_
 refine Run.seq (Run.reg [.p, .p] ?_)
 refine .P rfl (q_makeFunc (xs := []) (ys := _) rfl rfl) <| .ag rfl rfl <| .nil ?_
 refine Run.ret (?_)
 exact ret1 rfl (by exact Sub.refl _)
structure keysY_ok_L0 (m : KM) where
 seen : List Nat
 acc : List (Str × Str)
 hnd : seen.Nodup
 hlt : ∀ j ∈ seen, j < m.length
 hacc : acc = seen.filterMap (keyAt m)
theorem keysY_ok (m : KM) : FcY (α := Str × Str) Tryz.prog 172 8000 [.iptr [imapG kPair D.str m]] [] (fun p => [kPair p]) (fun p => p.length ≤ m.length) (fun p => p.Perm (m.map (·.1))) := by
 refine FcY.mk' Tryz.func172 rfl Tryz.ntmps172 rfl (fun t w => results_none Tryz.results172 t _ w) (fun idL lb ids B X Y => ?_)
 refine Run.seq (Run.reg [.p, .w] ?_)
 refine .P rfl (q_loadI Tryz.isAgg107 rfl) <| .W rfl (q_rangeI 8000 Tryz.underlying107 rfl (Y.free _ 8000 (by decide) (by decide))) <| .nil ?_
 refine Run.block ?_
 refine Run.loop (ι := keysY_ok_L0 m) (fun sx => [(0, yv lb), (5, .box 8000 0)]) (fun sx => ([(8000, .mj (m.map fun p => kPair p.1) (m.map fun p => D.str p.2) sx.seen)] ++ B sx.acc)) (fun sx => unseen m.length sx.seen) ⟨[], [], List.nodup_nil, by simp, rfl⟩ ?_ ?_
 ·exact Le.mk (ps_ok (Y.has _) rfl) (.same rfl rfl (.same rfl rfl .nil)) (.eqA rfl rfl (.tail (tail_ok (own := [(8000, _)]) (own' := [(8000, _)]) rfl (Y.free _) (Y.okb _))))
 ·rintro ⟨seen, acc, hnd, hlt, hacc⟩
  show Run _ _ _ _ [(0, yv lb), (5, .box 8000 0)] ([(8000, .mj (m.map fun p => kPair p.1) (m.map fun p => D.str p.2) seen)] ++ B acc)
  refine Run.seq (Run.regT ?_)
  refine Tx.n rfl trivial (q_nextI tzKey (vD := D.str) rfl rfl) (fun nb hnb => ?_)
  rcases nb with _ | ⟨nj, nk, nv⟩
  ·dsimp only [nextGD, nextIO]
   refine Tx.q rfl trivial (q_extract rfl rfl _) ?_
   refine Tx.nil ?_
   refine Run.seq ?_
   refine Run.condF rfl rfl ?_
   refine Run.exit (tq_exit (bq_exit ?_))
   refine Run.nil ?_
   exact retY_fin (.inr rfl) (acc) (by rw [hacc]; exact keys_perm hnd hlt hnb) (own_get (own := [(8000, _)]) rfl (Y.free _))
  ·dsimp only [nextGD, nextIO]
   refine Tx.q rfl trivial (q_extract rfl rfl _) ?_
   refine Tx.nil ?_
   refine Run.seq ?_
   refine Run.condT rfl rfl ?_
   refine Run.skip ?_
   refine Run.block ?_
   refine Run.seq (Run.reg [.r, .p, .w, .w] ?_)
   refine .R rfl (q_entryI tzKey (vD := D.str) rfl rfl (And.left hnb)) <| .P rfl (q_extract rfl rfl) <| .W rfl (q_alloc 8001 Tryz.zeroValue110 (Y.free _ 8001 (by decide) (by decide))) <| .W rfl (q_storeW Tryz.sizeOf110 rfl rfl rfl rfl rfl rfl) <| .nil ?_
   refine Run.seq (Run.regT ?_)
   refine Tx.q rfl trivial (q_move rfl _) ?_
   refine Tx.q rfl trivial (q_loadW Tryz.isAgg110 Tryz.sizeOf110 rfl rfl rfl) ?_
   refine Tx.weak (Le.mk (obs' := [(8000, _)] ++ B (acc)) (ps_ok (Y.has _) rfl) (show EnvLe _ _ [(0, _), (5, _), (6, _), (7, _), (8, _), (9, _), (10, _), (11, _)] from (.same rfl rfl (.same rfl rfl (.same rfl rfl (.same rfl rfl (.same rfl rfl (.same rfl rfl (.same rfl rfl (.same rfl rfl .nil))))))))) (.cons (i := 8000) rfl rfl (.tail (tail_ok (own := [(8001, _), (8000, _)]) (own' := [(8000, _)]) rfl (Y.free _) (Y.okb _))))) ?_
   refine Tx.y2 Y (own := [(8000, _)]) (pre := acc) (env' := [(0, _), (5, _), (6, _), (7, _), (8, _), (9, _), (10, _), (11, _)]) nk rfl rfl rfl rfl trivial rfl rfl rfl (by have h1 := seen_len (nodup_snoc hnd (And.right hnb)) (lt_snoc (And.left hnb) hlt); have h2 := fm_len m seen; simp only [List.length_append, List.length_singleton] at *; rw [hacc]; omega) rfl rfl (.cons rfl rfl (.cons rfl rfl (.cons rfl rfl (.cons rfl rfl (.cons rfl rfl (.cons rfl rfl (.cons rfl rfl (.cons rfl rfl .nil)))))))) ?_ (fun o hX => ?_)
   ·skip
    refine Tx.q rfl trivial (q_not rfl _) ?_
    refine Tx.nil ?_
    refine Run.condF rfl rfl ?_
    refine Run.skip ?_
    refine Run.nil (bq_norm ?_)
    refine Run.nil (tq_norm ?_)
    exact ⟨⟨seen ++ [nj], acc ++ [nk], nodup_snoc hnd (And.right hnb), lt_snoc (And.left hnb) hlt, by rw [hacc, keyAt_snoc (And.left hnb)]⟩, by exact unseen_lt ((List.getElem?_eq_some_iff.1 (And.left hnb)).1) (And.right hnb), Le.mk (ps_ok (Y.has _) rfl) (.same rfl rfl (.same rfl rfl .nil)) (.eqA rfl rfl (.tail (tail_ok (own := [(8000, _)]) (own' := [(8000, _)]) rfl (Y.free _) (Y.okb _))))⟩
   ·skip
    refine Tx.q rfl trivial (q_not rfl _) ?_
    refine Tx.nil ?_
    refine Run.condT rfl rfl ?_
    refine Run.ret (bq_ret (tq_ret (bq_ret (?_))))
    exact retY_x (.inl rfl) o hX (own_get (own := [(8000, _)]) rfl (Y.freeX _ hX))
end Go.T
