/-
  Contracts of the functions that the statement reaches, and the logic in which they are proved (no condition): parts W41, W42, W43, W44, W45, W46, W47.
-/
import Derived.Test.YtlhemheagekhaaaGreatDoorA12
set_option linter.all false
namespace Go.T
open Go Go.Proofs
set_option maxRecDepth 20000
structure ins7600_ok_L0 (l : List Entry) where
 pre : List Entry
 rest : List Entry
 hf : rest.foldl (insI cmpEn) pre.reverse = l.foldl (insI cmpEn) []
 hpl : pre.length + rest.length = l.length
 h1 : pre.length ≠ 0
 mp : ∀ e ∈ pre, smallE e
 mr : ∀ e ∈ rest, smallE e
structure ins7600_ok_L1 (l : List Entry) (pre : List Entry) (x : Entry) (rest : List Entry) where
 p : List Entry
 q : List Entry
 hr : q.reverse ++ insI cmpEn p.reverse x = insI cmpEn pre.reverse x
 hpq : p.length + q.length = pre.length
 ms : ∀ e ∈ p, smallE e
 mq : ∀ e ∈ q, smallE e
theorem ins7600_ok (l : List Entry) (hl : l.length ≤ 1000) (hs : ∀ e ∈ l, smallE e) (h0 : l ≠ []) : FcO Tryz.prog 194 [.gs 7600 l.length, .i 0, .i l.length, .fn (.func 99) [] []] [(7600, .arr 3 (l.map encEntry))] (.tup []) [(7600, .arr 3 ((sortI cmpEn l).map encEntry))] := by
 refine FcO.mk' [] Tryz.func194 rfl Tryz.ntmps194 rfl rfl rfl (fun t w => results_none Tryz.results194 t _ w) ?_
 have hl0 : l.length ≠ 0 := fun e => h0 (List.length_eq_zero_iff.1 e)
 refine Run.seq (Run.reg [.p, .p, .p] ?_)
 refine .mv rfl rfl <| .P rfl (q_add rfl rfl (wrap64_ok (by first | omega | (simp; done) | (simp; omega) | (simp at *; omega)) (by first | omega | (simp; done) | (simp; omega) | (simp at *; omega)))) <| .ag rfl rfl <| .nil ?_
 refine Run.block ?_
 refine Run.loop (ι := ins7600_ok_L0 l) (fun sx => [(0, .gs 7600 l.length), (1, .i 0), (2, .i l.length), (3, .fn (.func 99) [] []), (8, .i sx.pre.length)]) (fun sx => [(7600, .arr 3 ((sx.pre ++ sx.rest).map encEntry))]) (fun sx => sx.rest.length) ⟨l.take 1, l.drop 1, by cases l <;> rfl, by simp; omega, by simp; omega, fun e he => hs e (List.mem_of_mem_take he), fun e he => hs e (List.mem_of_mem_drop he)⟩ ?_ ?_
 ·exact Le.mk rfl (.cons rfl (Sub.gs (by simp)) rfl (.cons rfl Sub.intA rfl (.cons rfl Sub.intA rfl (.same rfl rfl (.cons rfl Sub.intA rfl .nil))))) (.arr rfl (by first | (rw [List.take_append_drop]; done) | (simp; done)) .nil)
 ·rintro ⟨pre, rest, hf, hpl, h1, mp, mr⟩
  show Run _ _ _ _ [(0, .gs 7600 l.length), (1, .i 0), (2, .i l.length), (3, .fn (.func 99) [] []), (8, .i pre.length)] [(7600, .arr 3 ((pre ++ rest).map encEntry))]
  rcases rest with _ | ⟨x, rest⟩
  ·skip
   refine Run.seq (Run.seq (Run.reg [.p, .p, .p] ?_))
   refine .mv rfl rfl <| .mv rfl rfl <| .P rfl (q_lss rfl rfl) <| .nil ?_
   refine Run.condF rfl (by simp at *; omega) ?_
   refine Run.exit (tq_exit (bq_exit ?_))
   refine Run.nil ?_
   exact retO0n  (Sub.refl _) (.eq rfl (by simp [sortI, ← hf]) rfl .nil)
  ·have hxs := mr x (by simp)
   simp only [List.length_cons] at hpl
   refine Run.seq (Run.seq (Run.reg [.p, .p, .p] ?_))
   refine .mv rfl rfl <| .mv rfl rfl <| .P rfl (q_lss rfl rfl) <| .nil ?_
   refine Run.condT rfl (by simp; omega) ?_
   refine Run.skip ?_
   refine Run.seq ?_
   refine Run.block ?_
   refine Run.seq (Run.reg [.p, .p] ?_)
   refine .mv rfl rfl <| .ag rfl rfl <| .nil ?_
   refine Run.block ?_
   refine Run.loop (ι := ins7600_ok_L1 l pre x rest) (fun sx => [(0, .gs 7600 l.length), (1, .i 0), (2, .i l.length), (3, .fn (.func 99) [] []), (8, .i pre.length), (9, .i sx.p.length)]) (fun sx => [(7600, .arr 3 ((sx.p ++ x :: (sx.q ++ rest)).map encEntry))]) (fun sx => sx.p.length) ⟨pre, [], by simp, by simp, mp, by simp⟩ ?_ ?_
   ·exact Le.mk rfl (.cons rfl (Sub.gs (by simp)) rfl (.cons rfl Sub.intA rfl (.cons rfl Sub.intA rfl (.same rfl rfl (.cons rfl Sub.intA rfl (.cons rfl Sub.intA rfl .nil)))))) (.arr rfl (by first | (simp; done) | exact swap_rows p y x (q ++ rest)) .nil)
   ·rintro ⟨p, q, hr, hpq, ms, mq⟩
    show Run _ _ _ _ [(0, .gs 7600 l.length), (1, .i 0), (2, .i l.length), (3, .fn (.func 99) [] []), (8, .i pre.length), (9, .i p.length)] [(7600, .arr 3 ((p ++ x :: (q ++ rest)).map encEntry))]
    rcases snoc_cases p with rfl | ⟨p, y, rfl⟩
    ·simp only [List.length_nil] at hpq
     refine Run.seq (Run.seq (Run.regD [.p, .p, .p, .p, .p, .p, .p, .p, .r, .p, .p, .p, .p, .r, .p, .p, .p] Tryz_mixed (by decide +kernel) ?_))
     refine .mv rfl rfl <| .mv rfl rfl <| .P rfl (q_gtr rfl rfl) <| .mv rfl rfl ?_
     refine .off rfl (off_of rfl rfl rfl (by simp)) ?_
     refine .off rfl (off_of rfl rfl rfl (by simp)) ?_
     refine .off rfl (off_of rfl rfl rfl (by simp)) ?_
     refine .off rfl (off_of rfl rfl rfl (by simp)) ?_
     refine .off rfl (off_of rfl rfl rfl (by simp)) ?_
     refine .off rfl (off_of rfl rfl rfl (by simp)) ?_
     refine .off rfl (off_of rfl rfl rfl (by simp)) ?_
     refine .off rfl (off_of rfl rfl rfl (by simp)) ?_
     refine .off rfl (off_of rfl rfl rfl (by simp)) ?_
     refine .off rfl (off_of rfl rfl rfl (by simp)) ?_
     refine .off rfl (off_of rfl rfl rfl (by simp)) ?_
     refine .off rfl (off_of rfl rfl rfl (by simp)) ?_
     refine .P rfl (q_pickF rfl (by simp) rfl) <| .nil ?_
     refine Run.condF rfl rfl ?_
     refine Run.exit (tq_exit (bq_exit ?_))
     refine Run.nil (bq_norm ?_)
     refine Run.reg [.p, .p, .p] ?_
     refine .mv rfl rfl <| .P rfl (q_add rfl rfl (wrap64_ok (by first | omega | (simp; done) | (simp; omega) | (simp at *; omega)) (by first | omega | (simp; done) | (simp; omega) | (simp at *; omega)))) <| .ag rfl rfl <| .nil ?_
     refine Run.nil (tq_norm ?_)
     exact ⟨⟨[] ++ x :: q, rest, by rw [← hf, List.foldl_cons, ins_done1 hr], by simp at *; omega, by simp, by simp; exact ⟨hxs, mq⟩, fun e he => mr e (by simp [he])⟩, by simp, Le.mk rfl (.cons rfl (Sub.gs (by simp)) rfl (.cons rfl Sub.intA rfl (.cons rfl Sub.intA rfl (.same rfl rfl (.cons rfl Sub.intA rfl .nil))))) (.arr rfl (by first | (rw [List.take_append_drop]; done) | (simp; done)) .nil)⟩
    ·simp only [List.length_append, List.length_singleton] at hpq
     refine Run.seq (Run.seq (Run.regD [.p, .p, .p, .p, .p, .p, .p, .p, .r, .p, .p, .p, .p, .r, .p, .p, .p] Tryz_mixed (by decide +kernel) ?_))
     refine .mv rfl rfl <| .mv rfl rfl <| .P rfl (q_gtr rfl rfl) <| .mv rfl rfl <| .p rfl (on_of rfl rfl rfl (by first | (simp; done) | (simp; omega))) (fun _ => q_move rfl _) <| .p rfl (on_of rfl rfl rfl (by first | (simp; done) | (simp; omega))) (fun _ => q_move rfl _) <| .p rfl (on_of rfl rfl rfl (by first | (simp; done) | (simp; omega))) (fun _ => q_move rfl _) <| .p rfl (on_of rfl rfl rfl (by first | (simp; done) | (simp; omega))) (fun _ => q_indexG (off := ((p ++ [y]).length) * 3) Tryz.underlying22 Tryz.sizeOf37 rfl rfl (by first | omega | (simp; done) | (simp; omega) | (simp at *; omega)) (by first | (simp; done) | (simp; omega) | (simp at *; omega)) (by first | omega | (simp; done) | (simp; omega) | (simp at *; omega)) _) <| .r rfl (on_of rfl rfl rfl (by first | (simp; done) | (simp; omega))) (q_loadGA (j := (p ++ [y]).length) (r := _) Tryz.isAgg37 Tryz.sizeOf37 rfl rfl rfl rfl (rowX p y x (q ++ rest))) <| .p rfl (on_of rfl rfl rfl (by first | (simp; done) | (simp; omega))) (fun _ => q_move rfl _) <| .p rfl (on_of rfl rfl rfl (by first | (simp; done) | (simp; omega))) (fun _ => q_move rfl _) <| .p rfl (on_of rfl rfl rfl (by first | (simp; done) | (simp; omega))) (fun _ => q_sub rfl rfl (wrap64_ok (by first | omega | (simp; done) | (simp; omega) | (simp at *; omega)) (by first | omega | (simp; done) | (simp; omega) | (simp at *; omega))) _) <| .p rfl (on_of rfl rfl rfl (by first | (simp; done) | (simp; omega))) (fun _ => q_indexG (off := (p.length) * 3) Tryz.underlying22 Tryz.sizeOf37 rfl rfl (by first | omega | (simp; done) | (simp; omega) | (simp at *; omega)) (by first | (simp; done) | (simp; omega) | (simp at *; omega)) (by first | omega | (simp; done) | (simp; omega) | (simp at *; omega)) _) ?_
     refine .r rfl (on_of rfl rfl rfl (by first | (simp; done) | (simp; omega))) (q_loadGA (j := p.length) (r := _) Tryz.isAgg37 Tryz.sizeOf37 rfl rfl rfl rfl (rowY p y x (q ++ rest))) <| .p rfl (on_of rfl rfl rfl (by first | (simp; done) | (simp; omega))) (fun _ => q_callF Tryz.call99 rfl rfl (cmpEn_ok x y (fun m hm => (hxs.2.2 m hm).2.2) (fun m hm => ((ms y (by simp)).2.2 m hm).2.2)) _) <| .p rfl (on_of rfl rfl rfl (by first | (simp; done) | (simp; omega))) (fun _ => q_lss rfl rfl _) <| .P rfl (q_pickT rfl (by first | (simp; done) | (simp; omega)) rfl) <| .nil ?_
     refine Run.cond rfl (fun h1 => ?_) (fun h1 => ?_)
     ·have ph1 := h1; try simp only [bs] at ph1
      refine Run.skip ?_
      refine Run.seq ?_
      refine Run.block ?_
      refine Run.regD [.p, .p, .p, .p, .p, .p, .p, .p, .p, .r, .p, .p, .p, .r, .p, .w, .p, .w] Tryz_mixed (by decide +kernel) ?_
      refine .mv rfl rfl <| .mv rfl rfl <| .mv rfl rfl <| .mv rfl rfl <| .P rfl (q_sub rfl rfl (wrap64_ok (by first | omega | (simp; done) | (simp; omega) | (simp at *; omega)) (by first | omega | (simp; done) | (simp; omega) | (simp at *; omega)))) <| .mv rfl rfl <| .mv rfl rfl <| .P rfl (q_sub rfl rfl (wrap64_ok (by first | omega | (simp; done) | (simp; omega) | (simp at *; omega)) (by first | omega | (simp; done) | (simp; omega) | (simp at *; omega)))) <| .P rfl (q_indexG (off := (p.length) * 3) Tryz.underlying22 Tryz.sizeOf37 rfl rfl (by first | omega | (simp; done) | (simp; omega) | (simp at *; omega)) (by first | (simp; done) | (simp; omega) | (simp at *; omega)) (by first | omega | (simp; done) | (simp; omega) | (simp at *; omega))) <| .R rfl (q_loadGA (j := p.length) (r := _) Tryz.isAgg37 Tryz.sizeOf37 rfl rfl rfl rfl (rowY p y x (q ++ rest))) <| .mv rfl rfl <| .mv rfl rfl <| .P rfl (q_indexG (off := ((p ++ [y]).length) * 3) Tryz.underlying22 Tryz.sizeOf37 rfl rfl (by first | omega | (simp; done) | (simp; omega) | (simp at *; omega)) (by first | (simp; done) | (simp; omega) | (simp at *; omega)) (by first | omega | (simp; done) | (simp; omega) | (simp at *; omega))) <| .R rfl (q_loadGA (j := (p ++ [y]).length) (r := _) Tryz.isAgg37 Tryz.sizeOf37 rfl rfl rfl rfl (rowX p y x (q ++ rest))) <| .P rfl (q_indexG (off := ((p ++ [y]).length) * 3) Tryz.underlying22 Tryz.sizeOf37 rfl rfl (by first | omega | (simp; done) | (simp; omega) | (simp at *; omega)) (by first | (simp; done) | (simp; omega) | (simp at *; omega)) (by first | omega | (simp; done) | (simp; omega) | (simp at *; omega))) ?_
      refine .W rfl (q_storeGA (j := (p ++ [y]).length) Tryz.sizeOf37 rfl rfl rfl rfl rfl rfl rfl rfl (by simp)) <| .P rfl (q_indexG (off := (p.length) * 3) Tryz.underlying22 Tryz.sizeOf37 rfl rfl (by first | omega | (simp; done) | (simp; omega) | (simp at *; omega)) (by first | (simp; done) | (simp; omega) | (simp at *; omega)) (by first | omega | (simp; done) | (simp; omega) | (simp at *; omega))) <| .W rfl (q_storeGA (j := p.length) Tryz.sizeOf37 rfl rfl rfl rfl rfl rfl rfl rfl (by simp)) <| .nil ?_
      refine Run.nil (bq_norm ?_)
      refine Run.reg [.p, .p, .p] ?_
      refine .mv rfl rfl <| .P rfl (q_sub rfl rfl (wrap64_ok (by first | omega | (simp; done) | (simp; omega) | (simp at *; omega)) (by first | omega | (simp; done) | (simp; omega) | (simp at *; omega)))) <| .ag rfl rfl <| .nil ?_
      refine Run.nil (tq_norm ?_)
      exact ⟨⟨p, y :: q, by rw [← hr]; simp only [List.reverse_append, List.reverse_cons, List.reverse_nil, List.nil_append, List.singleton_append, insI]; rw [if_pos (by simpa using ‹decide _ = true›)]; simp, by simp at *; omega, fun e he => ms e (by simp [he]), by intro e he; rcases List.mem_cons.1 he with rfl | h; exact ms _ (by simp); exact mq e h⟩, by simp, Le.mk rfl (.cons rfl (Sub.gs (by simp)) rfl (.cons rfl Sub.intA rfl (.cons rfl Sub.intA rfl (.same rfl rfl (.cons rfl Sub.intA rfl (.cons rfl Sub.intA rfl .nil)))))) (.arr rfl (by first | (simp; done) | exact swap_rows p y x (q ++ rest)) .nil)⟩
     ·have ph1 := h1; try simp only [bs] at ph1
      refine Run.exit (tq_exit (bq_exit ?_))
      refine Run.nil (bq_norm ?_)
      refine Run.reg [.p, .p, .p] ?_
      refine .mv rfl rfl <| .P rfl (q_add rfl rfl (wrap64_ok (by first | omega | (simp; done) | (simp; omega) | (simp at *; omega)) (by first | omega | (simp; done) | (simp; omega) | (simp at *; omega)))) <| .ag rfl rfl <| .nil ?_
      refine Run.nil (tq_norm ?_)
      exact ⟨⟨(p ++ [y]) ++ x :: q, rest, by rw [← hf, List.foldl_cons, ins_done2 hr (by omega)], by simp at *; omega, by simp, by intro e he; rcases List.mem_append.1 he with h | h; exact ms e h; rcases List.mem_cons.1 h with rfl | h; exact hxs; exact mq e h, fun e he => mr e (by simp [he])⟩, by simp, Le.mk rfl (.cons rfl (Sub.gs (by simp)) rfl (.cons rfl Sub.intA rfl (.cons rfl Sub.intA rfl (.same rfl rfl (.cons rfl Sub.intA rfl .nil))))) (.arr rfl (by first | (rw [List.take_append_drop]; done) | (simp; done)) .nil)⟩
structure insN7600_ok_L0  where
 u : Unit
theorem insN7600_ok  : FcO Tryz.prog 194 [.gs 7600 0, .i 0, .i 0, .fn (.func 99) [] []] [(7600, .arr 3 [])] (.tup []) [(7600, .arr 3 [])] := by
 refine FcO.mk' [] Tryz.func194 rfl Tryz.ntmps194 rfl rfl rfl (fun t w => results_none Tryz.results194 t _ w) ?_
 refine Run.seq (Run.reg [.p, .p, .p] ?_)
 refine .mv rfl rfl <| .P rfl (q_add rfl rfl (wrap64_ok (by omega) (by omega))) <| .ag rfl rfl <| .nil ?_
 refine Run.block ?_
 refine Run.loop (ι := insN7600_ok_L0) (fun sx => [(2, .i 0), (8, .i 1)]) (fun sx => [(7600, .arr 3 [])]) (fun sx => 0) ⟨()⟩ ?_ ?_
 ·exact Le.mk rfl (.cons rfl Sub.intA rfl (.cons rfl Sub.intA rfl .nil)) (.arr rfl (by simp) .nil)
 ·rintro ⟨u⟩
  show Run _ _ _ _ [(2, .i 0), (8, .i 1)] [(7600, .arr 3 [])]
  skip
  ·skip
   refine Run.seq (Run.seq (Run.reg [.p, .p, .p] ?_))
   refine .mv rfl rfl <| .mv rfl rfl <| .P rfl (q_lss rfl rfl) <| .nil ?_
   refine Run.condF rfl (rfl) ?_
   refine Run.exit (tq_exit (bq_exit ?_))
   refine Run.nil ?_
   exact retO0n  (Sub.refl _) (.eq rfl (by rfl) rfl .nil)
theorem insA7600_ok (l : List Entry) (hl : l.length ≤ 1000) (hs : ∀ e ∈ l, smallE e) : FcO Tryz.prog 194 [.gs 7600 l.length, .i 0, .i l.length, .fn (.func 99) [] []] [(7600, .arr 3 (l.map encEntry))] (.tup []) [(7600, .arr 3 ((sortI cmpEn l).map encEntry))] := by
 by_cases h : l = []
 ·subst h; exact insN7600_ok
 ·exact ins7600_ok l hl hs h
structure ins7700_ok_L0 (l : List Entry) where
 pre : List Entry
 rest : List Entry
 hf : rest.foldl (insI cmpEn) pre.reverse = l.foldl (insI cmpEn) []
 hpl : pre.length + rest.length = l.length
 h1 : pre.length ≠ 0
 mp : ∀ e ∈ pre, smallE e
 mr : ∀ e ∈ rest, smallE e
structure ins7700_ok_L1 (l : List Entry) (pre : List Entry) (x : Entry) (rest : List Entry) where
 p : List Entry
 q : List Entry
 hr : q.reverse ++ insI cmpEn p.reverse x = insI cmpEn pre.reverse x
 hpq : p.length + q.length = pre.length
 ms : ∀ e ∈ p, smallE e
 mq : ∀ e ∈ q, smallE e
theorem ins7700_ok (l : List Entry) (hl : l.length ≤ 1000) (hs : ∀ e ∈ l, smallE e) (h0 : l ≠ []) : FcO Tryz.prog 194 [.gs 7700 l.length, .i 0, .i l.length, .fn (.func 99) [] []] [(7700, .arr 3 (l.map encEntry))] (.tup []) [(7700, .arr 3 ((sortI cmpEn l).map encEntry))] := by
 refine FcO.mk' [] Tryz.func194 rfl Tryz.ntmps194 rfl rfl rfl (fun t w => results_none Tryz.results194 t _ w) ?_
 have hl0 : l.length ≠ 0 := fun e => h0 (List.length_eq_zero_iff.1 e)
 refine Run.seq (Run.reg [.p, .p, .p] ?_)
 refine .mv rfl rfl <| .P rfl (q_add rfl rfl (wrap64_ok (by first | omega | (simp; done) | (simp; omega) | (simp at *; omega)) (by first | omega | (simp; done) | (simp; omega) | (simp at *; omega)))) <| .ag rfl rfl <| .nil ?_
 refine Run.block ?_
 refine Run.loop (ι := ins7700_ok_L0 l) (fun sx => [(0, .gs 7700 l.length), (1, .i 0), (2, .i l.length), (3, .fn (.func 99) [] []), (8, .i sx.pre.length)]) (fun sx => [(7700, .arr 3 ((sx.pre ++ sx.rest).map encEntry))]) (fun sx => sx.rest.length) ⟨l.take 1, l.drop 1, by cases l <;> rfl, by simp; omega, by simp; omega, fun e he => hs e (List.mem_of_mem_take he), fun e he => hs e (List.mem_of_mem_drop he)⟩ ?_ ?_
 ·exact Le.mk rfl (.cons rfl (Sub.gs (by simp)) rfl (.cons rfl Sub.intA rfl (.cons rfl Sub.intA rfl (.same rfl rfl (.cons rfl Sub.intA rfl .nil))))) (.arr rfl (by first | (rw [List.take_append_drop]; done) | (simp; done)) .nil)
 ·rintro ⟨pre, rest, hf, hpl, h1, mp, mr⟩
  show Run _ _ _ _ [(0, .gs 7700 l.length), (1, .i 0), (2, .i l.length), (3, .fn (.func 99) [] []), (8, .i pre.length)] [(7700, .arr 3 ((pre ++ rest).map encEntry))]
  rcases rest with _ | ⟨x, rest⟩
  ·skip
   refine Run.seq (Run.seq (Run.reg [.p, .p, .p] ?_))
   refine .mv rfl rfl <| .mv rfl rfl <| .P rfl (q_lss rfl rfl) <| .nil ?_
   refine Run.condF rfl (by simp at *; omega) ?_
   refine Run.exit (tq_exit (bq_exit ?_))
   refine Run.nil ?_
   exact retO0n  (Sub.refl _) (.eq rfl (by simp [sortI, ← hf]) rfl .nil)
  ·have hxs := mr x (by simp)
   simp only [List.length_cons] at hpl
   refine Run.seq (Run.seq (Run.reg [.p, .p, .p] ?_))
   refine .mv rfl rfl <| .mv rfl rfl <| .P rfl (q_lss rfl rfl) <| .nil ?_
   refine Run.condT rfl (by simp; omega) ?_
   refine Run.skip ?_
   refine Run.seq ?_
   refine Run.block ?_
   refine Run.seq (Run.reg [.p, .p] ?_)
   refine .mv rfl rfl <| .ag rfl rfl <| .nil ?_
   refine Run.block ?_
   refine Run.loop (ι := ins7700_ok_L1 l pre x rest) (fun sx => [(0, .gs 7700 l.length), (1, .i 0), (2, .i l.length), (3, .fn (.func 99) [] []), (8, .i pre.length), (9, .i sx.p.length)]) (fun sx => [(7700, .arr 3 ((sx.p ++ x :: (sx.q ++ rest)).map encEntry))]) (fun sx => sx.p.length) ⟨pre, [], by simp, by simp, mp, by simp⟩ ?_ ?_
   ·exact Le.mk rfl (.cons rfl (Sub.gs (by simp)) rfl (.cons rfl Sub.intA rfl (.cons rfl Sub.intA rfl (.same rfl rfl (.cons rfl Sub.intA rfl (.cons rfl Sub.intA rfl .nil)))))) (.arr rfl (by first | (simp; done) | exact swap_rows p y x (q ++ rest)) .nil)
   ·rintro ⟨p, q, hr, hpq, ms, mq⟩
    show Run _ _ _ _ [(0, .gs 7700 l.length), (1, .i 0), (2, .i l.length), (3, .fn (.func 99) [] []), (8, .i pre.length), (9, .i p.length)] [(7700, .arr 3 ((p ++ x :: (q ++ rest)).map encEntry))]
    rcases snoc_cases p with rfl | ⟨p, y, rfl⟩
    ·simp only [List.length_nil] at hpq
     refine Run.seq (Run.seq (Run.regD [.p, .p, .p, .p, .p, .p, .p, .p, .r, .p, .p, .p, .p, .r, .p, .p, .p] Tryz_mixed (by decide +kernel) ?_))
     refine .mv rfl rfl <| .mv rfl rfl <| .P rfl (q_gtr rfl rfl) <| .mv rfl rfl ?_
     refine .off rfl (off_of rfl rfl rfl (by simp)) ?_
     refine .off rfl (off_of rfl rfl rfl (by simp)) ?_
     refine .off rfl (off_of rfl rfl rfl (by simp)) ?_
     refine .off rfl (off_of rfl rfl rfl (by simp)) ?_
     refine .off rfl (off_of rfl rfl rfl (by simp)) ?_
     refine .off rfl (off_of rfl rfl rfl (by simp)) ?_
     refine .off rfl (off_of rfl rfl rfl (by simp)) ?_
     refine .off rfl (off_of rfl rfl rfl (by simp)) ?_
     refine .off rfl (off_of rfl rfl rfl (by simp)) ?_
     refine .off rfl (off_of rfl rfl rfl (by simp)) ?_
     refine .off rfl (off_of rfl rfl rfl (by simp)) ?_
     refine .off rfl (off_of rfl rfl rfl (by simp)) ?_
     refine .P rfl (q_pickF rfl (by simp) rfl) <| .nil ?_
     refine Run.condF rfl rfl ?_
     refine Run.exit (tq_exit (bq_exit ?_))
     refine Run.nil (bq_norm ?_)
     refine Run.reg [.p, .p, .p] ?_
     refine .mv rfl rfl <| .P rfl (q_add rfl rfl (wrap64_ok (by first | omega | (simp; done) | (simp; omega) | (simp at *; omega)) (by first | omega | (simp; done) | (simp; omega) | (simp at *; omega)))) <| .ag rfl rfl <| .nil ?_
     refine Run.nil (tq_norm ?_)
     exact ⟨⟨[] ++ x :: q, rest, by rw [← hf, List.foldl_cons, ins_done1 hr], by simp at *; omega, by simp, by simp; exact ⟨hxs, mq⟩, fun e he => mr e (by simp [he])⟩, by simp, Le.mk rfl (.cons rfl (Sub.gs (by simp)) rfl (.cons rfl Sub.intA rfl (.cons rfl Sub.intA rfl (.same rfl rfl (.cons rfl Sub.intA rfl .nil))))) (.arr rfl (by first | (rw [List.take_append_drop]; done) | (simp; done)) .nil)⟩
    ·simp only [List.length_append, List.length_singleton] at hpq
     refine Run.seq (Run.seq (Run.regD [.p, .p, .p, .p, .p, .p, .p, .p, .r, .p, .p, .p, .p, .r, .p, .p, .p] Tryz_mixed (by decide +kernel) ?_))
     refine .mv rfl rfl <| .mv rfl rfl <| .P rfl (q_gtr rfl rfl) <| .mv rfl rfl <| .p rfl (on_of rfl rfl rfl (by first | (simp; done) | (simp; omega))) (fun _ => q_move rfl _) <| .p rfl (on_of rfl rfl rfl (by first | (simp; done) | (simp; omega))) (fun _ => q_move rfl _) <| .p rfl (on_of rfl rfl rfl (by first | (simp; done) | (simp; omega))) (fun _ => q_move rfl _) <| .p rfl (on_of rfl rfl rfl (by first | (simp; done) | (simp; omega))) (fun _ => q_indexG (off := ((p ++ [y]).length) * 3) Tryz.underlying22 Tryz.sizeOf37 rfl rfl (by first | omega | (simp; done) | (simp; omega) | (simp at *; omega)) (by first | (simp; done) | (simp; omega) | (simp at *; omega)) (by first | omega | (simp; done) | (simp; omega) | (simp at *; omega)) _) <| .r rfl (on_of rfl rfl rfl (by first | (simp; done) | (simp; omega))) (q_loadGA (j := (p ++ [y]).length) (r := _) Tryz.isAgg37 Tryz.sizeOf37 rfl rfl rfl rfl (rowX p y x (q ++ rest))) <| .p rfl (on_of rfl rfl rfl (by first | (simp; done) | (simp; omega))) (fun _ => q_move rfl _) <| .p rfl (on_of rfl rfl rfl (by first | (simp; done) | (simp; omega))) (fun _ => q_move rfl _) <| .p rfl (on_of rfl rfl rfl (by first | (simp; done) | (simp; omega))) (fun _ => q_sub rfl rfl (wrap64_ok (by first | omega | (simp; done) | (simp; omega) | (simp at *; omega)) (by first | omega | (simp; done) | (simp; omega) | (simp at *; omega))) _) <| .p rfl (on_of rfl rfl rfl (by first | (simp; done) | (simp; omega))) (fun _ => q_indexG (off := (p.length) * 3) Tryz.underlying22 Tryz.sizeOf37 rfl rfl (by first | omega | (simp; done) | (simp; omega) | (simp at *; omega)) (by first | (simp; done) | (simp; omega) | (simp at *; omega)) (by first | omega | (simp; done) | (simp; omega) | (simp at *; omega)) _) ?_
     refine .r rfl (on_of rfl rfl rfl (by first | (simp; done) | (simp; omega))) (q_loadGA (j := p.length) (r := _) Tryz.isAgg37 Tryz.sizeOf37 rfl rfl rfl rfl (rowY p y x (q ++ rest))) <| .p rfl (on_of rfl rfl rfl (by first | (simp; done) | (simp; omega))) (fun _ => q_callF Tryz.call99 rfl rfl (cmpEn_ok x y (fun m hm => (hxs.2.2 m hm).2.2) (fun m hm => ((ms y (by simp)).2.2 m hm).2.2)) _) <| .p rfl (on_of rfl rfl rfl (by first | (simp; done) | (simp; omega))) (fun _ => q_lss rfl rfl _) <| .P rfl (q_pickT rfl (by first | (simp; done) | (simp; omega)) rfl) <| .nil ?_
     refine Run.cond rfl (fun h1 => ?_) (fun h1 => ?_)
     ·have ph1 := h1; try simp only [bs] at ph1
      refine Run.skip ?_
      refine Run.seq ?_
      refine Run.block ?_
      refine Run.regD [.p, .p, .p, .p, .p, .p, .p, .p, .p, .r, .p, .p, .p, .r, .p, .w, .p, .w] Tryz_mixed (by decide +kernel) ?_
      refine .mv rfl rfl <| .mv rfl rfl <| .mv rfl rfl <| .mv rfl rfl <| .P rfl (q_sub rfl rfl (wrap64_ok (by first | omega | (simp; done) | (simp; omega) | (simp at *; omega)) (by first | omega | (simp; done) | (simp; omega) | (simp at *; omega)))) <| .mv rfl rfl <| .mv rfl rfl <| .P rfl (q_sub rfl rfl (wrap64_ok (by first | omega | (simp; done) | (simp; omega) | (simp at *; omega)) (by first | omega | (simp; done) | (simp; omega) | (simp at *; omega)))) <| .P rfl (q_indexG (off := (p.length) * 3) Tryz.underlying22 Tryz.sizeOf37 rfl rfl (by first | omega | (simp; done) | (simp; omega) | (simp at *; omega)) (by first | (simp; done) | (simp; omega) | (simp at *; omega)) (by first | omega | (simp; done) | (simp; omega) | (simp at *; omega))) <| .R rfl (q_loadGA (j := p.length) (r := _) Tryz.isAgg37 Tryz.sizeOf37 rfl rfl rfl rfl (rowY p y x (q ++ rest))) <| .mv rfl rfl <| .mv rfl rfl <| .P rfl (q_indexG (off := ((p ++ [y]).length) * 3) Tryz.underlying22 Tryz.sizeOf37 rfl rfl (by first | omega | (simp; done) | (simp; omega) | (simp at *; omega)) (by first | (simp; done) | (simp; omega) | (simp at *; omega)) (by first | omega | (simp; done) | (simp; omega) | (simp at *; omega))) <| .R rfl (q_loadGA (j := (p ++ [y]).length) (r := _) Tryz.isAgg37 Tryz.sizeOf37 rfl rfl rfl rfl (rowX p y x (q ++ rest))) <| .P rfl (q_indexG (off := ((p ++ [y]).length) * 3) Tryz.underlying22 Tryz.sizeOf37 rfl rfl (by first | omega | (simp; done) | (simp; omega) | (simp at *; omega)) (by first | (simp; done) | (simp; omega) | (simp at *; omega)) (by first | omega | (simp; done) | (simp; omega) | (simp at *; omega))) ?_
      refine .W rfl (q_storeGA (j := (p ++ [y]).length) Tryz.sizeOf37 rfl rfl rfl rfl rfl rfl rfl rfl (by simp)) <| .P rfl (q_indexG (off := (p.length) * 3) Tryz.underlying22 Tryz.sizeOf37 rfl rfl (by first | omega | (simp; done) | (simp; omega) | (simp at *; omega)) (by first | (simp; done) | (simp; omega) | (simp at *; omega)) (by first | omega | (simp; done) | (simp; omega) | (simp at *; omega))) <| .W rfl (q_storeGA (j := p.length) Tryz.sizeOf37 rfl rfl rfl rfl rfl rfl rfl rfl (by simp)) <| .nil ?_
      refine Run.nil (bq_norm ?_)
      refine Run.reg [.p, .p, .p] ?_
      refine .mv rfl rfl <| .P rfl (q_sub rfl rfl (wrap64_ok (by first | omega | (simp; done) | (simp; omega) | (simp at *; omega)) (by first | omega | (simp; done) | (simp; omega) | (simp at *; omega)))) <| .ag rfl rfl <| .nil ?_
      refine Run.nil (tq_norm ?_)
      exact ⟨⟨p, y :: q, by rw [← hr]; simp only [List.reverse_append, List.reverse_cons, List.reverse_nil, List.nil_append, List.singleton_append, insI]; rw [if_pos (by simpa using ‹decide _ = true›)]; simp, by simp at *; omega, fun e he => ms e (by simp [he]), by intro e he; rcases List.mem_cons.1 he with rfl | h; exact ms _ (by simp); exact mq e h⟩, by simp, Le.mk rfl (.cons rfl (Sub.gs (by simp)) rfl (.cons rfl Sub.intA rfl (.cons rfl Sub.intA rfl (.same rfl rfl (.cons rfl Sub.intA rfl (.cons rfl Sub.intA rfl .nil)))))) (.arr rfl (by first | (simp; done) | exact swap_rows p y x (q ++ rest)) .nil)⟩
     ·have ph1 := h1; try simp only [bs] at ph1
      refine Run.exit (tq_exit (bq_exit ?_))
      refine Run.nil (bq_norm ?_)
      refine Run.reg [.p, .p, .p] ?_
      refine .mv rfl rfl <| .P rfl (q_add rfl rfl (wrap64_ok (by first | omega | (simp; done) | (simp; omega) | (simp at *; omega)) (by first | omega | (simp; done) | (simp; omega) | (simp at *; omega)))) <| .ag rfl rfl <| .nil ?_
      refine Run.nil (tq_norm ?_)
      exact ⟨⟨(p ++ [y]) ++ x :: q, rest, by rw [← hf, List.foldl_cons, ins_done2 hr (by omega)], by simp at *; omega, by simp, by intro e he; rcases List.mem_append.1 he with h | h; exact ms e h; rcases List.mem_cons.1 h with rfl | h; exact hxs; exact mq e h, fun e he => mr e (by simp [he])⟩, by simp, Le.mk rfl (.cons rfl (Sub.gs (by simp)) rfl (.cons rfl Sub.intA rfl (.cons rfl Sub.intA rfl (.same rfl rfl (.cons rfl Sub.intA rfl .nil))))) (.arr rfl (by first | (rw [List.take_append_drop]; done) | (simp; done)) .nil)⟩
structure insN7700_ok_L0  where
 u : Unit
theorem insN7700_ok  : FcO Tryz.prog 194 [.gs 7700 0, .i 0, .i 0, .fn (.func 99) [] []] [(7700, .arr 3 [])] (.tup []) [(7700, .arr 3 [])] := by
 refine FcO.mk' [] Tryz.func194 rfl Tryz.ntmps194 rfl rfl rfl (fun t w => results_none Tryz.results194 t _ w) ?_
 refine Run.seq (Run.reg [.p, .p, .p] ?_)
 refine .mv rfl rfl <| .P rfl (q_add rfl rfl (wrap64_ok (by omega) (by omega))) <| .ag rfl rfl <| .nil ?_
 refine Run.block ?_
 refine Run.loop (ι := insN7700_ok_L0) (fun sx => [(2, .i 0), (8, .i 1)]) (fun sx => [(7700, .arr 3 [])]) (fun sx => 0) ⟨()⟩ ?_ ?_
 ·exact Le.mk rfl (.cons rfl Sub.intA rfl (.cons rfl Sub.intA rfl .nil)) (.arr rfl (by simp) .nil)
 ·rintro ⟨u⟩
  show Run _ _ _ _ [(2, .i 0), (8, .i 1)] [(7700, .arr 3 [])]
  skip
  ·skip
   refine Run.seq (Run.seq (Run.reg [.p, .p, .p] ?_))
   refine .mv rfl rfl <| .mv rfl rfl <| .P rfl (q_lss rfl rfl) <| .nil ?_
   refine Run.condF rfl (rfl) ?_
   refine Run.exit (tq_exit (bq_exit ?_))
   refine Run.nil ?_
   exact retO0n  (Sub.refl _) (.eq rfl (by rfl) rfl .nil)
theorem insA7700_ok (l : List Entry) (hl : l.length ≤ 1000) (hs : ∀ e ∈ l, smallE e) : FcO Tryz.prog 194 [.gs 7700 l.length, .i 0, .i l.length, .fn (.func 99) [] []] [(7700, .arr 3 (l.map encEntry))] (.tup []) [(7700, .arr 3 ((sortI cmpEn l).map encEntry))] := by
 by_cases h : l = []
 ·subst h; exact insN7700_ok
 ·exact ins7700_ok l hl hs h
end Go.T
namespace Go.T
open Go Go.Proofs
set_option maxRecDepth 20000
theorem bitsLen_ok (n : Nat) (h : n ≤ 1000) : Fc Tryz.prog 152 [.raw (.int .u64 (n : Int))] .any := .of_calls fun w O ρ vals _ hv => by
 simp only [Vs, V] at hv
 obtain ⟨u, us, rfl, rfl, rfl⟩ := hv
 refine (Tryz.bits_Len (n : Int) w (by omega) (by omega)).mono ?_
 rintro e w' ⟨rfl, rfl⟩
 exact ⟨_, rfl, by simp [V], Keep.refl _⟩
structure pdq7600_ok_L0 (l : List Entry) where
 u : Unit
theorem pdq7600_ok (l : List Entry) (hl : l.length ≤ 12) (hs : ∀ e ∈ l, smallE e) : FcO Tryz.prog 151 [.gs 7600 l.length, .i 0, .i l.length, .any, .fn (.func 99) [] []] [(7600, .arr 3 (l.map encEntry))] (.tup []) [(7600, .arr 3 ((sortI cmpEn l).map encEntry))] := by
 refine FcO.mk' [] Tryz.func151 rfl Tryz.ntmps151 rfl rfl rfl (fun t w => results_none Tryz.results151 t _ w) ?_
 refine Run.seq (Run.reg [.p] ?_)
 refine .ag rfl rfl <| .nil ?_
 refine Run.seq (Run.reg [.p] ?_)
 refine .ag rfl rfl <| .nil ?_
 refine Run.block ?_
 refine Run.loop (ι := pdq7600_ok_L0 l) (fun sx => [(0, .gs 7600 l.length), (1, .i 0), (2, .i l.length), (4, .fn (.func 99) [] [])]) (fun sx => [(7600, .arr 3 (l.map encEntry))]) (fun sx => 0) ⟨()⟩ ?_ ?_
 ·exact Le.mk rfl (.cons rfl (Sub.gs (by simp)) rfl (.cons rfl Sub.intA rfl (.cons rfl Sub.intA rfl (.same rfl rfl .nil)))) (.arr rfl (by simp) .nil)
 ·rintro ⟨u⟩
  show Run _ _ _ _ [(0, .gs 7600 l.length), (1, .i 0), (2, .i l.length), (4, .fn (.func 99) [] [])] [(7600, .arr 3 (l.map encEntry))]
  skip
  ·skip
   refine Run.block ?_
   refine Run.seq (Run.reg [.p, .p, .p, .p] ?_)
   refine .mv rfl rfl <| .mv rfl rfl <| .P rfl (q_sub rfl rfl (wrap64_ok (by omega) (by omega))) <| .ag rfl rfl <| .nil ?_
   refine Run.seq (Run.seq (Run.reg [.p, .p] ?_))
   refine .mv rfl rfl <| .P rfl (q_leq rfl rfl) <| .nil ?_
   refine Run.condT rfl (by simp; omega) ?_
   refine Run.seq (Run.reg [.p, .p, .p, .p, .w] ?_)
   refine .mv rfl rfl <| .mv rfl rfl <| .mv rfl rfl <| .mv rfl rfl <| .W rfl (q_callO Tryz.call194 rfl (insA7600_ok l (by omega) hs) (.cons rfl rfl .nil) rfl rfl) <| .nil ?_
   refine Run.ret (bq_ret (tq_ret (bq_ret (?_))))
   exact retO0  (Sub.refl _) (.eq rfl (by rfl) rfl .nil)
theorem sort7600_ok (l : List Entry) (hl : l.length ≤ 12) (hs : ∀ e ∈ l, smallE e) : FcO Tryz.prog 98 [.gs 7600 l.length, .fn (.func 99) [] []] [(7600, .arr 3 (l.map encEntry))] (.tup []) [(7600, .arr 3 ((sortI cmpEn l).map encEntry))] := by
 refine FcO.mk' [] Tryz.func98 rfl Tryz.ntmps98 rfl rfl rfl (fun t w => results_none Tryz.results98 t _ w) ?_
 refine Run.seq (Run.reg [.p, .p, .p] ?_)
 refine .mv rfl rfl <| .P rfl (q_lenG Tryz.underlying22 rfl) <| .ag rfl rfl <| .nil ?_
 refine Run.reg [.p, .p, .p, .p, .p, .p, .w] ?_
 refine .mv rfl rfl <| .mv rfl rfl <| .mv rfl rfl <| .P rfl (q_conv Tryz.underlying3 Tryz.underlying202 rfl (wrapu64_ok (by first | omega | (simp; done) | (simp; omega) | (simp at *; omega)) (by first | omega | (simp; done) | (simp; omega) | (simp at *; omega)))) <| .P rfl (q_call Tryz.call152 rfl (bitsLen_ok l.length (by omega))) <| .mv rfl rfl <| .W rfl (q_callO Tryz.call151 rfl (pdq7600_ok l hl hs) (.cons rfl rfl .nil) rfl rfl) <| .nil ?_
 refine Run.nil ?_
 exact retO0n  (Sub.refl _) (.eq rfl (by rfl) rfl .nil)
structure pdq7700_ok_L0 (l : List Entry) where
 u : Unit
theorem pdq7700_ok (l : List Entry) (hl : l.length ≤ 12) (hs : ∀ e ∈ l, smallE e) : FcO Tryz.prog 151 [.gs 7700 l.length, .i 0, .i l.length, .any, .fn (.func 99) [] []] [(7700, .arr 3 (l.map encEntry))] (.tup []) [(7700, .arr 3 ((sortI cmpEn l).map encEntry))] := by
 refine FcO.mk' [] Tryz.func151 rfl Tryz.ntmps151 rfl rfl rfl (fun t w => results_none Tryz.results151 t _ w) ?_
 refine Run.seq (Run.reg [.p] ?_)
 refine .ag rfl rfl <| .nil ?_
 refine Run.seq (Run.reg [.p] ?_)
 refine .ag rfl rfl <| .nil ?_
 refine Run.block ?_
 refine Run.loop (ι := pdq7700_ok_L0 l) (fun sx => [(0, .gs 7700 l.length), (1, .i 0), (2, .i l.length), (4, .fn (.func 99) [] [])]) (fun sx => [(7700, .arr 3 (l.map encEntry))]) (fun sx => 0) ⟨()⟩ ?_ ?_
 ·exact Le.mk rfl (.cons rfl (Sub.gs (by simp)) rfl (.cons rfl Sub.intA rfl (.cons rfl Sub.intA rfl (.same rfl rfl .nil)))) (.arr rfl (by simp) .nil)
 ·rintro ⟨u⟩
  show Run _ _ _ _ [(0, .gs 7700 l.length), (1, .i 0), (2, .i l.length), (4, .fn (.func 99) [] [])] [(7700, .arr 3 (l.map encEntry))]
  skip
  ·skip
   refine Run.block ?_
   refine Run.seq (Run.reg [.p, .p, .p, .p] ?_)
   refine .mv rfl rfl <| .mv rfl rfl <| .P rfl (q_sub rfl rfl (wrap64_ok (by omega) (by omega))) <| .ag rfl rfl <| .nil ?_
   refine Run.seq (Run.seq (Run.reg [.p, .p] ?_))
   refine .mv rfl rfl <| .P rfl (q_leq rfl rfl) <| .nil ?_
   refine Run.condT rfl (by simp; omega) ?_
   refine Run.seq (Run.reg [.p, .p, .p, .p, .w] ?_)
   refine .mv rfl rfl <| .mv rfl rfl <| .mv rfl rfl <| .mv rfl rfl <| .W rfl (q_callO Tryz.call194 rfl (insA7700_ok l (by omega) hs) (.cons rfl rfl .nil) rfl rfl) <| .nil ?_
   refine Run.ret (bq_ret (tq_ret (bq_ret (?_))))
   exact retO0  (Sub.refl _) (.eq rfl (by rfl) rfl .nil)
theorem sort7700_ok (l : List Entry) (hl : l.length ≤ 12) (hs : ∀ e ∈ l, smallE e) : FcO Tryz.prog 98 [.gs 7700 l.length, .fn (.func 99) [] []] [(7700, .arr 3 (l.map encEntry))] (.tup []) [(7700, .arr 3 ((sortI cmpEn l).map encEntry))] := by
 refine FcO.mk' [] Tryz.func98 rfl Tryz.ntmps98 rfl rfl rfl (fun t w => results_none Tryz.results98 t _ w) ?_
 refine Run.seq (Run.reg [.p, .p, .p] ?_)
 refine .mv rfl rfl <| .P rfl (q_lenG Tryz.underlying22 rfl) <| .ag rfl rfl <| .nil ?_
 refine Run.reg [.p, .p, .p, .p, .p, .p, .w] ?_
 refine .mv rfl rfl <| .mv rfl rfl <| .mv rfl rfl <| .P rfl (q_conv Tryz.underlying3 Tryz.underlying202 rfl (wrapu64_ok (by first | omega | (simp; done) | (simp; omega) | (simp at *; omega)) (by first | omega | (simp; done) | (simp; omega) | (simp at *; omega)))) <| .P rfl (q_call Tryz.call152 rfl (bitsLen_ok l.length (by omega))) <| .mv rfl rfl <| .W rfl (q_callO Tryz.call151 rfl (pdq7700_ok l hl hs) (.cons rfl rfl .nil) rfl rfl) <| .nil ?_
 refine Run.nil ?_
 exact retO0n  (Sub.refl _) (.eq rfl (by rfl) rfl .nil)
end Go.T
namespace Go.T
open Go Go.Proofs
set_option maxRecDepth 20000
theorem grow_ok (n : Nat) (h0 : n ≠ 0) (hn : n ≤ 100000) : FcO Tryz.prog 108 [.raw (.slice none 0 0), .i n] [] (.gr 7800 0) [(7800, .res 3)] := by
 refine FcO.mk' [4] Tryz.func108 rfl Tryz.ntmps108 rfl rfl rfl (fun t w => results_tmp Tryz.results108 t _ w) ?_
 refine Run.seq (Run.reg [.p] ?_)
 refine .ag rfl rfl <| .nil ?_
 refine Run.seq (Run.seq (Run.reg [.p, .p] ?_))
 refine .mv rfl rfl <| .P rfl (q_lss rfl rfl) <| .nil ?_
 refine Run.condF rfl (by simp) ?_
 refine Run.skip ?_
 refine Run.seq (Run.seq (Run.reg [.p, .p, .p, .p, .p, .p, .p, .p] ?_))
 refine .mv rfl rfl <| .mv rfl rfl <| .P rfl (q_capNil Tryz.underlying22 rfl) <| .mv rfl rfl <| .P rfl (q_lenNil Tryz.underlying22 rfl) <| .P rfl (q_sub rfl rfl (wrap64_ok (by first | omega | (simp; done) | (simp; omega) | (simp at *; omega)) (by first | omega | (simp; done) | (simp; omega) | (simp at *; omega)))) <| .P rfl (q_sub rfl rfl (wrap64_ok (by first | omega | (simp; done) | (simp; omega) | (simp at *; omega)) (by first | omega | (simp; done) | (simp; omega) | (simp at *; omega)))) <| .ag rfl rfl <| .nil ?_
 refine Run.seq (Run.reg [.p, .p] ?_)
 refine .mv rfl rfl <| .P rfl (q_gtr rfl rfl) <| .nil ?_
 refine Run.condT rfl (by simp; omega) ?_
 refine Run.reg [.p, .p, .p, .p, .p, .w, .p, .p, .p, .p] ?_
 refine .mv rfl rfl <| .mv rfl rfl <| .P rfl (q_capNil Tryz.underlying22 rfl) <| .P rfl (q_sliceNil Tryz.underlying22 Tryz.sizeOf37 rfl rfl) <| .mv rfl rfl <| .W rfl (q_appendMake (n := n) (bt := 48) 7800 Tryz.underlying22 Tryz.underlying3 Tryz.sizeOf37 Tryz.typeInfo37 Tryz.zeroValue37 rfl (by decide) rfl rfl rfl (by simp) h0 (by omega) (by omega) rfl) <| .mv rfl rfl <| .P rfl (q_lenNil Tryz.underlying22 rfl) <| .P rfl (q_sliceGr Tryz.underlying22 Tryz.sizeOf37 rfl rfl) <| .ag rfl rfl <| .nil ?_
 refine Run.seq (Run.reg [.p, .p] ?_)
 refine .mv rfl rfl <| .ag rfl rfl <| .nil ?_
 refine Run.ret (?_)
 exact retO1 rfl (by exact Sub.refl _) (.eq rfl (by rfl) rfl .nil)
theorem grow0_ok  : Fc Tryz.prog 108 [.raw (.slice none 0 0), .i 0] (.raw (.slice none 0 0)) := by
 refine Fc.mk' [4] Tryz.func108 rfl Tryz.ntmps108 rfl rfl rfl (fun t w => results_tmp Tryz.results108 t _ w) ?_
 refine Run.seq (Run.reg [.p] ?_)
 refine .ag rfl rfl <| .nil ?_
 refine Run.seq (Run.seq (Run.reg [.p, .p] ?_))
 refine .mv rfl rfl <| .P rfl (q_lss rfl rfl) <| .nil ?_
 refine Run.condF rfl (rfl) ?_
 refine Run.skip ?_
 refine Run.seq (Run.seq (Run.reg [.p, .p, .p, .p, .p, .p, .p, .p] ?_))
 refine .mv rfl rfl <| .mv rfl rfl <| .P rfl (q_capNil Tryz.underlying22 rfl) <| .mv rfl rfl <| .P rfl (q_lenNil Tryz.underlying22 rfl) <| .P rfl (q_sub rfl rfl (wrap64_ok (by first | omega | (simp; done) | (simp; omega) | (simp at *; omega)) (by first | omega | (simp; done) | (simp; omega) | (simp at *; omega)))) <| .P rfl (q_sub rfl rfl (wrap64_ok (by first | omega | (simp; done) | (simp; omega) | (simp at *; omega)) (by first | omega | (simp; done) | (simp; omega) | (simp at *; omega)))) <| .ag rfl rfl <| .nil ?_
 refine Run.seq (Run.reg [.p, .p] ?_)
 refine .mv rfl rfl <| .P rfl (q_gtr rfl rfl) <| .nil ?_
 refine Run.condF rfl (rfl) ?_
 refine Run.skip ?_
 refine Run.seq (Run.reg [.p, .p] ?_)
 refine .mv rfl rfl <| .ag rfl rfl <| .nil ?_
 refine Run.ret (?_)
 exact ret1 rfl (by exact Sub.refl _)
end Go.T
namespace Go.T
open Go Go.Proofs
set_option maxRecDepth 20000
theorem Sub.gsE {i n m : Nat} {d : D} (hd : d = .gs i m) (h : n = m) : Sub (.gs i n) d := by subst hd; subst h; exact Sub.refl _
@[reducible] def sel {α : Type} (k : Nat) (x y z : α) : α := match k with
 | 0 => x
 | 1 => y
 | _ => z
structure concatA_ok_L0 (a b : List Entry) where
 k : Nat
 hk : k ≤ 2
structure concatA_ok_L1 (a b : List Entry) where
 k : Nat
 hk : k ≤ 2
theorem concatA_ok (a b : List Entry) (hal : a.length ≤ 1000) (hbl : b.length ≤ 1000) (h0 : a.length ≠ 0) : Fc Tryz.prog 54 [.snap 1 true [[sEntries a], [sEntries b]]] (sEntries (a ++ b)) := by
 refine Fc.mk' [2] Tryz.func54 rfl Tryz.ntmps54 rfl rfl rfl (fun t w => results_tmp Tryz.results54 t _ w) ?_
 refine Run.seq (Run.reg [.p] ?_)
 refine .ag rfl rfl <| .nil ?_
 refine Run.seq (Run.reg [.p] ?_)
 refine .ag rfl rfl <| .nil ?_
 refine Run.seq (Run.seq (Run.reg [.p, .p, .p] ?_))
 refine .mv rfl rfl <| .P rfl (q_lenI Tryz.underlying146 rfl) <| .mv rfl rfl <| .nil ?_
 refine Run.block ?_
 refine Run.loop (ι := concatA_ok_L0 a b) (fun sx => [(0, .snap 1 true [[sEntries a], [sEntries b]]), (3, .i (sel sx.k 0 (a.length : Int) ((a.length : Int) + b.length))), (9, .snap 1 true [[sEntries a], [sEntries b]]), (10, .i 2), (11, .i sx.k)]) (fun sx => []) (fun sx => 2 - sx.k) ⟨0, by omega⟩ ?_ ?_
 ·exact Le.mk rfl (.same rfl rfl (.cons rfl (Sub.int (by first | rfl | (simp [sel]; done) | (simp [sel]; omega))) rfl (.same rfl rfl (.cons rfl Sub.intA rfl (.cons rfl Sub.intA rfl .nil))))) .nil
 ·rintro ⟨k, hk⟩
  show Run _ _ _ _ [(0, .snap 1 true [[sEntries a], [sEntries b]]), (3, .i (sel k 0 (a.length : Int) ((a.length : Int) + b.length))), (9, .snap 1 true [[sEntries a], [sEntries b]]), (10, .i 2), (11, .i k)] []
  rcases k with _ | _ | _ | k
  ·dsimp only [sel]
   refine Run.seq (Run.reg [.p] ?_)
   refine .P rfl (q_lss rfl rfl) <| .nil ?_
   refine Run.seq ?_
   refine Run.condT rfl (rfl) ?_
   refine Run.skip ?_
   refine Run.seq ?_
   refine Run.block ?_
   refine Run.seq (Run.reg [.p, .p, .p] ?_)
   refine .P rfl (q_indexI Tryz.underlying146 Tryz.sizeOf22 rfl rfl (by decide) rfl) <| .P rfl (q_loadI Tryz.isAgg22 rfl) <| .ag rfl rfl <| .nil ?_
   refine Run.seq (Run.reg [.p, .p, .p, .p, .p] ?_)
   refine .mv rfl rfl <| .mv rfl rfl <| .P rfl (q_lenI Tryz.underlying22 rfl) <| .P rfl (q_add rfl rfl (wrap64_ok (by first | omega | (simp; done) | (simp; omega) | (simp at *; omega)) (by first | omega | (simp; done) | (simp; omega) | (simp at *; omega)))) <| .ag rfl rfl <| .nil ?_
   refine Run.seq (Run.reg [.p, .p] ?_)
   refine .mv rfl rfl <| .P rfl (q_lss rfl rfl) <| .nil ?_
   refine Run.condF rfl (by simp) ?_
   refine Run.skip ?_
   refine Run.nil (bq_norm ?_)
   refine Run.reg [.p, .p] ?_
   refine .P rfl (q_add rfl rfl (wrap64_ok (by first | omega | (simp; done) | (simp; omega) | (simp at *; omega)) (by first | omega | (simp; done) | (simp; omega) | (simp at *; omega)))) <| .mv rfl rfl <| .nil ?_
   refine Run.nil (tq_norm ?_)
   exact ⟨⟨1, by omega⟩, by dsimp only; omega, Le.mk rfl (.same rfl rfl (.cons rfl (Sub.int (by first | rfl | (simp [sel]; done) | (simp [sel]; omega))) rfl (.same rfl rfl (.cons rfl Sub.intA rfl (.cons rfl Sub.intA rfl .nil))))) .nil⟩
  ·dsimp only [sel]
   refine Run.seq (Run.reg [.p] ?_)
   refine .P rfl (q_lss rfl rfl) <| .nil ?_
   refine Run.seq ?_
   refine Run.condT rfl (rfl) ?_
   refine Run.skip ?_
   refine Run.seq ?_
   refine Run.block ?_
   refine Run.seq (Run.reg [.p, .p, .p] ?_)
   refine .P rfl (q_indexI Tryz.underlying146 Tryz.sizeOf22 rfl rfl (by decide) rfl) <| .P rfl (q_loadI Tryz.isAgg22 rfl) <| .ag rfl rfl <| .nil ?_
   refine Run.seq (Run.reg [.p, .p, .p, .p, .p] ?_)
   refine .mv rfl rfl <| .mv rfl rfl <| .P rfl (q_lenI Tryz.underlying22 rfl) <| .P rfl (q_add rfl rfl (wrap64_ok (by first | omega | (simp; done) | (simp; omega) | (simp at *; omega)) (by first | omega | (simp; done) | (simp; omega) | (simp at *; omega)))) <| .ag rfl rfl <| .nil ?_
   refine Run.seq (Run.reg [.p, .p] ?_)
   refine .mv rfl rfl <| .P rfl (q_lss rfl rfl) <| .nil ?_
   refine Run.condF rfl (by simp; omega) ?_
   refine Run.skip ?_
   refine Run.nil (bq_norm ?_)
   refine Run.reg [.p, .p] ?_
   refine .P rfl (q_add rfl rfl (wrap64_ok (by first | omega | (simp; done) | (simp; omega) | (simp at *; omega)) (by first | omega | (simp; done) | (simp; omega) | (simp at *; omega)))) <| .mv rfl rfl <| .nil ?_
   refine Run.nil (tq_norm ?_)
   exact ⟨⟨2, by omega⟩, by dsimp only; omega, Le.mk rfl (.same rfl rfl (.cons rfl (Sub.int (by first | rfl | (simp [sel]; done) | (simp [sel]; omega))) rfl (.same rfl rfl (.cons rfl Sub.intA rfl (.cons rfl Sub.intA rfl .nil))))) .nil⟩
  ·dsimp only [sel]
   refine Run.seq (Run.reg [.p] ?_)
   refine .P rfl (q_lss rfl rfl) <| .nil ?_
   refine Run.seq ?_
   refine Run.condF rfl (rfl) ?_
   refine Run.exit (tq_exit (bq_exit ?_))
   refine Run.seq (Run.reg [.p, .w, .p] ?_)
   refine .mv rfl rfl <| .W rfl (q_callO Tryz.call108 rfl (grow_ok (a.length + b.length) (by omega) (by omega)) .nil rfl rfl) <| .ag rfl rfl <| .nil ?_
   refine Run.seq (Run.seq (Run.reg [.p, .p, .p] ?_))
   refine .mv rfl rfl <| .P rfl (q_lenI Tryz.underlying146 rfl) <| .mv rfl rfl <| .nil ?_
   refine Run.block ?_
   refine Run.loop (ι := concatA_ok_L1 a b) (fun sx => [(6, (sel sx.k (.gr 7800 0) (.gs 7801 a.length) (.gs 7801 (a.length + b.length)))), (25, .snap 1 true [[sEntries a], [sEntries b]]), (26, .i 2), (27, .i sx.k)]) (fun sx => [(7800, (sel sx.k (.res 3) (.dead) .dead)), (7801, .arr 3 (sel sx.k [] (a.map encEntry) (a.map encEntry ++ b.map encEntry)))]) (fun sx => 2 - sx.k) ⟨0, by omega⟩ ?_ ?_
   ·exact (Le.own0 7801 3).trans <| Le.mk rfl (.cons rfl (by first | exact Sub.refl _ | exact Sub.gsE rfl (by simp)) rfl (.same rfl rfl (.cons rfl Sub.intA rfl (.cons rfl Sub.intA rfl .nil)))) (.eq rfl (by first | rfl | (simp [sel]; done)) rfl (.arr rfl (by first | rfl | (simp [sel]; done)) .nil))
   ·rintro ⟨k, hk⟩
    show Run _ _ _ _ [(6, (sel k (.gr 7800 0) (.gs 7801 a.length) (.gs 7801 (a.length + b.length)))), (25, .snap 1 true [[sEntries a], [sEntries b]]), (26, .i 2), (27, .i k)] [(7800, (sel k (.res 3) (.dead) .dead)), (7801, .arr 3 (sel k [] (a.map encEntry) (a.map encEntry ++ b.map encEntry)))]
    rcases k with _ | _ | _ | k
    ·dsimp only [sel]
     refine Run.seq (Run.reg [.p] ?_)
     refine .P rfl (q_lss rfl rfl) <| .nil ?_
     refine Run.seq ?_
     refine Run.condT rfl (rfl) ?_
     refine Run.skip ?_
     refine Run.seq ?_
     refine Run.block ?_
     refine Run.seq (Run.reg [.p, .p, .p] ?_)
     refine .P rfl (q_indexI Tryz.underlying146 Tryz.sizeOf22 rfl rfl (by decide) rfl) <| .P rfl (q_loadI Tryz.isAgg22 rfl) <| .ag rfl rfl <| .nil ?_
     refine Run.reg [.p, .p, .w, .p] ?_
     refine .mv rfl rfl <| .mv rfl rfl <| .W rfl (q_appendGr (bt := 48) 7802 Tryz.underlying22 Tryz.underlying22 Tryz.sizeOf37 Tryz.typeInfo37 Tryz.zeroValue37 rfl rfl rfl rfl rfl rfl (by simp; intro h; simp [h] at *) rfl (by simp; omega)) <| .ag rfl rfl <| .nil ?_
     refine Run.nil (bq_norm ?_)
     refine Run.reg [.p, .p] ?_
     refine .P rfl (q_add rfl rfl (wrap64_ok (by first | omega | (simp; done) | (simp; omega) | (simp at *; omega)) (by first | omega | (simp; done) | (simp; omega) | (simp at *; omega)))) <| .mv rfl rfl <| .nil ?_
     refine Run.nil (tq_norm ?_)
     exact ⟨⟨1, by omega⟩, by dsimp only; omega, (Le.mk (obs' := [(7800, _), (7802, _)]) rfl (show EnvLe _ _ [(6, _), (25, _), (26, _), (27, _)] from (.same rfl rfl (.same rfl rfl (.same rfl rfl (.same rfl rfl .nil))))) (.cons (i := 7800) rfl rfl (.cons (i := 7802) rfl rfl .nil))).trans <| (Le.ren 6 7802 7801 rfl rfl (by simp) rfl).trans <| Le.mk rfl (.cons rfl (by first | exact Sub.refl _ | exact Sub.gsE rfl (by simp)) rfl (.same rfl rfl (.cons rfl Sub.intA rfl (.cons rfl Sub.intA rfl .nil)))) (.eq rfl (by first | rfl | (simp [sel]; done)) rfl (.arr rfl (by first | rfl | (simp [sel]; done)) .nil))⟩
    ·dsimp only [sel]
     refine Run.seq (Run.reg [.p] ?_)
     refine .P rfl (q_lss rfl rfl) <| .nil ?_
     refine Run.seq ?_
     refine Run.condT rfl (rfl) ?_
     refine Run.skip ?_
     refine Run.seq ?_
     refine Run.block ?_
     refine Run.seq (Run.reg [.p, .p, .p] ?_)
     refine .P rfl (q_indexI Tryz.underlying146 Tryz.sizeOf22 rfl rfl (by decide) rfl) <| .P rfl (q_loadI Tryz.isAgg22 rfl) <| .ag rfl rfl <| .nil ?_
     refine Run.reg [.p, .p, .w, .p] ?_
     refine .mv rfl rfl <| .mv rfl rfl <| .W rfl (q_append 7802 Tryz.underlying22 Tryz.underlying22 Tryz.sizeOf37 Tryz.typeInfo37 Tryz.zeroValue37 rfl (bt := 48) rfl rfl rfl rfl (by simp) rfl rfl (by simp; omega)) <| .ag rfl rfl <| .nil ?_
     refine Run.nil (bq_norm ?_)
     refine Run.reg [.p, .p] ?_
     refine .P rfl (q_add rfl rfl (wrap64_ok (by first | omega | (simp; done) | (simp; omega) | (simp at *; omega)) (by first | omega | (simp; done) | (simp; omega) | (simp at *; omega)))) <| .mv rfl rfl <| .nil ?_
     refine Run.nil (tq_norm ?_)
     exact ⟨⟨2, by omega⟩, by dsimp only; omega, (Le.mk (obs' := [(7800, _), (7802, _)]) rfl (show EnvLe _ _ [(6, _), (25, _), (26, _), (27, _)] from (.same rfl rfl (.same rfl rfl (.same rfl rfl (.same rfl rfl .nil))))) (.cons (i := 7800) rfl rfl (.cons (i := 7802) rfl rfl .nil))).trans <| (Le.ren 6 7802 7801 rfl rfl (by simp) rfl).trans <| Le.mk rfl (.cons rfl (by first | exact Sub.refl _ | exact Sub.gsE rfl (by simp)) rfl (.same rfl rfl (.cons rfl Sub.intA rfl (.cons rfl Sub.intA rfl .nil)))) (.eq rfl (by first | rfl | (simp [sel]; done)) rfl (.arr rfl (by first | rfl | (simp [sel]; done)) .nil))⟩
    ·dsimp only [sel]
     refine Run.seq (Run.reg [.p] ?_)
     refine .P rfl (q_lss rfl rfl) <| .nil ?_
     refine Run.seq ?_
     refine Run.condF rfl (rfl) ?_
     refine Run.exit (tq_exit (bq_exit ?_))
     refine Run.seq (Run.reg [.p, .p] ?_)
     refine .mv rfl rfl <| .ag rfl rfl <| .nil ?_
     refine Run.weak (Le.freeze 2 7801 rfl rfl (by simp)) ?_
     refine Run.ret (?_)
     exact ret1 rfl (Sub.snap (by simp))
    ·omega
  ·omega
structure concatB_ok_L0 (b : List Entry) where
 k : Nat
 hk : k ≤ 2
structure concatB_ok_L1 (b : List Entry) where
 k : Nat
 hk : k ≤ 2
theorem concatB_ok (b : List Entry) (hbl : b.length ≤ 1000) (h0 : b.length ≠ 0) : Fc Tryz.prog 54 [.snap 1 true [[sEntries ([] : List Entry)], [sEntries b]]] (sEntries b) := by
 refine Fc.mk' [2] Tryz.func54 rfl Tryz.ntmps54 rfl rfl rfl (fun t w => results_tmp Tryz.results54 t _ w) ?_
 refine Run.seq (Run.reg [.p] ?_)
 refine .ag rfl rfl <| .nil ?_
 refine Run.seq (Run.reg [.p] ?_)
 refine .ag rfl rfl <| .nil ?_
 refine Run.seq (Run.seq (Run.reg [.p, .p, .p] ?_))
 refine .mv rfl rfl <| .P rfl (q_lenI Tryz.underlying146 rfl) <| .mv rfl rfl <| .nil ?_
 refine Run.block ?_
 refine Run.loop (ι := concatB_ok_L0 b) (fun sx => [(0, .snap 1 true [[sEntries ([] : List Entry)], [sEntries b]]), (3, .i (sel sx.k 0 0 (b.length : Int))), (9, .snap 1 true [[sEntries ([] : List Entry)], [sEntries b]]), (10, .i 2), (11, .i sx.k)]) (fun sx => []) (fun sx => 2 - sx.k) ⟨0, by omega⟩ ?_ ?_
 ·exact Le.mk rfl (.same rfl rfl (.cons rfl (Sub.int (by first | rfl | (simp [sel]; done) | (simp [sel]; omega))) rfl (.same rfl rfl (.cons rfl Sub.intA rfl (.cons rfl Sub.intA rfl .nil))))) .nil
 ·rintro ⟨k, hk⟩
  show Run _ _ _ _ [(0, .snap 1 true [[sEntries ([] : List Entry)], [sEntries b]]), (3, .i (sel k 0 0 (b.length : Int))), (9, .snap 1 true [[sEntries ([] : List Entry)], [sEntries b]]), (10, .i 2), (11, .i k)] []
  rcases k with _ | _ | _ | k
  ·dsimp only [sel]
   refine Run.seq (Run.reg [.p] ?_)
   refine .P rfl (q_lss rfl rfl) <| .nil ?_
   refine Run.seq ?_
   refine Run.condT rfl (rfl) ?_
   refine Run.skip ?_
   refine Run.seq ?_
   refine Run.block ?_
   refine Run.seq (Run.reg [.p, .p, .p] ?_)
   refine .P rfl (q_indexI Tryz.underlying146 Tryz.sizeOf22 rfl rfl (by decide) rfl) <| .P rfl (q_loadI Tryz.isAgg22 rfl) <| .ag rfl rfl <| .nil ?_
   refine Run.seq (Run.reg [.p, .p, .p, .p, .p] ?_)
   refine .mv rfl rfl <| .mv rfl rfl <| .P rfl (q_lenI Tryz.underlying22 rfl) <| .P rfl (q_add rfl rfl (wrap64_ok (by first | omega | (simp; done) | (simp; omega) | (simp at *; omega)) (by first | omega | (simp; done) | (simp; omega) | (simp at *; omega)))) <| .ag rfl rfl <| .nil ?_
   refine Run.seq (Run.reg [.p, .p] ?_)
   refine .mv rfl rfl <| .P rfl (q_lss rfl rfl) <| .nil ?_
   refine Run.condF rfl (by simp) ?_
   refine Run.skip ?_
   refine Run.nil (bq_norm ?_)
   refine Run.reg [.p, .p] ?_
   refine .P rfl (q_add rfl rfl (wrap64_ok (by first | omega | (simp; done) | (simp; omega) | (simp at *; omega)) (by first | omega | (simp; done) | (simp; omega) | (simp at *; omega)))) <| .mv rfl rfl <| .nil ?_
   refine Run.nil (tq_norm ?_)
   exact ⟨⟨1, by omega⟩, by dsimp only; omega, Le.mk rfl (.same rfl rfl (.cons rfl (Sub.int (by first | rfl | (simp [sel]; done) | (simp [sel]; omega))) rfl (.same rfl rfl (.cons rfl Sub.intA rfl (.cons rfl Sub.intA rfl .nil))))) .nil⟩
  ·dsimp only [sel]
   refine Run.seq (Run.reg [.p] ?_)
   refine .P rfl (q_lss rfl rfl) <| .nil ?_
   refine Run.seq ?_
   refine Run.condT rfl (rfl) ?_
   refine Run.skip ?_
   refine Run.seq ?_
   refine Run.block ?_
   refine Run.seq (Run.reg [.p, .p, .p] ?_)
   refine .P rfl (q_indexI Tryz.underlying146 Tryz.sizeOf22 rfl rfl (by decide) rfl) <| .P rfl (q_loadI Tryz.isAgg22 rfl) <| .ag rfl rfl <| .nil ?_
   refine Run.seq (Run.reg [.p, .p, .p, .p, .p] ?_)
   refine .mv rfl rfl <| .mv rfl rfl <| .P rfl (q_lenI Tryz.underlying22 rfl) <| .P rfl (q_add rfl rfl (wrap64_ok (by first | omega | (simp; done) | (simp; omega) | (simp at *; omega)) (by first | omega | (simp; done) | (simp; omega) | (simp at *; omega)))) <| .ag rfl rfl <| .nil ?_
   refine Run.seq (Run.reg [.p, .p] ?_)
   refine .mv rfl rfl <| .P rfl (q_lss rfl rfl) <| .nil ?_
   refine Run.condF rfl (by simp) ?_
   refine Run.skip ?_
   refine Run.nil (bq_norm ?_)
   refine Run.reg [.p, .p] ?_
   refine .P rfl (q_add rfl rfl (wrap64_ok (by first | omega | (simp; done) | (simp; omega) | (simp at *; omega)) (by first | omega | (simp; done) | (simp; omega) | (simp at *; omega)))) <| .mv rfl rfl <| .nil ?_
   refine Run.nil (tq_norm ?_)
   exact ⟨⟨2, by omega⟩, by dsimp only; omega, Le.mk rfl (.same rfl rfl (.cons rfl (Sub.int (by first | rfl | (simp [sel]; done) | (simp [sel]; omega))) rfl (.same rfl rfl (.cons rfl Sub.intA rfl (.cons rfl Sub.intA rfl .nil))))) .nil⟩
  ·dsimp only [sel]
   refine Run.seq (Run.reg [.p] ?_)
   refine .P rfl (q_lss rfl rfl) <| .nil ?_
   refine Run.seq ?_
   refine Run.condF rfl (rfl) ?_
   refine Run.exit (tq_exit (bq_exit ?_))
   refine Run.seq (Run.reg [.p, .w, .p] ?_)
   refine .mv rfl rfl <| .W rfl (q_callO Tryz.call108 rfl (grow_ok b.length h0 (by omega)) .nil rfl rfl) <| .ag rfl rfl <| .nil ?_
   refine Run.seq (Run.seq (Run.reg [.p, .p, .p] ?_))
   refine .mv rfl rfl <| .P rfl (q_lenI Tryz.underlying146 rfl) <| .mv rfl rfl <| .nil ?_
   refine Run.block ?_
   refine Run.loop (ι := concatB_ok_L1 b) (fun sx => [(6, (sel sx.k (.gr 7800 0) (.gr 7800 0) (.gs 7801 b.length))), (25, .snap 1 true [[sEntries ([] : List Entry)], [sEntries b]]), (26, .i 2), (27, .i sx.k)]) (fun sx => [(7800, (sel sx.k (.res 3) (.res 3) .dead)), (7801, .arr 3 (sel sx.k [] [] (b.map encEntry)))]) (fun sx => 2 - sx.k) ⟨0, by omega⟩ ?_ ?_
   ·exact (Le.own0 7801 3).trans <| Le.mk rfl (.cons rfl (by first | exact Sub.refl _ | exact Sub.gsE rfl (by simp)) rfl (.same rfl rfl (.cons rfl Sub.intA rfl (.cons rfl Sub.intA rfl .nil)))) (.eq rfl (by first | rfl | (simp [sel]; done)) rfl (.arr rfl (by first | rfl | (simp [sel]; done)) .nil))
   ·rintro ⟨k, hk⟩
    show Run _ _ _ _ [(6, (sel k (.gr 7800 0) (.gr 7800 0) (.gs 7801 b.length))), (25, .snap 1 true [[sEntries ([] : List Entry)], [sEntries b]]), (26, .i 2), (27, .i k)] [(7800, (sel k (.res 3) (.res 3) .dead)), (7801, .arr 3 (sel k [] [] (b.map encEntry)))]
    rcases k with _ | _ | _ | k
    ·dsimp only [sel]
     refine Run.seq (Run.reg [.p] ?_)
     refine .P rfl (q_lss rfl rfl) <| .nil ?_
     refine Run.seq ?_
     refine Run.condT rfl (rfl) ?_
     refine Run.skip ?_
     refine Run.seq ?_
     refine Run.block ?_
     refine Run.seq (Run.reg [.p, .p, .p] ?_)
     refine .P rfl (q_indexI Tryz.underlying146 Tryz.sizeOf22 rfl rfl (by decide) rfl) <| .P rfl (q_loadI Tryz.isAgg22 rfl) <| .ag rfl rfl <| .nil ?_
     refine Run.reg [.p, .p, .p, .p] ?_
     refine .mv rfl rfl <| .mv rfl rfl <| .P rfl (q_appendGr0 Tryz.underlying22 Tryz.underlying22 Tryz.sizeOf37 rfl rfl) <| .ag rfl rfl <| .nil ?_
     refine Run.nil (bq_norm ?_)
     refine Run.reg [.p, .p] ?_
     refine .P rfl (q_add rfl rfl (wrap64_ok (by first | omega | (simp; done) | (simp; omega) | (simp at *; omega)) (by first | omega | (simp; done) | (simp; omega) | (simp at *; omega)))) <| .mv rfl rfl <| .nil ?_
     refine Run.nil (tq_norm ?_)
     exact ⟨⟨1, by omega⟩, by dsimp only; omega, Le.mk rfl (.cons rfl (by first | exact Sub.refl _ | exact Sub.gsE rfl (by simp)) rfl (.same rfl rfl (.cons rfl Sub.intA rfl (.cons rfl Sub.intA rfl .nil)))) (.eq rfl (by first | rfl | (simp [sel]; done)) rfl (.arr rfl (by first | rfl | (simp [sel]; done)) .nil))⟩
    ·dsimp only [sel]
     refine Run.seq (Run.reg [.p] ?_)
     refine .P rfl (q_lss rfl rfl) <| .nil ?_
     refine Run.seq ?_
     refine Run.condT rfl (rfl) ?_
     refine Run.skip ?_
     refine Run.seq ?_
     refine Run.block ?_
     refine Run.seq (Run.reg [.p, .p, .p] ?_)
     refine .P rfl (q_indexI Tryz.underlying146 Tryz.sizeOf22 rfl rfl (by decide) rfl) <| .P rfl (q_loadI Tryz.isAgg22 rfl) <| .ag rfl rfl <| .nil ?_
     refine Run.reg [.p, .p, .w, .p] ?_
     refine .mv rfl rfl <| .mv rfl rfl <| .W rfl (q_appendGr (bt := 48) 7802 Tryz.underlying22 Tryz.underlying22 Tryz.sizeOf37 Tryz.typeInfo37 Tryz.zeroValue37 rfl rfl rfl rfl rfl rfl (by simp; intro h; simp [h] at *) rfl (by simp; omega)) <| .ag rfl rfl <| .nil ?_
     refine Run.nil (bq_norm ?_)
     refine Run.reg [.p, .p] ?_
     refine .P rfl (q_add rfl rfl (wrap64_ok (by first | omega | (simp; done) | (simp; omega) | (simp at *; omega)) (by first | omega | (simp; done) | (simp; omega) | (simp at *; omega)))) <| .mv rfl rfl <| .nil ?_
     refine Run.nil (tq_norm ?_)
     exact ⟨⟨2, by omega⟩, by dsimp only; omega, (Le.mk (obs' := [(7800, _), (7802, _)]) rfl (show EnvLe _ _ [(6, _), (25, _), (26, _), (27, _)] from (.same rfl rfl (.same rfl rfl (.same rfl rfl (.same rfl rfl .nil))))) (.cons (i := 7800) rfl rfl (.cons (i := 7802) rfl rfl .nil))).trans <| (Le.ren 6 7802 7801 rfl rfl (by simp) rfl).trans <| Le.mk rfl (.cons rfl (by first | exact Sub.refl _ | exact Sub.gsE rfl (by simp)) rfl (.same rfl rfl (.cons rfl Sub.intA rfl (.cons rfl Sub.intA rfl .nil)))) (.eq rfl (by first | rfl | (simp [sel]; done)) rfl (.arr rfl (by first | rfl | (simp [sel]; done)) .nil))⟩
    ·dsimp only [sel]
     refine Run.seq (Run.reg [.p] ?_)
     refine .P rfl (q_lss rfl rfl) <| .nil ?_
     refine Run.seq ?_
     refine Run.condF rfl (rfl) ?_
     refine Run.exit (tq_exit (bq_exit ?_))
     refine Run.seq (Run.reg [.p, .p] ?_)
     refine .mv rfl rfl <| .ag rfl rfl <| .nil ?_
     refine Run.weak (Le.freeze 2 7801 rfl rfl (by simp)) ?_
     refine Run.ret (?_)
     exact ret1 rfl (Sub.snap (by simp))
    ·omega
  ·omega
structure concat0_ok_L0  where
 k : Nat
 hk : k ≤ 2
structure concat0_ok_L1  where
 k : Nat
 hk : k ≤ 2
theorem concat0_ok  : Fc Tryz.prog 54 [.snap 1 true [[sEntries ([] : List Entry)], [sEntries ([] : List Entry)]]] (sEntries []) := by
 refine Fc.mk' [2] Tryz.func54 rfl Tryz.ntmps54 rfl rfl rfl (fun t w => results_tmp Tryz.results54 t _ w) ?_
 refine Run.seq (Run.reg [.p] ?_)
 refine .ag rfl rfl <| .nil ?_
 refine Run.seq (Run.reg [.p] ?_)
 refine .ag rfl rfl <| .nil ?_
 refine Run.seq (Run.seq (Run.reg [.p, .p, .p] ?_))
 refine .mv rfl rfl <| .P rfl (q_lenI Tryz.underlying146 rfl) <| .mv rfl rfl <| .nil ?_
 refine Run.block ?_
 refine Run.loop (ι := concat0_ok_L0) (fun sx => [(0, .snap 1 true [[sEntries ([] : List Entry)], [sEntries ([] : List Entry)]]), (3, .i 0), (9, .snap 1 true [[sEntries ([] : List Entry)], [sEntries ([] : List Entry)]]), (10, .i 2), (11, .i sx.k)]) (fun sx => []) (fun sx => 2 - sx.k) ⟨0, by omega⟩ ?_ ?_
 ·exact Le.mk rfl (.same rfl rfl (.cons rfl Sub.intA rfl (.same rfl rfl (.cons rfl Sub.intA rfl (.cons rfl Sub.intA rfl .nil))))) .nil
 ·rintro ⟨k, hk⟩
  show Run _ _ _ _ [(0, .snap 1 true [[sEntries ([] : List Entry)], [sEntries ([] : List Entry)]]), (3, .i 0), (9, .snap 1 true [[sEntries ([] : List Entry)], [sEntries ([] : List Entry)]]), (10, .i 2), (11, .i k)] []
  rcases k with _ | _ | _ | k
  ·skip
   refine Run.seq (Run.reg [.p] ?_)
   refine .P rfl (q_lss rfl rfl) <| .nil ?_
   refine Run.seq ?_
   refine Run.condT rfl (rfl) ?_
   refine Run.skip ?_
   refine Run.seq ?_
   refine Run.block ?_
   refine Run.seq (Run.reg [.p, .p, .p] ?_)
   refine .P rfl (q_indexI Tryz.underlying146 Tryz.sizeOf22 rfl rfl (by decide) rfl) <| .P rfl (q_loadI Tryz.isAgg22 rfl) <| .ag rfl rfl <| .nil ?_
   refine Run.seq (Run.reg [.p, .p, .p, .p, .p] ?_)
   refine .mv rfl rfl <| .mv rfl rfl <| .P rfl (q_lenI Tryz.underlying22 rfl) <| .P rfl (q_add rfl rfl (wrap64_ok (by first | omega | (simp; done) | (simp; omega) | (simp at *; omega)) (by first | omega | (simp; done) | (simp; omega) | (simp at *; omega)))) <| .ag rfl rfl <| .nil ?_
   refine Run.seq (Run.reg [.p, .p] ?_)
   refine .mv rfl rfl <| .P rfl (q_lss rfl rfl) <| .nil ?_
   refine Run.condF rfl (by simp) ?_
   refine Run.skip ?_
   refine Run.nil (bq_norm ?_)
   refine Run.reg [.p, .p] ?_
   refine .P rfl (q_add rfl rfl (wrap64_ok (by first | omega | (simp; done) | (simp; omega) | (simp at *; omega)) (by first | omega | (simp; done) | (simp; omega) | (simp at *; omega)))) <| .mv rfl rfl <| .nil ?_
   refine Run.nil (tq_norm ?_)
   exact ⟨⟨1, by omega⟩, by dsimp only; omega, Le.mk rfl (.same rfl rfl (.cons rfl Sub.intA rfl (.same rfl rfl (.cons rfl Sub.intA rfl (.cons rfl Sub.intA rfl .nil))))) .nil⟩
  ·skip
   refine Run.seq (Run.reg [.p] ?_)
   refine .P rfl (q_lss rfl rfl) <| .nil ?_
   refine Run.seq ?_
   refine Run.condT rfl (rfl) ?_
   refine Run.skip ?_
   refine Run.seq ?_
   refine Run.block ?_
   refine Run.seq (Run.reg [.p, .p, .p] ?_)
   refine .P rfl (q_indexI Tryz.underlying146 Tryz.sizeOf22 rfl rfl (by decide) rfl) <| .P rfl (q_loadI Tryz.isAgg22 rfl) <| .ag rfl rfl <| .nil ?_
   refine Run.seq (Run.reg [.p, .p, .p, .p, .p] ?_)
   refine .mv rfl rfl <| .mv rfl rfl <| .P rfl (q_lenI Tryz.underlying22 rfl) <| .P rfl (q_add rfl rfl (wrap64_ok (by first | omega | (simp; done) | (simp; omega) | (simp at *; omega)) (by first | omega | (simp; done) | (simp; omega) | (simp at *; omega)))) <| .ag rfl rfl <| .nil ?_
   refine Run.seq (Run.reg [.p, .p] ?_)
   refine .mv rfl rfl <| .P rfl (q_lss rfl rfl) <| .nil ?_
   refine Run.condF rfl (by simp) ?_
   refine Run.skip ?_
   refine Run.nil (bq_norm ?_)
   refine Run.reg [.p, .p] ?_
   refine .P rfl (q_add rfl rfl (wrap64_ok (by first | omega | (simp; done) | (simp; omega) | (simp at *; omega)) (by first | omega | (simp; done) | (simp; omega) | (simp at *; omega)))) <| .mv rfl rfl <| .nil ?_
   refine Run.nil (tq_norm ?_)
   exact ⟨⟨2, by omega⟩, by dsimp only; omega, Le.mk rfl (.same rfl rfl (.cons rfl Sub.intA rfl (.same rfl rfl (.cons rfl Sub.intA rfl (.cons rfl Sub.intA rfl .nil))))) .nil⟩
  ·skip
   refine Run.seq (Run.reg [.p] ?_)
   refine .P rfl (q_lss rfl rfl) <| .nil ?_
   refine Run.seq ?_
   refine Run.condF rfl (rfl) ?_
   refine Run.exit (tq_exit (bq_exit ?_))
   refine Run.seq (Run.reg [.p, .p, .p] ?_)
   refine .mv rfl rfl <| .P rfl (q_call Tryz.call108 rfl grow0_ok) <| .ag rfl rfl <| .nil ?_
   refine Run.seq (Run.seq (Run.reg [.p, .p, .p] ?_))
   refine .mv rfl rfl <| .P rfl (q_lenI Tryz.underlying146 rfl) <| .mv rfl rfl <| .nil ?_
   refine Run.block ?_
   refine Run.loop (ι := concat0_ok_L1) (fun sx => [(6, .gs 0 0), (25, .snap 1 true [[sEntries ([] : List Entry)], [sEntries ([] : List Entry)]]), (26, .i 2), (27, .i sx.k)]) (fun sx => [(0, .arr 3 [])]) (fun sx => 2 - sx.k) ⟨0, by omega⟩ ?_ ?_
   ·exact (Le.own0 0 3).trans <| Le.mk rfl (.cons rfl (Sub.gsNil _) rfl (.same rfl rfl (.cons rfl Sub.intA rfl (.cons rfl Sub.intA rfl .nil)))) (.arr rfl (by simp) .nil)
   ·rintro ⟨k, hk⟩
    show Run _ _ _ _ [(6, .gs 0 0), (25, .snap 1 true [[sEntries ([] : List Entry)], [sEntries ([] : List Entry)]]), (26, .i 2), (27, .i k)] [(0, .arr 3 [])]
    rcases k with _ | _ | _ | k
    ·skip
     refine Run.seq (Run.reg [.p] ?_)
     refine .P rfl (q_lss rfl rfl) <| .nil ?_
     refine Run.seq ?_
     refine Run.condT rfl (rfl) ?_
     refine Run.skip ?_
     refine Run.seq ?_
     refine Run.block ?_
     refine Run.seq (Run.reg [.p, .p, .p] ?_)
     refine .P rfl (q_indexI Tryz.underlying146 Tryz.sizeOf22 rfl rfl (by decide) rfl) <| .P rfl (q_loadI Tryz.isAgg22 rfl) <| .ag rfl rfl <| .nil ?_
     refine Run.reg [.p, .p, .w, .p] ?_
     refine .mv rfl rfl <| .mv rfl rfl <| .W rfl (q_append 1 Tryz.underlying22 Tryz.underlying22 Tryz.sizeOf37 Tryz.typeInfo37 Tryz.zeroValue37 rfl (bt := 48) rfl rfl rfl rfl (by simp) rfl rfl (by simp)) <| .ag rfl rfl <| .nil ?_
     refine Run.nil (bq_norm ?_)
     refine Run.reg [.p, .p] ?_
     refine .P rfl (q_add rfl rfl (wrap64_ok (by first | omega | (simp; done) | (simp; omega) | (simp at *; omega)) (by first | omega | (simp; done) | (simp; omega) | (simp at *; omega)))) <| .mv rfl rfl <| .nil ?_
     refine Run.nil (tq_norm ?_)
     exact ⟨⟨1, by omega⟩, by dsimp only; omega, (Le.mk (obs' := [(1, _)]) rfl (show EnvLe _ _ [(6, _), (25, _), (26, _), (27, _)] from (.same rfl rfl (.same rfl rfl (.same rfl rfl (.same rfl rfl .nil))))) (.cons (i := 1) rfl rfl .nil)).trans <| (Le.ren 6 1 0 rfl rfl (by simp) rfl).trans <| Le.mk rfl (.cons rfl (Sub.gs (by simp)) rfl (.same rfl rfl (.cons rfl Sub.intA rfl (.cons rfl Sub.intA rfl .nil)))) (.arr rfl (by simp) .nil)⟩
    ·skip
     refine Run.seq (Run.reg [.p] ?_)
     refine .P rfl (q_lss rfl rfl) <| .nil ?_
     refine Run.seq ?_
     refine Run.condT rfl (rfl) ?_
     refine Run.skip ?_
     refine Run.seq ?_
     refine Run.block ?_
     refine Run.seq (Run.reg [.p, .p, .p] ?_)
     refine .P rfl (q_indexI Tryz.underlying146 Tryz.sizeOf22 rfl rfl (by decide) rfl) <| .P rfl (q_loadI Tryz.isAgg22 rfl) <| .ag rfl rfl <| .nil ?_
     refine Run.reg [.p, .p, .w, .p] ?_
     refine .mv rfl rfl <| .mv rfl rfl <| .W rfl (q_append 1 Tryz.underlying22 Tryz.underlying22 Tryz.sizeOf37 Tryz.typeInfo37 Tryz.zeroValue37 rfl (bt := 48) rfl rfl rfl rfl (by simp) rfl rfl (by simp)) <| .ag rfl rfl <| .nil ?_
     refine Run.nil (bq_norm ?_)
     refine Run.reg [.p, .p] ?_
     refine .P rfl (q_add rfl rfl (wrap64_ok (by first | omega | (simp; done) | (simp; omega) | (simp at *; omega)) (by first | omega | (simp; done) | (simp; omega) | (simp at *; omega)))) <| .mv rfl rfl <| .nil ?_
     refine Run.nil (tq_norm ?_)
     exact ⟨⟨2, by omega⟩, by dsimp only; omega, (Le.mk (obs' := [(1, _)]) rfl (show EnvLe _ _ [(6, _), (25, _), (26, _), (27, _)] from (.same rfl rfl (.same rfl rfl (.same rfl rfl (.same rfl rfl .nil))))) (.cons (i := 1) rfl rfl .nil)).trans <| (Le.ren 6 1 0 rfl rfl (by simp) rfl).trans <| Le.mk rfl (.cons rfl (Sub.gs (by simp)) rfl (.same rfl rfl (.cons rfl Sub.intA rfl (.cons rfl Sub.intA rfl .nil)))) (.arr rfl (by simp) .nil)⟩
    ·skip
     refine Run.seq (Run.reg [.p] ?_)
     refine .P rfl (q_lss rfl rfl) <| .nil ?_
     refine Run.seq ?_
     refine Run.condF rfl (rfl) ?_
     refine Run.exit (tq_exit (bq_exit ?_))
     refine Run.seq (Run.reg [.p, .p] ?_)
     refine .mv rfl rfl <| .ag rfl rfl <| .nil ?_
     refine Run.weak (Le.freeze 2 0 rfl rfl (by simp)) ?_
     refine Run.ret (?_)
     exact ret1 rfl (Sub.snap (by simp))
    ·omega
  ·omega
theorem concat_ok (a b : List Entry) (hal : a.length ≤ 1000) (hbl : b.length ≤ 1000) : Fc Tryz.prog 54 [.snap 1 true [[sEntries a], [sEntries b]]] (sEntries (a ++ b)) := by
 by_cases h : a.length = 0
 ·have e := List.length_eq_zero_iff.1 h
  subst e
  by_cases h' : b.length = 0
  ·have e := List.length_eq_zero_iff.1 h'
   subst e
   exact concat0_ok
  ·exact concatB_ok b hbl h'
 ·exact concatA_ok a b hal hbl h
end Go.T
namespace Go.T
open Go Go.Proofs
set_option maxRecDepth 20000
theorem foldl_insI_len (c : Entry → Entry → Int) (l : List Entry) : ∀ r : List Entry, (l.foldl (insI c) r).length = r.length + l.length := by
 induction l with
 | nil => intro r; simp
 | cons x l ih => intro r; rw [List.foldl_cons, ih, insI_len]; simp; omega
theorem sortI_len (c : Entry → Entry → Int) (l : List Entry) : (sortI c l).length = l.length := by simp [sortI, foldl_insI_len]
theorem foldl_insI_mem (c : Entry → Entry → Int) (l : List Entry) (e : Entry) : ∀ r : List Entry, e ∈ l.foldl (insI c) r ↔ e ∈ r ∨ e ∈ l := by
 induction l with
 | nil => intro r; simp
 | cons x l ih => intro r; rw [List.foldl_cons, ih, insI_mem]; simp only [List.mem_cons]; grind
theorem sortI_mem (c : Entry → Entry → Int) (l : List Entry) (e : Entry) : e ∈ sortI c l ↔ e ∈ l := by simp [sortI, foldl_insI_mem]
theorem minus_ok (a b : List Entry) (hal : a.length ≤ 12) (hbl : b.length ≤ 12) (has : ∀ e ∈ a, smallE e) (hbs : ∀ e ∈ b, smallE e) : Fc Tryz.prog 43 [sEntries a, sEntries b] (.tup [sEntries (if validE (a ++ b) then (mergeE cmpEn (sortI cmpEn a) (sortI cmpEn b)).1 else []), sEntries (if validE (a ++ b) then (mergeE cmpEn (sortI cmpEn a) (sortI cmpEn b)).2 else []), .i (if validE (a ++ b) then 0 else 1)]) := by
 refine Fc.mk' [4, 5, 6] Tryz.func43 rfl Tryz.ntmps43 rfl rfl rfl (fun t w => results_tmp3 Tryz.results43 t _ w) ?_
 refine Run.seq (Run.reg [.p, .p, .p] ?_)
 refine .ag rfl rfl <| .ag rfl rfl <| .ag rfl rfl <| .nil ?_
 refine Run.seq (Run.seq (Run.reg [.p, .p, .p, .p, .p] ?_))
 refine .mv rfl rfl <| .mv rfl rfl <| .P rfl (q_buildSlice' (n := 2) (rows := [[sEntries a], [sEntries b]]) Tryz.underlying146 Tryz.sizeOf22 rfl rfl rfl Tryz.zeroValue22 rfl rfl rfl rfl rfl rfl rfl) <| .P rfl (q_call Tryz.call54 rfl (concat_ok _ _ (by omega) (by omega))) <| .P rfl (q_call Tryz.call53 rfl (containsBad_ok _ (fun e he => (List.mem_append.1 he).elim (has e) (hbs e)))) <| .nil ?_
 refine Run.cond rfl (fun h1 => ?_) (fun h1 => ?_)
 ·have ph1 := h1; try simp only [bs] at ph1
  refine Run.seq (Run.reg [.p, .p, .p] ?_)
  refine .ag rfl rfl <| .ag rfl rfl <| .ag rfl rfl <| .nil ?_
  refine Run.ret (?_)
  exact ret3 rfl rfl rfl (by exact (Sub.nil 3 false).trans (Sub.snap (by simp_all))) (by exact (Sub.nil 3 false).trans (Sub.snap (by simp_all))) (Sub.int (by simp_all))
 ·have ph1 := h1; try simp only [bs] at ph1
  refine Run.skip ?_
  refine Run.seq (Run.reg [.p, .w, .p, .w, .p, .p] ?_)
  refine .mv rfl rfl <| .W rfl (q_callO Tryz.call97 rfl (clone7600_ok _ (by omega)) .nil rfl rfl) <| .mv rfl rfl <| .W rfl (q_callO Tryz.call97 rfl (clone7700_ok _ (by omega)) .nil rfl rfl) <| .ag rfl rfl <| .ag rfl rfl <| .nil ?_
  refine Run.seq (Run.reg [.p, .w] ?_)
  refine .mv rfl rfl <| .W rfl (q_callO Tryz.call98 rfl (sort7600_ok a (by omega) has) (.cons rfl rfl .nil) rfl rfl) <| .nil ?_
  refine Run.seq (Run.reg [.p, .w] ?_)
  refine .mv rfl rfl <| .W rfl (q_callO Tryz.call98 rfl (sort7700_ok b (by omega) hbs) (.cons rfl rfl .nil) rfl rfl) <| .nil ?_
  refine Run.weak (Le.freeze 7 7600 rfl rfl (by simp [sortI_len])) ?_
  refine Run.weak (Le.freeze 8 7700 rfl rfl (by simp [sortI_len])) ?_
  refine Run.seq (Run.reg [.p, .p, .p, .p, .p, .p, .p, .p] ?_)
  refine .mv rfl rfl <| .mv rfl rfl <| .P rfl (q_call Tryz.call100 rfl (merge_ok _ _ (by rw [sortI_len]; omega) (by rw [sortI_len]; omega) (fun e he => has e ((sortI_mem ..).1 he)) (fun e he => hbs e ((sortI_mem ..).1 he)))) <| .mv rfl rfl <| .P rfl (q_extract rfl rfl) <| .P rfl (q_extract rfl rfl) <| .ag rfl rfl <| .ag rfl rfl <| .nil ?_
  refine Run.seq (Run.reg [.p, .p, .p, .p, .p] ?_)
  refine .mv rfl rfl <| .mv rfl rfl <| .ag rfl rfl <| .ag rfl rfl <| .ag rfl rfl <| .nil ?_
  refine Run.ret (?_)
  exact ret3 rfl rfl rfl (Sub.snap (by simp_all)) (Sub.snap (by simp_all)) (Sub.int (by simp_all))
end Go.T
namespace Go.T
open Go Go.Proofs
set_option maxRecDepth 20000
def postE (l : List Close) (known : Int) (by_ : Str) (e : Entry) : Posted := ⟨max e.day (lastOpen (l.takeWhile (fun c : Close => decide (c.known < known)))), known, by_, e⟩
def chg (a b : List Entry) : List Entry := (mergeE cmpEn (sortI cmpEn a) (sortI cmpEn b)).1.map opposite ++ (mergeE cmpEn (sortI cmpEn a) (sortI cmpEn b)).2
def stepP (a b : List Entry) (l : List Close) (known : Int) (by_ : Str) : List Posted × Int :=
 if validE (a ++ b) = false ∨ checkCloses l ≠ 0 then ([], 1) else if known < 1 then ([], 2) else if isName by_ = false then ([], 23)
 else ((chg a b).map (postE l known by_), 0)
theorem mergeC_len (c : Entry → Entry → Int) : ∀ (n : Nat) (a b : List Entry), (mergeC c n a b).1.length ≤ a.length ∧ (mergeC c n a b).2.length ≤ b.length
 | 0, a, b => by simp [mergeC]
 | n + 1, [], b => by rw [mergeC_nil1]; simp
 | n + 1, x :: a, [] => by rw [mergeC_nil2]; simp
 | n + 1, x :: a, y :: b => by
  have h1 := mergeC_len c n a (y :: b)
  have h2 := mergeC_len c n (x :: a) b
  have h3 := mergeC_len c n a b
  simp only [mergeC, List.length_cons] at *
  split
  ·simp; omega
  ·split
   ·simp; omega
   ·omega
theorem mergeC_mem (c : Entry → Entry → Int) (e : Entry) : ∀ (n : Nat) (a b : List Entry), (e ∈ (mergeC c n a b).1 → e ∈ a) ∧ (e ∈ (mergeC c n a b).2 → e ∈ b)
 | 0, a, b => by simp [mergeC]
 | n + 1, [], b => by rw [mergeC_nil1]; simp
 | n + 1, x :: a, [] => by rw [mergeC_nil2]; simp
 | n + 1, x :: a, y :: b => by
  have h1 := mergeC_mem c e n a (y :: b)
  have h2 := mergeC_mem c e n (x :: a) b
  have h3 := mergeC_mem c e n a b
  simp only [mergeC, List.mem_cons] at *
  split
  ·simp only [List.mem_cons]; grind
  ·split
   ·simp only [List.mem_cons]; grind
   ·grind
theorem minusGood_ok (a b : List Entry) (hal : a.length ≤ 12) (hbl : b.length ≤ 12) (has : ∀ e ∈ a, smallE e) (hbs : ∀ e ∈ b, smallE e) (hv : validE (a ++ b) = true) : Fc Tryz.prog 43 [sEntries a, sEntries b] (.tup [sEntries (mergeE cmpEn (sortI cmpEn a) (sortI cmpEn b)).1, sEntries (mergeE cmpEn (sortI cmpEn a) (sortI cmpEn b)).2, .i 0]) := by
 have := minus_ok a b hal hbl has hbs
 simpa only [hv, if_true] using this
theorem minusBad_ok (a b : List Entry) (hal : a.length ≤ 12) (hbl : b.length ≤ 12) (has : ∀ e ∈ a, smallE e) (hbs : ∀ e ∈ b, smallE e) (hv : validE (a ++ b) = false) : Fc Tryz.prog 43 [sEntries a, sEntries b] (.tup [sEntries [], sEntries [], .i 1]) := by
 have := minus_ok a b hal hbl has hbs
 simpa only [hv, if_false, Bool.false_eq_true] using this
theorem validDay_checkE {e : Entry} (h : checkE e = 0) : ¬ (e.day < -25567 ∨ 84005 < e.day) := by
 have : checkHead e = 0 := by
  unfold checkE at h
  split at h
  ·contradiction
  ·omega
 unfold checkHead at this
 grind [validDay]
theorem validE_mem {l : List Entry} (h : validE l = true) : ∀ e ∈ l, checkE e = 0 := by
 intro e he
 unfold validE at h
 rw [List.all_eq_true] at h
 simpa using h e he
theorem checkCl_valid : ∀ (l pre : List Close), checkCl pre l = 0 → ∀ c ∈ l, validDay c.day = true
 | [], _, _, c, hc => by simp at hc
 | x :: l, pre, h, c, hc => by
  simp only [checkCl] at h
  split at h
  ·omega
  ·split at h
   ·omega
   ·split at h
    ·omega
    ·rcases List.mem_cons.1 hc with rfl | hc
     ·simp [validDay]; omega
     ·exact checkCl_valid l _ h c hc
theorem checkCloses_valid {l : List Close} (h : checkCloses l = 0) : (∀ c ∈ l, validDay c.day = true) ∧ l.length ≤ 64 := by
 unfold checkCloses at h
 split at h
 ·omega
 ·exact ⟨checkCl_valid l [] h, by omega⟩
end Go.T
namespace Go.T
open Go Go.Proofs
set_option maxRecDepth 20000
theorem stepP_rows {a b : List Entry} {l : List Close} {known : Int} {by_ : Str} (hv : validE (a ++ b) = true) (hc : checkCloses l = 0) (hk : 1 ≤ known) (hn : isName by_ = true) :
  List.map (fun e => encPosted (postE l known by_ e)) ((mergeE cmpEn (sortI cmpEn a) (sortI cmpEn b)).1.map opposite ++ (mergeE cmpEn (sortI cmpEn a) (sortI cmpEn b)).2) = List.map encPosted (stepP a b l known by_).1 := by
 unfold stepP
 rw [if_neg (by simp [hv, hc]), if_neg (by omega), if_neg (by simp [hn])]
 simp only [chg, List.map_map]
 rfl
theorem stepBad_ok (a b : List Entry) (l : List Close) (known : Int) (by_ : Str) (hal : a.length ≤ 12) (hbl : b.length ≤ 12) (has : ∀ e ∈ a, smallE e) (hbs : ∀ e ∈ b, smallE e) (hv : validE (a ++ b) = false) : Fc Tryz.prog 13 [sEntries a, sEntries b, sCloses l, .i known, .str by_] (.tup [sPosteds (stepP a b l known by_).1, .i (stepP a b l known by_).2]) := by
 refine Fc.mkR Tryz.func13 rfl Tryz.ntmps13 rfl rfl rfl ?_
 refine Run.seq (Run.reg [.w, .w, .w, .w, .w] ?_)
 refine .W rfl (q_box1 0 rfl rfl rfl) <| .W rfl (q_box1 1 rfl rfl rfl) <| .W rfl (q_box1 2 rfl rfl rfl) <| .W rfl (q_alloc 3 Tryz.zeroValue27 rfl) <| .W rfl (q_alloc 4 Tryz.zeroValue28 rfl) <| .nil ?_
 refine Run.seq (Run.reg [.p, .p, .p, .p, .p, .p, .p, .p, .p, .p] ?_)
 refine .mv rfl rfl <| .mv rfl rfl <| .P rfl (q_call Tryz.call43 rfl (minusBad_ok a b hal hbl has hbs hv)) <| .mv rfl rfl <| .P rfl (q_extract rfl rfl) <| .P rfl (q_extract rfl rfl) <| .P rfl (q_extract rfl rfl) <| .ag rfl rfl <| .ag rfl rfl <| .ag rfl rfl <| .nil ?_
 refine Run.seq ?_
 refine Run.block ?_
 refine Run.seq (Run.reg [.p, .p, .p, .r, .p, .p, .p, .p] ?_)
 refine .mv rfl rfl <| .P rfl (q_neq rfl rfl) <| .mv rfl rfl <| .gF rfl (.inr rfl) rfl rfl rfl (fun hg => rk (q_load1 Tryz.isAgg23 rfl rfl rfl)) <| .gF rfl (.inl rfl) rfl rfl rfl (fun hg => pk (fun _ => q_call Tryz.call44 (opsC (opT rfl (nt hg)) (rfl)) (closes_ok _) _)) <| .gF rfl (.inl rfl) rfl rfl rfl (fun hg => pk (fun _ => q_neq (opT rfl (nt hg)) rfl _)) <| .P rfl (q_or rfl rfl) <| .ag rfl rfl <| .nil ?_
 refine Run.condT rfl (by simp) ?_
 refine Run.seq (Run.reg [.w, .w] ?_)
 refine .W rfl (q_store1 Tryz.sizeOf27 rfl rfl rfl rfl (by first | (simp; done) | decide)) <| .W rfl (q_store1 Tryz.sizeOf28 rfl rfl rfl rfl (by first | (simp; done) | decide)) <| .nil ?_
 refine Run.ret (bq_ret (?_))
 exact Rd.c11 Tryz.results13 Tryz.isAgg27 Tryz.isAgg28 rfl rfl rfl rfl ((Sub.nil _ false).trans (Sub.snap (by simp [stepP, hv]))) (Sub.int (by simp [stepP, hv]))
theorem stepGood_ok (a b : List Entry) (l : List Close) (known : Int) (by_ : Str) (hal : a.length ≤ 12) (hbl : b.length ≤ 12) (has : ∀ e ∈ a, smallE e) (hbs : ∀ e ∈ b, smallE e) (hv : validE (a ++ b) = true) : Fc Tryz.prog 13 [sEntries a, sEntries b, sCloses l, .i known, .str by_] (.tup [sPosteds (stepP a b l known by_).1, .i (stepP a b l known by_).2]) := by
 refine Fc.mkR Tryz.func13 rfl Tryz.ntmps13 rfl rfl rfl ?_
 have hm := mergeC_len cmpEn ((sortI cmpEn a).length + (sortI cmpEn b).length) (sortI cmpEn a) (sortI cmpEn b)
 have hm1 : (mergeE cmpEn (sortI cmpEn a) (sortI cmpEn b)).1.length ≤ 12 := Nat.le_trans hm.1 (by rw [sortI_len]; exact hal)
 have hm2 : (mergeE cmpEn (sortI cmpEn a) (sortI cmpEn b)).2.length ≤ 12 := Nat.le_trans hm.2 (by rw [sortI_len]; exact hbl)
 have hc1 : ∀ e ∈ (mergeE cmpEn (sortI cmpEn a) (sortI cmpEn b)).1, smallE e ∧ checkE e = 0 := fun e he => have h := (sortI_mem ..).1 ((mergeC_mem ..).1 he); ⟨has e h, validE_mem hv e (List.mem_append_left _ h)⟩
 have hc2 : ∀ e ∈ (mergeE cmpEn (sortI cmpEn a) (sortI cmpEn b)).2, smallE e ∧ checkE e = 0 := fun e he => have h := (sortI_mem ..).1 ((mergeC_mem ..).2 he); ⟨hbs e h, validE_mem hv e (List.mem_append_right _ h)⟩
 refine Run.seq (Run.reg [.w, .w, .w, .w, .w] ?_)
 refine .W rfl (q_box1 0 rfl rfl rfl) <| .W rfl (q_box1 1 rfl rfl rfl) <| .W rfl (q_box1 2 rfl rfl rfl) <| .W rfl (q_alloc 3 Tryz.zeroValue27 rfl) <| .W rfl (q_alloc 4 Tryz.zeroValue28 rfl) <| .nil ?_
 refine Run.seq (Run.reg [.p, .p, .p, .p, .p, .p, .p, .p, .p, .p] ?_)
 refine .mv rfl rfl <| .mv rfl rfl <| .P rfl (q_call Tryz.call43 rfl (minusGood_ok a b hal hbl has hbs hv)) <| .mv rfl rfl <| .P rfl (q_extract rfl rfl) <| .P rfl (q_extract rfl rfl) <| .P rfl (q_extract rfl rfl) <| .ag rfl rfl <| .ag rfl rfl <| .ag rfl rfl <| .nil ?_
 refine Run.seq ?_
 refine Run.block ?_
 refine Run.seq (Run.reg [.p, .p, .p, .r, .p, .p, .p, .p] ?_)
 refine .mv rfl rfl <| .P rfl (q_neq rfl rfl) <| .mv rfl rfl <| .gF rfl (.inr rfl) rfl rfl rfl (fun hg => rk (q_load1 Tryz.isAgg23 rfl rfl rfl)) <| .gF rfl (.inl rfl) rfl rfl rfl (fun hg => pk (fun _ => q_call Tryz.call44 (opsC (opT rfl (nt hg)) (rfl)) (closes_ok _) _)) <| .gF rfl (.inl rfl) rfl rfl rfl (fun hg => pk (fun _ => q_neq (opT rfl (nt hg)) rfl _)) <| .P rfl (q_or rfl rfl) <| .ag rfl rfl <| .nil ?_
 refine Run.cond rfl (fun h1 => ?_) (fun h1 => ?_)
 ·have ph1 := h1; try simp only [bs] at ph1
  refine Run.seq (Run.reg [.w, .w] ?_)
  refine .W rfl (q_store1 Tryz.sizeOf27 rfl rfl rfl rfl (by first | (simp; done) | decide)) <| .W rfl (q_store1 Tryz.sizeOf28 rfl rfl rfl rfl (by first | (simp; done) | decide)) <| .nil ?_
  refine Run.ret (bq_ret (?_))
  exact Rd.c11 Tryz.results13 Tryz.isAgg27 Tryz.isAgg28 rfl rfl rfl rfl ((Sub.nil _ false).trans (Sub.snap (by first | exact stepP_rows hv ph1.2 ph2 ph3 | (exfalso; omega) | (simp_all [stepP, chg]; done) | grind [stepP, chg]))) (Sub.int (by first | (exfalso; omega) | (simp_all [stepP]; done) | grind [stepP]))
 ·have ph1 := h1; try simp only [bs] at ph1
  refine Run.seq (Run.reg [.r, .p, .p] ?_)
  refine .R rfl (q_load1 Tryz.isAgg3 rfl rfl rfl) <| .P rfl (q_lss rfl rfl) <| .ag rfl rfl <| .nil ?_
  refine Run.cond rfl (fun h2 => ?_) (fun h2 => ?_)
  ·have ph2 := h2; try simp only [bs] at ph2
   refine Run.seq (Run.reg [.w, .w] ?_)
   refine .W rfl (q_store1 Tryz.sizeOf27 rfl rfl rfl rfl (by first | (simp; done) | decide)) <| .W rfl (q_store1 Tryz.sizeOf28 rfl rfl rfl rfl (by first | (simp; done) | decide)) <| .nil ?_
   refine Run.ret (bq_ret (?_))
   exact Rd.c11 Tryz.results13 Tryz.isAgg27 Tryz.isAgg28 rfl rfl rfl rfl ((Sub.nil _ false).trans (Sub.snap (by first | exact stepP_rows hv ph1.2 ph2 ph3 | (exfalso; omega) | (simp_all [stepP, chg]; done) | grind [stepP, chg]))) (Sub.int (by first | (exfalso; omega) | (simp_all [stepP]; done) | grind [stepP]))
  ·have ph2 := h2; try simp only [bs] at ph2
   refine Run.seq (Run.reg [.r, .p, .p, .p] ?_)
   refine .R rfl (q_load1 Tryz.isAgg9 rfl rfl rfl) <| .P rfl (q_call Tryz.call45 rfl (name_ok _)) <| .P rfl (q_not rfl) <| .ag rfl rfl <| .nil ?_
   refine Run.cond rfl (fun h3 => ?_) (fun h3 => ?_)
   ·have ph3 := h3; try simp only [bs] at ph3
    refine Run.seq (Run.reg [.w, .w] ?_)
    refine .W rfl (q_store1 Tryz.sizeOf27 rfl rfl rfl rfl (by first | (simp; done) | decide)) <| .W rfl (q_store1 Tryz.sizeOf28 rfl rfl rfl rfl (by first | (simp; done) | decide)) <| .nil ?_
    refine Run.ret (bq_ret (?_))
    exact Rd.c11 Tryz.results13 Tryz.isAgg27 Tryz.isAgg28 rfl rfl rfl rfl ((Sub.nil _ false).trans (Sub.snap (by first | exact stepP_rows hv ph1.2 ph2 ph3 | (exfalso; omega) | (simp_all [stepP, chg]; done) | grind [stepP, chg]))) (Sub.int (by first | (exfalso; omega) | (simp_all [stepP]; done) | grind [stepP]))
   ·have ph3 := h3; try simp only [bs] at ph3
    refine Run.seq (Run.reg [.p, .p, .p, .p, .p, .p, .p] ?_)
    refine .mv rfl rfl <| .P rfl (q_lenI Tryz.underlying22 rfl) <| .mv rfl rfl <| .P rfl (q_lenI Tryz.underlying22 rfl) <| .P rfl (q_add rfl rfl (wrap64_ok (by first | omega | (simp; done) | (simp; omega) | (simp at *; omega)) (by first | omega | (simp; done) | (simp; omega) | (simp at *; omega)))) <| .P rfl (q_gtr rfl rfl) <| .ag rfl rfl <| .nil ?_
    refine Run.cond rfl (fun h4 => ?_) (fun h4 => ?_)
    ·have ph4 := h4; try simp only [bs] at ph4
     refine Run.seq (Run.reg [.w, .w] ?_)
     refine .W rfl (q_store1 Tryz.sizeOf27 rfl rfl rfl rfl (by first | (simp; done) | decide)) <| .W rfl (q_store1 Tryz.sizeOf28 rfl rfl rfl rfl (by first | (simp; done) | decide)) <| .nil ?_
     refine Run.ret (bq_ret (?_))
     exact Rd.c11 Tryz.results13 Tryz.isAgg27 Tryz.isAgg28 rfl rfl rfl rfl ((Sub.nil _ false).trans (Sub.snap (by first | exact stepP_rows hv ph1.2 ph2 ph3 | (exfalso; omega) | (simp_all [stepP, chg]; done) | grind [stepP, chg]))) (Sub.int (by first | (exfalso; omega) | (simp_all [stepP]; done) | grind [stepP]))
    ·have ph4 := h4; try simp only [bs] at ph4
     refine Run.skip ?_
     refine Run.nil (bq_norm ?_)
     refine Run.seq (Run.reg [.w] ?_)
     refine .W rfl (q_alloc 5 Tryz.zeroValue27 rfl) <| .nil ?_
     refine Run.seq (Run.seq (Run.reg [.p, .p, .w] ?_))
     refine .mv rfl rfl <| .mv rfl rfl <| .W rfl (q_callO Tryz.call46 rfl (changeF_ok _ _) .nil rfl rfl) <| .nil ?_
     refine Run.block ?_
     refine Run.rangeF (α := Entry) 7900 [0, 1, 2, 3, 4, 5] [(0, _), (1, _), (2, _), (3, _), (4, _), (7, _), (8, _), (9, _), (10, _), (11, _), (20, _), (21, _), (22, _), (19, _), (23, _), (24, _), (25, _), (12, _), (13, _), (14, _), (27, _), (28, _), (29, _), (33, _), (26, _), (35, _), (36, _), (34, _), (38, _), (39, _), (40, _), (37, _), (42, _), (43, _), (44, _), (45, _), (46, _), (47, _), (41, _), (15, _), (48, _), (49, _)] (fun (pre : List (Entry)) => [(0, .cells [sCloses l]), (1, .cells [.i known]), (2, .cells [.str by_]), (3, .cells [.raw (.slice none 0 0)]), (4, .cells [.i 0]), (5, .cells [.gs 6 pre.length]), (6, .arr 6 (pre.map fun e => encPosted (postE l known by_ e)))]) (fun _ _ => False) rfl Tryz.call101 (changeY_ok (mergeE cmpEn (sortI cmpEn a) (sortI cmpEn b)).1 (mergeE cmpEn (sortI cmpEn a) (sortI cmpEn b)).2 (by omega) (by omega) hc1) (env1 := [(0, _), (1, _), (2, _), (3, _), (4, _), (7, _), (8, _), (9, _), (10, _), (11, _), (20, _), (21, _), (22, _), (19, _), (23, _), (24, _), (25, _), (12, _), (13, _), (14, _), (27, _), (28, _), (29, _), (33, _), (26, _), (35, _), (36, _), (34, _), (38, _), (39, _), (40, _), (37, _), (42, _), (43, _), (44, _), (45, _), (46, _), (47, _), (41, _), (15, _), (48, _), (49, _), (50, _)]) ((Le.own0 6 6).trans <| (Le.subO 5 0 rfl rfl (Sub.gsNil 6)).trans <| Le.mk (obs' := [(7500, _), (7501, _)] ++ (fun (pre : List (Entry)) => [(0, .cells [sCloses l]), (1, .cells [.i known]), (2, .cells [.str by_]), (3, .cells [.raw (.slice none 0 0)]), (4, .cells [.i 0]), (5, .cells [.gs 6 pre.length]), (6, .arr 6 (pre.map fun e => encPosted (postE l known by_ e)))]) []) rfl (show EnvLe _ _ [(0, _), (1, _), (2, _), (3, _), (4, _), (7, _), (8, _), (9, _), (10, _), (11, _), (20, _), (21, _), (22, _), (19, _), (23, _), (24, _), (25, _), (12, _), (13, _), (14, _), (27, _), (28, _), (29, _), (33, _), (26, _), (35, _), (36, _), (34, _), (38, _), (39, _), (40, _), (37, _), (42, _), (43, _), (44, _), (45, _), (46, _), (47, _), (41, _), (15, _), (48, _), (49, _), (50, _)] from (.same rfl rfl (.same rfl rfl (.same rfl rfl (.same rfl rfl (.same rfl rfl (.same rfl rfl (.same rfl rfl (.same rfl rfl (.same rfl rfl (.same rfl rfl (.same rfl rfl (.same rfl rfl (.same rfl rfl (.same rfl rfl (.same rfl rfl (.same rfl rfl (.same rfl rfl (.same rfl rfl (.same rfl rfl (.same rfl rfl (.same rfl rfl (.same rfl rfl (.same rfl rfl (.same rfl rfl (.same rfl rfl (.same rfl rfl (.same rfl rfl (.same rfl rfl (.same rfl rfl (.same rfl rfl (.same rfl rfl (.same rfl rfl (.same rfl rfl (.same rfl rfl (.same rfl rfl (.same rfl rfl (.same rfl rfl (.same rfl rfl (.same rfl rfl (.same rfl rfl (.same rfl rfl (.same rfl rfl (.same rfl rfl .nil)))))))))))))))))))))))))))))))))))))))))))) (.cons (i := 7500) rfl rfl (.cons (i := 7501) rfl rfl (.eqA rfl rfl (.eqA rfl rfl (.eqA rfl rfl (.eqA rfl rfl (.eqA rfl rfl (.eqA rfl rfl (.eqA rfl rfl .nil)))))))))) rfl rfl (fun _ => rfl) (.cons rfl rfl (.cons rfl rfl (.cons rfl rfl (.cons rfl rfl (.cons rfl rfl (.cons rfl rfl (.cons rfl rfl (.cons rfl rfl (.cons rfl rfl (.cons rfl rfl (.cons rfl rfl (.cons rfl rfl (.cons rfl rfl (.cons rfl rfl (.cons rfl rfl (.cons rfl rfl (.cons rfl rfl (.cons rfl rfl (.cons rfl rfl (.cons rfl rfl (.cons rfl rfl (.cons rfl rfl (.cons rfl rfl (.cons rfl rfl (.cons rfl rfl (.cons rfl rfl (.cons rfl rfl (.cons rfl rfl (.cons rfl rfl (.cons rfl rfl (.cons rfl rfl (.cons rfl rfl (.cons rfl rfl (.cons rfl rfl (.cons rfl rfl (.cons rfl rfl (.cons rfl rfl (.cons rfl rfl (.cons rfl rfl (.cons rfl rfl (.cons rfl rfl (.cons rfl rfl .nil)))))))))))))))))))))))))))))))))))))))))) rfl (fun _ => rfl) (by rintro j o h; exact h.elim) (fun _ => Obs.okB_get rfl) (by rintro j o h; exact h.elim) (fun _ => freeB_get rfl) (by rintro j o h; exact h.elim) (by decide) rfl (fun pre x hok => ?_) (fun xs hfin => ?_) (fun _ _ h => h.elim)
     ·skip
      have hcc : checkCloses l = 0 := by simp_all
      have hcv := checkCloses_valid hcc
      have hpl := hok.length_le
      simp only [List.length_append, List.length_singleton, List.length_map] at hpl
      have hxd : ¬ (x.day < -25567 ∨ 84005 < x.day) := by
       have hx := hok.subset (List.mem_append_right _ (List.mem_singleton_self x))
       rcases List.mem_append.1 hx with h | h
       ·obtain ⟨e, he, rfl⟩ := List.mem_map.1 h; exact validDay_checkE (e := e) (hc1 e he).2
       ·exact validDay_checkE (hc2 x h).2
      refine Run.reg [.w, .w] ?_
      refine .W rfl (q_alloc 7 Tryz.zeroValue37 rfl) <| .W rfl (q_storeW Tryz.sizeOf37 rfl rfl rfl rfl rfl rfl) <| .nil ?_
      refine Run.nil ⟨rfl, ?_⟩
      refine Run.block ?_
      refine Run.seq (Run.reg [.r, .r, .p, .r, .p, .p, .p, .p, .p, .p] ?_)
      refine .R rfl (q_load1 Tryz.isAgg23 rfl rfl rfl) <| .R rfl (q_load1 Tryz.isAgg3 rfl rfl rfl) <| .P rfl (q_fieldB (n := 0) 34 0 Tryz.underlying37 Tryz.sizeOf34 rfl rfl) <| .R rfl (q_load1 Tryz.isAgg34 rfl rfl rfl) <| .P rfl (q_call Tryz.call47 rfl (posting_ok l known x.day hcc (by omega) hxd (by omega) hcv.1)) <| .mv rfl rfl <| .P rfl (q_extract rfl rfl) <| .P rfl (q_extract rfl rfl) <| .ag rfl rfl <| .ag rfl rfl <| .nil ?_
      refine Run.seq (Run.seq (Run.reg [.p, .p] ?_))
      refine .mv rfl rfl <| .P rfl (q_neq rfl rfl) <| .nil ?_
      refine Run.condF rfl (by simp) ?_
      refine Run.skip ?_
      refine Run.reg [.r, .p, .r, .r, .r, .p, .p, .w, .w] ?_
      refine .R rfl (q_load1 Tryz.isAgg27 rfl rfl rfl) <| .mv rfl rfl <| .R rfl (q_load1 Tryz.isAgg3 rfl rfl rfl) <| .R rfl (q_load1 Tryz.isAgg9 rfl rfl rfl) <| .R rfl (q_loadW Tryz.isAgg37 Tryz.sizeOf37 rfl rfl rfl) <| .P rfl (q_build (pl := #[(0, 1), (1, 1), (2, 1), (3, 3)]) Tryz.underlying39 Tryz.zeroValue39 (fun w => by kernel_rfl) rfl rfl) <| .P rfl (q_buildSlice' (n := 1) (rows := [encPosted (postE l known by_ x)]) Tryz.underlying27 Tryz.sizeOf39 rfl rfl rfl Tryz.zeroValue39 rfl rfl rfl rfl rfl rfl rfl) <| .W rfl (q_append 8 Tryz.underlying27 Tryz.underlying27 Tryz.sizeOf39 Tryz.typeInfo39 Tryz.zeroValue39 rfl (bt := 80) rfl rfl rfl rfl (by simp) rfl rfl (by simp; omega)) <| .W rfl (q_store1 Tryz.sizeOf27 rfl rfl rfl rfl (by first | (simp; done) | decide)) <| .nil ?_
      refine Run.nil (bq_norm ?_)
      refine Run.nil ?_
      exact ⟨rfl, (Le.mk (env' := []) (obs' := [(7900, _), (0, _), (1, _), (2, _), (3, _), (4, _), (5, _), (8, _)]) rfl .nil (.cons (i := 7900) rfl rfl (.cons (i := 0) rfl rfl (.cons (i := 1) rfl rfl (.cons (i := 2) rfl rfl (.cons (i := 3) rfl rfl (.cons (i := 4) rfl rfl (.cons (i := 5) rfl rfl (.cons (i := 8) rfl rfl .nil))))))))).trans <| (Le.renO 5 0 8 6 rfl rfl rfl (by simp) rfl).trans <| Le.mk rfl .nil (.cons rfl rfl (.eq rfl (by first | rfl | (simp; done) | (simp; omega)) rfl (.eq rfl (by first | rfl | (simp; done) | (simp; omega)) rfl (.eq rfl (by first | rfl | (simp; done) | (simp; omega)) rfl (.eq rfl (by first | rfl | (simp; done) | (simp; omega)) rfl (.eq rfl (by first | rfl | (simp; done) | (simp; omega)) rfl (.eq rfl (by first | rfl | (simp; done) | (simp; omega)) rfl (.eq rfl (by first | rfl | (simp; done) | (simp; omega)) rfl .nil))))))))⟩
     ·skip
      subst hfin
      refine Run.nil (bq_norm ?_)
      refine Run.seq (Run.reg [.r, .w, .w] ?_)
      refine .R rfl (q_load1 Tryz.isAgg27 rfl rfl rfl) <| .W rfl (q_store1 Tryz.sizeOf27 rfl rfl rfl rfl (by first | (simp; done) | decide)) <| .W rfl (q_store1 Tryz.sizeOf28 rfl rfl rfl rfl (by first | (simp; done) | decide)) <| .nil ?_
      refine Run.weak (Le.freezeO 3 0 6 rfl rfl rfl (by simp)) ?_
      refine Run.ret (?_)
      exact Rd.c11 Tryz.results13 Tryz.isAgg27 Tryz.isAgg28 rfl rfl rfl rfl (Sub.snap (by first | exact stepP_rows hv ph1.2 ph2 ph3 | (exfalso; omega) | (simp_all [stepP, chg]; done) | grind [stepP, chg])) (Sub.int (by first | (exfalso; omega) | (simp_all [stepP]; done) | grind [stepP]))
end Go.T
