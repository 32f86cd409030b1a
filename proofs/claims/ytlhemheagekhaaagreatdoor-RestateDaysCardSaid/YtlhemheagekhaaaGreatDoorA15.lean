/-
  Contracts of the functions that the statement reaches, and the logic in which they are proved (no condition): parts W44, W45, W46, W47, W48, W49, W50, W51, W52, W53, Law1.
-/
import Derived.Test.YtlhemheagekhaaaGreatDoorA14
set_option linter.all false
namespace Go.T
open Go Go.Proofs
set_option maxRecDepth 20000
theorem Sub.gsE {i n m : Nat} {d : D} (hd : d = .gs i m) (h : n = m) : Sub (.gs i n) d := by subst hd; subst h; exact Sub.refl _
@[reducible] def sel {α : Type} (k : Nat) (x y z : α) : α := match k with
  | 0 => x
  | 1 => y
  | _ => z
structure concatA_ok_L0 (a b : List Entry) where
  k : Nat
  hk : k ≤ 2
structure concatA_ok_L1 (a b : List Entry) where
  k : Nat
  hk : k ≤ 2
theorem concatA_ok (a b : List Entry) (hal : a.length ≤ 1000) (hbl : b.length ≤ 1000) (h0 : a.length ≠ 0) : Fc Tryz.prog 54 [.snap 1 true [[sEntries a], [sEntries b]]] (sEntries (a ++ b)) := by
  refine Fc.mk' [2] Tryz.func54 rfl Tryz.ntmps54 rfl rfl rfl (fun t w => results_tmp Tryz.results54 t _ w) ?_
  refine Run.seq (Run.reg [.p] ?_)
  refine .ag rfl rfl <| .nil ?_
  refine Run.seq (Run.reg [.p] ?_)
  refine .ag rfl rfl <| .nil ?_
  refine Run.seq (Run.seq (Run.reg [.p, .p, .p] ?_))
  refine .mv rfl rfl <| .p rfl trivial (fun _ => q_lenI Tryz.underlying146 rfl _) <| .mv rfl rfl <| .nil ?_
  refine Run.block ?_
  refine Run.loop (ι := concatA_ok_L0 a b) (fun sx => [(0, .snap 1 true [[sEntries a], [sEntries b]]), (3, .i (sel sx.k 0 (a.length : Int) ((a.length : Int) + b.length))), (9, .snap 1 true [[sEntries a], [sEntries b]]), (10, .i 2), (11, .i sx.k)]) (fun sx => []) (fun sx => 2 - sx.k) ⟨0, by omega⟩ ?_ ?_
  · exact Le.mk rfl (.cons rfl (Sub.refl _) rfl (.cons rfl (Sub.int (by first | rfl | (simp [sel]; done) | (simp [sel]; omega))) rfl (.cons rfl (Sub.refl _) rfl (.cons rfl (Sub.int (by first | rfl | (simp; done) | omega | (simp; omega))) rfl (.cons rfl (Sub.int (by first | rfl | (simp; done) | omega | (simp; omega))) rfl .nil))))) .nil
  · rintro ⟨k, hk⟩
    show Run _ _ _ _ [(0, .snap 1 true [[sEntries a], [sEntries b]]), (3, .i (sel k 0 (a.length : Int) ((a.length : Int) + b.length))), (9, .snap 1 true [[sEntries a], [sEntries b]]), (10, .i 2), (11, .i k)] []
    rcases k with _ | _ | _ | k
    · dsimp only [sel]
      refine Run.seq (Run.reg [.p] ?_)
      refine .p rfl trivial (fun _ => q_lss rfl rfl _) <| .nil ?_
      refine Run.seq ?_
      refine Run.condT rfl (rfl) ?_
      refine Run.skip ?_
      refine Run.seq ?_
      refine Run.block ?_
      refine Run.seq (Run.reg [.p, .p, .p] ?_)
      refine .p rfl trivial (fun _ => q_indexI Tryz.underlying146 Tryz.sizeOf22 rfl rfl (by decide) rfl _) <| .p rfl trivial (fun _ => q_loadI Tryz.isAgg22 rfl _) <| .ag rfl rfl <| .nil ?_
      refine Run.seq (Run.reg [.p, .p, .p, .p, .p] ?_)
      refine .mv rfl rfl <| .mv rfl rfl <| .p rfl trivial (fun _ => q_lenI Tryz.underlying22 rfl _) <| .p rfl trivial (fun _ => q_add rfl rfl (wrap64_ok (by first | omega | (simp; done) | (simp; omega) | (simp at *; omega)) (by first | omega | (simp; done) | (simp; omega) | (simp at *; omega))) _) <| .ag rfl rfl <| .nil ?_
      refine Run.seq (Run.reg [.p, .p] ?_)
      refine .mv rfl rfl <| .p rfl trivial (fun _ => q_lss rfl rfl _) <| .nil ?_
      refine Run.condF rfl (by simp) ?_
      refine Run.skip ?_
      refine Run.nil (bq_norm ?_)
      refine Run.reg [.p, .p] ?_
      refine .p rfl trivial (fun _ => q_add rfl rfl (wrap64_ok (by first | omega | (simp; done) | (simp; omega) | (simp at *; omega)) (by first | omega | (simp; done) | (simp; omega) | (simp at *; omega))) _) <| .mv rfl rfl <| .nil ?_
      refine Run.nil (tq_norm ?_)
      exact ⟨⟨1, by omega⟩, by dsimp only; omega, Le.mk rfl (.cons rfl (Sub.refl _) rfl (.cons rfl (Sub.int (by first | rfl | (simp [sel]; done) | (simp [sel]; omega))) rfl (.cons rfl (Sub.refl _) rfl (.cons rfl (Sub.int (by first | rfl | (simp; done) | omega | (simp; omega))) rfl (.cons rfl (Sub.int (by first | rfl | (simp; done) | omega | (simp; omega))) rfl .nil))))) .nil⟩
    · dsimp only [sel]
      refine Run.seq (Run.reg [.p] ?_)
      refine .p rfl trivial (fun _ => q_lss rfl rfl _) <| .nil ?_
      refine Run.seq ?_
      refine Run.condT rfl (rfl) ?_
      refine Run.skip ?_
      refine Run.seq ?_
      refine Run.block ?_
      refine Run.seq (Run.reg [.p, .p, .p] ?_)
      refine .p rfl trivial (fun _ => q_indexI Tryz.underlying146 Tryz.sizeOf22 rfl rfl (by decide) rfl _) <| .p rfl trivial (fun _ => q_loadI Tryz.isAgg22 rfl _) <| .ag rfl rfl <| .nil ?_
      refine Run.seq (Run.reg [.p, .p, .p, .p, .p] ?_)
      refine .mv rfl rfl <| .mv rfl rfl <| .p rfl trivial (fun _ => q_lenI Tryz.underlying22 rfl _) <| .p rfl trivial (fun _ => q_add rfl rfl (wrap64_ok (by first | omega | (simp; done) | (simp; omega) | (simp at *; omega)) (by first | omega | (simp; done) | (simp; omega) | (simp at *; omega))) _) <| .ag rfl rfl <| .nil ?_
      refine Run.seq (Run.reg [.p, .p] ?_)
      refine .mv rfl rfl <| .p rfl trivial (fun _ => q_lss rfl rfl _) <| .nil ?_
      refine Run.condF rfl (by simp; omega) ?_
      refine Run.skip ?_
      refine Run.nil (bq_norm ?_)
      refine Run.reg [.p, .p] ?_
      refine .p rfl trivial (fun _ => q_add rfl rfl (wrap64_ok (by first | omega | (simp; done) | (simp; omega) | (simp at *; omega)) (by first | omega | (simp; done) | (simp; omega) | (simp at *; omega))) _) <| .mv rfl rfl <| .nil ?_
      refine Run.nil (tq_norm ?_)
      exact ⟨⟨2, by omega⟩, by dsimp only; omega, Le.mk rfl (.cons rfl (Sub.refl _) rfl (.cons rfl (Sub.int (by first | rfl | (simp [sel]; done) | (simp [sel]; omega))) rfl (.cons rfl (Sub.refl _) rfl (.cons rfl (Sub.int (by first | rfl | (simp; done) | omega | (simp; omega))) rfl (.cons rfl (Sub.int (by first | rfl | (simp; done) | omega | (simp; omega))) rfl .nil))))) .nil⟩
    · dsimp only [sel]
      refine Run.seq (Run.reg [.p] ?_)
      refine .p rfl trivial (fun _ => q_lss rfl rfl _) <| .nil ?_
      refine Run.seq ?_
      refine Run.condF rfl (rfl) ?_
      refine Run.exit (tq_exit (bq_exit ?_))
      refine Run.seq (Run.reg [.p, .w, .p] ?_)
      refine .mv rfl rfl <| .w rfl trivial (q_callO Tryz.call108 rfl (grow_ok (a.length + b.length) (by omega) (by omega)) .nil rfl rfl) <| .ag rfl rfl <| .nil ?_
      refine Run.seq (Run.seq (Run.reg [.p, .p, .p] ?_))
      refine .mv rfl rfl <| .p rfl trivial (fun _ => q_lenI Tryz.underlying146 rfl _) <| .mv rfl rfl <| .nil ?_
      refine Run.block ?_
      refine Run.loop (ι := concatA_ok_L1 a b) (fun sx => [(6, (sel sx.k (.gr 7800 0) (.gs 7801 a.length) (.gs 7801 (a.length + b.length)))), (25, .snap 1 true [[sEntries a], [sEntries b]]), (26, .i 2), (27, .i sx.k)]) (fun sx => [(7800, (sel sx.k (.res 3) (.dead) .dead)), (7801, .arr 3 (sel sx.k [] (a.map encEntry) (a.map encEntry ++ b.map encEntry)))]) (fun sx => 2 - sx.k) ⟨0, by omega⟩ ?_ ?_
      · exact (Le.own0 7801 3).trans <| Le.mk rfl (.cons rfl (by first | exact Sub.refl _ | exact Sub.gsE rfl (by simp)) rfl (.cons rfl (Sub.refl _) rfl (.cons rfl (Sub.int (by first | rfl | (simp; done) | omega | (simp; omega))) rfl (.cons rfl (Sub.int (by first | rfl | (simp; done) | omega | (simp; omega))) rfl .nil)))) (.eq rfl (by first | rfl | (simp [sel]; done)) rfl (.arr rfl (by first | rfl | (simp [sel]; done)) .nil))
      · rintro ⟨k, hk⟩
        show Run _ _ _ _ [(6, (sel k (.gr 7800 0) (.gs 7801 a.length) (.gs 7801 (a.length + b.length)))), (25, .snap 1 true [[sEntries a], [sEntries b]]), (26, .i 2), (27, .i k)] [(7800, (sel k (.res 3) (.dead) .dead)), (7801, .arr 3 (sel k [] (a.map encEntry) (a.map encEntry ++ b.map encEntry)))]
        rcases k with _ | _ | _ | k
        · dsimp only [sel]
          refine Run.seq (Run.reg [.p] ?_)
          refine .p rfl trivial (fun _ => q_lss rfl rfl _) <| .nil ?_
          refine Run.seq ?_
          refine Run.condT rfl (rfl) ?_
          refine Run.skip ?_
          refine Run.seq ?_
          refine Run.block ?_
          refine Run.seq (Run.reg [.p, .p, .p] ?_)
          refine .p rfl trivial (fun _ => q_indexI Tryz.underlying146 Tryz.sizeOf22 rfl rfl (by decide) rfl _) <| .p rfl trivial (fun _ => q_loadI Tryz.isAgg22 rfl _) <| .ag rfl rfl <| .nil ?_
          refine Run.reg [.p, .p, .w, .p] ?_
          refine .mv rfl rfl <| .mv rfl rfl <| .w rfl trivial (q_appendGr (bt := 48) 7802 Tryz.underlying22 Tryz.underlying22 Tryz.sizeOf37 Tryz.typeInfo37 Tryz.zeroValue37 rfl rfl rfl rfl rfl rfl (by simp; intro h; simp [h] at *) rfl (by simp; omega)) <| .ag rfl rfl <| .nil ?_
          refine Run.nil (bq_norm ?_)
          refine Run.reg [.p, .p] ?_
          refine .p rfl trivial (fun _ => q_add rfl rfl (wrap64_ok (by first | omega | (simp; done) | (simp; omega) | (simp at *; omega)) (by first | omega | (simp; done) | (simp; omega) | (simp at *; omega))) _) <| .mv rfl rfl <| .nil ?_
          refine Run.nil (tq_norm ?_)
          exact ⟨⟨1, by omega⟩, by dsimp only; omega, (Le.mk (obs' := [(7800, _), (7802, _)]) rfl (show EnvLe _ _ [(6, _), (25, _), (26, _), (27, _)] from (.same rfl rfl (.same rfl rfl (.same rfl rfl (.same rfl rfl .nil))))) (.cons (i := 7800) rfl rfl (.cons (i := 7802) rfl rfl .nil))).trans <| (Le.ren 6 7802 7801 rfl rfl (by simp) rfl).trans <| Le.mk rfl (.cons rfl (by first | exact Sub.refl _ | exact Sub.gsE rfl (by simp)) rfl (.cons rfl (Sub.refl _) rfl (.cons rfl (Sub.int (by first | rfl | (simp; done) | omega | (simp; omega))) rfl (.cons rfl (Sub.int (by first | rfl | (simp; done) | omega | (simp; omega))) rfl .nil)))) (.eq rfl (by first | rfl | (simp [sel]; done)) rfl (.arr rfl (by first | rfl | (simp [sel]; done)) .nil))⟩
        · dsimp only [sel]
          refine Run.seq (Run.reg [.p] ?_)
          refine .p rfl trivial (fun _ => q_lss rfl rfl _) <| .nil ?_
          refine Run.seq ?_
          refine Run.condT rfl (rfl) ?_
          refine Run.skip ?_
          refine Run.seq ?_
          refine Run.block ?_
          refine Run.seq (Run.reg [.p, .p, .p] ?_)
          refine .p rfl trivial (fun _ => q_indexI Tryz.underlying146 Tryz.sizeOf22 rfl rfl (by decide) rfl _) <| .p rfl trivial (fun _ => q_loadI Tryz.isAgg22 rfl _) <| .ag rfl rfl <| .nil ?_
          refine Run.reg [.p, .p, .w, .p] ?_
          refine .mv rfl rfl <| .mv rfl rfl <| .w rfl trivial (q_append 7802 Tryz.underlying22 Tryz.underlying22 Tryz.sizeOf37 Tryz.typeInfo37 Tryz.zeroValue37 rfl (bt := 48) rfl rfl rfl rfl (by simp) rfl rfl (by simp; omega)) <| .ag rfl rfl <| .nil ?_
          refine Run.nil (bq_norm ?_)
          refine Run.reg [.p, .p] ?_
          refine .p rfl trivial (fun _ => q_add rfl rfl (wrap64_ok (by first | omega | (simp; done) | (simp; omega) | (simp at *; omega)) (by first | omega | (simp; done) | (simp; omega) | (simp at *; omega))) _) <| .mv rfl rfl <| .nil ?_
          refine Run.nil (tq_norm ?_)
          exact ⟨⟨2, by omega⟩, by dsimp only; omega, (Le.mk (obs' := [(7800, _), (7802, _)]) rfl (show EnvLe _ _ [(6, _), (25, _), (26, _), (27, _)] from (.same rfl rfl (.same rfl rfl (.same rfl rfl (.same rfl rfl .nil))))) (.cons (i := 7800) rfl rfl (.cons (i := 7802) rfl rfl .nil))).trans <| (Le.ren 6 7802 7801 rfl rfl (by simp) rfl).trans <| Le.mk rfl (.cons rfl (by first | exact Sub.refl _ | exact Sub.gsE rfl (by simp)) rfl (.cons rfl (Sub.refl _) rfl (.cons rfl (Sub.int (by first | rfl | (simp; done) | omega | (simp; omega))) rfl (.cons rfl (Sub.int (by first | rfl | (simp; done) | omega | (simp; omega))) rfl .nil)))) (.eq rfl (by first | rfl | (simp [sel]; done)) rfl (.arr rfl (by first | rfl | (simp [sel]; done)) .nil))⟩
        · dsimp only [sel]
          refine Run.seq (Run.reg [.p] ?_)
          refine .p rfl trivial (fun _ => q_lss rfl rfl _) <| .nil ?_
          refine Run.seq ?_
          refine Run.condF rfl (rfl) ?_
          refine Run.exit (tq_exit (bq_exit ?_))
          refine Run.seq (Run.reg [.p, .p] ?_)
          refine .mv rfl rfl <| .ag rfl rfl <| .nil ?_
          refine Run.weak (Le.freeze 2 7801 rfl rfl (by simp)) ?_
          refine Run.ret (?_)
          exact ret1 rfl (Sub.snap (by simp))
        · omega
    · omega
structure concatB_ok_L0 (b : List Entry) where
  k : Nat
  hk : k ≤ 2
structure concatB_ok_L1 (b : List Entry) where
  k : Nat
  hk : k ≤ 2
theorem concatB_ok (b : List Entry) (hbl : b.length ≤ 1000) (h0 : b.length ≠ 0) : Fc Tryz.prog 54 [.snap 1 true [[sEntries ([] : List Entry)], [sEntries b]]] (sEntries b) := by
  refine Fc.mk' [2] Tryz.func54 rfl Tryz.ntmps54 rfl rfl rfl (fun t w => results_tmp Tryz.results54 t _ w) ?_
  refine Run.seq (Run.reg [.p] ?_)
  refine .ag rfl rfl <| .nil ?_
  refine Run.seq (Run.reg [.p] ?_)
  refine .ag rfl rfl <| .nil ?_
  refine Run.seq (Run.seq (Run.reg [.p, .p, .p] ?_))
  refine .mv rfl rfl <| .p rfl trivial (fun _ => q_lenI Tryz.underlying146 rfl _) <| .mv rfl rfl <| .nil ?_
  refine Run.block ?_
  refine Run.loop (ι := concatB_ok_L0 b) (fun sx => [(0, .snap 1 true [[sEntries ([] : List Entry)], [sEntries b]]), (3, .i (sel sx.k 0 0 (b.length : Int))), (9, .snap 1 true [[sEntries ([] : List Entry)], [sEntries b]]), (10, .i 2), (11, .i sx.k)]) (fun sx => []) (fun sx => 2 - sx.k) ⟨0, by omega⟩ ?_ ?_
  · exact Le.mk rfl (.cons rfl (Sub.refl _) rfl (.cons rfl (Sub.int (by first | rfl | (simp [sel]; done) | (simp [sel]; omega))) rfl (.cons rfl (Sub.refl _) rfl (.cons rfl (Sub.int (by first | rfl | (simp; done) | omega | (simp; omega))) rfl (.cons rfl (Sub.int (by first | rfl | (simp; done) | omega | (simp; omega))) rfl .nil))))) .nil
  · rintro ⟨k, hk⟩
    show Run _ _ _ _ [(0, .snap 1 true [[sEntries ([] : List Entry)], [sEntries b]]), (3, .i (sel k 0 0 (b.length : Int))), (9, .snap 1 true [[sEntries ([] : List Entry)], [sEntries b]]), (10, .i 2), (11, .i k)] []
    rcases k with _ | _ | _ | k
    · dsimp only [sel]
      refine Run.seq (Run.reg [.p] ?_)
      refine .p rfl trivial (fun _ => q_lss rfl rfl _) <| .nil ?_
      refine Run.seq ?_
      refine Run.condT rfl (rfl) ?_
      refine Run.skip ?_
      refine Run.seq ?_
      refine Run.block ?_
      refine Run.seq (Run.reg [.p, .p, .p] ?_)
      refine .p rfl trivial (fun _ => q_indexI Tryz.underlying146 Tryz.sizeOf22 rfl rfl (by decide) rfl _) <| .p rfl trivial (fun _ => q_loadI Tryz.isAgg22 rfl _) <| .ag rfl rfl <| .nil ?_
      refine Run.seq (Run.reg [.p, .p, .p, .p, .p] ?_)
      refine .mv rfl rfl <| .mv rfl rfl <| .p rfl trivial (fun _ => q_lenI Tryz.underlying22 rfl _) <| .p rfl trivial (fun _ => q_add rfl rfl (wrap64_ok (by first | omega | (simp; done) | (simp; omega) | (simp at *; omega)) (by first | omega | (simp; done) | (simp; omega) | (simp at *; omega))) _) <| .ag rfl rfl <| .nil ?_
      refine Run.seq (Run.reg [.p, .p] ?_)
      refine .mv rfl rfl <| .p rfl trivial (fun _ => q_lss rfl rfl _) <| .nil ?_
      refine Run.condF rfl (by simp) ?_
      refine Run.skip ?_
      refine Run.nil (bq_norm ?_)
      refine Run.reg [.p, .p] ?_
      refine .p rfl trivial (fun _ => q_add rfl rfl (wrap64_ok (by first | omega | (simp; done) | (simp; omega) | (simp at *; omega)) (by first | omega | (simp; done) | (simp; omega) | (simp at *; omega))) _) <| .mv rfl rfl <| .nil ?_
      refine Run.nil (tq_norm ?_)
      exact ⟨⟨1, by omega⟩, by dsimp only; omega, Le.mk rfl (.cons rfl (Sub.refl _) rfl (.cons rfl (Sub.int (by first | rfl | (simp [sel]; done) | (simp [sel]; omega))) rfl (.cons rfl (Sub.refl _) rfl (.cons rfl (Sub.int (by first | rfl | (simp; done) | omega | (simp; omega))) rfl (.cons rfl (Sub.int (by first | rfl | (simp; done) | omega | (simp; omega))) rfl .nil))))) .nil⟩
    · dsimp only [sel]
      refine Run.seq (Run.reg [.p] ?_)
      refine .p rfl trivial (fun _ => q_lss rfl rfl _) <| .nil ?_
      refine Run.seq ?_
      refine Run.condT rfl (rfl) ?_
      refine Run.skip ?_
      refine Run.seq ?_
      refine Run.block ?_
      refine Run.seq (Run.reg [.p, .p, .p] ?_)
      refine .p rfl trivial (fun _ => q_indexI Tryz.underlying146 Tryz.sizeOf22 rfl rfl (by decide) rfl _) <| .p rfl trivial (fun _ => q_loadI Tryz.isAgg22 rfl _) <| .ag rfl rfl <| .nil ?_
      refine Run.seq (Run.reg [.p, .p, .p, .p, .p] ?_)
      refine .mv rfl rfl <| .mv rfl rfl <| .p rfl trivial (fun _ => q_lenI Tryz.underlying22 rfl _) <| .p rfl trivial (fun _ => q_add rfl rfl (wrap64_ok (by first | omega | (simp; done) | (simp; omega) | (simp at *; omega)) (by first | omega | (simp; done) | (simp; omega) | (simp at *; omega))) _) <| .ag rfl rfl <| .nil ?_
      refine Run.seq (Run.reg [.p, .p] ?_)
      refine .mv rfl rfl <| .p rfl trivial (fun _ => q_lss rfl rfl _) <| .nil ?_
      refine Run.condF rfl (by simp) ?_
      refine Run.skip ?_
      refine Run.nil (bq_norm ?_)
      refine Run.reg [.p, .p] ?_
      refine .p rfl trivial (fun _ => q_add rfl rfl (wrap64_ok (by first | omega | (simp; done) | (simp; omega) | (simp at *; omega)) (by first | omega | (simp; done) | (simp; omega) | (simp at *; omega))) _) <| .mv rfl rfl <| .nil ?_
      refine Run.nil (tq_norm ?_)
      exact ⟨⟨2, by omega⟩, by dsimp only; omega, Le.mk rfl (.cons rfl (Sub.refl _) rfl (.cons rfl (Sub.int (by first | rfl | (simp [sel]; done) | (simp [sel]; omega))) rfl (.cons rfl (Sub.refl _) rfl (.cons rfl (Sub.int (by first | rfl | (simp; done) | omega | (simp; omega))) rfl (.cons rfl (Sub.int (by first | rfl | (simp; done) | omega | (simp; omega))) rfl .nil))))) .nil⟩
    · dsimp only [sel]
      refine Run.seq (Run.reg [.p] ?_)
      refine .p rfl trivial (fun _ => q_lss rfl rfl _) <| .nil ?_
      refine Run.seq ?_
      refine Run.condF rfl (rfl) ?_
      refine Run.exit (tq_exit (bq_exit ?_))
      refine Run.seq (Run.reg [.p, .w, .p] ?_)
      refine .mv rfl rfl <| .w rfl trivial (q_callO Tryz.call108 rfl (grow_ok b.length h0 (by omega)) .nil rfl rfl) <| .ag rfl rfl <| .nil ?_
      refine Run.seq (Run.seq (Run.reg [.p, .p, .p] ?_))
      refine .mv rfl rfl <| .p rfl trivial (fun _ => q_lenI Tryz.underlying146 rfl _) <| .mv rfl rfl <| .nil ?_
      refine Run.block ?_
      refine Run.loop (ι := concatB_ok_L1 b) (fun sx => [(6, (sel sx.k (.gr 7800 0) (.gr 7800 0) (.gs 7801 b.length))), (25, .snap 1 true [[sEntries ([] : List Entry)], [sEntries b]]), (26, .i 2), (27, .i sx.k)]) (fun sx => [(7800, (sel sx.k (.res 3) (.res 3) .dead)), (7801, .arr 3 (sel sx.k [] [] (b.map encEntry)))]) (fun sx => 2 - sx.k) ⟨0, by omega⟩ ?_ ?_
      · exact (Le.own0 7801 3).trans <| Le.mk rfl (.cons rfl (by first | exact Sub.refl _ | exact Sub.gsE rfl (by simp)) rfl (.cons rfl (Sub.refl _) rfl (.cons rfl (Sub.int (by first | rfl | (simp; done) | omega | (simp; omega))) rfl (.cons rfl (Sub.int (by first | rfl | (simp; done) | omega | (simp; omega))) rfl .nil)))) (.eq rfl (by first | rfl | (simp [sel]; done)) rfl (.arr rfl (by first | rfl | (simp [sel]; done)) .nil))
      · rintro ⟨k, hk⟩
        show Run _ _ _ _ [(6, (sel k (.gr 7800 0) (.gr 7800 0) (.gs 7801 b.length))), (25, .snap 1 true [[sEntries ([] : List Entry)], [sEntries b]]), (26, .i 2), (27, .i k)] [(7800, (sel k (.res 3) (.res 3) .dead)), (7801, .arr 3 (sel k [] [] (b.map encEntry)))]
        rcases k with _ | _ | _ | k
        · dsimp only [sel]
          refine Run.seq (Run.reg [.p] ?_)
          refine .p rfl trivial (fun _ => q_lss rfl rfl _) <| .nil ?_
          refine Run.seq ?_
          refine Run.condT rfl (rfl) ?_
          refine Run.skip ?_
          refine Run.seq ?_
          refine Run.block ?_
          refine Run.seq (Run.reg [.p, .p, .p] ?_)
          refine .p rfl trivial (fun _ => q_indexI Tryz.underlying146 Tryz.sizeOf22 rfl rfl (by decide) rfl _) <| .p rfl trivial (fun _ => q_loadI Tryz.isAgg22 rfl _) <| .ag rfl rfl <| .nil ?_
          refine Run.reg [.p, .p, .p, .p] ?_
          refine .mv rfl rfl <| .mv rfl rfl <| .p rfl trivial (fun _ => q_appendGr0 Tryz.underlying22 Tryz.underlying22 Tryz.sizeOf37 rfl rfl _) <| .ag rfl rfl <| .nil ?_
          refine Run.nil (bq_norm ?_)
          refine Run.reg [.p, .p] ?_
          refine .p rfl trivial (fun _ => q_add rfl rfl (wrap64_ok (by first | omega | (simp; done) | (simp; omega) | (simp at *; omega)) (by first | omega | (simp; done) | (simp; omega) | (simp at *; omega))) _) <| .mv rfl rfl <| .nil ?_
          refine Run.nil (tq_norm ?_)
          exact ⟨⟨1, by omega⟩, by dsimp only; omega, Le.mk rfl (.cons rfl (by first | exact Sub.refl _ | exact Sub.gsE rfl (by simp)) rfl (.cons rfl (Sub.refl _) rfl (.cons rfl (Sub.int (by first | rfl | (simp; done) | omega | (simp; omega))) rfl (.cons rfl (Sub.int (by first | rfl | (simp; done) | omega | (simp; omega))) rfl .nil)))) (.eq rfl (by first | rfl | (simp [sel]; done)) rfl (.arr rfl (by first | rfl | (simp [sel]; done)) .nil))⟩
        · dsimp only [sel]
          refine Run.seq (Run.reg [.p] ?_)
          refine .p rfl trivial (fun _ => q_lss rfl rfl _) <| .nil ?_
          refine Run.seq ?_
          refine Run.condT rfl (rfl) ?_
          refine Run.skip ?_
          refine Run.seq ?_
          refine Run.block ?_
          refine Run.seq (Run.reg [.p, .p, .p] ?_)
          refine .p rfl trivial (fun _ => q_indexI Tryz.underlying146 Tryz.sizeOf22 rfl rfl (by decide) rfl _) <| .p rfl trivial (fun _ => q_loadI Tryz.isAgg22 rfl _) <| .ag rfl rfl <| .nil ?_
          refine Run.reg [.p, .p, .w, .p] ?_
          refine .mv rfl rfl <| .mv rfl rfl <| .w rfl trivial (q_appendGr (bt := 48) 7802 Tryz.underlying22 Tryz.underlying22 Tryz.sizeOf37 Tryz.typeInfo37 Tryz.zeroValue37 rfl rfl rfl rfl rfl rfl (by simp; intro h; simp [h] at *) rfl (by simp; omega)) <| .ag rfl rfl <| .nil ?_
          refine Run.nil (bq_norm ?_)
          refine Run.reg [.p, .p] ?_
          refine .p rfl trivial (fun _ => q_add rfl rfl (wrap64_ok (by first | omega | (simp; done) | (simp; omega) | (simp at *; omega)) (by first | omega | (simp; done) | (simp; omega) | (simp at *; omega))) _) <| .mv rfl rfl <| .nil ?_
          refine Run.nil (tq_norm ?_)
          exact ⟨⟨2, by omega⟩, by dsimp only; omega, (Le.mk (obs' := [(7800, _), (7802, _)]) rfl (show EnvLe _ _ [(6, _), (25, _), (26, _), (27, _)] from (.same rfl rfl (.same rfl rfl (.same rfl rfl (.same rfl rfl .nil))))) (.cons (i := 7800) rfl rfl (.cons (i := 7802) rfl rfl .nil))).trans <| (Le.ren 6 7802 7801 rfl rfl (by simp) rfl).trans <| Le.mk rfl (.cons rfl (by first | exact Sub.refl _ | exact Sub.gsE rfl (by simp)) rfl (.cons rfl (Sub.refl _) rfl (.cons rfl (Sub.int (by first | rfl | (simp; done) | omega | (simp; omega))) rfl (.cons rfl (Sub.int (by first | rfl | (simp; done) | omega | (simp; omega))) rfl .nil)))) (.eq rfl (by first | rfl | (simp [sel]; done)) rfl (.arr rfl (by first | rfl | (simp [sel]; done)) .nil))⟩
        · dsimp only [sel]
          refine Run.seq (Run.reg [.p] ?_)
          refine .p rfl trivial (fun _ => q_lss rfl rfl _) <| .nil ?_
          refine Run.seq ?_
          refine Run.condF rfl (rfl) ?_
          refine Run.exit (tq_exit (bq_exit ?_))
          refine Run.seq (Run.reg [.p, .p] ?_)
          refine .mv rfl rfl <| .ag rfl rfl <| .nil ?_
          refine Run.weak (Le.freeze 2 7801 rfl rfl (by simp)) ?_
          refine Run.ret (?_)
          exact ret1 rfl (Sub.snap (by simp))
        · omega
    · omega
structure concat0_ok_L0  where
  k : Nat
  hk : k ≤ 2
structure concat0_ok_L1  where
  k : Nat
  hk : k ≤ 2
theorem concat0_ok  : Fc Tryz.prog 54 [.snap 1 true [[sEntries ([] : List Entry)], [sEntries ([] : List Entry)]]] (sEntries []) := by
  refine Fc.mk' [2] Tryz.func54 rfl Tryz.ntmps54 rfl rfl rfl (fun t w => results_tmp Tryz.results54 t _ w) ?_
  refine Run.seq (Run.reg [.p] ?_)
  refine .ag rfl rfl <| .nil ?_
  refine Run.seq (Run.reg [.p] ?_)
  refine .ag rfl rfl <| .nil ?_
  refine Run.seq (Run.seq (Run.reg [.p, .p, .p] ?_))
  refine .mv rfl rfl <| .p rfl trivial (fun _ => q_lenI Tryz.underlying146 rfl _) <| .mv rfl rfl <| .nil ?_
  refine Run.block ?_
  refine Run.loop (ι := concat0_ok_L0) (fun sx => [(0, .snap 1 true [[sEntries ([] : List Entry)], [sEntries ([] : List Entry)]]), (3, .i 0), (9, .snap 1 true [[sEntries ([] : List Entry)], [sEntries ([] : List Entry)]]), (10, .i 2), (11, .i sx.k)]) (fun sx => []) (fun sx => 2 - sx.k) ⟨0, by omega⟩ ?_ ?_
  · exact Le.mk rfl (.cons rfl (Sub.refl _) rfl (.cons rfl (Sub.int (by first | rfl | (simp; done) | omega | (simp; omega))) rfl (.cons rfl (Sub.refl _) rfl (.cons rfl (Sub.int (by first | rfl | (simp; done) | omega | (simp; omega))) rfl (.cons rfl (Sub.int (by first | rfl | (simp; done) | omega | (simp; omega))) rfl .nil))))) .nil
  · rintro ⟨k, hk⟩
    show Run _ _ _ _ [(0, .snap 1 true [[sEntries ([] : List Entry)], [sEntries ([] : List Entry)]]), (3, .i 0), (9, .snap 1 true [[sEntries ([] : List Entry)], [sEntries ([] : List Entry)]]), (10, .i 2), (11, .i k)] []
    rcases k with _ | _ | _ | k
    · skip
      refine Run.seq (Run.reg [.p] ?_)
      refine .p rfl trivial (fun _ => q_lss rfl rfl _) <| .nil ?_
      refine Run.seq ?_
      refine Run.condT rfl (rfl) ?_
      refine Run.skip ?_
      refine Run.seq ?_
      refine Run.block ?_
      refine Run.seq (Run.reg [.p, .p, .p] ?_)
      refine .p rfl trivial (fun _ => q_indexI Tryz.underlying146 Tryz.sizeOf22 rfl rfl (by decide) rfl _) <| .p rfl trivial (fun _ => q_loadI Tryz.isAgg22 rfl _) <| .ag rfl rfl <| .nil ?_
      refine Run.seq (Run.reg [.p, .p, .p, .p, .p] ?_)
      refine .mv rfl rfl <| .mv rfl rfl <| .p rfl trivial (fun _ => q_lenI Tryz.underlying22 rfl _) <| .p rfl trivial (fun _ => q_add rfl rfl (wrap64_ok (by first | omega | (simp; done) | (simp; omega) | (simp at *; omega)) (by first | omega | (simp; done) | (simp; omega) | (simp at *; omega))) _) <| .ag rfl rfl <| .nil ?_
      refine Run.seq (Run.reg [.p, .p] ?_)
      refine .mv rfl rfl <| .p rfl trivial (fun _ => q_lss rfl rfl _) <| .nil ?_
      refine Run.condF rfl (by simp) ?_
      refine Run.skip ?_
      refine Run.nil (bq_norm ?_)
      refine Run.reg [.p, .p] ?_
      refine .p rfl trivial (fun _ => q_add rfl rfl (wrap64_ok (by first | omega | (simp; done) | (simp; omega) | (simp at *; omega)) (by first | omega | (simp; done) | (simp; omega) | (simp at *; omega))) _) <| .mv rfl rfl <| .nil ?_
      refine Run.nil (tq_norm ?_)
      exact ⟨⟨1, by omega⟩, by dsimp only; omega, Le.mk rfl (.cons rfl (Sub.refl _) rfl (.cons rfl (Sub.int (by first | rfl | (simp; done) | omega | (simp; omega))) rfl (.cons rfl (Sub.refl _) rfl (.cons rfl (Sub.int (by first | rfl | (simp; done) | omega | (simp; omega))) rfl (.cons rfl (Sub.int (by first | rfl | (simp; done) | omega | (simp; omega))) rfl .nil))))) .nil⟩
    · skip
      refine Run.seq (Run.reg [.p] ?_)
      refine .p rfl trivial (fun _ => q_lss rfl rfl _) <| .nil ?_
      refine Run.seq ?_
      refine Run.condT rfl (rfl) ?_
      refine Run.skip ?_
      refine Run.seq ?_
      refine Run.block ?_
      refine Run.seq (Run.reg [.p, .p, .p] ?_)
      refine .p rfl trivial (fun _ => q_indexI Tryz.underlying146 Tryz.sizeOf22 rfl rfl (by decide) rfl _) <| .p rfl trivial (fun _ => q_loadI Tryz.isAgg22 rfl _) <| .ag rfl rfl <| .nil ?_
      refine Run.seq (Run.reg [.p, .p, .p, .p, .p] ?_)
      refine .mv rfl rfl <| .mv rfl rfl <| .p rfl trivial (fun _ => q_lenI Tryz.underlying22 rfl _) <| .p rfl trivial (fun _ => q_add rfl rfl (wrap64_ok (by first | omega | (simp; done) | (simp; omega) | (simp at *; omega)) (by first | omega | (simp; done) | (simp; omega) | (simp at *; omega))) _) <| .ag rfl rfl <| .nil ?_
      refine Run.seq (Run.reg [.p, .p] ?_)
      refine .mv rfl rfl <| .p rfl trivial (fun _ => q_lss rfl rfl _) <| .nil ?_
      refine Run.condF rfl (by simp) ?_
      refine Run.skip ?_
      refine Run.nil (bq_norm ?_)
      refine Run.reg [.p, .p] ?_
      refine .p rfl trivial (fun _ => q_add rfl rfl (wrap64_ok (by first | omega | (simp; done) | (simp; omega) | (simp at *; omega)) (by first | omega | (simp; done) | (simp; omega) | (simp at *; omega))) _) <| .mv rfl rfl <| .nil ?_
      refine Run.nil (tq_norm ?_)
      exact ⟨⟨2, by omega⟩, by dsimp only; omega, Le.mk rfl (.cons rfl (Sub.refl _) rfl (.cons rfl (Sub.int (by first | rfl | (simp; done) | omega | (simp; omega))) rfl (.cons rfl (Sub.refl _) rfl (.cons rfl (Sub.int (by first | rfl | (simp; done) | omega | (simp; omega))) rfl (.cons rfl (Sub.int (by first | rfl | (simp; done) | omega | (simp; omega))) rfl .nil))))) .nil⟩
    · skip
      refine Run.seq (Run.reg [.p] ?_)
      refine .p rfl trivial (fun _ => q_lss rfl rfl _) <| .nil ?_
      refine Run.seq ?_
      refine Run.condF rfl (rfl) ?_
      refine Run.exit (tq_exit (bq_exit ?_))
      refine Run.seq (Run.reg [.p, .p, .p] ?_)
      refine .mv rfl rfl <| .p rfl trivial (fun _ => q_call Tryz.call108 rfl grow0_ok _) <| .ag rfl rfl <| .nil ?_
      refine Run.seq (Run.seq (Run.reg [.p, .p, .p] ?_))
      refine .mv rfl rfl <| .p rfl trivial (fun _ => q_lenI Tryz.underlying146 rfl _) <| .mv rfl rfl <| .nil ?_
      refine Run.block ?_
      refine Run.loop (ι := concat0_ok_L1) (fun sx => [(6, .gs 0 0), (25, .snap 1 true [[sEntries ([] : List Entry)], [sEntries ([] : List Entry)]]), (26, .i 2), (27, .i sx.k)]) (fun sx => [(0, .arr 3 [])]) (fun sx => 2 - sx.k) ⟨0, by omega⟩ ?_ ?_
      · exact (Le.own0 0 3).trans <| Le.mk rfl (.cons rfl (Sub.gsNil _) rfl (.cons rfl (Sub.refl _) rfl (.cons rfl (Sub.int (by first | rfl | (simp; done) | omega | (simp; omega))) rfl (.cons rfl (Sub.int (by first | rfl | (simp; done) | omega | (simp; omega))) rfl .nil)))) (.arr rfl (by simp) .nil)
      · rintro ⟨k, hk⟩
        show Run _ _ _ _ [(6, .gs 0 0), (25, .snap 1 true [[sEntries ([] : List Entry)], [sEntries ([] : List Entry)]]), (26, .i 2), (27, .i k)] [(0, .arr 3 [])]
        rcases k with _ | _ | _ | k
        · skip
          refine Run.seq (Run.reg [.p] ?_)
          refine .p rfl trivial (fun _ => q_lss rfl rfl _) <| .nil ?_
          refine Run.seq ?_
          refine Run.condT rfl (rfl) ?_
          refine Run.skip ?_
          refine Run.seq ?_
          refine Run.block ?_
          refine Run.seq (Run.reg [.p, .p, .p] ?_)
          refine .p rfl trivial (fun _ => q_indexI Tryz.underlying146 Tryz.sizeOf22 rfl rfl (by decide) rfl _) <| .p rfl trivial (fun _ => q_loadI Tryz.isAgg22 rfl _) <| .ag rfl rfl <| .nil ?_
          refine Run.reg [.p, .p, .w, .p] ?_
          refine .mv rfl rfl <| .mv rfl rfl <| .w rfl trivial (q_append 1 Tryz.underlying22 Tryz.underlying22 Tryz.sizeOf37 Tryz.typeInfo37 Tryz.zeroValue37 rfl (bt := 48) rfl rfl rfl rfl (by simp) rfl rfl (by simp)) <| .ag rfl rfl <| .nil ?_
          refine Run.nil (bq_norm ?_)
          refine Run.reg [.p, .p] ?_
          refine .p rfl trivial (fun _ => q_add rfl rfl (wrap64_ok (by first | omega | (simp; done) | (simp; omega) | (simp at *; omega)) (by first | omega | (simp; done) | (simp; omega) | (simp at *; omega))) _) <| .mv rfl rfl <| .nil ?_
          refine Run.nil (tq_norm ?_)
          exact ⟨⟨1, by omega⟩, by dsimp only; omega, (Le.mk (obs' := [(1, _)]) rfl (show EnvLe _ _ [(6, _), (25, _), (26, _), (27, _)] from (.same rfl rfl (.same rfl rfl (.same rfl rfl (.same rfl rfl .nil))))) (.cons (i := 1) rfl rfl .nil)).trans <| (Le.ren 6 1 0 rfl rfl (by simp) rfl).trans <| Le.mk rfl (.cons rfl (Sub.gs (by simp)) rfl (.cons rfl (Sub.refl _) rfl (.cons rfl (Sub.int (by first | rfl | (simp; done) | omega | (simp; omega))) rfl (.cons rfl (Sub.int (by first | rfl | (simp; done) | omega | (simp; omega))) rfl .nil)))) (.arr rfl (by simp) .nil)⟩
        · skip
          refine Run.seq (Run.reg [.p] ?_)
          refine .p rfl trivial (fun _ => q_lss rfl rfl _) <| .nil ?_
          refine Run.seq ?_
          refine Run.condT rfl (rfl) ?_
          refine Run.skip ?_
          refine Run.seq ?_
          refine Run.block ?_
          refine Run.seq (Run.reg [.p, .p, .p] ?_)
          refine .p rfl trivial (fun _ => q_indexI Tryz.underlying146 Tryz.sizeOf22 rfl rfl (by decide) rfl _) <| .p rfl trivial (fun _ => q_loadI Tryz.isAgg22 rfl _) <| .ag rfl rfl <| .nil ?_
          refine Run.reg [.p, .p, .w, .p] ?_
          refine .mv rfl rfl <| .mv rfl rfl <| .w rfl trivial (q_append 1 Tryz.underlying22 Tryz.underlying22 Tryz.sizeOf37 Tryz.typeInfo37 Tryz.zeroValue37 rfl (bt := 48) rfl rfl rfl rfl (by simp) rfl rfl (by simp)) <| .ag rfl rfl <| .nil ?_
          refine Run.nil (bq_norm ?_)
          refine Run.reg [.p, .p] ?_
          refine .p rfl trivial (fun _ => q_add rfl rfl (wrap64_ok (by first | omega | (simp; done) | (simp; omega) | (simp at *; omega)) (by first | omega | (simp; done) | (simp; omega) | (simp at *; omega))) _) <| .mv rfl rfl <| .nil ?_
          refine Run.nil (tq_norm ?_)
          exact ⟨⟨2, by omega⟩, by dsimp only; omega, (Le.mk (obs' := [(1, _)]) rfl (show EnvLe _ _ [(6, _), (25, _), (26, _), (27, _)] from (.same rfl rfl (.same rfl rfl (.same rfl rfl (.same rfl rfl .nil))))) (.cons (i := 1) rfl rfl .nil)).trans <| (Le.ren 6 1 0 rfl rfl (by simp) rfl).trans <| Le.mk rfl (.cons rfl (Sub.gs (by simp)) rfl (.cons rfl (Sub.refl _) rfl (.cons rfl (Sub.int (by first | rfl | (simp; done) | omega | (simp; omega))) rfl (.cons rfl (Sub.int (by first | rfl | (simp; done) | omega | (simp; omega))) rfl .nil)))) (.arr rfl (by simp) .nil)⟩
        · skip
          refine Run.seq (Run.reg [.p] ?_)
          refine .p rfl trivial (fun _ => q_lss rfl rfl _) <| .nil ?_
          refine Run.seq ?_
          refine Run.condF rfl (rfl) ?_
          refine Run.exit (tq_exit (bq_exit ?_))
          refine Run.seq (Run.reg [.p, .p] ?_)
          refine .mv rfl rfl <| .ag rfl rfl <| .nil ?_
          refine Run.weak (Le.freeze 2 0 rfl rfl (by simp)) ?_
          refine Run.ret (?_)
          exact ret1 rfl (Sub.snap (by simp))
        · omega
    · omega
theorem concat_ok (a b : List Entry) (hal : a.length ≤ 1000) (hbl : b.length ≤ 1000) : Fc Tryz.prog 54 [.snap 1 true [[sEntries a], [sEntries b]]] (sEntries (a ++ b)) := by
  by_cases h : a.length = 0
  · have e := List.length_eq_zero_iff.1 h
    subst e
    by_cases h' : b.length = 0
    · have e := List.length_eq_zero_iff.1 h'
      subst e
      exact concat0_ok
    · exact concatB_ok b hbl h'
  · exact concatA_ok a b hal hbl h
end Go.T
namespace Go.T
open Go Go.Proofs
set_option maxRecDepth 20000
theorem foldl_insI_len (c : Entry → Entry → Int) (l : List Entry) : ∀ r : List Entry, (l.foldl (insI c) r).length = r.length + l.length := by
  induction l with
  | nil => intro r; simp
  | cons x l ih => intro r; rw [List.foldl_cons, ih, insI_len]; simp; omega
theorem sortI_len (c : Entry → Entry → Int) (l : List Entry) : (sortI c l).length = l.length := by simp [sortI, foldl_insI_len]
theorem foldl_insI_mem (c : Entry → Entry → Int) (l : List Entry) (e : Entry) : ∀ r : List Entry, e ∈ l.foldl (insI c) r ↔ e ∈ r ∨ e ∈ l := by
  induction l with
  | nil => intro r; simp
  | cons x l ih => intro r; rw [List.foldl_cons, ih, insI_mem]; simp only [List.mem_cons]; grind
theorem sortI_mem (c : Entry → Entry → Int) (l : List Entry) (e : Entry) : e ∈ sortI c l ↔ e ∈ l := by simp [sortI, foldl_insI_mem]
theorem minus_ok (a b : List Entry) (hal : a.length ≤ 12) (hbl : b.length ≤ 12) (has : ∀ e ∈ a, smallE e) (hbs : ∀ e ∈ b, smallE e) : Fc Tryz.prog 43 [sEntries a, sEntries b] (.tup [sEntries (if validE (a ++ b) then (mergeE cmpEn (sortI cmpEn a) (sortI cmpEn b)).1 else []), sEntries (if validE (a ++ b) then (mergeE cmpEn (sortI cmpEn a) (sortI cmpEn b)).2 else []), .i (if validE (a ++ b) then 0 else 1)]) := by
  refine Fc.mk' [4, 5, 6] Tryz.func43 rfl Tryz.ntmps43 rfl rfl rfl (fun t w => results_tmp3 Tryz.results43 t _ w) ?_
  refine Run.seq (Run.reg [.p, .p, .p] ?_)
  refine .ag rfl rfl <| .ag rfl rfl <| .ag rfl rfl <| .nil ?_
  refine Run.seq (Run.seq (Run.reg [.p, .p, .p, .p, .p] ?_))
  refine .mv rfl rfl <| .mv rfl rfl <| .p rfl trivial (fun _ => q_buildSlice' (n := 2) (rows := [[sEntries a], [sEntries b]]) Tryz.underlying146 Tryz.sizeOf22 rfl rfl rfl Tryz.zeroValue22 rfl rfl rfl rfl rfl rfl rfl _) <| .p rfl trivial (fun _ => q_call Tryz.call54 rfl (concat_ok _ _ (by omega) (by omega)) _) <| .p rfl trivial (fun _ => q_call Tryz.call53 rfl (containsBad_ok _ (fun e he => (List.mem_append.1 he).elim (has e) (hbs e))) _) <| .nil ?_
  refine Run.cond rfl (fun h1 => ?_) (fun h1 => ?_)
  · have ph1 := h1
    try simp only [bs, bne_iff_ne, ne_eq, List.length_map] at ph1
    refine Run.seq (Run.reg [.p, .p, .p] ?_)
    refine .ag rfl rfl <| .ag rfl rfl <| .ag rfl rfl <| .nil ?_
    refine Run.ret (?_)
    exact ret3 rfl rfl rfl (by exact (Sub.nil 3 false).trans (Sub.snap (by simp_all))) (by exact (Sub.nil 3 false).trans (Sub.snap (by simp_all))) (Sub.int (by simp_all))
  · have ph1 := h1
    try simp only [bs, bne_iff_ne, ne_eq, List.length_map] at ph1
    refine Run.skip ?_
    refine Run.seq (Run.reg [.p, .w, .p, .w, .p, .p] ?_)
    refine .mv rfl rfl <| .w rfl trivial (q_callO Tryz.call97 rfl (clone7600_ok _ (by omega)) .nil rfl rfl) <| .mv rfl rfl <| .w rfl trivial (q_callO Tryz.call97 rfl (clone7700_ok _ (by omega)) .nil rfl rfl) <| .ag rfl rfl <| .ag rfl rfl <| .nil ?_
    refine Run.seq (Run.reg [.p, .w] ?_)
    refine .mv rfl rfl <| .w rfl trivial (q_callO Tryz.call98 rfl (sort7600_ok a (by omega) has) (.cons rfl rfl .nil) rfl rfl) <| .nil ?_
    refine Run.seq (Run.reg [.p, .w] ?_)
    refine .mv rfl rfl <| .w rfl trivial (q_callO Tryz.call98 rfl (sort7700_ok b (by omega) hbs) (.cons rfl rfl .nil) rfl rfl) <| .nil ?_
    refine Run.weak (Le.freeze 7 7600 rfl rfl (by simp [sortI_len])) ?_
    refine Run.weak (Le.freeze 8 7700 rfl rfl (by simp [sortI_len])) ?_
    refine Run.seq (Run.reg [.p, .p, .p, .p, .p, .p, .p, .p] ?_)
    refine .mv rfl rfl <| .mv rfl rfl <| .p rfl trivial (fun _ => q_call Tryz.call100 rfl (merge_ok _ _ (by rw [sortI_len]; omega) (by rw [sortI_len]; omega) (fun e he => has e ((sortI_mem ..).1 he)) (fun e he => hbs e ((sortI_mem ..).1 he))) _) <| .mv rfl rfl <| .p rfl trivial (fun _ => q_extract rfl rfl _) <| .p rfl trivial (fun _ => q_extract rfl rfl _) <| .ag rfl rfl <| .ag rfl rfl <| .nil ?_
    refine Run.seq (Run.reg [.p, .p, .p, .p, .p] ?_)
    refine .mv rfl rfl <| .mv rfl rfl <| .ag rfl rfl <| .ag rfl rfl <| .ag rfl rfl <| .nil ?_
    refine Run.ret (?_)
    exact ret3 rfl rfl rfl (Sub.snap (by simp_all)) (Sub.snap (by simp_all)) (Sub.int (by simp_all))
end Go.T
namespace Go.T
open Go Go.Proofs
set_option maxRecDepth 20000
def postE (l : List Close) (known : Int) (by_ : Str) (e : Entry) : Posted := ⟨max e.day (lastOpen (l.takeWhile (fun c : Close => decide (c.known < known)))), known, by_, e⟩
def chg (a b : List Entry) : List Entry := (mergeE cmpEn (sortI cmpEn a) (sortI cmpEn b)).1.map opposite ++ (mergeE cmpEn (sortI cmpEn a) (sortI cmpEn b)).2
def stepP (a b : List Entry) (l : List Close) (known : Int) (by_ : Str) : List Posted × Int :=
  if validE (a ++ b) = false ∨ checkCloses l ≠ 0 then ([], 1) else if known < 1 then ([], 2) else if isName by_ = false then ([], 23)
  else ((chg a b).map (postE l known by_), 0)
theorem mergeC_len (c : Entry → Entry → Int) : ∀ (n : Nat) (a b : List Entry), (mergeC c n a b).1.length ≤ a.length ∧ (mergeC c n a b).2.length ≤ b.length
  | 0, a, b => by simp [mergeC]
  | n + 1, [], b => by rw [mergeC_nil1]; simp
  | n + 1, x :: a, [] => by rw [mergeC_nil2]; simp
  | n + 1, x :: a, y :: b => by
    have h1 := mergeC_len c n a (y :: b)
    have h2 := mergeC_len c n (x :: a) b
    have h3 := mergeC_len c n a b
    simp only [mergeC, List.length_cons] at *
    split
    · simp; omega
    · split
      · simp; omega
      · omega
theorem mergeC_mem (c : Entry → Entry → Int) (e : Entry) : ∀ (n : Nat) (a b : List Entry), (e ∈ (mergeC c n a b).1 → e ∈ a) ∧ (e ∈ (mergeC c n a b).2 → e ∈ b)
  | 0, a, b => by simp [mergeC]
  | n + 1, [], b => by rw [mergeC_nil1]; simp
  | n + 1, x :: a, [] => by rw [mergeC_nil2]; simp
  | n + 1, x :: a, y :: b => by
    have h1 := mergeC_mem c e n a (y :: b)
    have h2 := mergeC_mem c e n (x :: a) b
    have h3 := mergeC_mem c e n a b
    simp only [mergeC, List.mem_cons] at *
    split
    · simp only [List.mem_cons]; grind
    · split
      · simp only [List.mem_cons]; grind
      · grind
theorem minusGood_ok (a b : List Entry) (hal : a.length ≤ 12) (hbl : b.length ≤ 12) (has : ∀ e ∈ a, smallE e) (hbs : ∀ e ∈ b, smallE e) (hv : validE (a ++ b) = true) : Fc Tryz.prog 43 [sEntries a, sEntries b] (.tup [sEntries (mergeE cmpEn (sortI cmpEn a) (sortI cmpEn b)).1, sEntries (mergeE cmpEn (sortI cmpEn a) (sortI cmpEn b)).2, .i 0]) := by
  have := minus_ok a b hal hbl has hbs
  simpa only [hv, if_true] using this
theorem minusBad_ok (a b : List Entry) (hal : a.length ≤ 12) (hbl : b.length ≤ 12) (has : ∀ e ∈ a, smallE e) (hbs : ∀ e ∈ b, smallE e) (hv : validE (a ++ b) = false) : Fc Tryz.prog 43 [sEntries a, sEntries b] (.tup [sEntries [], sEntries [], .i 1]) := by
  have := minus_ok a b hal hbl has hbs
  simpa only [hv, if_false, Bool.false_eq_true] using this
theorem validDay_checkE {e : Entry} (h : checkE e = 0) : ¬ (e.day < -25567 ∨ 84005 < e.day) := by
  have : checkHead e = 0 := by
    unfold checkE at h
    split at h
    · contradiction
    · omega
  unfold checkHead at this
  grind [validDay]
theorem validE_mem {l : List Entry} (h : validE l = true) : ∀ e ∈ l, checkE e = 0 := by
  intro e he
  unfold validE at h
  rw [List.all_eq_true] at h
  simpa using h e he
theorem checkCl_valid : ∀ (l pre : List Close), checkCl pre l = 0 → ∀ c ∈ l, validDay c.day = true
  | [], _, _, c, hc => by simp at hc
  | x :: l, pre, h, c, hc => by
    simp only [checkCl] at h
    split at h
    · omega
    · split at h
      · omega
      · split at h
        · omega
        · rcases List.mem_cons.1 hc with rfl | hc
          · simp [validDay]; omega
          · exact checkCl_valid l _ h c hc
theorem checkCloses_valid {l : List Close} (h : checkCloses l = 0) : (∀ c ∈ l, validDay c.day = true) ∧ l.length ≤ 64 := by
  unfold checkCloses at h
  split at h
  · omega
  · exact ⟨checkCl_valid l [] h, by omega⟩
end Go.T
namespace Go.T
open Go Go.Proofs
set_option maxRecDepth 20000
theorem stepP_rows {a b : List Entry} {l : List Close} {known : Int} {by_ : Str} (hv : validE (a ++ b) = true) (hc : checkCloses l = 0) (hk : 1 ≤ known) (hn : isName by_ = true) :
    List.map (fun e => encPosted (postE l known by_ e)) ((mergeE cmpEn (sortI cmpEn a) (sortI cmpEn b)).1.map opposite ++ (mergeE cmpEn (sortI cmpEn a) (sortI cmpEn b)).2) = List.map encPosted (stepP a b l known by_).1 := by
  unfold stepP
  rw [if_neg (by simp [hv, hc]), if_neg (by omega), if_neg (by simp [hn])]
  simp only [chg, List.map_map]
  rfl
theorem stepBad_ok (a b : List Entry) (l : List Close) (known : Int) (by_ : Str) (hal : a.length ≤ 12) (hbl : b.length ≤ 12) (has : ∀ e ∈ a, smallE e) (hbs : ∀ e ∈ b, smallE e) (hv : validE (a ++ b) = false) : Fc Tryz.prog 13 [sEntries a, sEntries b, sCloses l, .i known, .str by_] (.tup [sPosteds (stepP a b l known by_).1, .i (stepP a b l known by_).2]) := by
  refine Fc.mkR Tryz.func13 rfl Tryz.ntmps13 rfl rfl rfl ?_
  refine Run.seq (Run.reg [.w, .w, .w, .w, .w] ?_)
  refine .w rfl trivial (q_box1 0 rfl rfl rfl) <| .w rfl trivial (q_box1 1 rfl rfl rfl) <| .w rfl trivial (q_box1 2 rfl rfl rfl) <| .w rfl trivial (q_alloc 3 Tryz.zeroValue27 rfl) <| .w rfl trivial (q_alloc 4 Tryz.zeroValue28 rfl) <| .nil ?_
  refine Run.seq (Run.reg [.p, .p, .p, .p, .p, .p, .p, .p, .p, .p] ?_)
  refine .mv rfl rfl <| .mv rfl rfl <| .p rfl trivial (fun _ => q_call Tryz.call43 rfl (minusBad_ok a b hal hbl has hbs hv) _) <| .mv rfl rfl <| .p rfl trivial (fun _ => q_extract rfl rfl _) <| .p rfl trivial (fun _ => q_extract rfl rfl _) <| .p rfl trivial (fun _ => q_extract rfl rfl _) <| .ag rfl rfl <| .ag rfl rfl <| .ag rfl rfl <| .nil ?_
  refine Run.seq ?_
  refine Run.block ?_
  refine Run.seq (Run.reg [.p, .p, .p, .r, .p, .p, .p, .p] ?_)
  refine .mv rfl rfl <| .p rfl trivial (fun _ => q_neq rfl rfl _) <| .mv rfl rfl <| .gF rfl (.inr rfl) rfl rfl rfl (fun hg => rk (q_load1 Tryz.isAgg23 rfl rfl rfl)) <| .gF rfl (.inl rfl) rfl rfl rfl (fun hg => pk (fun _ => q_call Tryz.call44 (opsC (opT rfl (nt hg)) (rfl)) (closes_ok _) _)) <| .gF rfl (.inl rfl) rfl rfl rfl (fun hg => pk (fun _ => q_neq (opT rfl (nt hg)) rfl _)) <| .p rfl trivial (fun _ => q_or rfl rfl _) <| .ag rfl rfl <| .nil ?_
  refine Run.condT rfl (by simp) ?_
  refine Run.seq (Run.reg [.w, .w] ?_)
  refine .w rfl trivial (q_store1 Tryz.sizeOf27 rfl rfl rfl rfl (by first | (simp; done) | decide)) <| .w rfl trivial (q_store1 Tryz.sizeOf28 rfl rfl rfl rfl (by first | (simp; done) | decide)) <| .nil ?_
  refine Run.ret (bq_ret (?_))
  exact Rd.c11 Tryz.results13 Tryz.isAgg27 Tryz.isAgg28 rfl rfl rfl rfl ((Sub.nil _ false).trans (Sub.snap (by simp [stepP, hv]))) (Sub.int (by simp [stepP, hv]))
theorem stepGood_ok (a b : List Entry) (l : List Close) (known : Int) (by_ : Str) (hal : a.length ≤ 12) (hbl : b.length ≤ 12) (has : ∀ e ∈ a, smallE e) (hbs : ∀ e ∈ b, smallE e) (hv : validE (a ++ b) = true) : Fc Tryz.prog 13 [sEntries a, sEntries b, sCloses l, .i known, .str by_] (.tup [sPosteds (stepP a b l known by_).1, .i (stepP a b l known by_).2]) := by
  refine Fc.mkR Tryz.func13 rfl Tryz.ntmps13 rfl rfl rfl ?_
  have hm := mergeC_len cmpEn ((sortI cmpEn a).length + (sortI cmpEn b).length) (sortI cmpEn a) (sortI cmpEn b)
  have hm1 : (mergeE cmpEn (sortI cmpEn a) (sortI cmpEn b)).1.length ≤ 12 := Nat.le_trans hm.1 (by rw [sortI_len]; exact hal)
  have hm2 : (mergeE cmpEn (sortI cmpEn a) (sortI cmpEn b)).2.length ≤ 12 := Nat.le_trans hm.2 (by rw [sortI_len]; exact hbl)
  have hc1 : ∀ e ∈ (mergeE cmpEn (sortI cmpEn a) (sortI cmpEn b)).1, smallE e ∧ checkE e = 0 := fun e he => have h := (sortI_mem ..).1 ((mergeC_mem ..).1 he); ⟨has e h, validE_mem hv e (List.mem_append_left _ h)⟩
  have hc2 : ∀ e ∈ (mergeE cmpEn (sortI cmpEn a) (sortI cmpEn b)).2, smallE e ∧ checkE e = 0 := fun e he => have h := (sortI_mem ..).1 ((mergeC_mem ..).2 he); ⟨hbs e h, validE_mem hv e (List.mem_append_right _ h)⟩
  refine Run.seq (Run.reg [.w, .w, .w, .w, .w] ?_)
  refine .w rfl trivial (q_box1 0 rfl rfl rfl) <| .w rfl trivial (q_box1 1 rfl rfl rfl) <| .w rfl trivial (q_box1 2 rfl rfl rfl) <| .w rfl trivial (q_alloc 3 Tryz.zeroValue27 rfl) <| .w rfl trivial (q_alloc 4 Tryz.zeroValue28 rfl) <| .nil ?_
  refine Run.seq (Run.reg [.p, .p, .p, .p, .p, .p, .p, .p, .p, .p] ?_)
  refine .mv rfl rfl <| .mv rfl rfl <| .p rfl trivial (fun _ => q_call Tryz.call43 rfl (minusGood_ok a b hal hbl has hbs hv) _) <| .mv rfl rfl <| .p rfl trivial (fun _ => q_extract rfl rfl _) <| .p rfl trivial (fun _ => q_extract rfl rfl _) <| .p rfl trivial (fun _ => q_extract rfl rfl _) <| .ag rfl rfl <| .ag rfl rfl <| .ag rfl rfl <| .nil ?_
  refine Run.seq ?_
  refine Run.block ?_
  refine Run.seq (Run.reg [.p, .p, .p, .r, .p, .p, .p, .p] ?_)
  refine .mv rfl rfl <| .p rfl trivial (fun _ => q_neq rfl rfl _) <| .mv rfl rfl <| .gF rfl (.inr rfl) rfl rfl rfl (fun hg => rk (q_load1 Tryz.isAgg23 rfl rfl rfl)) <| .gF rfl (.inl rfl) rfl rfl rfl (fun hg => pk (fun _ => q_call Tryz.call44 (opsC (opT rfl (nt hg)) (rfl)) (closes_ok _) _)) <| .gF rfl (.inl rfl) rfl rfl rfl (fun hg => pk (fun _ => q_neq (opT rfl (nt hg)) rfl _)) <| .p rfl trivial (fun _ => q_or rfl rfl _) <| .ag rfl rfl <| .nil ?_
  refine Run.cond rfl (fun h1 => ?_) (fun h1 => ?_)
  · have ph1 := h1
    try simp only [bs, bne_iff_ne, ne_eq, List.length_map] at ph1
    refine Run.seq (Run.reg [.w, .w] ?_)
    refine .w rfl trivial (q_store1 Tryz.sizeOf27 rfl rfl rfl rfl (by first | (simp; done) | decide)) <| .w rfl trivial (q_store1 Tryz.sizeOf28 rfl rfl rfl rfl (by first | (simp; done) | decide)) <| .nil ?_
    refine Run.ret (bq_ret (?_))
    exact Rd.c11 Tryz.results13 Tryz.isAgg27 Tryz.isAgg28 rfl rfl rfl rfl ((Sub.nil _ false).trans (Sub.snap (by first | exact stepP_rows hv ph1.2 ph2 ph3 | (exfalso; omega) | (simp_all [stepP, chg]; done) | grind [stepP, chg]))) (Sub.int (by first | (exfalso; omega) | (simp_all [stepP]; done) | grind [stepP]))
  · have ph1 := h1
    try simp only [bs, bne_iff_ne, ne_eq, List.length_map] at ph1
    refine Run.seq (Run.reg [.r, .p, .p] ?_)
    refine .r rfl trivial (q_load1 Tryz.isAgg3 rfl rfl rfl) <| .p rfl trivial (fun _ => q_lss rfl rfl _) <| .ag rfl rfl <| .nil ?_
    refine Run.cond rfl (fun h2 => ?_) (fun h2 => ?_)
    · have ph2 := h2
      try simp only [bs, bne_iff_ne, ne_eq, List.length_map] at ph2
      refine Run.seq (Run.reg [.w, .w] ?_)
      refine .w rfl trivial (q_store1 Tryz.sizeOf27 rfl rfl rfl rfl (by first | (simp; done) | decide)) <| .w rfl trivial (q_store1 Tryz.sizeOf28 rfl rfl rfl rfl (by first | (simp; done) | decide)) <| .nil ?_
      refine Run.ret (bq_ret (?_))
      exact Rd.c11 Tryz.results13 Tryz.isAgg27 Tryz.isAgg28 rfl rfl rfl rfl ((Sub.nil _ false).trans (Sub.snap (by first | exact stepP_rows hv ph1.2 ph2 ph3 | (exfalso; omega) | (simp_all [stepP, chg]; done) | grind [stepP, chg]))) (Sub.int (by first | (exfalso; omega) | (simp_all [stepP]; done) | grind [stepP]))
    · have ph2 := h2
      try simp only [bs, bne_iff_ne, ne_eq, List.length_map] at ph2
      refine Run.seq (Run.reg [.r, .p, .p, .p] ?_)
      refine .r rfl trivial (q_load1 Tryz.isAgg9 rfl rfl rfl) <| .p rfl trivial (fun _ => q_call Tryz.call45 rfl (name_ok _) _) <| .p rfl trivial (fun _ => q_not rfl _) <| .ag rfl rfl <| .nil ?_
      refine Run.cond rfl (fun h3 => ?_) (fun h3 => ?_)
      · have ph3 := h3
        try simp only [bs, bne_iff_ne, ne_eq, List.length_map] at ph3
        refine Run.seq (Run.reg [.w, .w] ?_)
        refine .w rfl trivial (q_store1 Tryz.sizeOf27 rfl rfl rfl rfl (by first | (simp; done) | decide)) <| .w rfl trivial (q_store1 Tryz.sizeOf28 rfl rfl rfl rfl (by first | (simp; done) | decide)) <| .nil ?_
        refine Run.ret (bq_ret (?_))
        exact Rd.c11 Tryz.results13 Tryz.isAgg27 Tryz.isAgg28 rfl rfl rfl rfl ((Sub.nil _ false).trans (Sub.snap (by first | exact stepP_rows hv ph1.2 ph2 ph3 | (exfalso; omega) | (simp_all [stepP, chg]; done) | grind [stepP, chg]))) (Sub.int (by first | (exfalso; omega) | (simp_all [stepP]; done) | grind [stepP]))
      · have ph3 := h3
        try simp only [bs, bne_iff_ne, ne_eq, List.length_map] at ph3
        refine Run.seq (Run.reg [.p, .p, .p, .p, .p, .p, .p] ?_)
        refine .mv rfl rfl <| .p rfl trivial (fun _ => q_lenI Tryz.underlying22 rfl _) <| .mv rfl rfl <| .p rfl trivial (fun _ => q_lenI Tryz.underlying22 rfl _) <| .p rfl trivial (fun _ => q_add rfl rfl (wrap64_ok (by first | omega | (simp; done) | (simp; omega) | (simp at *; omega)) (by first | omega | (simp; done) | (simp; omega) | (simp at *; omega))) _) <| .p rfl trivial (fun _ => q_gtr rfl rfl _) <| .ag rfl rfl <| .nil ?_
        refine Run.cond rfl (fun h4 => ?_) (fun h4 => ?_)
        · have ph4 := h4
          try simp only [bs, bne_iff_ne, ne_eq, List.length_map] at ph4
          refine Run.seq (Run.reg [.w, .w] ?_)
          refine .w rfl trivial (q_store1 Tryz.sizeOf27 rfl rfl rfl rfl (by first | (simp; done) | decide)) <| .w rfl trivial (q_store1 Tryz.sizeOf28 rfl rfl rfl rfl (by first | (simp; done) | decide)) <| .nil ?_
          refine Run.ret (bq_ret (?_))
          exact Rd.c11 Tryz.results13 Tryz.isAgg27 Tryz.isAgg28 rfl rfl rfl rfl ((Sub.nil _ false).trans (Sub.snap (by first | exact stepP_rows hv ph1.2 ph2 ph3 | (exfalso; omega) | (simp_all [stepP, chg]; done) | grind [stepP, chg]))) (Sub.int (by first | (exfalso; omega) | (simp_all [stepP]; done) | grind [stepP]))
        · have ph4 := h4
          try simp only [bs, bne_iff_ne, ne_eq, List.length_map] at ph4
          refine Run.skip ?_
          refine Run.nil (bq_norm ?_)
          refine Run.seq (Run.reg [.w] ?_)
          refine .w rfl trivial (q_alloc 5 Tryz.zeroValue27 rfl) <| .nil ?_
          refine Run.seq (Run.seq (Run.reg [.p, .p, .w] ?_))
          refine .mv rfl rfl <| .mv rfl rfl <| .w rfl trivial (q_callO Tryz.call46 rfl (changeF_ok _ _) .nil rfl rfl) <| .nil ?_
          refine Run.block ?_
          refine Run.rangeF (α := Entry) 7900 [0, 1, 2, 3, 4, 5] [(0, _), (1, _), (2, _), (3, _), (4, _), (7, _), (8, _), (9, _), (10, _), (11, _), (20, _), (21, _), (22, _), (19, _), (23, _), (24, _), (25, _), (12, _), (13, _), (14, _), (27, _), (28, _), (29, _), (33, _), (26, _), (35, _), (36, _), (34, _), (38, _), (39, _), (40, _), (37, _), (42, _), (43, _), (44, _), (45, _), (46, _), (47, _), (41, _), (15, _), (48, _), (49, _)] (fun (pre : List (Entry)) => [(0, .cells [sCloses l]), (1, .cells [.i known]), (2, .cells [.str by_]), (3, .cells [.raw (.slice none 0 0)]), (4, .cells [.i 0]), (5, .cells [.gs 6 pre.length]), (6, .arr 6 (pre.map fun e => encPosted (postE l known by_ e)))]) (fun _ _ => False) rfl Tryz.call101 (changeY_ok (mergeE cmpEn (sortI cmpEn a) (sortI cmpEn b)).1 (mergeE cmpEn (sortI cmpEn a) (sortI cmpEn b)).2 (by omega) (by omega) hc1) (env1 := [(0, _), (1, _), (2, _), (3, _), (4, _), (7, _), (8, _), (9, _), (10, _), (11, _), (20, _), (21, _), (22, _), (19, _), (23, _), (24, _), (25, _), (12, _), (13, _), (14, _), (27, _), (28, _), (29, _), (33, _), (26, _), (35, _), (36, _), (34, _), (38, _), (39, _), (40, _), (37, _), (42, _), (43, _), (44, _), (45, _), (46, _), (47, _), (41, _), (15, _), (48, _), (49, _), (50, _)]) ((Le.own0 6 6).trans <| (Le.subO 5 0 rfl rfl (Sub.gsNil 6)).trans <| Le.mk (obs' := [(7500, _), (7501, _)] ++ (fun (pre : List (Entry)) => [(0, .cells [sCloses l]), (1, .cells [.i known]), (2, .cells [.str by_]), (3, .cells [.raw (.slice none 0 0)]), (4, .cells [.i 0]), (5, .cells [.gs 6 pre.length]), (6, .arr 6 (pre.map fun e => encPosted (postE l known by_ e)))]) []) rfl (show EnvLe _ _ [(0, _), (1, _), (2, _), (3, _), (4, _), (7, _), (8, _), (9, _), (10, _), (11, _), (20, _), (21, _), (22, _), (19, _), (23, _), (24, _), (25, _), (12, _), (13, _), (14, _), (27, _), (28, _), (29, _), (33, _), (26, _), (35, _), (36, _), (34, _), (38, _), (39, _), (40, _), (37, _), (42, _), (43, _), (44, _), (45, _), (46, _), (47, _), (41, _), (15, _), (48, _), (49, _), (50, _)] from (.same rfl rfl (.same rfl rfl (.same rfl rfl (.same rfl rfl (.same rfl rfl (.same rfl rfl (.same rfl rfl (.same rfl rfl (.same rfl rfl (.same rfl rfl (.same rfl rfl (.same rfl rfl (.same rfl rfl (.same rfl rfl (.same rfl rfl (.same rfl rfl (.same rfl rfl (.same rfl rfl (.same rfl rfl (.same rfl rfl (.same rfl rfl (.same rfl rfl (.same rfl rfl (.same rfl rfl (.same rfl rfl (.same rfl rfl (.same rfl rfl (.same rfl rfl (.same rfl rfl (.same rfl rfl (.same rfl rfl (.same rfl rfl (.same rfl rfl (.same rfl rfl (.same rfl rfl (.same rfl rfl (.same rfl rfl (.same rfl rfl (.same rfl rfl (.same rfl rfl (.same rfl rfl (.same rfl rfl (.same rfl rfl .nil)))))))))))))))))))))))))))))))))))))))))))) (.cons (i := 7500) rfl rfl (.cons (i := 7501) rfl rfl (.eq rfl (by first | rfl | (simp; done)) rfl (.eq rfl (by first | rfl | (simp; done)) rfl (.eq rfl (by first | rfl | (simp; done)) rfl (.eq rfl (by first | rfl | (simp; done)) rfl (.eq rfl (by first | rfl | (simp; done)) rfl (.eq rfl (by first | rfl | (simp; done)) rfl (.eq rfl (by first | rfl | (simp; done)) rfl .nil)))))))))) rfl rfl (fun _ => rfl) (.cons rfl rfl (.cons rfl rfl (.cons rfl rfl (.cons rfl rfl (.cons rfl rfl (.cons rfl rfl (.cons rfl rfl (.cons rfl rfl (.cons rfl rfl (.cons rfl rfl (.cons rfl rfl (.cons rfl rfl (.cons rfl rfl (.cons rfl rfl (.cons rfl rfl (.cons rfl rfl (.cons rfl rfl (.cons rfl rfl (.cons rfl rfl (.cons rfl rfl (.cons rfl rfl (.cons rfl rfl (.cons rfl rfl (.cons rfl rfl (.cons rfl rfl (.cons rfl rfl (.cons rfl rfl (.cons rfl rfl (.cons rfl rfl (.cons rfl rfl (.cons rfl rfl (.cons rfl rfl (.cons rfl rfl (.cons rfl rfl (.cons rfl rfl (.cons rfl rfl (.cons rfl rfl (.cons rfl rfl (.cons rfl rfl (.cons rfl rfl (.cons rfl rfl (.cons rfl rfl .nil)))))))))))))))))))))))))))))))))))))))))) rfl (fun _ => rfl) (by rintro j o h; exact h.elim) (fun _ => Obs.okB_get rfl) (by rintro j o h; exact h.elim) (fun _ => freeB_get rfl) (by rintro j o h; exact h.elim) (by decide) rfl (fun pre x hok => ?_) (fun xs hfin => ?_) (fun _ _ h => h.elim)
          · skip
            have hcc : checkCloses l = 0 := by simp_all
            have hcv := checkCloses_valid hcc
            have hpl := hok.length_le
            simp only [List.length_append, List.length_singleton, List.length_map] at hpl
            have hxd : ¬ (x.day < -25567 ∨ 84005 < x.day) := by
              have hx := hok.subset (List.mem_append_right _ (List.mem_singleton_self x))
              rcases List.mem_append.1 hx with h | h
              · obtain ⟨e, he, rfl⟩ := List.mem_map.1 h; exact validDay_checkE (e := e) (hc1 e he).2
              · exact validDay_checkE (hc2 x h).2
            refine Run.reg [.w, .w] ?_
            refine .w rfl trivial (q_alloc 7 Tryz.zeroValue37 rfl) <| .w rfl trivial (q_storeW Tryz.sizeOf37 rfl rfl rfl rfl rfl rfl) <| .nil ?_
            refine Run.nil ⟨rfl, ?_⟩
            refine Run.block ?_
            refine Run.seq (Run.reg [.r, .r, .p, .r, .p, .p, .p, .p, .p, .p] ?_)
            refine .r rfl trivial (q_load1 Tryz.isAgg23 rfl rfl rfl) <| .r rfl trivial (q_load1 Tryz.isAgg3 rfl rfl rfl) <| .p rfl trivial (fun _ => q_fieldB (n := 0) 34 0 Tryz.underlying37 Tryz.sizeOf34 rfl rfl _) <| .r rfl trivial (q_load1 Tryz.isAgg34 rfl rfl rfl) <| .p rfl trivial (fun _ => q_call Tryz.call47 rfl (posting_ok l known x.day hcc (by omega) hxd (by omega) hcv.1) _) <| .mv rfl rfl <| .p rfl trivial (fun _ => q_extract rfl rfl _) <| .p rfl trivial (fun _ => q_extract rfl rfl _) <| .ag rfl rfl <| .ag rfl rfl <| .nil ?_
            refine Run.seq (Run.seq (Run.reg [.p, .p] ?_))
            refine .mv rfl rfl <| .p rfl trivial (fun _ => q_neq rfl rfl _) <| .nil ?_
            refine Run.condF rfl (by simp) ?_
            refine Run.skip ?_
            refine Run.reg [.r, .p, .r, .r, .r, .p, .p, .w, .w] ?_
            refine .r rfl trivial (q_load1 Tryz.isAgg27 rfl rfl rfl) <| .mv rfl rfl <| .r rfl trivial (q_load1 Tryz.isAgg3 rfl rfl rfl) <| .r rfl trivial (q_load1 Tryz.isAgg9 rfl rfl rfl) <| .r rfl trivial (q_loadW Tryz.isAgg37 Tryz.sizeOf37 rfl rfl rfl) <| .p rfl trivial (fun _ => q_build (pl := #[(0, 1), (1, 1), (2, 1), (3, 3)]) Tryz.underlying39 Tryz.zeroValue39 (fun w => by kernel_rfl) rfl rfl _) <| .p rfl trivial (fun _ => q_buildSlice' (n := 1) (rows := [encPosted (postE l known by_ x)]) Tryz.underlying27 Tryz.sizeOf39 rfl rfl rfl Tryz.zeroValue39 rfl rfl rfl rfl rfl rfl rfl _) <| .w rfl trivial (q_append 8 Tryz.underlying27 Tryz.underlying27 Tryz.sizeOf39 Tryz.typeInfo39 Tryz.zeroValue39 rfl (bt := 80) rfl rfl rfl rfl (by simp) rfl rfl (by simp; omega)) <| .w rfl trivial (q_store1 Tryz.sizeOf27 rfl rfl rfl rfl (by first | (simp; done) | decide)) <| .nil ?_
            refine Run.nil (bq_norm ?_)
            refine Run.nil ?_
            exact ⟨rfl, (Le.mk (env' := []) (obs' := [(7900, _), (0, _), (1, _), (2, _), (3, _), (4, _), (5, _), (8, _)]) rfl .nil (.cons (i := 7900) rfl rfl (.cons (i := 0) rfl rfl (.cons (i := 1) rfl rfl (.cons (i := 2) rfl rfl (.cons (i := 3) rfl rfl (.cons (i := 4) rfl rfl (.cons (i := 5) rfl rfl (.cons (i := 8) rfl rfl .nil))))))))).trans <| (Le.renO 5 0 8 6 rfl rfl rfl (by simp) rfl).trans <| Le.mk rfl .nil (.cons rfl rfl (.eq rfl (by first | rfl | (simp; done) | (simp; omega)) rfl (.eq rfl (by first | rfl | (simp; done) | (simp; omega)) rfl (.eq rfl (by first | rfl | (simp; done) | (simp; omega)) rfl (.eq rfl (by first | rfl | (simp; done) | (simp; omega)) rfl (.eq rfl (by first | rfl | (simp; done) | (simp; omega)) rfl (.eq rfl (by first | rfl | (simp; done) | (simp; omega)) rfl (.eq rfl (by first | rfl | (simp; done) | (simp; omega)) rfl .nil))))))))⟩
          · skip
            subst hfin
            refine Run.nil (bq_norm ?_)
            refine Run.seq (Run.reg [.r, .w, .w] ?_)
            refine .r rfl trivial (q_load1 Tryz.isAgg27 rfl rfl rfl) <| .w rfl trivial (q_store1 Tryz.sizeOf27 rfl rfl rfl rfl (by first | (simp; done) | decide)) <| .w rfl trivial (q_store1 Tryz.sizeOf28 rfl rfl rfl rfl (by first | (simp; done) | decide)) <| .nil ?_
            refine Run.weak (Le.freezeO 3 0 6 rfl rfl rfl (by simp)) ?_
            refine Run.ret (?_)
            exact Rd.c11 Tryz.results13 Tryz.isAgg27 Tryz.isAgg28 rfl rfl rfl rfl (Sub.snap (by first | exact stepP_rows hv ph1.2 ph2 ph3 | (exfalso; omega) | (simp_all [stepP, chg]; done) | grind [stepP, chg])) (Sub.int (by first | (exfalso; omega) | (simp_all [stepP]; done) | grind [stepP]))
end Go.T
namespace Go.T
open Go Go.Proofs
set_option maxRecDepth 20000
def adjP (p : Posted) : Bool := decide (p.entry.day < p.day)
theorem adj_ok (p : Posted) : Fc Tryz.prog 66 [.agg (encPosted p)] (.b (adjP p)) := by
  refine Fc.mk' [2] Tryz.func66 rfl Tryz.ntmps66 rfl rfl rfl (fun t w => results_tmp Tryz.results66 t _ w) ?_
  refine Run.seq (Run.reg [.w, .p] ?_)
  refine .w rfl trivial (q_boxA 0 rfl rfl) <| .ag rfl rfl <| .nil ?_
  refine Run.seq (Run.reg [.p, .r, .p, .p, .r, .p, .p] ?_)
  refine .p rfl trivial (fun _ => q_fieldB (n := 0) 34 0 Tryz.underlying39 Tryz.sizeOf34 rfl rfl _) <| .r rfl trivial (q_load1 Tryz.isAgg34 rfl rfl rfl) <| .p rfl trivial (fun _ => q_fieldB (n := 2) 37 3 Tryz.underlying39 Tryz.sizeOf37 rfl rfl _) <| .p rfl trivial (fun _ => q_fieldB (n := 0) 34 0 Tryz.underlying37 Tryz.sizeOf34 rfl rfl _) <| .r rfl trivial (q_load1 Tryz.isAgg34 rfl rfl rfl) <| .p rfl trivial (fun _ => q_gtr rfl rfl _) <| .ag rfl rfl <| .nil ?_
  refine Run.ret (?_)
  exact ret1 rfl (Sub.bool (by rfl))
theorem filterF_ok (l : List Posted) : Fc Tryz.prog 65 [sPosteds l, .fn (.func 66) [] []] (.fn (.func 121) [] [.iptr [sPosteds l], .iptr [.fn (.func 66) [] []]]) := by
  refine Fc.mk' [4] Tryz.func65 rfl Tryz.ntmps65 rfl rfl rfl (fun t w => results_tmp Tryz.results65 t _ w) ?_
  refine Run.seq (Run.reg [.w, .w, .p] ?_)
  refine .w rfl trivial (q_box1 0 rfl rfl rfl) <| .w rfl trivial (q_box1 1 rfl rfl rfl) <| .ag rfl rfl <| .nil ?_
  refine Run.weak (Le.freezeB 2 0 rfl rfl rfl rfl) ?_
  refine Run.weak (Le.freezeB 3 1 rfl rfl rfl rfl) ?_
  refine Run.seq (Run.reg [.p, .p] ?_)
  refine .p rfl trivial (fun _ => q_makeFunc (xs := []) (ys := _) rfl rfl _) <| .ag rfl rfl <| .nil ?_
  refine Run.ret (?_)
  exact ret1 rfl (by exact Sub.refl _)
structure filterY_ok_L0 (l : List Posted) where
  pre : List Posted
  rest : List Posted
  acc : List Posted
  hx : l = pre ++ rest
  hacc : acc = pre.filter adjP
theorem filterY_ok (l : List Posted) (hl : l.length ≤ 1000000) : FcY (α := Posted) Tryz.prog 121 8000 [.iptr [sPosteds l], .iptr [.fn (.func 66) [] []]] [] (fun p => [.agg (encPosted p)]) (fun p => p <+: l.filter adjP) (fun p => p = l.filter adjP) := by
  refine FcY.mk' Tryz.func121 rfl Tryz.ntmps121 rfl (fun t w => results_none Tryz.results121 t _ w) (fun idL lb ids B X Y => ?_)
  refine Run.seq (Run.reg [.p, .p, .p] ?_)
  refine .p rfl trivial (fun _ => q_loadI Tryz.isAgg27 rfl _) <| .p rfl trivial (fun _ => q_lenI Tryz.underlying27 rfl _) <| .mv rfl rfl <| .nil ?_
  refine Run.block ?_
  refine Run.loop (ι := filterY_ok_L0 l) (fun sx => [(0, yv lb), (1, .iptr [sPosteds l]), (2, .iptr [.fn (.func 66) [] []]), (6, sPosteds l), (7, .i l.length), (8, .i sx.pre.length)]) (fun sx => ([] ++ B sx.acc)) (fun sx => sx.rest.length) ⟨[], l, [], rfl, rfl⟩ ?_ ?_
  · exact Le.mk (ps_ok (Y.has _) rfl) (.cons rfl (Sub.refl _) rfl (.cons rfl (Sub.refl _) rfl (.cons rfl (Sub.refl _) rfl (.cons rfl (Sub.refl _) rfl (.cons rfl (Sub.int (by first | rfl | (simp; done) | omega | (simp; omega))) rfl (.cons rfl (Sub.int (by first | rfl | (simp; done) | omega | (simp; omega))) rfl .nil)))))) (.tail (tail_ok (own := []) (own' := []) rfl (Y.free _) (Y.okb _)))
  · rintro ⟨pre, rest, acc, hx, hacc⟩
    show Run _ _ _ _ [(0, yv lb), (1, .iptr [sPosteds l]), (2, .iptr [.fn (.func 66) [] []]), (6, sPosteds l), (7, .i l.length), (8, .i pre.length)] ([] ++ B acc)
    have hl := congrArg List.length hx
    simp only [List.length_append] at hl
    rcases rest with _ | ⟨x, rest⟩
    · skip
      refine Run.seq (Run.reg [.p] ?_)
      refine .p rfl trivial (fun _ => q_lss rfl rfl _) <| .nil ?_
      refine Run.seq ?_
      refine Run.condF rfl (by simp at hl ⊢; omega) ?_
      refine Run.exit (tq_exit (bq_exit ?_))
      refine Run.nil ?_
      exact retY_fin (.inr rfl) (acc) (by rw [hacc, hx]; simp) (own_get (own := []) rfl (Y.free _))
    · simp only [List.length_cons] at hl
      refine Run.seq (Run.reg [.p] ?_)
      refine .p rfl trivial (fun _ => q_lss rfl rfl _) <| .nil ?_
      refine Run.seq ?_
      refine Run.condT rfl (by simp; omega) ?_
      refine Run.skip ?_
      refine Run.seq ?_
      refine Run.block ?_
      refine Run.seq (Run.reg [.p, .p, .w, .w] ?_)
      refine .p rfl trivial (fun _ => q_indexI Tryz.underlying27 Tryz.sizeOf39 rfl rfl (by omega) (idx_mid encPosted hx rfl) _) <| .p rfl trivial (fun _ => q_loadIA Tryz.isAgg39 Tryz.sizeOf39 rfl rfl _) <| .w rfl trivial (q_alloc 8000 Tryz.zeroValue39 (Y.free _ 8000 (by decide) (by decide))) <| .w rfl trivial (q_storeW Tryz.sizeOf39 rfl rfl rfl rfl rfl rfl) <| .nil ?_
      refine Run.seq (Run.regT ?_)
      refine Tx.q rfl trivial (q_loadI Tryz.isAgg69 rfl _) ?_
      refine Tx.q rfl trivial (q_loadW Tryz.isAgg39 Tryz.sizeOf39 rfl rfl rfl) ?_
      refine Tx.q rfl trivial (q_callF Tryz.call66 rfl rfl (adj_ok _) _) ?_
      refine Tx.q rfl trivial (q_move rfl _) ?_
      refine Tx.split (t := 15) rfl (fun h1 => ?_) (fun h1 => ?_)
      · have ph1 := h1
        try simp only [bs, bne_iff_ne, ne_eq, List.length_map] at ph1
        refine Tx.q rfl (on_of rfl rfl rfl h1) (q_move rfl _) ?_
        refine Tx.q rfl (on_of rfl rfl rfl h1) (q_loadW Tryz.isAgg39 Tryz.sizeOf39 rfl rfl rfl) ?_
        refine Tx.weak (Le.mk (obs' := [] ++ B (acc)) (ps_ok (Y.has _) rfl) (show EnvLe _ _ [(0, _), (1, _), (2, _), (6, _), (7, _), (8, _), (9, _), (10, _), (11, _), (12, _), (13, _), (14, _), (15, _), (16, _), (17, _)] from (.same rfl rfl (.same rfl rfl (.same rfl rfl (.same rfl rfl (.same rfl rfl (.same rfl rfl (.same rfl rfl (.same rfl rfl (.same rfl rfl (.same rfl rfl (.same rfl rfl (.same rfl rfl (.same rfl rfl (.same rfl rfl (.same rfl rfl .nil)))))))))))))))) (.tail (tail_ok (own := [(8000, _)]) (own' := []) rfl (Y.free _) (Y.okb _)))) ?_
        refine Tx.y Y (own := []) (pre := acc) (env' := [(0, _), (1, _), (2, _), (6, _), (7, _), (8, _), (9, _), (10, _), (11, _), (12, _), (13, _), (14, _), (15, _), (16, _), (17, _)]) x rfl rfl rfl (on_of rfl rfl rfl h1) rfl rfl rfl (⟨rest.filter adjP, by rw [hacc, hx]; simp_all⟩) rfl rfl (.cons rfl rfl (.cons rfl rfl (.cons rfl rfl (.cons rfl rfl (.cons rfl rfl (.cons rfl rfl (.cons rfl rfl (.cons rfl rfl (.cons rfl rfl (.cons rfl rfl (.cons rfl rfl (.cons rfl rfl (.cons rfl rfl (.cons rfl rfl (.cons rfl rfl .nil))))))))))))))) ?_ (fun o hX => ?_)
        · skip
          refine Tx.q rfl (on_of rfl rfl rfl h1) (q_not rfl _) ?_
          refine Tx.q rfl trivial (q_pickT rfl h1 rfl _) ?_
          refine Tx.nil ?_
          refine Run.condF rfl rfl ?_
          refine Run.skip ?_
          refine Run.nil (bq_norm ?_)
          refine Run.reg [.p, .p] ?_
          refine .p rfl trivial (fun _ => q_add rfl rfl (wrap64_ok (by omega) (by omega)) _) <| .mv rfl rfl <| .nil ?_
          refine Run.nil (tq_norm ?_)
          exact ⟨⟨pre ++ [x], rest, acc ++ [x], by simp [hx], by rw [hacc]; simp_all⟩, by simp, Le.mk (ps_ok (Y.has _) rfl) (.cons rfl (Sub.refl _) rfl (.cons rfl (Sub.refl _) rfl (.cons rfl (Sub.refl _) rfl (.cons rfl (Sub.refl _) rfl (.cons rfl (Sub.int (by first | rfl | (simp; done) | omega | (simp; omega))) rfl (.cons rfl (Sub.int (by first | rfl | (simp; done) | omega | (simp; omega))) rfl .nil)))))) (.tail (tail_ok (own := []) (own' := []) rfl (Y.free _) (Y.okb _)))⟩
        · skip
          refine Tx.q rfl (on_of rfl rfl rfl h1) (q_not rfl _) ?_
          refine Tx.q rfl trivial (q_pickT rfl h1 rfl _) ?_
          refine Tx.nil ?_
          refine Run.condT rfl rfl ?_
          refine Run.ret (bq_ret (tq_ret (bq_ret (?_))))
          exact retY_x (.inl rfl) o hX (own_get (own := []) rfl (Y.freeX _ hX))
      · have ph1 := h1
        try simp only [bs, bne_iff_ne, ne_eq, List.length_map] at ph1
        refine Tx.off rfl (off_of rfl rfl rfl h1) ?_
        refine Tx.off rfl (off_of rfl rfl rfl h1) ?_
        refine Tx.off rfl (off_of rfl rfl rfl h1) ?_
        refine Tx.off rfl (off_of rfl rfl rfl h1) ?_
        refine Tx.q rfl trivial (q_pickF rfl h1 rfl _) ?_
        refine Tx.nil ?_
        refine Run.condF rfl rfl ?_
        refine Run.skip ?_
        refine Run.nil (bq_norm ?_)
        refine Run.reg [.p, .p] ?_
        refine .p rfl trivial (fun _ => q_add rfl rfl (wrap64_ok (by omega) (by omega)) _) <| .mv rfl rfl <| .nil ?_
        refine Run.nil (tq_norm ?_)
        exact ⟨⟨pre ++ [x], rest, acc, by simp [hx], by rw [hacc]; simp_all⟩, by simp, Le.mk (ps_ok (Y.has _) rfl) (.cons rfl (Sub.refl _) rfl (.cons rfl (Sub.refl _) rfl (.cons rfl (Sub.refl _) rfl (.cons rfl (Sub.refl _) rfl (.cons rfl (Sub.int (by first | rfl | (simp; done) | omega | (simp; omega))) rfl (.cons rfl (Sub.int (by first | rfl | (simp; done) | omega | (simp; omega))) rfl .nil)))))) (.tail (tail_ok (own := [(8000, _)]) (own' := []) rfl (Y.free _) (Y.okb _)))⟩
end Go.T
namespace Go.T
open Go Go.Proofs
set_option maxRecDepth 20000
theorem appendSeq_ok (l : List Posted) (hl : l.length ≤ 1000000) : Fc Tryz.prog 120 [.raw (.slice none 0 0), .fn (.func 121) [] [.iptr [sPosteds l], .iptr [.fn (.func 66) [] []]]] (sPosteds (l.filter adjP)) := by
  refine Fc.mk' [4] Tryz.func120 rfl Tryz.ntmps120 rfl rfl rfl (fun t w => results_tmp Tryz.results120 t _ w) ?_
  refine Run.seq (Run.reg [.w, .p] ?_)
  refine .w rfl trivial (q_box1 0 rfl rfl rfl) <| .ag rfl rfl <| .nil ?_
  refine Run.seq (Run.seq (Run.reg [.p] ?_))
  refine .mv rfl rfl <| .nil ?_
  refine Run.block ?_
  refine Run.rangeF (α := Posted) 7900 [0] [(0, _), (1, _), (2, _), (4, _), (6, _)] (fun (pre : List (Posted)) => [(0, .cells [.gs 1 pre.length]), (1, .arr 6 (pre.map encPosted))]) (fun _ _ => False) rfl Tryz.call121 (filterY_ok l hl) (env1 := [(0, _), (1, _), (2, _), (4, _), (6, _)]) ((Le.own0 1 6).trans <| (Le.subO 0 0 rfl rfl (Sub.gsNil 1)).trans <| Le.mk (obs' := [] ++ (fun (pre : List (Posted)) => [(0, .cells [.gs 1 pre.length]), (1, .arr 6 (pre.map encPosted))]) []) rfl (show EnvLe _ _ [(0, _), (1, _), (2, _), (4, _), (6, _)] from (.same rfl rfl (.same rfl rfl (.same rfl rfl (.same rfl rfl (.same rfl rfl .nil)))))) (.eq rfl (by first | rfl | (simp; done)) rfl (.eq rfl (by first | rfl | (simp; done)) rfl .nil))) rfl rfl (fun _ => rfl) (.cons rfl rfl (.cons rfl rfl (.cons rfl rfl (.cons rfl rfl (.cons rfl rfl .nil))))) rfl (fun _ => rfl) (by rintro j o h; exact h.elim) (fun _ => Obs.okB_get rfl) (by rintro j o h; exact h.elim) (fun _ => freeB_get rfl) (by rintro j o h; exact h.elim) (by decide) rfl (fun pre x hok => ?_) (fun xs hfin => ?_) (fun _ _ h => h.elim)
  · skip
    have hpl := hok.length_le
    have hfl := List.length_filter_le adjP l
    simp only [List.length_append, List.length_singleton] at hpl
    refine Run.reg [.w, .w] ?_
    refine .w rfl trivial (q_alloc 2 Tryz.zeroValue39 rfl) <| .w rfl trivial (q_storeW Tryz.sizeOf39 rfl rfl rfl rfl rfl rfl) <| .nil ?_
    refine Run.nil ⟨rfl, ?_⟩
    refine Run.block ?_
    refine Run.reg [.r, .r, .p, .w, .w] ?_
    refine .r rfl trivial (q_load1 Tryz.isAgg27 rfl rfl rfl) <| .r rfl trivial (q_loadW Tryz.isAgg39 Tryz.sizeOf39 rfl rfl rfl) <| .p rfl trivial (fun _ => q_buildSlice' (n := 1) (rows := [encPosted x]) Tryz.underlying27 Tryz.sizeOf39 rfl rfl rfl Tryz.zeroValue39 rfl rfl rfl rfl rfl rfl rfl _) <| .w rfl trivial (q_append 3 Tryz.underlying27 Tryz.underlying27 Tryz.sizeOf39 Tryz.typeInfo39 Tryz.zeroValue39 rfl (bt := 80) rfl rfl rfl rfl (by simp) rfl rfl (by simp; omega)) <| .w rfl trivial (q_store1 Tryz.sizeOf27 rfl rfl rfl rfl (by first | (simp; done) | decide)) <| .nil ?_
    refine Run.nil (bq_norm ?_)
    refine Run.nil ?_
    exact ⟨rfl, (Le.mk (env' := []) (obs' := [(7900, _), (0, _), (3, _)]) rfl .nil (.cons (i := 7900) rfl rfl (.cons (i := 0) rfl rfl (.cons (i := 3) rfl rfl .nil)))).trans <| (Le.renO 0 0 3 1 rfl rfl rfl (by simp) rfl).trans <| Le.mk rfl .nil (.cons rfl rfl (.eq rfl (by first | rfl | (simp; done) | (simp; omega)) rfl (.eq rfl (by first | rfl | (simp; done) | (simp; omega)) rfl .nil)))⟩
  · skip
    subst hfin
    refine Run.nil (bq_norm ?_)
    refine Run.seq (Run.reg [.r, .p] ?_)
    refine .r rfl trivial (q_load1 Tryz.isAgg27 rfl rfl rfl) <| .ag rfl rfl <| .nil ?_
    refine Run.weak (Le.freeze 4 1 rfl rfl (by simp)) ?_
    refine Run.ret (?_)
    exact ret1 rfl (Sub.snap (by rfl))
theorem collect_ok (l : List Posted) (hl : l.length ≤ 1000000) : Fc Tryz.prog 64 [.fn (.func 121) [] [.iptr [sPosteds l], .iptr [.fn (.func 66) [] []]]] (sPosteds (l.filter adjP)) := by
  refine Fc.mk' [2] Tryz.func64 rfl Tryz.ntmps64 rfl rfl rfl (fun t w => results_tmp Tryz.results64 t _ w) ?_
  refine Run.seq (Run.reg [.p] ?_)
  refine .ag rfl rfl <| .nil ?_
  refine Run.seq (Run.reg [.p, .p, .p] ?_)
  refine .mv rfl rfl <| .p rfl trivial (fun _ => q_call Tryz.call120 rfl (appendSeq_ok _ (by first | assumption | omega | (simp at *; omega))) _) <| .ag rfl rfl <| .nil ?_
  refine Run.ret (?_)
  exact ret1 rfl (Sub.snap (by rfl))
theorem adjusting_ok (l : List Posted) (hl : l.length ≤ 1000000) : Fc Tryz.prog 19 [sPosteds l] (sPosteds (l.filter adjP)) := by
  refine Fc.mk' [2] Tryz.func19 rfl Tryz.ntmps19 rfl rfl rfl (fun t w => results_tmp Tryz.results19 t _ w) ?_
  refine Run.seq (Run.reg [.p] ?_)
  refine .ag rfl rfl <| .nil ?_
  refine Run.seq (Run.reg [.p, .p, .p, .p] ?_)
  refine .mv rfl rfl <| .p rfl trivial (fun _ => q_call Tryz.call65 rfl (filterF_ok _) _) <| .p rfl trivial (fun _ => q_call Tryz.call64 rfl (collect_ok _ (by first | assumption | omega | (simp at *; omega))) _) <| .ag rfl rfl <| .nil ?_
  refine Run.ret (?_)
  exact ret1 rfl (Sub.snap (by rfl))
end Go.T
namespace Go.T
open Go Go.Proofs
set_option maxRecDepth 20000
def purch (s : Str) : Entry := ⟨19732, [98, 49], [⟨[49, 46, 99, 97, 115, 104], [85, 83, 68], negS s⟩, ⟨[49, 46, 115, 101, 99, 117, 114, 105, 116, 105, 101, 115, 46, 97, 98, 99], [85, 83, 68], s⟩]⟩
theorem purchase_ok (s : Str) (hs : s.length ≤ 9000) : Fc Tryz.prog 42 [.str s] (.agg (encEntry (purch s))) := by
  refine Fc.mkR Tryz.func42 rfl Tryz.ntmps42 rfl rfl rfl ?_
  refine Run.seq (Run.reg [.w] ?_)
  refine .w rfl trivial (q_alloc 0 Tryz.zeroValue37 rfl) <| .nil ?_
  refine Run.seq (Run.reg [.p, .p, .p, .p, .p, .p, .p, .w] ?_)
  refine .mv rfl rfl <| .p rfl trivial (fun _ => q_call Tryz.call75 rfl (neg2_ok _ hs) _) <| .p rfl trivial (fun _ => q_build (pl := #[(0, 1), (1, 1), (2, 1)]) Tryz.underlying92 Tryz.zeroValue92 (fun w => by kernel_rfl) rfl rfl _) <| .mv rfl rfl <| .p rfl trivial (fun _ => q_build (pl := #[(0, 1), (1, 1), (2, 1)]) Tryz.underlying92 Tryz.zeroValue92 (fun w => by kernel_rfl) rfl rfl _) <| .p rfl trivial (fun _ => q_buildSlice' (n := 2) (rows := (purch s).lines.map encLine) Tryz.underlying35 Tryz.sizeOf92 rfl rfl rfl Tryz.zeroValue92 rfl rfl rfl rfl rfl rfl rfl _) <| .p rfl trivial (fun _ => q_build (pl := #[(0, 1), (1, 1), (2, 1)]) Tryz.underlying37 Tryz.zeroValue37 (fun w => by kernel_rfl) rfl rfl _) <| .w rfl trivial (q_storeW Tryz.sizeOf37 rfl rfl rfl rfl rfl rfl) <| .nil ?_
  refine Run.ret (?_)
  exact Rd.cA Tryz.results42 Tryz.isAgg37 Tryz.sizeOf37 rfl rfl rfl (Sub.agg (.cons (Sub.int (by rfl)) (.cons (Sub.str (by rfl)) (.cons (Sub.snap (by rfl)) .nil))))
end Go.T
namespace Go.T
open Go Go.Proofs
set_option maxRecDepth 20000
theorem step_ok (a b : List Entry) (l : List Close) (known : Int) (by_ : Str) (hal : a.length ≤ 12) (hbl : b.length ≤ 12) (has : ∀ e ∈ a, smallE e) (hbs : ∀ e ∈ b, smallE e) :
    Fc Tryz.prog 13 [sEntries a, sEntries b, sCloses l, .i known, .str by_] (.tup [sPosteds (stepP a b l known by_).1, .i (stepP a b l known by_).2]) := by
  cases hv : validE (a ++ b) with
  | true => exact stepGood_ok a b l known by_ hal hbl has hbs hv
  | false => exact stepBad_ok a b l known by_ hal hbl has hbs hv
def awA : List Entry := [purch [49, 48, 48, 48]]
def awB : List Entry := [purch [57, 57, 48]]
def awC : List Close := [⟨19753, 5⟩]
def awP : List Posted := [⟨19754, 6, [98, 49], purch [45, 49, 48, 48, 48]⟩, ⟨19754, 6, [98, 49], purch [57, 57, 48]⟩]
def awQ : List Posted := [⟨19732, 5, [98, 49], purch [45, 49, 48, 48, 48]⟩, ⟨19732, 5, [98, 49], purch [57, 57, 48]⟩]
theorem aw1 : stepP awA awB awC 6 [98, 49] = (awP, 0) := by decide +kernel
theorem aw2 : stepP awA awB awC 5 [98, 49] = (awQ, 0) := by decide +kernel
theorem Fc.sub {P : Program} {f : FuncId} {xs xs' : List D} {r r' : D} (h : Fc P f xs r) (hs : Subs xs' xs) (hr : Sub r r') : Fc P f xs' r' := ⟨fun w O ρ vals h1 h2 h3 => by
  refine (h.out w O ρ vals h1 h2 (hs.out w O ρ vals h3)).mono ?_
  rintro e w' ⟨v, rfl, hv, hk⟩
  exact ⟨v, rfl, hr.out _ _ _ _ hv, hk⟩⟩
theorem smallP (s : Str) (h : s.length ≤ 12) : smallE (purch s) := by
  refine ⟨by simp [purch], by simp [purch], fun l hl => ?_⟩
  simp only [purch, List.mem_cons, List.not_mem_nil, or_false] at hl
  rcases hl with rfl | rfl
  · refine ⟨by simp, by simp, ?_⟩
    have := digits_len s
    simp only [negS]
    split
    · omega
    · simp; omega
  · exact ⟨by simp, by simp, by simp; omega⟩
theorem stepAw1 : Fc Tryz.prog 13 [.snap 3 true (awA.map encEntry), .snap 3 true (awB.map encEntry), .snap 2 true (awC.map encClose), .i 6, .str [98, 49]] (.tup [sPosteds awP, .i 0]) := by
  have h := step_ok awA awB awC 6 [98, 49] (by decide) (by decide) (by intro e he; simp only [awA, List.mem_singleton] at he; subst he; exact smallP _ (by decide)) (by intro e he; simp only [awB, List.mem_singleton] at he; subst he; exact smallP _ (by decide))
  rw [aw1] at h
  exact Fc.sub h (.cons (.unfull ..) (.cons (.unfull ..) (.cons (.unfull ..) (.cons (.refl _) (.cons (.refl _) .nil))))) (.refl _)
theorem stepAw2 : Fc Tryz.prog 13 [.snap 3 true (awA.map encEntry), .snap 3 true (awB.map encEntry), .snap 2 true (awC.map encClose), .i 5, .str [98, 49]] (.tup [sPosteds awQ, .i 0]) := by
  have h := step_ok awA awB awC 5 [98, 49] (by decide) (by decide) (by intro e he; simp only [awA, List.mem_singleton] at he; subst he; exact smallP _ (by decide)) (by intro e he; simp only [awB, List.mem_singleton] at he; subst he; exact smallP _ (by decide))
  rw [aw2] at h
  exact Fc.sub h (.cons (.unfull ..) (.cons (.unfull ..) (.cons (.unfull ..) (.cons (.refl _) (.cons (.refl _) .nil))))) (.refl _)
end Go.T
namespace Go.T
open Go Go.Proofs
set_option maxRecDepth 20000
theorem same50T_ok (a b : List Posted) : Fc Tryz.prog 15 [sPosteds a, .snap 6 true (b.map encPosted)] (.b (decide (a = b))) := Fc.sub (same50_ok a b) (.cons (.refl _) (.cons (.unfull ..) .nil)) (.refl _)
theorem awake_ok  : Fc Tryz.prog 12 [] (.b true) := by
  refine Fc.mk' [0] Tryz.func12 rfl Tryz.ntmps12 rfl rfl rfl (fun t w => results_tmp Tryz.results12 t _ w) ?_
  refine Run.seq (Run.reg [.p] ?_)
  refine .ag rfl rfl <| .nil ?_
  refine Run.seq (Run.reg [.p, .p, .p, .p, .p, .p] ?_)
  refine .p rfl trivial (fun _ => q_call Tryz.call42 rfl (purchase_ok [49, 48, 48, 48] (by decide)) _) <| .p rfl trivial (fun _ => q_buildSlice' (n := 1) (rows := awA.map encEntry) Tryz.underlying22 Tryz.sizeOf37 rfl rfl rfl Tryz.zeroValue37 rfl rfl rfl rfl rfl rfl rfl _) <| .p rfl trivial (fun _ => q_call Tryz.call42 rfl (purchase_ok [57, 57, 48] (by decide)) _) <| .p rfl trivial (fun _ => q_buildSlice' (n := 1) (rows := awB.map encEntry) Tryz.underlying22 Tryz.sizeOf37 rfl rfl rfl Tryz.zeroValue37 rfl rfl rfl rfl rfl rfl rfl _) <| .ag rfl rfl <| .ag rfl rfl <| .nil ?_
  refine Run.seq (Run.reg [.p, .p, .p] ?_)
  refine .p rfl trivial (fun _ => q_build (pl := #[(0, 1), (1, 1)]) Tryz.underlying76 Tryz.zeroValue76 (fun w => by kernel_rfl) rfl rfl _) <| .p rfl trivial (fun _ => q_buildSlice' (n := 1) (rows := awC.map encClose) Tryz.underlying23 Tryz.sizeOf76 rfl rfl rfl Tryz.zeroValue76 rfl rfl rfl rfl rfl rfl rfl _) <| .ag rfl rfl <| .nil ?_
  refine Run.seq (Run.reg [.p, .p, .p, .p, .p, .p, .p, .p, .p] ?_)
  refine .mv rfl rfl <| .mv rfl rfl <| .mv rfl rfl <| .p rfl trivial (fun _ => q_call Tryz.call13 rfl stepAw1 _) <| .mv rfl rfl <| .p rfl trivial (fun _ => q_extract rfl rfl _) <| .p rfl trivial (fun _ => q_extract rfl rfl _) <| .ag rfl rfl <| .ag rfl rfl <| .nil ?_
  refine Run.seq (Run.reg [.p, .p, .p, .p, .p, .p, .p, .p, .p] ?_)
  refine .mv rfl rfl <| .mv rfl rfl <| .mv rfl rfl <| .p rfl trivial (fun _ => q_call Tryz.call13 rfl stepAw2 _) <| .mv rfl rfl <| .p rfl trivial (fun _ => q_extract rfl rfl _) <| .p rfl trivial (fun _ => q_extract rfl rfl _) <| .ag rfl rfl <| .ag rfl rfl <| .nil ?_
  refine Run.seq (Run.reg [.p, .p, .p, .p, .p, .p] ?_)
  refine .p rfl trivial (fun _ => q_call Tryz.call42 rfl (purchase_ok [45, 49, 48, 48, 48] (by decide)) _) <| .p rfl trivial (fun _ => q_build (pl := #[(0, 1), (1, 1), (2, 1), (3, 3)]) Tryz.underlying39 Tryz.zeroValue39 (fun w => by kernel_rfl) rfl rfl _) <| .p rfl trivial (fun _ => q_call Tryz.call42 rfl (purchase_ok [57, 57, 48] (by decide)) _) <| .p rfl trivial (fun _ => q_build (pl := #[(0, 1), (1, 1), (2, 1), (3, 3)]) Tryz.underlying39 Tryz.zeroValue39 (fun w => by kernel_rfl) rfl rfl _) <| .p rfl trivial (fun _ => q_buildSlice' (n := 2) (rows := awP.map encPosted) Tryz.underlying27 Tryz.sizeOf39 rfl rfl rfl Tryz.zeroValue39 rfl rfl rfl rfl rfl rfl rfl _) <| .ag rfl rfl <| .nil ?_
  refine Run.seq (Run.reg [.p, .p, .p, .p, .p, .p, .p, .p, .p, .p, .p, .p, .p, .p, .p, .p, .p, .p, .p, .p, .p, .p, .p, .p, .p, .p, .p, .p, .p, .p, .p, .p, .p, .p, .p, .p] ?_)
  refine .mv rfl rfl <| .p rfl trivial (fun _ => q_eql rfl rfl _) <| .mv rfl rfl <| .gT rfl (.inl rfl) rfl rfl rfl (fun hg => pk (fun _ => q_move rfl _)) <| .gT rfl (.inl rfl) rfl rfl rfl (fun hg => pk (fun _ => q_eql (opT rfl hg) rfl _)) <| .p rfl trivial (fun _ => q_and rfl rfl _) <| .mv rfl rfl <| .gT rfl (.inl rfl) rfl rfl rfl (fun hg => pk (fun _ => q_move rfl _)) <| .gT rfl (.inl rfl) rfl rfl rfl (fun hg => pk (fun _ => q_move rfl _)) <| .gT rfl (.inl rfl) rfl rfl rfl (fun hg => pk (fun _ => q_call Tryz.call15 (opsC (opT rfl hg) (opsC (opT rfl hg) (rfl))) (same50T_ok awP awP) _)) <| .p rfl trivial (fun _ => q_and rfl rfl _) <| .mv rfl rfl <| .gT rfl (.inl rfl) rfl rfl rfl (fun hg => pk (fun _ => q_move rfl _)) <| .gT rfl (.inl rfl) rfl rfl rfl (fun hg => pk (fun _ => q_call Tryz.call19 (opsC (opT rfl hg) (rfl)) (adjusting_ok awP (by decide)) _)) <| .gT rfl (.inl rfl) rfl rfl rfl (fun hg => pk (fun _ => q_lenI Tryz.underlying27 (opT rfl hg) _)) <| .gT rfl (.inl rfl) rfl rfl rfl (fun hg => pk (fun _ => q_eql (opT rfl hg) rfl _)) <| .p rfl trivial (fun _ => q_and rfl rfl _) <| .mv rfl rfl <| .gT rfl (.inl rfl) rfl rfl rfl (fun hg => pk (fun _ => q_move rfl _)) <| .gT rfl (.inl rfl) rfl rfl rfl (fun hg => pk (fun _ => q_lenI Tryz.underlying27 (opT rfl hg) _)) <| .gT rfl (.inl rfl) rfl rfl rfl (fun hg => pk (fun _ => q_eql (opT rfl hg) rfl _)) <| .p rfl trivial (fun _ => q_and rfl rfl _) <| .mv rfl rfl <| .gT rfl (.inl rfl) rfl rfl rfl (fun hg => pk (fun _ => q_move rfl _)) ?_
  refine .gT rfl (.inl rfl) rfl rfl rfl (fun hg => pk (fun _ => q_indexI Tryz.underlying27 Tryz.sizeOf39 (opT rfl hg) rfl (by decide) rfl _)) <| .gT rfl (.inl rfl) rfl rfl rfl (fun hg => pk (fun _ => q_fieldI (n := 0) 34 0 Tryz.underlying39 Tryz.sizeOf34 rfl (opT rfl hg) rfl _)) <| .gT rfl (.inl rfl) rfl rfl rfl (fun hg => pk (fun _ => q_loadI Tryz.isAgg34 (opT rfl hg) _)) <| .gT rfl (.inl rfl) rfl rfl rfl (fun hg => pk (fun _ => q_eql (opT rfl hg) rfl _)) <| .p rfl trivial (fun _ => q_and rfl rfl _) <| .mv rfl rfl <| .gT rfl (.inl rfl) rfl rfl rfl (fun hg => pk (fun _ => q_move rfl _)) <| .gT rfl (.inl rfl) rfl rfl rfl (fun hg => pk (fun _ => q_call Tryz.call19 (opsC (opT rfl hg) (rfl)) (adjusting_ok awQ (by decide)) _)) <| .gT rfl (.inl rfl) rfl rfl rfl (fun hg => pk (fun _ => q_lenI Tryz.underlying27 (opT rfl hg) _)) <| .gT rfl (.inl rfl) rfl rfl rfl (fun hg => pk (fun _ => q_eql (opT rfl hg) rfl _)) <| .p rfl trivial (fun _ => q_and rfl rfl _) <| .ag rfl rfl <| .nil ?_
  refine Run.ret (?_)
  exact ret1 rfl (Sub.bool (by decide +kernel))
end Go.T
namespace Go.T
open Go Go.Proofs
set_option maxRecDepth 20000
theorem law_ok (a b : List Entry) (l : List Close) (known : Int) (by_ : Str) (hp : great a = false → great b = false → great49 l = false → by_.length ≤ 60 → a.length ≤ 12 ∧ b.length ≤ 12 ∧ (∀ e ∈ a, smallE e) ∧ (∀ e ∈ b, smallE e) ∧ stepP a b l known by_ = refStep a b l known by_) : Fc Tryz.prog 3 [sEntries a, sEntries b, sCloses l, .i known, .str by_] (.b true) := by
  refine Fc.mk' [10] Tryz.func3 rfl Tryz.ntmps3 rfl rfl rfl (fun t w => results_tmp Tryz.results3 t _ w) ?_
  refine Run.seq (Run.reg [.p] ?_)
  refine .ag rfl rfl <| .nil ?_
  refine Run.seq (Run.seq (Run.reg [.p, .p, .p, .p, .p, .p, .p, .p, .p, .p, .p, .p, .p, .p, .p] ?_))
  refine .mv rfl rfl <| .p rfl trivial (fun _ => q_call Tryz.call10 rfl (great35_ok _) _) <| .mv rfl rfl <| .gF rfl (.inl rfl) rfl rfl rfl (fun hg => pk (fun _ => q_move rfl _)) <| .gF rfl (.inl rfl) rfl rfl rfl (fun hg => pk (fun _ => q_call Tryz.call10 (opsC (opT rfl (nt hg)) (rfl)) (great35_ok _) _)) <| .p rfl trivial (fun _ => q_or rfl rfl _) <| .mv rfl rfl <| .gF rfl (.inl rfl) rfl rfl rfl (fun hg => pk (fun _ => q_move rfl _)) <| .gF rfl (.inl rfl) rfl rfl rfl (fun hg => pk (fun _ => q_call Tryz.call11 (opsC (opT rfl (nt hg)) (rfl)) (great49_ok _) _)) <| .p rfl trivial (fun _ => q_or rfl rfl _) <| .mv rfl rfl <| .gF rfl (.inl rfl) rfl rfl rfl (fun hg => pk (fun _ => q_move rfl _)) <| .gF rfl (.inl rfl) rfl rfl rfl (fun hg => pk (fun _ => q_lenS Tryz.underlying9 (opT rfl (nt hg)) _)) <| .gF rfl (.inl rfl) rfl rfl rfl (fun hg => pk (fun _ => q_gtr (opT rfl (nt hg)) rfl _)) <| .p rfl trivial (fun _ => q_or rfl rfl _) <| .nil ?_
  refine Run.cond rfl (fun h1 => ?_) (fun h1 => ?_)
  · have ph1 := h1
    try simp only [bs, bne_iff_ne, ne_eq, List.length_map] at ph1
    refine Run.seq (Run.reg [.p, .p] ?_)
    refine .p rfl trivial (fun _ => q_call Tryz.call12 rfl awake_ok _) <| .ag rfl rfl <| .nil ?_
    refine Run.ret (?_)
    exact ret1 rfl (Sub.bool (by first | rfl | simp [hq.2.2.2.2]))
  · have ph1 := h1
    try simp only [bs, bne_iff_ne, ne_eq, List.length_map] at ph1
    have hq := hp (by simp_all) (by simp_all) (by simp_all) (by omega)
    refine Run.skip ?_
    refine Run.seq (Run.reg [.p, .p, .p, .p, .p, .p, .p, .p, .p, .p, .p] ?_)
    refine .mv rfl rfl <| .mv rfl rfl <| .mv rfl rfl <| .mv rfl rfl <| .mv rfl rfl <| .p rfl trivial (fun _ => q_call Tryz.call13 rfl (step_ok a b l known by_ hq.1 hq.2.1 hq.2.2.1 hq.2.2.2.1) _) <| .mv rfl rfl <| .p rfl trivial (fun _ => q_extract rfl rfl _) <| .p rfl trivial (fun _ => q_extract rfl rfl _) <| .ag rfl rfl <| .ag rfl rfl <| .nil ?_
    refine Run.seq (Run.reg [.p, .p, .p, .p, .p, .p, .p, .p, .p, .p, .p] ?_)
    refine .mv rfl rfl <| .mv rfl rfl <| .mv rfl rfl <| .mv rfl rfl <| .mv rfl rfl <| .p rfl trivial (fun _ => q_call Tryz.call14 rfl (step50_ok a b l known by_ (by omega) (by omega) hq.2.2.1 hq.2.2.2.1) _) <| .mv rfl rfl <| .p rfl trivial (fun _ => q_extract rfl rfl _) <| .p rfl trivial (fun _ => q_extract rfl rfl _) <| .ag rfl rfl <| .ag rfl rfl <| .nil ?_
    refine Run.seq (Run.reg [.p, .p, .p, .p, .p, .p, .p, .p, .p, .p, .p, .p] ?_)
    refine .mv rfl rfl <| .mv rfl rfl <| .p rfl trivial (fun _ => q_call Tryz.call15 rfl (same50_ok _ _) _) <| .mv rfl rfl <| .gT rfl (.inl rfl) rfl rfl rfl (fun hg => pk (fun _ => q_move rfl _)) <| .gT rfl (.inl rfl) rfl rfl rfl (fun hg => pk (fun _ => q_move rfl _)) <| .gT rfl (.inl rfl) rfl rfl rfl (fun hg => pk (fun _ => q_eql (opT rfl hg) (opT rfl hg) _)) <| .p rfl trivial (fun _ => q_and rfl rfl _) <| .mv rfl rfl <| .gT rfl (.inl rfl) rfl rfl rfl (fun hg => pk (fun _ => q_call Tryz.call12 rfl awake_ok _)) <| .p rfl trivial (fun _ => q_and rfl rfl _) <| .ag rfl rfl <| .nil ?_
    refine Run.ret (?_)
    exact ret1 rfl (Sub.bool (by first | rfl | simp [hq.2.2.2.2]))
end Go.T
namespace Go.T
open Go
theorem great_small {l : List Entry} (h : great l = false) : l.length ≤ 10 ∧ ∀ e ∈ l, smallE e := by
  unfold great at h
  rw [Bool.or_eq_false_iff] at h
  refine ⟨by simpa using h.1, fun e he => ?_⟩
  have h2 := List.any_eq_false.1 h.2 e he
  simp only [greatOne, Bool.or_eq_true, not_or, decide_eq_true_eq, List.any_eq_true, not_exists] at h2
  refine ⟨by omega, by omega, fun x hx => ?_⟩
  have h3 := h2.2 x
  simp only [greatLine, Bool.or_eq_true, decide_eq_true_eq, not_and, not_or] at h3
  have := h3 hx
  exact ⟨by omega, by omega, by omega⟩
end Go.T
