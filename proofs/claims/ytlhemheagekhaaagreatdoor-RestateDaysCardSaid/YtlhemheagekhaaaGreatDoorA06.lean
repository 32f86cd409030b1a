/-
  Contracts of the functions that the statement reaches, and the logic in which they are proved (no condition): parts W5, W6, W7, W8, W9.
-/
import Derived.Test.YtlhemheagekhaaaGreatDoorA05
set_option linter.all false
namespace Go.T
open Go Go.Proofs
set_option maxRecDepth 20000
structure short01_ok_L0 (s : Str) (hs : (digits s).1.length ≤ 17) where
  pre : List UInt8
  rest : List UInt8
  hx : (digits s).1 = pre ++ rest
theorem short01_ok (s : Str) (hs : (digits s).1.length ≤ 17) : Fc Tryz.prog 143 [.str s] (.tup [.i (val s), .b true]) := by
  refine Fc.mk' [2, 3] Tryz.func143 rfl Tryz.ntmps143 rfl rfl rfl (fun t w => results_tmp2 Tryz.results143 t _ w) ?_
  refine Run.bStr 0 rfl (fun hb => ?_)
  simp only [big] at hb
  have hdg := digits_dig s
  refine Run.seq (Run.reg [.p, .p] ?_)
  refine .ag rfl rfl <| .ag rfl rfl <| .nil ?_
  refine Run.seq (Run.reg [.p, .p, .p, .p, .p, .p, .p] ?_)
  refine .mv rfl rfl <| .p rfl trivial (fun _ => q_call Tryz.call189 rfl (digits01_ok _) _) <| .mv rfl rfl <| .p rfl trivial (fun _ => q_extract rfl rfl _) <| .p rfl trivial (fun _ => q_extract rfl rfl _) <| .ag rfl rfl <| .ag rfl rfl <| .nil ?_
  refine Run.seq (Run.seq (Run.reg [.p, .p, .p] ?_))
  refine .mv rfl rfl <| .p rfl trivial (fun _ => q_lenS Tryz.underlying9 rfl _) <| .p rfl trivial (fun _ => q_gtr rfl rfl _) <| .nil ?_
  refine Run.cond rfl (fun h1 => ?_) (fun h1 => ?_)
  · have ph1 := h1
    try simp only [bs, bne_iff_ne, ne_eq, List.length_map] at ph1
    refine Run.seq (Run.reg [.p, .p] ?_)
    refine .ag rfl rfl <| .ag rfl rfl <| .nil ?_
    refine Run.ret (?_)
    exact ret2 rfl rfl (Sub.int (by first | omega | (simp only [val, List.append_nil] at *; simp [*]))) (Sub.bool (by grind))
  · have ph1 := h1
    try simp only [bs, bne_iff_ne, ne_eq, List.length_map] at ph1
    refine Run.skip ?_
    refine Run.seq (Run.reg [.p] ?_)
    refine .ag rfl rfl <| .nil ?_
    refine Run.seq (Run.seq (Run.reg [.p] ?_))
    refine .ag rfl rfl <| .nil ?_
    refine Run.block ?_
    refine Run.loop (ι := short01_ok_L0 s hs) (fun sx => [(4, .str (digits s).1), (5, .b (digits s).2), (6, .i (natVal sx.pre)), (7, .i sx.pre.length)]) (fun sx => []) (fun sx => sx.rest.length) ⟨[], (digits s).1, rfl⟩ ?_ ?_
    · exact Le.mk rfl (.cons rfl (Sub.str (by first | rfl | (simp; done) | omega | (simp; omega))) rfl (.cons rfl (Sub.bool (by first | rfl | (simp; done) | omega | (simp; omega))) rfl (.cons rfl (Sub.int (by first | rfl | (rw [natVal_snoc]; omega))) rfl (.cons rfl (Sub.int (by first | rfl | (simp; done) | omega | (simp; omega))) rfl .nil)))) .nil
    · rintro ⟨pre, rest, hx⟩
      show Run _ _ _ _ [(4, .str (digits s).1), (5, .b (digits s).2), (6, .i (natVal pre)), (7, .i pre.length)] []
      have hl := congrArg List.length hx
      simp only [List.length_append] at hl
      rw [hx, List.all_append, Bool.and_eq_true] at hdg
      have hv := natVal_small hdg.1 (by omega)
      rcases rest with _ | ⟨x, rest⟩
      · skip
        refine Run.seq (Run.seq (Run.reg [.p, .p, .p, .p] ?_))
        refine .mv rfl rfl <| .mv rfl rfl <| .p rfl trivial (fun _ => q_lenS Tryz.underlying9 rfl _) <| .p rfl trivial (fun _ => q_lss rfl rfl _) <| .nil ?_
        refine Run.condF rfl (by simp at hl ⊢; omega) ?_
        refine Run.exit (tq_exit (bq_exit ?_))
        refine Run.seq (Run.seq (Run.reg [.p] ?_))
        refine .mv rfl rfl <| .nil ?_
        refine Run.cond rfl (fun h2 => ?_) (fun h2 => ?_)
        · have ph2 := h2
          try simp only [bs, bne_iff_ne, ne_eq, List.length_map] at ph2
          refine Run.reg [.p, .p, .p] ?_
          refine .mv rfl rfl <| .p rfl trivial (fun _ => q_neg rfl (wrap64_ok (by omega) (by omega)) _) <| .ag rfl rfl <| .nil ?_
          refine Run.seq (Run.reg [.p, .p, .p] ?_)
          refine .mv rfl rfl <| .ag rfl rfl <| .ag rfl rfl <| .nil ?_
          refine Run.ret (?_)
          exact ret2 rfl rfl (Sub.int (by first | omega | (simp only [val, List.append_nil] at *; simp [*]))) (Sub.bool (by grind))
        · have ph2 := h2
          try simp only [bs, bne_iff_ne, ne_eq, List.length_map] at ph2
          refine Run.skip ?_
          refine Run.seq (Run.reg [.p, .p, .p] ?_)
          refine .mv rfl rfl <| .ag rfl rfl <| .ag rfl rfl <| .nil ?_
          refine Run.ret (?_)
          exact ret2 rfl rfl (Sub.int (by first | omega | (simp only [val, List.append_nil] at *; simp [*]))) (Sub.bool (by grind))
      · simp only [List.length_cons] at hl
        have hq := hdg.2
        simp only [List.all_cons, Bool.and_eq_true, isDig, decide_eq_true_eq] at hq
        have hv16 := natVal_lt pre hdg.1
        have hp16 : 10 ^ pre.length ≤ 10 ^ 16 := Nat.pow_le_pow_right (by omega) (by omega)
        refine Run.seq (Run.seq (Run.reg [.p, .p, .p, .p] ?_))
        refine .mv rfl rfl <| .mv rfl rfl <| .p rfl trivial (fun _ => q_lenS Tryz.underlying9 rfl _) <| .p rfl trivial (fun _ => q_lss rfl rfl _) <| .nil ?_
        refine Run.condT rfl (by simp; omega) ?_
        refine Run.skip ?_
        refine Run.seq ?_
        refine Run.block ?_
        refine Run.reg [.p, .p, .p, .p, .p, .p, .p, .p, .p] ?_
        refine .mv rfl rfl <| .p rfl trivial (fun _ => q_mul rfl rfl (wrap64_ok (by omega) (by omega)) _) <| .mv rfl rfl <| .mv rfl rfl <| .p rfl trivial (fun _ => q_indexS Tryz.underlying9 rfl rfl (by omega) (idx_midS hx rfl) _) <| .p rfl trivial (fun _ => q_sub rfl rfl (wrapu8_ok (by omega) (by omega)) _) <| .p rfl trivial (fun _ => q_conv Tryz.underlying5 Tryz.underlying3 rfl (wrap64_ok (by omega) (by omega)) _) <| .p rfl trivial (fun _ => q_add rfl rfl (wrap64_ok (by omega) (by omega)) _) <| .ag rfl rfl <| .nil ?_
        refine Run.nil (bq_norm ?_)
        refine Run.reg [.p, .p, .p] ?_
        refine .mv rfl rfl <| .p rfl trivial (fun _ => q_add rfl rfl (wrap64_ok (by omega) (by omega)) _) <| .ag rfl rfl <| .nil ?_
        refine Run.nil (tq_norm ?_)
        exact ⟨⟨pre ++ [x], rest, by simp [hx]⟩, by simp, Le.mk rfl (.cons rfl (Sub.str (by first | rfl | (simp; done) | omega | (simp; omega))) rfl (.cons rfl (Sub.bool (by first | rfl | (simp; done) | omega | (simp; omega))) rfl (.cons rfl (Sub.int (by first | rfl | (rw [natVal_snoc]; omega))) rfl (.cons rfl (Sub.int (by first | rfl | (simp; done) | omega | (simp; omega))) rfl .nil)))) .nil⟩
structure of01_ok_L0 (n : Int) (hn : -1000000000000000000 < n ∧ n < 1000000000000000000) where
  cur : Int
  acc : Str
  hx : natDig n.natAbs = natDig cur.natAbs ++ acc
  hc : -1000000000000000000 < cur ∧ cur < 1000000000000000000
theorem of01_ok (n : Int) (hn : -1000000000000000000 < n ∧ n < 1000000000000000000) : Fc Tryz.prog 144 [.i n] (.str (ofInt n)) := by
  refine Fc.mk' [2] Tryz.func144 rfl Tryz.ntmps144 rfl rfl rfl (fun t w => results_tmp Tryz.results144 t _ w) ?_
  have hdl := natDig_len 18 n.natAbs (by omega)
  refine Run.seq (Run.reg [.p] ?_)
  refine .ag rfl rfl <| .nil ?_
  refine Run.seq (Run.seq (Run.reg [.p, .p] ?_))
  refine .mv rfl rfl <| .p rfl trivial (fun _ => q_eql rfl rfl _) <| .nil ?_
  refine Run.cond rfl (fun h1 => ?_) (fun h1 => ?_)
  · have ph1 := h1
    try simp only [bs, bne_iff_ne, ne_eq, List.length_map] at ph1
    refine Run.seq (Run.reg [.p] ?_)
    refine .ag rfl rfl <| .nil ?_
    refine Run.ret (?_)
    exact ret1 rfl (Sub.str (by first | (simp [ofInt, natDig_zero, *]; done) | (obtain rfl : cur = 0 := by assumption) <;> simp [ofInt, natDig_zero, hx] <;> omega))
  · have ph1 := h1
    try simp only [bs, bne_iff_ne, ne_eq, List.length_map] at ph1
    refine Run.skip ?_
    refine Run.seq (Run.reg [.p] ?_)
    refine .ag rfl rfl <| .nil ?_
    refine Run.seq (Run.seq (Run.reg [.p, .p] ?_))
    refine .mv rfl rfl <| .ag rfl rfl <| .nil ?_
    refine Run.block ?_
    refine Run.loop (ι := of01_ok_L0 n hn) (fun sx => [(0, .i n), (3, .str sx.acc), (4, .i sx.cur)]) (fun sx => []) (fun sx => sx.cur.natAbs) ⟨n, [], by simp, hn⟩ ?_ ?_
    · exact Le.mk rfl (.cons rfl (Sub.int (by first | rfl | (simp; done) | omega | (simp; omega))) rfl (.cons rfl (Sub.str (by first | rfl | simp)) rfl (.cons rfl (Sub.int (by first | rfl | (simp; done) | omega | (simp; omega))) rfl .nil))) .nil
    · rintro ⟨cur, acc, hx, hc⟩
      show Run _ _ _ _ [(0, .i n), (3, .str acc), (4, .i cur)] []
      have ha := tmod_abs cur
      have hd := tdiv_abs cur
      refine Run.seq (Run.seq (Run.reg [.p, .p] ?_))
      refine .mv rfl rfl <| .p rfl trivial (fun _ => q_neq rfl rfl _) <| .nil ?_
      refine Run.cond rfl (fun h2 => ?_) (fun h2 => ?_)
      · have ph2 := h2
        try simp only [bs, bne_iff_ne, ne_eq, List.length_map] at ph2
        refine Run.skip ?_
        refine Run.seq ?_
        refine Run.block ?_
        refine Run.seq (Run.reg [.p, .p, .p] ?_)
        refine .mv rfl rfl <| .p rfl trivial (fun _ => q_rem rfl rfl (by decide) rfl _) <| .ag rfl rfl <| .nil ?_
        refine Run.seq (Run.seq (Run.reg [.p, .p] ?_))
        refine .mv rfl rfl <| .p rfl trivial (fun _ => q_lss rfl rfl _) <| .nil ?_
        refine Run.cond rfl (fun h3 => ?_) (fun h3 => ?_)
        · have ph3 := h3
          try simp only [bs, bne_iff_ne, ne_eq, List.length_map] at ph3
          refine Run.reg [.p, .p, .p] ?_
          refine .mv rfl rfl <| .p rfl trivial (fun _ => q_neg rfl (wrap64_ok (by omega) (by omega)) _) <| .ag rfl rfl <| .nil ?_
          refine Run.reg [.p, .p, .p, .p, .p, .p, .p] ?_
          refine .mv rfl rfl <| .p rfl trivial (fun _ => q_add rfl rfl (wrap64_ok (by omega) (by omega)) _) <| .p rfl trivial (fun _ => q_conv Tryz.underlying3 Tryz.underlying21 rfl (wrap32_ok (by omega) (by omega)) _) <| .p rfl trivial (fun _ => q_runeS Tryz.underlying21 Tryz.underlying9 rfl (c := UInt8.ofNat (48 + cur.natAbs % 10)) (by omega) (by omega) (by congr 1; omega) _) <| .mv rfl rfl <| .p rfl trivial (fun _ => q_addS rfl rfl (by simp only [big]; have := congrArg List.length hx; simp at this ⊢; omega) rfl _) <| .ag rfl rfl <| .nil ?_
          refine Run.nil (bq_norm ?_)
          refine Run.reg [.p, .p, .p] ?_
          refine .mv rfl rfl <| .p rfl trivial (fun _ => q_quo rfl rfl (by decide) (wrap64_ok (by omega) (by omega)) _) <| .ag rfl rfl <| .nil ?_
          refine Run.nil (tq_norm ?_)
          exact ⟨⟨cur.tdiv 10, UInt8.ofNat (48 + cur.natAbs % 10) :: acc, by rw [hx, natDig_int (by assumption)]; simp, by omega⟩, by (try dsimp only); omega, Le.mk rfl (.cons rfl (Sub.int (by first | rfl | (simp; done) | omega | (simp; omega))) rfl (.cons rfl (Sub.str (by first | rfl | simp)) rfl (.cons rfl (Sub.int (by first | rfl | (simp; done) | omega | (simp; omega))) rfl .nil))) .nil⟩
        · have ph3 := h3
          try simp only [bs, bne_iff_ne, ne_eq, List.length_map] at ph3
          refine Run.skip ?_
          refine Run.reg [.p, .p, .p, .p, .p, .p, .p] ?_
          refine .mv rfl rfl <| .p rfl trivial (fun _ => q_add rfl rfl (wrap64_ok (by omega) (by omega)) _) <| .p rfl trivial (fun _ => q_conv Tryz.underlying3 Tryz.underlying21 rfl (wrap32_ok (by omega) (by omega)) _) <| .p rfl trivial (fun _ => q_runeS Tryz.underlying21 Tryz.underlying9 rfl (c := UInt8.ofNat (48 + cur.natAbs % 10)) (by omega) (by omega) (by congr 1; omega) _) <| .mv rfl rfl <| .p rfl trivial (fun _ => q_addS rfl rfl (by simp only [big]; have := congrArg List.length hx; simp at this ⊢; omega) rfl _) <| .ag rfl rfl <| .nil ?_
          refine Run.nil (bq_norm ?_)
          refine Run.reg [.p, .p, .p] ?_
          refine .mv rfl rfl <| .p rfl trivial (fun _ => q_quo rfl rfl (by decide) (wrap64_ok (by omega) (by omega)) _) <| .ag rfl rfl <| .nil ?_
          refine Run.nil (tq_norm ?_)
          exact ⟨⟨cur.tdiv 10, UInt8.ofNat (48 + cur.natAbs % 10) :: acc, by rw [hx, natDig_int (by assumption)]; simp, by omega⟩, by (try dsimp only); omega, Le.mk rfl (.cons rfl (Sub.int (by first | rfl | (simp; done) | omega | (simp; omega))) rfl (.cons rfl (Sub.str (by first | rfl | simp)) rfl (.cons rfl (Sub.int (by first | rfl | (simp; done) | omega | (simp; omega))) rfl .nil))) .nil⟩
      · have ph2 := h2
        try simp only [bs, bne_iff_ne, ne_eq, List.length_map] at ph2
        refine Run.exit (tq_exit (bq_exit ?_))
        refine Run.seq (Run.seq (Run.reg [.p, .p] ?_))
        refine .mv rfl rfl <| .p rfl trivial (fun _ => q_lss rfl rfl _) <| .nil ?_
        refine Run.cond rfl (fun h4 => ?_) (fun h4 => ?_)
        · have ph4 := h4
          try simp only [bs, bne_iff_ne, ne_eq, List.length_map] at ph4
          refine Run.reg [.p, .p, .p] ?_
          refine .mv rfl rfl <| .p rfl trivial (fun _ => q_addS rfl rfl (by simp only [big]; have := congrArg List.length hx; simp at this ⊢; omega) rfl _) <| .ag rfl rfl <| .nil ?_
          refine Run.seq (Run.reg [.p, .p] ?_)
          refine .mv rfl rfl <| .ag rfl rfl <| .nil ?_
          refine Run.ret (?_)
          exact ret1 rfl (Sub.str (by first | (simp [ofInt, natDig_zero, *]; done) | (obtain rfl : cur = 0 := by assumption) <;> simp [ofInt, natDig_zero, hx] <;> omega))
        · have ph4 := h4
          try simp only [bs, bne_iff_ne, ne_eq, List.length_map] at ph4
          refine Run.skip ?_
          refine Run.seq (Run.reg [.p, .p] ?_)
          refine .mv rfl rfl <| .ag rfl rfl <| .nil ?_
          refine Run.ret (?_)
          exact ret1 rfl (Sub.str (by first | (simp [ofInt, natDig_zero, *]; done) | (obtain rfl : cur = 0 := by assumption) <;> simp [ofInt, natDig_zero, hx] <;> omega))
theorem add01_ok (a b : Str) (ha : (digits a).1.length ≤ 17) (hb : (digits b).1.length ≤ 17) : Fc Tryz.prog 91 [.str a, .str b] (.str (addS a b)) := by
  refine Fc.mk' [4] Tryz.func91 rfl Tryz.ntmps91 rfl rfl rfl (fun t w => results_tmp Tryz.results91 t _ w) ?_
  have hva := val_bound ha
  have hvb := val_bound hb
  refine Run.seq (Run.reg [.p] ?_)
  refine .ag rfl rfl <| .nil ?_
  refine Run.seq (Run.reg [.p, .p, .p, .p, .p, .p, .p] ?_)
  refine .mv rfl rfl <| .p rfl trivial (fun _ => q_call Tryz.call143 rfl (short01_ok _ (by first | assumption | omega | (simp at *; omega))) _) <| .mv rfl rfl <| .p rfl trivial (fun _ => q_extract rfl rfl _) <| .p rfl trivial (fun _ => q_extract rfl rfl _) <| .ag rfl rfl <| .ag rfl rfl <| .nil ?_
  refine Run.seq (Run.reg [.p, .p, .p, .p, .p, .p, .p] ?_)
  refine .mv rfl rfl <| .p rfl trivial (fun _ => q_call Tryz.call143 rfl (short01_ok _ (by first | assumption | omega | (simp at *; omega))) _) <| .mv rfl rfl <| .p rfl trivial (fun _ => q_extract rfl rfl _) <| .p rfl trivial (fun _ => q_extract rfl rfl _) <| .ag rfl rfl <| .ag rfl rfl <| .nil ?_
  refine Run.seq (Run.seq (Run.reg [.p, .p, .p, .p] ?_))
  refine .mv rfl rfl <| .mv rfl rfl <| .p rfl (on_of rfl rfl rfl rfl) (fun _ => q_move rfl _) <| .p rfl trivial (fun _ => q_pickT rfl rfl rfl _) <| .nil ?_
  refine Run.condT rfl rfl ?_
  refine Run.seq (Run.reg [.p, .p, .p, .p, .p] ?_)
  refine .mv rfl rfl <| .mv rfl rfl <| .p rfl trivial (fun _ => q_add rfl rfl (wrap64_ok (by omega) (by omega)) _) <| .p rfl trivial (fun _ => q_call Tryz.call144 rfl (of01_ok _ (by omega)) _) <| .ag rfl rfl <| .nil ?_
  refine Run.ret (?_)
  exact ret1 rfl (Sub.str (by first | rfl | contradiction | simp_all))
end Go.T
namespace Go.T
open Go Go.Proofs
set_option maxRecDepth 20000
structure balances35_ok_L0 (l : List Line) (hs : l.length ≤ 66) (hm : ∀ x ∈ l, x.amount.length ≤ 14) where
  pre : List Line
  rest : List Line
  hx : l = pre ++ rest
  hp : pre.all (fun x => decide (sumV x.currency l = 0)) = true
structure balances35_ok_L1 (l : List Line) (hs : l.length ≤ 66) (hm : ∀ x ∈ l, x.amount.length ≤ 14) (pre : List Line) (x : Line) where
  pre2 : List Line
  rest2 : List Line
  hx2 : l = pre2 ++ rest2
theorem balances35_ok (l : List Line) (hs : l.length ≤ 66) (hm : ∀ x ∈ l, x.amount.length ≤ 14) : Fc Tryz.prog 112 [sLines l] (.b (balanced l)) := by
  refine Fc.mk' [2] Tryz.func112 rfl Tryz.ntmps112 rfl rfl rfl (fun t w => results_tmp Tryz.results112 t _ w) ?_
  refine Run.bSnap 0 rfl (fun hb => ?_)
  simp only [List.length_map, big] at hb
  refine Run.seq (Run.reg [.p] ?_)
  refine .ag rfl rfl <| .nil ?_
  refine Run.seq (Run.seq (Run.reg [.p] ?_))
  refine .ag rfl rfl <| .nil ?_
  refine Run.block ?_
  refine Run.loop (ι := balances35_ok_L0 l hs hm) (fun sx => [(0, sLines l), (3, .i sx.pre.length)]) (fun sx => []) (fun sx => sx.rest.length) ⟨[], l, rfl, rfl⟩ ?_ ?_
  · exact Le.mk rfl (.cons rfl (Sub.refl _) rfl (.cons rfl (Sub.int (by first | rfl | (simp; done) | omega | (simp; omega))) rfl .nil)) .nil
  · rintro ⟨pre, rest, hx, hp⟩
    show Run _ _ _ _ [(0, sLines l), (3, .i pre.length)] []
    have hl := congrArg List.length hx
    simp only [List.length_append] at hl
    rcases rest with _ | ⟨x, rest⟩
    · skip
      refine Run.seq (Run.seq (Run.reg [.p, .p, .p, .p] ?_))
      refine .mv rfl rfl <| .mv rfl rfl <| .p rfl trivial (fun _ => q_lenI Tryz.underlying35 rfl _) <| .p rfl trivial (fun _ => q_lss rfl rfl _) <| .nil ?_
      refine Run.condF rfl (by simp at hl ⊢; omega) ?_
      refine Run.exit (tq_exit (bq_exit ?_))
      refine Run.seq (Run.reg [.p] ?_)
      refine .ag rfl rfl <| .nil ?_
      refine Run.ret (?_)
      exact ret1 rfl (Sub.bool (by first | (simp only [List.append_nil] at hx2; grind [balanced, ofInt_nil]) | grind [balanced, ofInt_nil]))
    · simp only [List.length_cons] at hl
      refine Run.seq (Run.seq (Run.reg [.p, .p, .p, .p] ?_))
      refine .mv rfl rfl <| .mv rfl rfl <| .p rfl trivial (fun _ => q_lenI Tryz.underlying35 rfl _) <| .p rfl trivial (fun _ => q_lss rfl rfl _) <| .nil ?_
      refine Run.condT rfl (by simp; omega) ?_
      refine Run.skip ?_
      refine Run.seq ?_
      refine Run.block ?_
      refine Run.seq (Run.reg [.p] ?_)
      refine .ag rfl rfl <| .nil ?_
      refine Run.seq (Run.seq (Run.reg [.p] ?_))
      refine .ag rfl rfl <| .nil ?_
      refine Run.block ?_
      refine Run.loop (ι := balances35_ok_L1 l hs hm pre x) (fun sx => [(0, sLines l), (3, .i pre.length), (4, .str (ofInt (sumV x.currency sx.pre2))), (5, .i sx.pre2.length)]) (fun sx => []) (fun sx => sx.rest2.length) ⟨[], l, rfl⟩ ?_ ?_
      · exact Le.mk rfl (.cons rfl (Sub.refl _) rfl (.cons rfl (Sub.int (by first | rfl | (simp; done) | omega | (simp; omega))) rfl (.cons rfl (Sub.str (by first | (rw [addS_ofInt, sumV_append]; simp [sumV, *]) | (rw [sumV_append]; simp [sumV, *]) | (simp [sumV, ofInt_zero]))) rfl (.cons rfl (Sub.int (by first | rfl | (simp; done) | omega | (simp; omega))) rfl .nil)))) .nil
      · rintro ⟨pre2, rest2, hx2⟩
        show Run _ _ _ _ [(0, sLines l), (3, .i pre.length), (4, .str (ofInt (sumV x.currency pre2))), (5, .i pre2.length)] []
        have hl2 := congrArg List.length hx2
        simp only [List.length_append] at hl2
        rcases rest2 with _ | ⟨x2, rest2⟩
        · skip
          refine Run.seq (Run.seq (Run.reg [.p, .p, .p, .p] ?_))
          refine .mv rfl rfl <| .mv rfl rfl <| .p rfl trivial (fun _ => q_lenI Tryz.underlying35 rfl _) <| .p rfl trivial (fun _ => q_lss rfl rfl _) <| .nil ?_
          refine Run.condF rfl (by simp at hl2 ⊢; omega) ?_
          refine Run.exit (tq_exit (bq_exit ?_))
          refine Run.seq (Run.reg [.p, .p] ?_)
          refine .mv rfl rfl <| .p rfl trivial (fun _ => q_neqS rfl rfl _) <| .nil ?_
          refine Run.cond rfl (fun h1 => ?_) (fun h1 => ?_)
          · have ph1 := h1
            try simp only [bs, bne_iff_ne, ne_eq, List.length_map] at ph1
            refine Run.seq (Run.reg [.p] ?_)
            refine .ag rfl rfl <| .nil ?_
            refine Run.ret (bq_ret (tq_ret (bq_ret (?_))))
            exact ret1 rfl (Sub.bool (by first | (simp only [List.append_nil] at hx2; grind [balanced, ofInt_nil]) | grind [balanced, ofInt_nil]))
          · have ph1 := h1
            try simp only [bs, bne_iff_ne, ne_eq, List.length_map] at ph1
            refine Run.skip ?_
            refine Run.nil (bq_norm ?_)
            refine Run.reg [.p, .p, .p] ?_
            refine .mv rfl rfl <| .p rfl trivial (fun _ => q_add rfl rfl (wrap64_ok (by omega) (by omega)) _) <| .ag rfl rfl <| .nil ?_
            refine Run.nil (tq_norm ?_)
            exact ⟨⟨pre ++ [x], rest, by simp [hx], by grind [ofInt_nil]⟩, by simp, Le.mk rfl (.cons rfl (Sub.refl _) rfl (.cons rfl (Sub.int (by first | rfl | (simp; done) | omega | (simp; omega))) rfl .nil)) .nil⟩
        · simp only [List.length_cons] at hl2
          have hbd := sumV_bound (c := x.currency) (ls := pre2) (fun y hy => hm y (by rw [hx2]; simp [hy]))
          have hv := hm x2 (by rw [hx2]; simp)
          refine Run.seq (Run.seq (Run.reg [.p, .p, .p, .p] ?_))
          refine .mv rfl rfl <| .mv rfl rfl <| .p rfl trivial (fun _ => q_lenI Tryz.underlying35 rfl _) <| .p rfl trivial (fun _ => q_lss rfl rfl _) <| .nil ?_
          refine Run.condT rfl (by simp; omega) ?_
          refine Run.skip ?_
          refine Run.seq ?_
          refine Run.block ?_
          refine Run.seq (Run.regD [.p, .p, .p, .p, .p, .p, .p, .p, .p, .p, .p] Tryz_mixed (by decide +kernel) ?_)
          refine .mv rfl rfl <| .mv rfl rfl <| .p rfl trivial (fun _ => q_indexI Tryz.underlying35 Tryz.sizeOf92 rfl rfl (by omega) (idx_mid encLine hx2 rfl) _) <| .p rfl trivial (fun _ => q_fieldI (n := 0) 9 1 Tryz.underlying92 Tryz.sizeOf9 rfl rfl rfl _) <| .p rfl trivial (fun _ => q_loadI Tryz.isAgg9 rfl _) <| .mv rfl rfl <| .mv rfl rfl <| .p rfl trivial (fun _ => q_indexI Tryz.underlying35 Tryz.sizeOf92 rfl rfl (by omega) (idx_mid encLine hx rfl) _) <| .p rfl trivial (fun _ => q_fieldI (n := 0) 9 1 Tryz.underlying92 Tryz.sizeOf9 rfl rfl rfl _) <| .p rfl trivial (fun _ => q_loadI Tryz.isAgg9 rfl _) <| .p rfl trivial (fun _ => q_eqlS rfl rfl _) <| .nil ?_
          refine Run.cond rfl (fun h2 => ?_) (fun h2 => ?_)
          · have ph2 := h2
            try simp only [bs, bne_iff_ne, ne_eq, List.length_map] at ph2
            refine Run.reg [.p, .p, .p, .p, .p, .p, .p, .p] ?_
            refine .mv rfl rfl <| .mv rfl rfl <| .mv rfl rfl <| .p rfl trivial (fun _ => q_indexI Tryz.underlying35 Tryz.sizeOf92 rfl rfl (by omega) (idx_mid encLine hx2 rfl) _) <| .p rfl trivial (fun _ => q_fieldI (n := 0) 54 2 Tryz.underlying92 Tryz.sizeOf54 rfl rfl rfl _) <| .p rfl trivial (fun _ => q_loadI Tryz.isAgg54 rfl _) <| .p rfl trivial (fun _ => q_call Tryz.call91 rfl (add01_ok _ _ (ofInt_digits (by omega)) (by have := digits_len x2.amount; omega)) _) <| .ag rfl rfl <| .nil ?_
            refine Run.nil (bq_norm ?_)
            refine Run.reg [.p, .p, .p] ?_
            refine .mv rfl rfl <| .p rfl trivial (fun _ => q_add rfl rfl (wrap64_ok (by omega) (by omega)) _) <| .ag rfl rfl <| .nil ?_
            refine Run.nil (tq_norm ?_)
            exact ⟨⟨pre2 ++ [x2], rest2, by simp [hx2]⟩, by simp, Le.mk rfl (.cons rfl (Sub.refl _) rfl (.cons rfl (Sub.int (by first | rfl | (simp; done) | omega | (simp; omega))) rfl (.cons rfl (Sub.str (by first | (rw [addS_ofInt, sumV_append]; simp [sumV, *]) | (rw [sumV_append]; simp [sumV, *]) | (simp [sumV, ofInt_zero]))) rfl (.cons rfl (Sub.int (by first | rfl | (simp; done) | omega | (simp; omega))) rfl .nil)))) .nil⟩
          · have ph2 := h2
            try simp only [bs, bne_iff_ne, ne_eq, List.length_map] at ph2
            refine Run.skip ?_
            refine Run.nil (bq_norm ?_)
            refine Run.reg [.p, .p, .p] ?_
            refine .mv rfl rfl <| .p rfl trivial (fun _ => q_add rfl rfl (wrap64_ok (by omega) (by omega)) _) <| .ag rfl rfl <| .nil ?_
            refine Run.nil (tq_norm ?_)
            exact ⟨⟨pre2 ++ [x2], rest2, by simp [hx2]⟩, by simp, Le.mk rfl (.cons rfl (Sub.refl _) rfl (.cons rfl (Sub.int (by first | rfl | (simp; done) | omega | (simp; omega))) rfl (.cons rfl (Sub.str (by first | (rw [addS_ofInt, sumV_append]; simp [sumV, *]) | (rw [sumV_append]; simp [sumV, *]) | (simp [sumV, ofInt_zero]))) rfl (.cons rfl (Sub.int (by first | rfl | (simp; done) | omega | (simp; omega))) rfl .nil)))) .nil⟩
end Go.T
namespace Go.T
open Go Go.Proofs
set_option maxRecDepth 20000
structure check35_ok_L0 (e : Entry) where
  pre : List Line
  rest : List Line
  hx : e.lines = pre ++ rest
  hp : checkLines [] e.lines = checkLines pre rest
  h0 : checkHead e = 0 ∧ e.lines.length ≠ 0 ∧ e.lines.length ≤ 64
theorem check35_ok (e : Entry) (hs : smallE e) : Fc Tryz.prog 56 [.agg (encEntry e)] (.i (checkE e)) := by
  refine Fc.mk' [2] Tryz.func56 rfl Tryz.ntmps56 rfl rfl rfl (fun t w => results_tmp Tryz.results56 t _ w) ?_
  refine Run.bAgg 0 2 rfl rfl (fun hb => ?_)
  simp only [List.length_map, big] at hb
  obtain ⟨hs1, hs2, hs3⟩ := hs
  refine Run.seq (Run.reg [.w, .p] ?_)
  refine .w rfl trivial (q_boxA 0 rfl rfl) <| .ag rfl rfl <| .nil ?_
  refine Run.seq (Run.seq (Run.reg [.r, .p, .p] ?_))
  refine .r rfl trivial (q_loadW Tryz.isAgg37 Tryz.sizeOf37 rfl rfl rfl) <| .p rfl trivial (fun _ => q_call Tryz.call109 rfl (head35_ok _) _) <| .ag rfl rfl <| .nil ?_
  refine Run.seq (Run.reg [.p, .p] ?_)
  refine .mv rfl rfl <| .p rfl trivial (fun _ => q_neq rfl rfl _) <| .nil ?_
  refine Run.cond rfl (fun h1 => ?_) (fun h1 => ?_)
  · have ph1 := h1
    try simp only [bs, bne_iff_ne, ne_eq, List.length_map] at ph1
    refine Run.seq (Run.reg [.p, .p] ?_)
    refine .mv rfl rfl <| .ag rfl rfl <| .nil ?_
    refine Run.ret (?_)
    exact ret1 rfl (Sub.int (by grind [checkE, checkLines]))
  · have ph1 := h1
    try simp only [bs, bne_iff_ne, ne_eq, List.length_map] at ph1
    refine Run.skip ?_
    refine Run.seq (Run.seq (Run.reg [.p, .r, .p, .p] ?_))
    refine .p rfl trivial (fun _ => q_fieldB (n := 0) 35 2 Tryz.underlying37 Tryz.sizeOf35 rfl rfl _) <| .r rfl trivial (q_load1 Tryz.isAgg35 rfl rfl rfl) <| .p rfl trivial (fun _ => q_lenI Tryz.underlying35 rfl _) <| .p rfl trivial (fun _ => q_eql rfl rfl _) <| .nil ?_
    refine Run.cond rfl (fun h2 => ?_) (fun h2 => ?_)
    · have ph2 := h2
      try simp only [bs, bne_iff_ne, ne_eq, List.length_map] at ph2
      refine Run.seq (Run.reg [.p] ?_)
      refine .ag rfl rfl <| .nil ?_
      refine Run.ret (?_)
      exact ret1 rfl (Sub.int (by grind [checkE, checkLines]))
    · have ph2 := h2
      try simp only [bs, bne_iff_ne, ne_eq, List.length_map] at ph2
      refine Run.skip ?_
      refine Run.seq (Run.seq (Run.reg [.p, .r, .p, .p] ?_))
      refine .p rfl trivial (fun _ => q_fieldB (n := 0) 35 2 Tryz.underlying37 Tryz.sizeOf35 rfl rfl _) <| .r rfl trivial (q_load1 Tryz.isAgg35 rfl rfl rfl) <| .p rfl trivial (fun _ => q_lenI Tryz.underlying35 rfl _) <| .p rfl trivial (fun _ => q_gtr rfl rfl _) <| .nil ?_
      refine Run.cond rfl (fun h3 => ?_) (fun h3 => ?_)
      · have ph3 := h3
        try simp only [bs, bne_iff_ne, ne_eq, List.length_map] at ph3
        refine Run.seq (Run.reg [.p] ?_)
        refine .ag rfl rfl <| .nil ?_
        refine Run.ret (?_)
        exact ret1 rfl (Sub.int (by grind [checkE, checkLines]))
      · have ph3 := h3
        try simp only [bs, bne_iff_ne, ne_eq, List.length_map] at ph3
        refine Run.skip ?_
        refine Run.seq (Run.seq (Run.reg [.p] ?_))
        refine .ag rfl rfl <| .nil ?_
        refine Run.block ?_
        refine Run.loop (ι := check35_ok_L0 e) (fun sx => [(1, .box 0 0), (4, .i sx.pre.length)]) (fun sx => [(0, .cells (encEntry e))]) (fun sx => sx.rest.length) ⟨[], e.lines, rfl, rfl, by omega⟩ ?_ ?_
        · exact Le.mk rfl (.cons rfl (Sub.refl _) rfl (.cons rfl (Sub.int (by first | rfl | (simp; done) | omega | (simp; omega))) rfl .nil)) (.cons rfl rfl .nil)
        · rintro ⟨pre, rest, hx, hp, h0⟩
          show Run _ _ _ _ [(1, .box 0 0), (4, .i pre.length)] [(0, .cells (encEntry e))]
          have hl := congrArg List.length hx
          simp only [List.length_append] at hl
          rcases rest with _ | ⟨x, rest⟩
          · skip
            refine Run.seq (Run.seq (Run.reg [.p, .p, .r, .p, .p] ?_))
            refine .mv rfl rfl <| .p rfl trivial (fun _ => q_fieldB (n := 0) 35 2 Tryz.underlying37 Tryz.sizeOf35 rfl rfl _) <| .r rfl trivial (q_load1 Tryz.isAgg35 rfl rfl rfl) <| .p rfl trivial (fun _ => q_lenI Tryz.underlying35 rfl _) <| .p rfl trivial (fun _ => q_lss rfl rfl _) <| .nil ?_
            refine Run.condF rfl (by simp at hl ⊢; omega) ?_
            refine Run.exit (tq_exit (bq_exit ?_))
            refine Run.seq (Run.seq (Run.reg [.p, .r, .p, .p] ?_))
            refine .p rfl trivial (fun _ => q_fieldB (n := 0) 35 2 Tryz.underlying37 Tryz.sizeOf35 rfl rfl _) <| .r rfl trivial (q_load1 Tryz.isAgg35 rfl rfl rfl) <| .p rfl trivial (fun _ => q_call Tryz.call112 rfl (balances35_ok _ hs2 (fun x hx => (hs3 x hx).2.2)) _) <| .p rfl trivial (fun _ => q_not rfl _) <| .nil ?_
            refine Run.cond rfl (fun h4 => ?_) (fun h4 => ?_)
            · have ph4 := h4
              try simp only [bs, bne_iff_ne, ne_eq, List.length_map] at ph4
              refine Run.seq (Run.reg [.p] ?_)
              refine .ag rfl rfl <| .nil ?_
              refine Run.ret (?_)
              exact ret1 rfl (Sub.int (by grind [checkE, checkLines]))
            · have ph4 := h4
              try simp only [bs, bne_iff_ne, ne_eq, List.length_map] at ph4
              refine Run.skip ?_
              refine Run.seq (Run.reg [.p] ?_)
              refine .ag rfl rfl <| .nil ?_
              refine Run.ret (?_)
              exact ret1 rfl (Sub.int (by grind [checkE, checkLines]))
          · simp only [List.length_cons] at hl
            refine Run.seq (Run.seq (Run.reg [.p, .p, .r, .p, .p] ?_))
            refine .mv rfl rfl <| .p rfl trivial (fun _ => q_fieldB (n := 0) 35 2 Tryz.underlying37 Tryz.sizeOf35 rfl rfl _) <| .r rfl trivial (q_load1 Tryz.isAgg35 rfl rfl rfl) <| .p rfl trivial (fun _ => q_lenI Tryz.underlying35 rfl _) <| .p rfl trivial (fun _ => q_lss rfl rfl _) <| .nil ?_
            refine Run.condT rfl (by simp; omega) ?_
            refine Run.skip ?_
            refine Run.seq ?_
            refine Run.block ?_
            refine Run.seq (Run.seq (Run.reg [.p, .r, .p, .p, .p, .p, .p] ?_))
            refine .p rfl trivial (fun _ => q_fieldB (n := 0) 35 2 Tryz.underlying37 Tryz.sizeOf35 rfl rfl _) <| .r rfl trivial (q_load1 Tryz.isAgg35 rfl rfl rfl) <| .mv rfl rfl <| .p rfl trivial (fun _ => q_indexI Tryz.underlying35 Tryz.sizeOf92 rfl rfl (by omega) (idx_mid encLine hx rfl) _) <| .p rfl trivial (fun _ => q_loadIA Tryz.isAgg92 Tryz.sizeOf92 rfl rfl _) <| .p rfl trivial (fun _ => q_call Tryz.call110 rfl (fields35_ok _ (by have := (hs3 x (by rw [hx]; simp)).1; omega)) _) <| .ag rfl rfl <| .nil ?_
            refine Run.seq (Run.reg [.p, .p] ?_)
            refine .mv rfl rfl <| .p rfl trivial (fun _ => q_neq rfl rfl _) <| .nil ?_
            refine Run.cond rfl (fun h5 => ?_) (fun h5 => ?_)
            · have ph5 := h5
              try simp only [bs, bne_iff_ne, ne_eq, List.length_map] at ph5
              refine Run.seq (Run.reg [.p, .p] ?_)
              refine .mv rfl rfl <| .ag rfl rfl <| .nil ?_
              refine Run.ret (bq_ret (tq_ret (bq_ret (?_))))
              exact ret1 rfl (Sub.int (by grind [checkE, checkLines]))
            · have ph5 := h5
              try simp only [bs, bne_iff_ne, ne_eq, List.length_map] at ph5
              refine Run.skip ?_
              refine Run.seq (Run.seq (Run.reg [.p, .r, .p, .p, .p, .p, .p] ?_))
              refine .p rfl trivial (fun _ => q_fieldB (n := 0) 35 2 Tryz.underlying37 Tryz.sizeOf35 rfl rfl _) <| .r rfl trivial (q_load1 Tryz.isAgg35 rfl rfl rfl) <| .mv rfl rfl <| .p rfl trivial (fun _ => q_indexI Tryz.underlying35 Tryz.sizeOf92 rfl rfl (by omega) (idx_mid encLine hx rfl) _) <| .p rfl trivial (fun _ => q_fieldI (n := 0) 54 2 Tryz.underlying92 Tryz.sizeOf54 rfl rfl rfl _) <| .p rfl trivial (fun _ => q_loadI Tryz.isAgg54 rfl _) <| .p rfl trivial (fun _ => q_eqlS rfl rfl _) <| .nil ?_
              refine Run.cond rfl (fun h6 => ?_) (fun h6 => ?_)
              · have ph6 := h6
                try simp only [bs, bne_iff_ne, ne_eq, List.length_map] at ph6
                refine Run.seq (Run.reg [.p] ?_)
                refine .ag rfl rfl <| .nil ?_
                refine Run.ret (bq_ret (tq_ret (bq_ret (?_))))
                exact ret1 rfl (Sub.int (by grind [checkE, checkLines]))
              · have ph6 := h6
                try simp only [bs, bne_iff_ne, ne_eq, List.length_map] at ph6
                refine Run.skip ?_
                refine Run.seq (Run.regD [.p, .p, .p, .p, .r, .p, .p, .p, .p, .p, .r, .p, .p, .p, .p, .p, .p] Tryz_mixed (by decide +kernel) ?_)
                refine .mv rfl rfl <| .p rfl trivial (fun _ => q_gtr rfl rfl _) <| .mv rfl rfl <| .gT rfl (.inl rfl) rfl rfl rfl (fun hg => pk (fun _ => q_fieldB (n := 0) 35 2 Tryz.underlying37 Tryz.sizeOf35 rfl rfl _)) <| .gT rfl (.inr rfl) rfl rfl rfl (fun hg => rk (q_load1 Tryz.isAgg35 (opT rfl hg) rfl rfl)) <| .gT rfl (.inl rfl) rfl rfl rfl (fun hg => pk (fun _ => q_move rfl _)) <| .gT rfl (.inl rfl) rfl rfl rfl (fun hg => pk (fun _ => q_sub (opT rfl hg) rfl (wrap64_ok (by omega) (by omega)) _)) <| .gT rfl (.inl rfl) rfl rfl rfl (fun hg => pk (fun _ => q_indexI Tryz.underlying35 Tryz.sizeOf92 (opT rfl hg) (opT rfl hg) (by simp at hg; omega) (idx_last encLine hx (by simp at hg; omega) rfl) _)) <| .gT rfl (.inl rfl) rfl rfl rfl (fun hg => pk (fun _ => q_loadIA Tryz.isAgg92 Tryz.sizeOf92 (opT rfl hg) rfl _)) <| .gT rfl (.inl rfl) rfl rfl rfl (fun hg => pk (fun _ => q_fieldB (n := 0) 35 2 Tryz.underlying37 Tryz.sizeOf35 rfl rfl _)) <| .gT rfl (.inr rfl) rfl rfl rfl (fun hg => rk (q_load1 Tryz.isAgg35 (opT rfl hg) rfl rfl)) <| .gT rfl (.inl rfl) rfl rfl rfl (fun hg => pk (fun _ => q_move rfl _)) <| .gT rfl (.inl rfl) rfl rfl rfl (fun hg => pk (fun _ => q_indexI Tryz.underlying35 Tryz.sizeOf92 (opT rfl hg) (opT rfl hg) (by omega) (idx_mid encLine hx rfl) _)) <| .gT rfl (.inl rfl) rfl rfl rfl (fun hg => pk (fun _ => q_loadIA Tryz.isAgg92 Tryz.sizeOf92 (opT rfl hg) rfl _)) <| .gT rfl (.inl rfl) rfl rfl rfl (fun hg => pk (fun _ => q_call Tryz.call111 (opsC (opT rfl hg) (opsC (opT rfl hg) (rfl))) (cmpLine35_ok _ _) _)) ?_
                refine .gT rfl (.inl rfl) rfl rfl rfl (fun hg => pk (fun _ => q_geq (opT rfl hg) rfl _)) <| .p rfl trivial (fun _ => q_and rfl rfl _) <| .nil ?_
                refine Run.cond rfl (fun h7 => ?_) (fun h7 => ?_)
                · have ph7 := h7
                  try simp only [bs, bne_iff_ne, ne_eq, List.length_map] at ph7
                  refine Run.seq (Run.reg [.p] ?_)
                  refine .ag rfl rfl <| .nil ?_
                  refine Run.ret (bq_ret (tq_ret (bq_ret (?_))))
                  exact ret1 rfl (Sub.int (by grind [checkE, checkLines]))
                · have ph7 := h7
                  try simp only [bs, bne_iff_ne, ne_eq, List.length_map] at ph7
                  refine Run.skip ?_
                  refine Run.nil (bq_norm ?_)
                  refine Run.reg [.p, .p, .p] ?_
                  refine .mv rfl rfl <| .p rfl trivial (fun _ => q_add rfl rfl (wrap64_ok (by omega) (by omega)) _) <| .ag rfl rfl <| .nil ?_
                  refine Run.nil (tq_norm ?_)
                  exact ⟨⟨pre ++ [x], rest, by simp [hx], by grind [checkLines], h0⟩, by simp, Le.mk rfl (.cons rfl (Sub.refl _) rfl (.cons rfl (Sub.int (by first | rfl | (simp; done) | omega | (simp; omega))) rfl .nil)) (.cons rfl rfl .nil)⟩
structure valid50_ok_L0 (l : List Entry) (hs : ∀ e ∈ l, smallE e) where
  pre : List Entry
  rest : List Entry
  hx : l = pre ++ rest
  hp : pre.all (fun e => decide (checkE e = 0)) = true
theorem valid50_ok (l : List Entry) (hs : ∀ e ∈ l, smallE e) : Fc Tryz.prog 48 [sEntries l] (.b (validE l)) := by
  refine Fc.mk' [2] Tryz.func48 rfl Tryz.ntmps48 rfl rfl rfl (fun t w => results_tmp Tryz.results48 t _ w) ?_
  refine Run.bSnap 0 rfl (fun hb => ?_)
  simp only [List.length_map, big] at hb
  refine Run.seq (Run.reg [.p] ?_)
  refine .ag rfl rfl <| .nil ?_
  refine Run.seq (Run.seq (Run.reg [.p] ?_))
  refine .ag rfl rfl <| .nil ?_
  refine Run.block ?_
  refine Run.loop (ι := valid50_ok_L0 l hs) (fun sx => [(0, sEntries l), (3, .i sx.pre.length)]) (fun sx => []) (fun sx => sx.rest.length) ⟨[], l, rfl, rfl⟩ ?_ ?_
  · exact Le.mk rfl (.cons rfl (Sub.refl _) rfl (.cons rfl (Sub.int (by first | rfl | (simp; done) | omega | (simp; omega))) rfl .nil)) .nil
  · rintro ⟨pre, rest, hx, hp⟩
    show Run _ _ _ _ [(0, sEntries l), (3, .i pre.length)] []
    have hl := congrArg List.length hx
    simp only [List.length_append] at hl
    rcases rest with _ | ⟨x, rest⟩
    · skip
      refine Run.seq (Run.seq (Run.reg [.p, .p, .p, .p] ?_))
      refine .mv rfl rfl <| .mv rfl rfl <| .p rfl trivial (fun _ => q_lenI Tryz.underlying22 rfl _) <| .p rfl trivial (fun _ => q_lss rfl rfl _) <| .nil ?_
      refine Run.condF rfl (by simp at hl ⊢; omega) ?_
      refine Run.exit (tq_exit (bq_exit ?_))
      refine Run.seq (Run.reg [.p] ?_)
      refine .ag rfl rfl <| .nil ?_
      refine Run.ret (?_)
      exact ret1 rfl (Sub.bool (by grind [validE]))
    · simp only [List.length_cons] at hl
      refine Run.seq (Run.seq (Run.reg [.p, .p, .p, .p] ?_))
      refine .mv rfl rfl <| .mv rfl rfl <| .p rfl trivial (fun _ => q_lenI Tryz.underlying22 rfl _) <| .p rfl trivial (fun _ => q_lss rfl rfl _) <| .nil ?_
      refine Run.condT rfl (by simp; omega) ?_
      refine Run.skip ?_
      refine Run.seq ?_
      refine Run.block ?_
      refine Run.seq (Run.reg [.p, .p, .p, .p, .p, .p] ?_)
      refine .mv rfl rfl <| .mv rfl rfl <| .p rfl trivial (fun _ => q_indexI Tryz.underlying22 Tryz.sizeOf37 rfl rfl (by omega) (idx_mid encEntry hx rfl) _) <| .p rfl trivial (fun _ => q_loadIA Tryz.isAgg37 Tryz.sizeOf37 rfl rfl _) <| .p rfl trivial (fun _ => q_call Tryz.call56 rfl (check35_ok _ (hs x (by rw [hx]; simp))) _) <| .p rfl trivial (fun _ => q_neq rfl rfl _) <| .nil ?_
      refine Run.cond rfl (fun h1 => ?_) (fun h1 => ?_)
      · have ph1 := h1
        try simp only [bs, bne_iff_ne, ne_eq, List.length_map] at ph1
        refine Run.seq (Run.reg [.p] ?_)
        refine .ag rfl rfl <| .nil ?_
        refine Run.ret (bq_ret (tq_ret (bq_ret (?_))))
        exact ret1 rfl (Sub.bool (by grind [validE]))
      · have ph1 := h1
        try simp only [bs, bne_iff_ne, ne_eq, List.length_map] at ph1
        refine Run.skip ?_
        refine Run.nil (bq_norm ?_)
        refine Run.reg [.p, .p, .p] ?_
        refine .mv rfl rfl <| .p rfl trivial (fun _ => q_add rfl rfl (wrap64_ok (by omega) (by omega)) _) <| .ag rfl rfl <| .nil ?_
        refine Run.nil (tq_norm ?_)
        exact ⟨⟨pre ++ [x], rest, by simp [hx], by grind⟩, by simp, Le.mk rfl (.cons rfl (Sub.refl _) rfl (.cons rfl (Sub.int (by first | rfl | (simp; done) | omega | (simp; omega))) rfl .nil)) .nil⟩
structure check49_ok_L0 (l : List Close) where
  pre : List Close
  rest : List Close
  hx : l = pre ++ rest
  hp : checkCl [] l = checkCl pre rest
  h0 : l.length ≤ 64
theorem check49_ok (l : List Close) : Fc Tryz.prog 49 [sCloses l] (.i (checkCloses l)) := by
  refine Fc.mk' [2] Tryz.func49 rfl Tryz.ntmps49 rfl rfl rfl (fun t w => results_tmp Tryz.results49 t _ w) ?_
  refine Run.bSnap 0 rfl (fun hb => ?_)
  simp only [List.length_map, big] at hb
  refine Run.seq (Run.reg [.p] ?_)
  refine .ag rfl rfl <| .nil ?_
  refine Run.seq (Run.seq (Run.reg [.p, .p, .p] ?_))
  refine .mv rfl rfl <| .p rfl trivial (fun _ => q_lenI Tryz.underlying23 rfl _) <| .p rfl trivial (fun _ => q_gtr rfl rfl _) <| .nil ?_
  refine Run.cond rfl (fun h1 => ?_) (fun h1 => ?_)
  · have ph1 := h1
    try simp only [bs, bne_iff_ne, ne_eq, List.length_map] at ph1
    refine Run.seq (Run.reg [.p] ?_)
    refine .ag rfl rfl <| .nil ?_
    refine Run.ret (?_)
    exact ret1 rfl (Sub.int (by grind [checkCloses, checkCl]))
  · have ph1 := h1
    try simp only [bs, bne_iff_ne, ne_eq, List.length_map] at ph1
    refine Run.skip ?_
    refine Run.seq (Run.seq (Run.reg [.p] ?_))
    refine .ag rfl rfl <| .nil ?_
    refine Run.block ?_
    refine Run.loop (ι := check49_ok_L0 l) (fun sx => [(0, sCloses l), (3, .i sx.pre.length)]) (fun sx => []) (fun sx => sx.rest.length) ⟨[], l, rfl, rfl, by omega⟩ ?_ ?_
    · exact Le.mk rfl (.cons rfl (Sub.refl _) rfl (.cons rfl (Sub.int (by first | rfl | (simp; done) | omega | (simp; omega))) rfl .nil)) .nil
    · rintro ⟨pre, rest, hx, hp, h0⟩
      show Run _ _ _ _ [(0, sCloses l), (3, .i pre.length)] []
      have hl := congrArg List.length hx
      simp only [List.length_append] at hl
      rcases rest with _ | ⟨x, rest⟩
      · skip
        refine Run.seq (Run.seq (Run.reg [.p, .p, .p, .p] ?_))
        refine .mv rfl rfl <| .mv rfl rfl <| .p rfl trivial (fun _ => q_lenI Tryz.underlying23 rfl _) <| .p rfl trivial (fun _ => q_lss rfl rfl _) <| .nil ?_
        refine Run.condF rfl (by simp at hl ⊢; omega) ?_
        refine Run.exit (tq_exit (bq_exit ?_))
        refine Run.seq (Run.reg [.p] ?_)
        refine .ag rfl rfl <| .nil ?_
        refine Run.ret (?_)
        exact ret1 rfl (Sub.int (by grind [checkCloses, checkCl]))
      · simp only [List.length_cons] at hl
        refine Run.seq (Run.seq (Run.reg [.p, .p, .p, .p] ?_))
        refine .mv rfl rfl <| .mv rfl rfl <| .p rfl trivial (fun _ => q_lenI Tryz.underlying23 rfl _) <| .p rfl trivial (fun _ => q_lss rfl rfl _) <| .nil ?_
        refine Run.condT rfl (by simp; omega) ?_
        refine Run.skip ?_
        refine Run.seq ?_
        refine Run.block ?_
        refine Run.seq (Run.seq (Run.reg [.p, .p, .p, .p, .p, .p, .p, .p, .p, .p, .p, .p, .p, .p] ?_))
        refine .mv rfl rfl <| .mv rfl rfl <| .p rfl trivial (fun _ => q_indexI Tryz.underlying23 Tryz.sizeOf76 rfl rfl (by omega) (idx_mid encClose hx rfl) _) <| .p rfl trivial (fun _ => q_fieldI (n := 0) 34 0 Tryz.underlying76 Tryz.sizeOf34 rfl rfl rfl _) <| .p rfl trivial (fun _ => q_loadI Tryz.isAgg34 rfl _) <| .p rfl trivial (fun _ => q_lss rfl rfl _) <| .mv rfl rfl <| .gF rfl (.inl rfl) rfl rfl rfl (fun hg => pk (fun _ => q_move rfl _)) <| .gF rfl (.inl rfl) rfl rfl rfl (fun hg => pk (fun _ => q_move rfl _)) <| .gF rfl (.inl rfl) rfl rfl rfl (fun hg => pk (fun _ => q_indexI Tryz.underlying23 Tryz.sizeOf76 (opT rfl (nt hg)) (opT rfl (nt hg)) (by omega) (idx_mid encClose hx rfl) _)) <| .gF rfl (.inl rfl) rfl rfl rfl (fun hg => pk (fun _ => q_fieldI (n := 0) 34 0 Tryz.underlying76 Tryz.sizeOf34 rfl (opT rfl (nt hg)) rfl _)) <| .gF rfl (.inl rfl) rfl rfl rfl (fun hg => pk (fun _ => q_loadI Tryz.isAgg34 (opT rfl (nt hg)) _)) <| .gF rfl (.inl rfl) rfl rfl rfl (fun hg => pk (fun _ => q_geq (opT rfl (nt hg)) rfl _)) <| .p rfl trivial (fun _ => q_or rfl rfl _) <| .nil ?_
        refine Run.cond rfl (fun h2 => ?_) (fun h2 => ?_)
        · have ph2 := h2
          try simp only [bs, bne_iff_ne, ne_eq, List.length_map] at ph2
          refine Run.seq (Run.reg [.p] ?_)
          refine .ag rfl rfl <| .nil ?_
          refine Run.ret (bq_ret (tq_ret (bq_ret (?_))))
          exact ret1 rfl (Sub.int (by grind [checkCloses, checkCl]))
        · have ph2 := h2
          try simp only [bs, bne_iff_ne, ne_eq, List.length_map] at ph2
          refine Run.skip ?_
          refine Run.seq (Run.seq (Run.reg [.p, .p, .p, .p, .p, .p] ?_))
          refine .mv rfl rfl <| .mv rfl rfl <| .p rfl trivial (fun _ => q_indexI Tryz.underlying23 Tryz.sizeOf76 rfl rfl (by omega) (idx_mid encClose hx rfl) _) <| .p rfl trivial (fun _ => q_fieldI (n := 0) 3 1 Tryz.underlying76 Tryz.sizeOf3 rfl rfl rfl _) <| .p rfl trivial (fun _ => q_loadI Tryz.isAgg3 rfl _) <| .p rfl trivial (fun _ => q_lss rfl rfl _) <| .nil ?_
          refine Run.cond rfl (fun h3 => ?_) (fun h3 => ?_)
          · have ph3 := h3
            try simp only [bs, bne_iff_ne, ne_eq, List.length_map] at ph3
            refine Run.seq (Run.reg [.p] ?_)
            refine .ag rfl rfl <| .nil ?_
            refine Run.ret (bq_ret (tq_ret (bq_ret (?_))))
            exact ret1 rfl (Sub.int (by grind [checkCloses, checkCl]))
          · have ph3 := h3
            try simp only [bs, bne_iff_ne, ne_eq, List.length_map] at ph3
            refine Run.skip ?_
            refine Run.seq (Run.regD [.p, .p, .p, .p, .p, .p, .p, .p, .p, .p, .p, .p, .p, .p, .p, .p, .p, .p, .p, .p, .p, .p, .p, .p, .p, .p, .p, .p, .p, .p] Tryz_mixed (by decide +kernel) ?_)
            refine .mv rfl rfl <| .p rfl trivial (fun _ => q_gtr rfl rfl _) <| .mv rfl rfl <| .gT rfl (.inl rfl) rfl rfl rfl (fun hg => pk (fun _ => q_move rfl _)) <| .gT rfl (.inl rfl) rfl rfl rfl (fun hg => pk (fun _ => q_move rfl _)) <| .gT rfl (.inl rfl) rfl rfl rfl (fun hg => pk (fun _ => q_indexI Tryz.underlying23 Tryz.sizeOf76 (opT rfl hg) (opT rfl hg) (by omega) (idx_mid encClose hx rfl) _)) <| .gT rfl (.inl rfl) rfl rfl rfl (fun hg => pk (fun _ => q_fieldI (n := 0) 34 0 Tryz.underlying76 Tryz.sizeOf34 rfl (opT rfl hg) rfl _)) <| .gT rfl (.inl rfl) rfl rfl rfl (fun hg => pk (fun _ => q_loadI Tryz.isAgg34 (opT rfl hg) _)) <| .gT rfl (.inl rfl) rfl rfl rfl (fun hg => pk (fun _ => q_move rfl _)) <| .gT rfl (.inl rfl) rfl rfl rfl (fun hg => pk (fun _ => q_move rfl _)) <| .gT rfl (.inl rfl) rfl rfl rfl (fun hg => pk (fun _ => q_sub (opT rfl hg) rfl (wrap64_ok (by omega) (by omega)) _)) <| .gT rfl (.inl rfl) rfl rfl rfl (fun hg => pk (fun _ => q_indexI Tryz.underlying23 Tryz.sizeOf76 (opT rfl hg) (opT rfl hg) (by simp at hg; omega) (idx_last encClose hx (by simp at hg; omega) rfl) _)) <| .gT rfl (.inl rfl) rfl rfl rfl (fun hg => pk (fun _ => q_fieldI (n := 0) 34 0 Tryz.underlying76 Tryz.sizeOf34 rfl (opT rfl hg) rfl _)) <| .gT rfl (.inl rfl) rfl rfl rfl (fun hg => pk (fun _ => q_loadI Tryz.isAgg34 (opT rfl hg) _)) <| .gT rfl (.inl rfl) rfl rfl rfl (fun hg => pk (fun _ => q_leq (opT rfl hg) (opT rfl hg) _)) <| .gT rfl (.inl rfl) rfl rfl rfl (fun hg => pk (fun _ => q_move (opT rfl hg) _)) ?_
            refine .nF rfl (.inl rfl) rfl rfl rfl (fun hc hg => pk (fun _ => q_move rfl _)) ?_
            refine .nF rfl (.inl rfl) rfl rfl rfl (fun hc hg => pk (fun _ => q_move rfl _)) ?_
            refine .nF rfl (.inl rfl) rfl rfl rfl (fun hc hg => pk (fun _ => q_indexI Tryz.underlying23 Tryz.sizeOf76 (opT rfl (bF hc hg)) (opT rfl (bF hc hg)) (by omega) (idx_mid encClose hx rfl) _)) ?_
            refine .nF rfl (.inl rfl) rfl rfl rfl (fun hc hg => pk (fun _ => q_fieldI (n := 0) 3 1 Tryz.underlying76 Tryz.sizeOf3 rfl (opT rfl (bF hc hg)) rfl _)) ?_
            refine .nF rfl (.inl rfl) rfl rfl rfl (fun hc hg => pk (fun _ => q_loadI Tryz.isAgg3 (opT rfl (bF hc hg)) _)) ?_
            refine .nF rfl (.inl rfl) rfl rfl rfl (fun hc hg => pk (fun _ => q_move rfl _)) ?_
            refine .nF rfl (.inl rfl) rfl rfl rfl (fun hc hg => pk (fun _ => q_move rfl _)) ?_
            refine .nF rfl (.inl rfl) rfl rfl rfl (fun hc hg => pk (fun _ => q_sub (opT rfl (bF hc hg)) rfl (wrap64_ok (by omega) (by omega)) _)) ?_
            refine .nF rfl (.inl rfl) rfl rfl rfl (fun hc hg => pk (fun _ => q_indexI Tryz.underlying23 Tryz.sizeOf76 (opT rfl (bF hc hg)) (opT rfl (bF hc hg)) (by simp at hc; omega) (idx_last encClose hx (by simp at hc; omega) rfl) _)) ?_
            refine .nF rfl (.inl rfl) rfl rfl rfl (fun hc hg => pk (fun _ => q_fieldI (n := 0) 3 1 Tryz.underlying76 Tryz.sizeOf3 rfl (opT rfl (bF hc hg)) rfl _)) ?_
            refine .nF rfl (.inl rfl) rfl rfl rfl (fun hc hg => pk (fun _ => q_loadI Tryz.isAgg3 (opT rfl (bF hc hg)) _)) ?_
            refine .nF rfl (.inl rfl) rfl rfl rfl (fun hc hg => pk (fun _ => q_lss (opT rfl (bF hc hg)) (opT rfl (bF hc hg)) _)) ?_
            refine .gT rfl (.inl rfl) rfl rfl rfl (fun hg => pk (fun _ => q_or (opT rfl hg) (opA rfl hg) _)) <| .p rfl trivial (fun _ => q_and rfl rfl _) <| .nil ?_
            refine Run.cond rfl (fun h4 => ?_) (fun h4 => ?_)
            · have ph4 := h4
              try simp only [bs, bne_iff_ne, ne_eq, List.length_map] at ph4
              refine Run.seq (Run.reg [.p] ?_)
              refine .ag rfl rfl <| .nil ?_
              refine Run.ret (bq_ret (tq_ret (bq_ret (?_))))
              exact ret1 rfl (Sub.int (by grind [checkCloses, checkCl]))
            · have ph4 := h4
              try simp only [bs, bne_iff_ne, ne_eq, List.length_map] at ph4
              refine Run.skip ?_
              refine Run.nil (bq_norm ?_)
              refine Run.reg [.p, .p, .p] ?_
              refine .mv rfl rfl <| .p rfl trivial (fun _ => q_add rfl rfl (wrap64_ok (by omega) (by omega)) _) <| .ag rfl rfl <| .nil ?_
              refine Run.nil (tq_norm ?_)
              exact ⟨⟨pre ++ [x], rest, by simp [hx], by grind [checkCl], h0⟩, by simp, Le.mk rfl (.cons rfl (Sub.refl _) rfl (.cons rfl (Sub.int (by first | rfl | (simp; done) | omega | (simp; omega))) rfl .nil)) .nil⟩
end Go.T
namespace Go.T
open Go Go.Proofs
set_option maxRecDepth 20000
structure cmpE35_ok_L0 (a b : Entry) where
  pa : List Line
  ra : List Line
  pb : List Line
  rb : List Line
  hxa : a.lines = pa ++ ra
  hxb : b.lines = pb ++ rb
  hn : pa.length = pb.length
  hp : cmpE a b = cmpLines ra rb
theorem cmpE35_ok (a b : Entry) : Fc Tryz.prog 206 [.agg (encEntry a), .agg (encEntry b)] (.i (cmpE a b)) := by
  refine Fc.mk' [4] Tryz.func206 rfl Tryz.ntmps206 rfl rfl rfl (fun t w => results_tmp Tryz.results206 t _ w) ?_
  refine Run.bAgg 0 2 rfl rfl (fun hb => ?_)
  simp only [List.length_map, big] at hb
  have hb1 := hb
  refine Run.bAgg 1 2 rfl rfl (fun hb => ?_)
  simp only [List.length_map, big] at hb
  refine Run.seq (Run.reg [.w, .w, .p] ?_)
  refine .w rfl trivial (q_boxA 0 rfl rfl) <| .w rfl trivial (q_boxA 1 rfl rfl) <| .ag rfl rfl <| .nil ?_
  refine Run.seq (Run.seq (Run.reg [.p, .r, .p, .r, .p] ?_))
  refine .p rfl trivial (fun _ => q_fieldB (n := 0) 34 0 Tryz.underlying37 Tryz.sizeOf34 rfl rfl _) <| .r rfl trivial (q_load1 Tryz.isAgg34 rfl rfl rfl) <| .p rfl trivial (fun _ => q_fieldB (n := 0) 34 0 Tryz.underlying37 Tryz.sizeOf34 rfl rfl _) <| .r rfl trivial (q_load1 Tryz.isAgg34 rfl rfl rfl) <| .p rfl trivial (fun _ => q_neq rfl rfl _) <| .nil ?_
  refine Run.cond rfl (fun h1 => ?_) (fun h1 => ?_)
  · have ph1 := h1
    try simp only [bs, bne_iff_ne, ne_eq, List.length_map] at ph1
    refine Run.seq (Run.seq (Run.reg [.p, .r, .p, .r, .p] ?_))
    refine .p rfl trivial (fun _ => q_fieldB (n := 0) 34 0 Tryz.underlying37 Tryz.sizeOf34 rfl rfl _) <| .r rfl trivial (q_load1 Tryz.isAgg34 rfl rfl rfl) <| .p rfl trivial (fun _ => q_fieldB (n := 0) 34 0 Tryz.underlying37 Tryz.sizeOf34 rfl rfl _) <| .r rfl trivial (q_load1 Tryz.isAgg34 rfl rfl rfl) <| .p rfl trivial (fun _ => q_lss rfl rfl _) <| .nil ?_
    refine Run.cond rfl (fun h2 => ?_) (fun h2 => ?_)
    · have ph2 := h2
      try simp only [bs, bne_iff_ne, ne_eq, List.length_map] at ph2
      refine Run.seq (Run.reg [.p] ?_)
      refine .ag rfl rfl <| .nil ?_
      refine Run.ret (?_)
      exact ret1 rfl (Sub.int (by first | grind [cmpE] | grind [cmpE, cmpLines]))
    · have ph2 := h2
      try simp only [bs, bne_iff_ne, ne_eq, List.length_map] at ph2
      refine Run.skip ?_
      refine Run.seq (Run.reg [.p] ?_)
      refine .ag rfl rfl <| .nil ?_
      refine Run.ret (?_)
      exact ret1 rfl (Sub.int (by first | grind [cmpE] | grind [cmpE, cmpLines]))
  · have ph1 := h1
    try simp only [bs, bne_iff_ne, ne_eq, List.length_map] at ph1
    refine Run.skip ?_
    refine Run.seq (Run.seq (Run.reg [.p, .r, .p, .r, .p, .p] ?_))
    refine .p rfl trivial (fun _ => q_fieldB (n := 0) 9 1 Tryz.underlying37 Tryz.sizeOf9 rfl rfl _) <| .r rfl trivial (q_load1 Tryz.isAgg9 rfl rfl rfl) <| .p rfl trivial (fun _ => q_fieldB (n := 0) 9 1 Tryz.underlying37 Tryz.sizeOf9 rfl rfl _) <| .r rfl trivial (q_load1 Tryz.isAgg9 rfl rfl rfl) <| .p rfl trivial (fun _ => q_call Tryz.call162 rfl (cmpT35_ok _ _) _) <| .ag rfl rfl <| .nil ?_
    refine Run.seq (Run.reg [.p, .p] ?_)
    refine .mv rfl rfl <| .p rfl trivial (fun _ => q_neq rfl rfl _) <| .nil ?_
    refine Run.cond rfl (fun h3 => ?_) (fun h3 => ?_)
    · have ph3 := h3
      try simp only [bs, bne_iff_ne, ne_eq, List.length_map] at ph3
      refine Run.seq (Run.reg [.p, .p] ?_)
      refine .mv rfl rfl <| .ag rfl rfl <| .nil ?_
      refine Run.ret (?_)
      exact ret1 rfl (Sub.int (by first | grind [cmpE] | grind [cmpE, cmpLines]))
    · have ph3 := h3
      try simp only [bs, bne_iff_ne, ne_eq, List.length_map] at ph3
      refine Run.skip ?_
      refine Run.seq (Run.seq (Run.reg [.p] ?_))
      refine .ag rfl rfl <| .nil ?_
      refine Run.block ?_
      refine Run.loop (ι := cmpE35_ok_L0 a b) (fun sx => [(2, .box 0 0), (3, .box 1 0), (6, .i sx.pa.length)]) (fun sx => [(0, .cells (encEntry a)), (1, .cells (encEntry b))]) (fun sx => sx.ra.length) ⟨[], a.lines, [], b.lines, rfl, rfl, rfl, by grind [cmpE]⟩ ?_ ?_
      · exact Le.mk rfl (.cons rfl (Sub.refl _) rfl (.cons rfl (Sub.refl _) rfl (.cons rfl (Sub.int (by first | rfl | (simp; done) | omega | (simp; omega))) rfl .nil))) (.cons rfl rfl (.cons rfl rfl .nil))
      · rintro ⟨pa, ra, pb, rb, hxa, hxb, hn, hp⟩
        show Run _ _ _ _ [(2, .box 0 0), (3, .box 1 0), (6, .i pa.length)] [(0, .cells (encEntry a)), (1, .cells (encEntry b))]
        have hla := congrArg List.length hxa
        have hlb := congrArg List.length hxb
        simp only [List.length_append] at hla hlb
        rcases ra with _ | ⟨x, ra⟩ <;> rcases rb with _ | ⟨y, rb⟩ <;> simp only [List.length_cons, List.length_nil] at hla hlb
        · skip
          refine Run.seq (Run.seq (Run.reg [.p, .p, .r, .p, .p, .p, .p, .p, .r, .p, .p, .p] ?_))
          refine .mv rfl rfl <| .p rfl trivial (fun _ => q_fieldB (n := 0) 35 2 Tryz.underlying37 Tryz.sizeOf35 rfl rfl _) <| .r rfl trivial (q_load1 Tryz.isAgg35 rfl rfl rfl) <| .p rfl trivial (fun _ => q_lenI Tryz.underlying35 rfl _) <| .p rfl trivial (fun _ => q_lss rfl rfl _) <| .mv rfl rfl <| .gT rfl (.inl rfl) rfl rfl rfl (fun hg => pk (fun _ => q_move rfl _)) <| .gT rfl (.inl rfl) rfl rfl rfl (fun hg => pk (fun _ => q_fieldB (n := 0) 35 2 Tryz.underlying37 Tryz.sizeOf35 rfl rfl _)) <| .gT rfl (.inr rfl) rfl rfl rfl (fun hg => rk (q_load1 Tryz.isAgg35 (opT rfl hg) rfl rfl)) <| .gT rfl (.inl rfl) rfl rfl rfl (fun hg => pk (fun _ => q_lenI Tryz.underlying35 (opT rfl hg) _)) <| .gT rfl (.inl rfl) rfl rfl rfl (fun hg => pk (fun _ => q_lss (opT rfl hg) (opT rfl hg) _)) <| .p rfl trivial (fun _ => q_and rfl rfl _) <| .nil ?_
          refine Run.condF rfl (by simp at hla hlb ⊢; omega) ?_
          refine Run.exit (tq_exit (bq_exit ?_))
          refine Run.seq (Run.seq (Run.reg [.p, .r, .p, .p, .r, .p, .p] ?_))
          refine .p rfl trivial (fun _ => q_fieldB (n := 0) 35 2 Tryz.underlying37 Tryz.sizeOf35 rfl rfl _) <| .r rfl trivial (q_load1 Tryz.isAgg35 rfl rfl rfl) <| .p rfl trivial (fun _ => q_lenI Tryz.underlying35 rfl _) <| .p rfl trivial (fun _ => q_fieldB (n := 0) 35 2 Tryz.underlying37 Tryz.sizeOf35 rfl rfl _) <| .r rfl trivial (q_load1 Tryz.isAgg35 rfl rfl rfl) <| .p rfl trivial (fun _ => q_lenI Tryz.underlying35 rfl _) <| .p rfl trivial (fun _ => q_lss rfl rfl _) <| .nil ?_
          refine Run.cond rfl (fun h4 => ?_) (fun h4 => ?_)
          · have ph4 := h4
            try simp only [bs, bne_iff_ne, ne_eq, List.length_map] at ph4
            refine Run.seq (Run.reg [.p] ?_)
            refine .ag rfl rfl <| .nil ?_
            refine Run.ret (?_)
            exact ret1 rfl (Sub.int (by first | grind [cmpE] | grind [cmpE, cmpLines]))
          · have ph4 := h4
            try simp only [bs, bne_iff_ne, ne_eq, List.length_map] at ph4
            refine Run.skip ?_
            refine Run.seq (Run.seq (Run.reg [.p, .r, .p, .p, .r, .p, .p] ?_))
            refine .p rfl trivial (fun _ => q_fieldB (n := 0) 35 2 Tryz.underlying37 Tryz.sizeOf35 rfl rfl _) <| .r rfl trivial (q_load1 Tryz.isAgg35 rfl rfl rfl) <| .p rfl trivial (fun _ => q_lenI Tryz.underlying35 rfl _) <| .p rfl trivial (fun _ => q_fieldB (n := 0) 35 2 Tryz.underlying37 Tryz.sizeOf35 rfl rfl _) <| .r rfl trivial (q_load1 Tryz.isAgg35 rfl rfl rfl) <| .p rfl trivial (fun _ => q_lenI Tryz.underlying35 rfl _) <| .p rfl trivial (fun _ => q_gtr rfl rfl _) <| .nil ?_
            refine Run.cond rfl (fun h5 => ?_) (fun h5 => ?_)
            · have ph5 := h5
              try simp only [bs, bne_iff_ne, ne_eq, List.length_map] at ph5
              refine Run.seq (Run.reg [.p] ?_)
              refine .ag rfl rfl <| .nil ?_
              refine Run.ret (?_)
              exact ret1 rfl (Sub.int (by first | grind [cmpE] | grind [cmpE, cmpLines]))
            · have ph5 := h5
              try simp only [bs, bne_iff_ne, ne_eq, List.length_map] at ph5
              refine Run.skip ?_
              refine Run.seq (Run.reg [.p] ?_)
              refine .ag rfl rfl <| .nil ?_
              refine Run.ret (?_)
              exact ret1 rfl (Sub.int (by first | grind [cmpE] | grind [cmpE, cmpLines]))
        · skip
          refine Run.seq (Run.seq (Run.reg [.p, .p, .r, .p, .p, .p, .p, .p, .r, .p, .p, .p] ?_))
          refine .mv rfl rfl <| .p rfl trivial (fun _ => q_fieldB (n := 0) 35 2 Tryz.underlying37 Tryz.sizeOf35 rfl rfl _) <| .r rfl trivial (q_load1 Tryz.isAgg35 rfl rfl rfl) <| .p rfl trivial (fun _ => q_lenI Tryz.underlying35 rfl _) <| .p rfl trivial (fun _ => q_lss rfl rfl _) <| .mv rfl rfl <| .gT rfl (.inl rfl) rfl rfl rfl (fun hg => pk (fun _ => q_move rfl _)) <| .gT rfl (.inl rfl) rfl rfl rfl (fun hg => pk (fun _ => q_fieldB (n := 0) 35 2 Tryz.underlying37 Tryz.sizeOf35 rfl rfl _)) <| .gT rfl (.inr rfl) rfl rfl rfl (fun hg => rk (q_load1 Tryz.isAgg35 (opT rfl hg) rfl rfl)) <| .gT rfl (.inl rfl) rfl rfl rfl (fun hg => pk (fun _ => q_lenI Tryz.underlying35 (opT rfl hg) _)) <| .gT rfl (.inl rfl) rfl rfl rfl (fun hg => pk (fun _ => q_lss (opT rfl hg) (opT rfl hg) _)) <| .p rfl trivial (fun _ => q_and rfl rfl _) <| .nil ?_
          refine Run.condF rfl (by simp at hla hlb ⊢; omega) ?_
          refine Run.exit (tq_exit (bq_exit ?_))
          refine Run.seq (Run.seq (Run.reg [.p, .r, .p, .p, .r, .p, .p] ?_))
          refine .p rfl trivial (fun _ => q_fieldB (n := 0) 35 2 Tryz.underlying37 Tryz.sizeOf35 rfl rfl _) <| .r rfl trivial (q_load1 Tryz.isAgg35 rfl rfl rfl) <| .p rfl trivial (fun _ => q_lenI Tryz.underlying35 rfl _) <| .p rfl trivial (fun _ => q_fieldB (n := 0) 35 2 Tryz.underlying37 Tryz.sizeOf35 rfl rfl _) <| .r rfl trivial (q_load1 Tryz.isAgg35 rfl rfl rfl) <| .p rfl trivial (fun _ => q_lenI Tryz.underlying35 rfl _) <| .p rfl trivial (fun _ => q_lss rfl rfl _) <| .nil ?_
          refine Run.cond rfl (fun h6 => ?_) (fun h6 => ?_)
          · have ph6 := h6
            try simp only [bs, bne_iff_ne, ne_eq, List.length_map] at ph6
            refine Run.seq (Run.reg [.p] ?_)
            refine .ag rfl rfl <| .nil ?_
            refine Run.ret (?_)
            exact ret1 rfl (Sub.int (by first | grind [cmpE] | grind [cmpE, cmpLines]))
          · have ph6 := h6
            try simp only [bs, bne_iff_ne, ne_eq, List.length_map] at ph6
            refine Run.skip ?_
            refine Run.seq (Run.seq (Run.reg [.p, .r, .p, .p, .r, .p, .p] ?_))
            refine .p rfl trivial (fun _ => q_fieldB (n := 0) 35 2 Tryz.underlying37 Tryz.sizeOf35 rfl rfl _) <| .r rfl trivial (q_load1 Tryz.isAgg35 rfl rfl rfl) <| .p rfl trivial (fun _ => q_lenI Tryz.underlying35 rfl _) <| .p rfl trivial (fun _ => q_fieldB (n := 0) 35 2 Tryz.underlying37 Tryz.sizeOf35 rfl rfl _) <| .r rfl trivial (q_load1 Tryz.isAgg35 rfl rfl rfl) <| .p rfl trivial (fun _ => q_lenI Tryz.underlying35 rfl _) <| .p rfl trivial (fun _ => q_gtr rfl rfl _) <| .nil ?_
            refine Run.cond rfl (fun h7 => ?_) (fun h7 => ?_)
            · have ph7 := h7
              try simp only [bs, bne_iff_ne, ne_eq, List.length_map] at ph7
              refine Run.seq (Run.reg [.p] ?_)
              refine .ag rfl rfl <| .nil ?_
              refine Run.ret (?_)
              exact ret1 rfl (Sub.int (by first | grind [cmpE] | grind [cmpE, cmpLines]))
            · have ph7 := h7
              try simp only [bs, bne_iff_ne, ne_eq, List.length_map] at ph7
              refine Run.skip ?_
              refine Run.seq (Run.reg [.p] ?_)
              refine .ag rfl rfl <| .nil ?_
              refine Run.ret (?_)
              exact ret1 rfl (Sub.int (by first | grind [cmpE] | grind [cmpE, cmpLines]))
        · skip
          refine Run.seq (Run.seq (Run.reg [.p, .p, .r, .p, .p, .p, .p, .p, .r, .p, .p, .p] ?_))
          refine .mv rfl rfl <| .p rfl trivial (fun _ => q_fieldB (n := 0) 35 2 Tryz.underlying37 Tryz.sizeOf35 rfl rfl _) <| .r rfl trivial (q_load1 Tryz.isAgg35 rfl rfl rfl) <| .p rfl trivial (fun _ => q_lenI Tryz.underlying35 rfl _) <| .p rfl trivial (fun _ => q_lss rfl rfl _) <| .mv rfl rfl <| .gT rfl (.inl rfl) rfl rfl rfl (fun hg => pk (fun _ => q_move rfl _)) <| .gT rfl (.inl rfl) rfl rfl rfl (fun hg => pk (fun _ => q_fieldB (n := 0) 35 2 Tryz.underlying37 Tryz.sizeOf35 rfl rfl _)) <| .gT rfl (.inr rfl) rfl rfl rfl (fun hg => rk (q_load1 Tryz.isAgg35 (opT rfl hg) rfl rfl)) <| .gT rfl (.inl rfl) rfl rfl rfl (fun hg => pk (fun _ => q_lenI Tryz.underlying35 (opT rfl hg) _)) <| .gT rfl (.inl rfl) rfl rfl rfl (fun hg => pk (fun _ => q_lss (opT rfl hg) (opT rfl hg) _)) <| .p rfl trivial (fun _ => q_and rfl rfl _) <| .nil ?_
          refine Run.condF rfl (by simp at hla hlb ⊢; omega) ?_
          refine Run.exit (tq_exit (bq_exit ?_))
          refine Run.seq (Run.seq (Run.reg [.p, .r, .p, .p, .r, .p, .p] ?_))
          refine .p rfl trivial (fun _ => q_fieldB (n := 0) 35 2 Tryz.underlying37 Tryz.sizeOf35 rfl rfl _) <| .r rfl trivial (q_load1 Tryz.isAgg35 rfl rfl rfl) <| .p rfl trivial (fun _ => q_lenI Tryz.underlying35 rfl _) <| .p rfl trivial (fun _ => q_fieldB (n := 0) 35 2 Tryz.underlying37 Tryz.sizeOf35 rfl rfl _) <| .r rfl trivial (q_load1 Tryz.isAgg35 rfl rfl rfl) <| .p rfl trivial (fun _ => q_lenI Tryz.underlying35 rfl _) <| .p rfl trivial (fun _ => q_lss rfl rfl _) <| .nil ?_
          refine Run.cond rfl (fun h8 => ?_) (fun h8 => ?_)
          · have ph8 := h8
            try simp only [bs, bne_iff_ne, ne_eq, List.length_map] at ph8
            refine Run.seq (Run.reg [.p] ?_)
            refine .ag rfl rfl <| .nil ?_
            refine Run.ret (?_)
            exact ret1 rfl (Sub.int (by first | grind [cmpE] | grind [cmpE, cmpLines]))
          · have ph8 := h8
            try simp only [bs, bne_iff_ne, ne_eq, List.length_map] at ph8
            refine Run.skip ?_
            refine Run.seq (Run.seq (Run.reg [.p, .r, .p, .p, .r, .p, .p] ?_))
            refine .p rfl trivial (fun _ => q_fieldB (n := 0) 35 2 Tryz.underlying37 Tryz.sizeOf35 rfl rfl _) <| .r rfl trivial (q_load1 Tryz.isAgg35 rfl rfl rfl) <| .p rfl trivial (fun _ => q_lenI Tryz.underlying35 rfl _) <| .p rfl trivial (fun _ => q_fieldB (n := 0) 35 2 Tryz.underlying37 Tryz.sizeOf35 rfl rfl _) <| .r rfl trivial (q_load1 Tryz.isAgg35 rfl rfl rfl) <| .p rfl trivial (fun _ => q_lenI Tryz.underlying35 rfl _) <| .p rfl trivial (fun _ => q_gtr rfl rfl _) <| .nil ?_
            refine Run.cond rfl (fun h9 => ?_) (fun h9 => ?_)
            · have ph9 := h9
              try simp only [bs, bne_iff_ne, ne_eq, List.length_map] at ph9
              refine Run.seq (Run.reg [.p] ?_)
              refine .ag rfl rfl <| .nil ?_
              refine Run.ret (?_)
              exact ret1 rfl (Sub.int (by first | grind [cmpE] | grind [cmpE, cmpLines]))
            · have ph9 := h9
              try simp only [bs, bne_iff_ne, ne_eq, List.length_map] at ph9
              refine Run.skip ?_
              refine Run.seq (Run.reg [.p] ?_)
              refine .ag rfl rfl <| .nil ?_
              refine Run.ret (?_)
              exact ret1 rfl (Sub.int (by first | grind [cmpE] | grind [cmpE, cmpLines]))
        · skip
          refine Run.seq (Run.seq (Run.reg [.p, .p, .r, .p, .p, .p, .p, .p, .r, .p, .p, .p] ?_))
          refine .mv rfl rfl <| .p rfl trivial (fun _ => q_fieldB (n := 0) 35 2 Tryz.underlying37 Tryz.sizeOf35 rfl rfl _) <| .r rfl trivial (q_load1 Tryz.isAgg35 rfl rfl rfl) <| .p rfl trivial (fun _ => q_lenI Tryz.underlying35 rfl _) <| .p rfl trivial (fun _ => q_lss rfl rfl _) <| .mv rfl rfl <| .gT rfl (.inl rfl) rfl rfl rfl (fun hg => pk (fun _ => q_move rfl _)) <| .gT rfl (.inl rfl) rfl rfl rfl (fun hg => pk (fun _ => q_fieldB (n := 0) 35 2 Tryz.underlying37 Tryz.sizeOf35 rfl rfl _)) <| .gT rfl (.inr rfl) rfl rfl rfl (fun hg => rk (q_load1 Tryz.isAgg35 (opT rfl hg) rfl rfl)) <| .gT rfl (.inl rfl) rfl rfl rfl (fun hg => pk (fun _ => q_lenI Tryz.underlying35 (opT rfl hg) _)) <| .gT rfl (.inl rfl) rfl rfl rfl (fun hg => pk (fun _ => q_lss (opT rfl hg) (opT rfl hg) _)) <| .p rfl trivial (fun _ => q_and rfl rfl _) <| .nil ?_
          refine Run.condT rfl (by simp at hla hlb ⊢; omega) ?_
          refine Run.skip ?_
          refine Run.seq ?_
          refine Run.block ?_
          refine Run.seq (Run.seq (Run.regD [.p, .r, .p, .p, .p, .p, .r, .p, .p, .p, .p, .p] Tryz_mixed (by decide +kernel) ?_))
          refine .p rfl trivial (fun _ => q_fieldB (n := 0) 35 2 Tryz.underlying37 Tryz.sizeOf35 rfl rfl _) <| .r rfl trivial (q_load1 Tryz.isAgg35 rfl rfl rfl) <| .mv rfl rfl <| .p rfl trivial (fun _ => q_indexI Tryz.underlying35 Tryz.sizeOf92 rfl rfl (by omega) (idx_mid encLine hxa rfl) _) <| .p rfl trivial (fun _ => q_loadIA Tryz.isAgg92 Tryz.sizeOf92 rfl rfl _) <| .p rfl trivial (fun _ => q_fieldB (n := 0) 35 2 Tryz.underlying37 Tryz.sizeOf35 rfl rfl _) <| .r rfl trivial (q_load1 Tryz.isAgg35 rfl rfl rfl) <| .mv rfl rfl <| .p rfl trivial (fun _ => q_indexI Tryz.underlying35 Tryz.sizeOf92 rfl rfl (by omega) (idx_mid encLine hxb (by rw [hn])) _) <| .p rfl trivial (fun _ => q_loadIA Tryz.isAgg92 Tryz.sizeOf92 rfl rfl _) <| .p rfl trivial (fun _ => q_call Tryz.call111 rfl (cmpLine35_ok _ _) _) <| .ag rfl rfl <| .nil ?_
          refine Run.seq (Run.reg [.p, .p] ?_)
          refine .mv rfl rfl <| .p rfl trivial (fun _ => q_neq rfl rfl _) <| .nil ?_
          refine Run.cond rfl (fun h10 => ?_) (fun h10 => ?_)
          · have ph10 := h10
            try simp only [bs, bne_iff_ne, ne_eq, List.length_map] at ph10
            refine Run.seq (Run.reg [.p, .p] ?_)
            refine .mv rfl rfl <| .ag rfl rfl <| .nil ?_
            refine Run.ret (bq_ret (tq_ret (bq_ret (?_))))
            exact ret1 rfl (Sub.int (by first | grind [cmpE] | grind [cmpE, cmpLines]))
          · have ph10 := h10
            try simp only [bs, bne_iff_ne, ne_eq, List.length_map] at ph10
            refine Run.skip ?_
            refine Run.seq (Run.regD [.p, .r, .p, .p, .p, .p, .p, .r, .p, .p, .p, .p, .p, .p] Tryz_mixed (by decide +kernel) ?_)
            refine .p rfl trivial (fun _ => q_fieldB (n := 0) 35 2 Tryz.underlying37 Tryz.sizeOf35 rfl rfl _) <| .r rfl trivial (q_load1 Tryz.isAgg35 rfl rfl rfl) <| .mv rfl rfl <| .p rfl trivial (fun _ => q_indexI Tryz.underlying35 Tryz.sizeOf92 rfl rfl (by omega) (idx_mid encLine hxa rfl) _) <| .p rfl trivial (fun _ => q_fieldI (n := 0) 54 2 Tryz.underlying92 Tryz.sizeOf54 rfl rfl rfl _) <| .p rfl trivial (fun _ => q_loadI Tryz.isAgg54 rfl _) <| .p rfl trivial (fun _ => q_fieldB (n := 0) 35 2 Tryz.underlying37 Tryz.sizeOf35 rfl rfl _) <| .r rfl trivial (q_load1 Tryz.isAgg35 rfl rfl rfl) <| .mv rfl rfl <| .p rfl trivial (fun _ => q_indexI Tryz.underlying35 Tryz.sizeOf92 rfl rfl (by omega) (idx_mid encLine hxb (by rw [hn])) _) <| .p rfl trivial (fun _ => q_fieldI (n := 0) 54 2 Tryz.underlying92 Tryz.sizeOf54 rfl rfl rfl _) <| .p rfl trivial (fun _ => q_loadI Tryz.isAgg54 rfl _) <| .p rfl trivial (fun _ => q_call Tryz.call188 rfl (compare01_ok _ _) _) <| .ag rfl rfl <| .nil ?_
            refine Run.seq (Run.reg [.p, .p] ?_)
            refine .mv rfl rfl <| .p rfl trivial (fun _ => q_neq rfl rfl _) <| .nil ?_
            refine Run.cond rfl (fun h11 => ?_) (fun h11 => ?_)
            · have ph11 := h11
              try simp only [bs, bne_iff_ne, ne_eq, List.length_map] at ph11
              refine Run.seq (Run.reg [.p, .p] ?_)
              refine .mv rfl rfl <| .ag rfl rfl <| .nil ?_
              refine Run.ret (bq_ret (tq_ret (bq_ret (?_))))
              exact ret1 rfl (Sub.int (by first | grind [cmpE] | grind [cmpE, cmpLines]))
            · have ph11 := h11
              try simp only [bs, bne_iff_ne, ne_eq, List.length_map] at ph11
              refine Run.skip ?_
              refine Run.nil (bq_norm ?_)
              refine Run.reg [.p, .p, .p] ?_
              refine .mv rfl rfl <| .p rfl trivial (fun _ => q_add rfl rfl (wrap64_ok (by omega) (by omega)) _) <| .ag rfl rfl <| .nil ?_
              refine Run.nil (tq_norm ?_)
              exact ⟨⟨pa ++ [x], ra, pb ++ [y], rb, by simp [hxa], by simp [hxb], by simp [hn], by grind [cmpLines]⟩, by simp, Le.mk rfl (.cons rfl (Sub.refl _) rfl (.cons rfl (Sub.refl _) rfl (.cons rfl (Sub.int (by first | rfl | (simp; done) | omega | (simp; omega))) rfl .nil))) (.cons rfl rfl (.cons rfl rfl .nil))⟩
end Go.T
namespace Go.T
open Go Go.Proofs
set_option maxRecDepth 20000
structure sort35_ok_L0 (l : List Entry) (hs : l.length ≤ 1000) where
  ra : List Entry
  rest : List Entry
  i : Nat
  hi : i = ra.length ∨ (rest = [] ∧ ra = [] ∧ i = 1)
  hln : ra.length + rest.length = l.length
  hx : (rest.foldl insR ra).reverse = sortE l
structure sort35_ok_L1 (l : List Entry) (hs : l.length ≤ 1000) (ra : List Entry) (x : Entry) (rest : List Entry) (i : Nat) where
  ra1 : List Entry
  mid : List Entry
  hq : insR ra x = mid.reverse ++ insR ra1 x
  hm : ra1.length + mid.length = ra.length
theorem sort35_ok (l : List Entry) (hs : l.length ≤ 1000) : Fc Tryz.prog 205 [sEntries l] (sEntries (sortE l)) := by
  refine Fc.mk' [2] Tryz.func205 rfl Tryz.ntmps205 rfl rfl rfl (fun t w => results_tmp Tryz.results205 t _ w) ?_
  refine Run.bSnap 0 rfl (fun hb => ?_)
  simp only [List.length_map, big] at hb
  refine Run.seq (Run.reg [.p] ?_)
  refine .ag rfl rfl <| .nil ?_
  refine Run.seq (Run.reg [.p, .p, .w, .p] ?_)
  refine .p rfl trivial (fun _ => q_buildSlice0 Tryz.underlying22 Tryz.sizeOf37 _) <| .mv rfl rfl <| .w rfl trivial (QStep.own0 0 3 (t := 6) rfl (Sub.gsEmpty _ _) (q_append 1 Tryz.underlying22 Tryz.underlying22 Tryz.sizeOf37 Tryz.typeInfo37 Tryz.zeroValue37 rfl (bt := 48) rfl rfl rfl rfl rfl rfl rfl (by simp; omega))) <| .ag rfl rfl <| .nil ?_
  refine Run.seq (Run.seq (Run.reg [.p] ?_))
  refine .ag rfl rfl <| .nil ?_
  refine Run.block ?_
  refine Run.loop (ι := sort35_ok_L0 l hs) (fun sx => [(3, .gs 1 l.length), (4, .i sx.i)]) (fun sx => [(1, .arr 3 ((sx.ra.reverse ++ sx.rest).map encEntry))]) (fun sx => sx.rest.length) ⟨l.take 1, l.drop 1, 1, by cases l <;> simp, by cases l <;> simp [Nat.add_comm], sortE_take l⟩ ?_ ?_
  · exact Le.mk rfl (.cons rfl (Sub.gs (by simp)) rfl (.cons rfl (Sub.int (by first | rfl | (simp; done) | omega | (simp; omega))) rfl .nil)) (.arr rfl (by first | (cases l <;> simp; done) | exact swap_yx .. | ((try dsimp only); rw [hq, insR, if_neg (by omega)]; simp; done) | (simp [hq, insR, *]; done) | grind) .nil)
  · rintro ⟨ra, rest, i, hi, hln, hx⟩
    show Run _ _ _ _ [(3, .gs 1 l.length), (4, .i i)] [(1, .arr 3 ((ra.reverse ++ rest).map encEntry))]
    rcases rest with _ | ⟨x, rest⟩ <;> simp only [List.length_cons, List.length_nil] at hln
    · have hli : l.length ≤ i := by rcases hi with h | ⟨_, h, h2⟩ <;> simp_all <;> omega
      refine Run.seq (Run.seq (Run.reg [.p, .p, .p, .p] ?_))
      refine .mv rfl rfl <| .mv rfl rfl <| .p rfl trivial (fun _ => q_lenG Tryz.underlying22 rfl _) <| .p rfl trivial (fun _ => q_lss rfl rfl _) <| .nil ?_
      refine Run.condF rfl (by simp; omega) ?_
      refine Run.exit (tq_exit (bq_exit ?_))
      refine Run.seq (Run.reg [.p, .p] ?_)
      refine .mv rfl rfl <| .ag rfl rfl <| .nil ?_
      refine Run.weak (Le.freeze 2 1 rfl rfl (by simp; omega)) ?_
      refine Run.ret (?_)
      exact ret1 rfl (Sub.snap (by first | (simp [← hx]; done) | grind))
    · simp only [List.foldl_cons] at hx
      simp only [reduceCtorEq, false_and, or_false] at hi
      refine Run.seq (Run.seq (Run.reg [.p, .p, .p, .p] ?_))
      refine .mv rfl rfl <| .mv rfl rfl <| .p rfl trivial (fun _ => q_lenG Tryz.underlying22 rfl _) <| .p rfl trivial (fun _ => q_lss rfl rfl _) <| .nil ?_
      refine Run.condT rfl (by simp; omega) ?_
      refine Run.skip ?_
      refine Run.seq ?_
      refine Run.block ?_
      refine Run.seq (Run.reg [.p, .p] ?_)
      refine .mv rfl rfl <| .ag rfl rfl <| .nil ?_
      refine Run.block ?_
      refine Run.loop (ι := sort35_ok_L1 l hs ra x rest i) (fun sx => [(3, .gs 1 l.length), (4, .i i), (5, .i sx.ra1.length)]) (fun sx => [(1, .arr 3 ((sx.ra1.reverse ++ x :: (sx.mid ++ rest)).map encEntry))]) (fun sx => sx.ra1.length) ⟨ra, [], by simp, by simp⟩ ?_ ?_
      · exact Le.mk rfl (.cons rfl (Sub.gs (by simp)) rfl (.cons rfl (Sub.int (by first | rfl | (simp; done) | omega | (simp; omega))) rfl (.cons rfl (Sub.int (by first | rfl | (simp; done) | omega | (simp; omega))) rfl .nil))) (.arr rfl (by first | (cases l <;> simp; done) | exact swap_yx .. | ((try dsimp only); rw [hq, insR, if_neg (by omega)]; simp; done) | (simp [hq, insR, *]; done) | grind) .nil)
      · rintro ⟨ra1, mid, hq, hm⟩
        show Run _ _ _ _ [(3, .gs 1 l.length), (4, .i i), (5, .i ra1.length)] [(1, .arr 3 ((ra1.reverse ++ x :: (mid ++ rest)).map encEntry))]
        rcases ra1 with _ | ⟨y, ra1⟩ <;> simp only [List.length_cons, List.length_nil] at hm
        · skip
          refine Run.seq (Run.seq (Run.regD [.p, .p, .p, .p, .p, .p, .p, .r, .p, .p, .p, .r, .p, .p, .p] Tryz_mixed (by decide +kernel) ?_))
          refine .mv rfl rfl <| .p rfl trivial (fun _ => q_gtr rfl rfl _) <| .mv rfl rfl ?_
          refine .off rfl (off_of rfl rfl rfl (by simp)) ?_
          refine .off rfl (off_of rfl rfl rfl (by simp)) ?_
          refine .off rfl (off_of rfl rfl rfl (by simp)) ?_
          refine .off rfl (off_of rfl rfl rfl (by simp)) ?_
          refine .off rfl (off_of rfl rfl rfl (by simp)) ?_
          refine .off rfl (off_of rfl rfl rfl (by simp)) ?_
          refine .off rfl (off_of rfl rfl rfl (by simp)) ?_
          refine .off rfl (off_of rfl rfl rfl (by simp)) ?_
          refine .off rfl (off_of rfl rfl rfl (by simp)) ?_
          refine .off rfl (off_of rfl rfl rfl (by simp)) ?_
          refine .off rfl (off_of rfl rfl rfl (by simp)) ?_
          refine .p rfl trivial (fun _ => q_pickF rfl (by simp) rfl _) <| .nil ?_
          refine Run.condF rfl rfl ?_
          refine Run.exit (tq_exit (bq_exit ?_))
          refine Run.nil (bq_norm ?_)
          refine Run.reg [.p, .p, .p] ?_
          refine .mv rfl rfl <| .p rfl trivial (fun _ => q_add rfl rfl (wrap64_ok (by omega) (by omega)) _) <| .ag rfl rfl <| .nil ?_
          refine Run.nil (tq_norm ?_)
          exact ⟨⟨insR ra x, rest, i + 1, by rw [insR_len]; omega, by rw [insR_len]; omega, hx⟩, by simp, Le.mk rfl (.cons rfl (Sub.gs (by simp)) rfl (.cons rfl (Sub.int (by first | rfl | (simp; done) | omega | (simp; omega))) rfl .nil)) (.arr rfl (by first | (cases l <;> simp; done) | exact swap_yx .. | ((try dsimp only); rw [hq, insR, if_neg (by omega)]; simp; done) | (simp [hq, insR, *]; done) | grind) .nil)⟩
        · have hcl : (y :: ra1).length = ra1.length + 1 := rfl
          refine Run.seq (Run.seq (Run.regD [.p, .p, .p, .p, .p, .p, .p, .r, .p, .p, .p, .r, .p, .p, .p] Tryz_mixed (by decide +kernel) ?_))
          refine .mv rfl rfl <| .p rfl trivial (fun _ => q_gtr rfl rfl _) <| .mv rfl rfl <| .p rfl (on_of rfl rfl rfl (by simp)) (fun _ => q_move rfl _) <| .p rfl (on_of rfl rfl rfl (by simp)) (fun _ => q_move rfl _) <| .p rfl (on_of rfl rfl rfl (by simp)) (fun _ => q_sub rfl rfl (wrap64_ok (by omega) (by omega)) _) <| .p rfl (on_of rfl rfl rfl (by simp)) (fun _ => q_indexG (off := (ra1.length) * 3) Tryz.underlying22 Tryz.sizeOf37 rfl rfl (by omega) (by omega) (by omega) _) <| .r rfl (on_of rfl rfl rfl (by simp)) (q_loadGA (j := ra1.length) (r := encEntry y) Tryz.isAgg37 Tryz.sizeOf37 rfl rfl rfl rfl (by exact at_y ..)) <| .p rfl (on_of rfl rfl rfl (by simp)) (fun _ => q_move rfl _) <| .p rfl (on_of rfl rfl rfl (by simp)) (fun _ => q_move rfl _) <| .p rfl (on_of rfl rfl rfl (by simp)) (fun _ => q_indexG (off := (ra1.length + 1) * 3) Tryz.underlying22 Tryz.sizeOf37 rfl rfl (by omega) (by omega) (by omega) _) <| .r rfl (on_of rfl rfl rfl (by simp)) (q_loadGA (j := ra1.length + 1) (r := encEntry x) Tryz.isAgg37 Tryz.sizeOf37 rfl rfl rfl rfl (by exact at_x ..)) <| .p rfl (on_of rfl rfl rfl (by simp)) (fun _ => q_call Tryz.call206 rfl (cmpE35_ok _ _) _) <| .p rfl (on_of rfl rfl rfl (by simp)) (fun _ => q_gtr rfl rfl _) <| .p rfl trivial (fun _ => q_pickT rfl (by simp) rfl _) <| .nil ?_
          refine Run.cond rfl (fun h1 => ?_) (fun h1 => ?_)
          · have ph1 := h1
            try simp only [bs, bne_iff_ne, ne_eq, List.length_map] at ph1
            refine Run.skip ?_
            refine Run.seq ?_
            refine Run.block ?_
            refine Run.regD [.p, .p, .p, .p, .p, .p, .p, .p, .r, .p, .p, .p, .p, .r, .p, .w, .p, .w] Tryz_mixed (by decide +kernel) ?_
            refine .mv rfl rfl <| .mv rfl rfl <| .p rfl trivial (fun _ => q_sub rfl rfl (wrap64_ok (by omega) (by omega)) _) <| .mv rfl rfl <| .mv rfl rfl <| .mv rfl rfl <| .mv rfl rfl <| .p rfl trivial (fun _ => q_indexG (off := (ra1.length + 1) * 3) Tryz.underlying22 Tryz.sizeOf37 rfl rfl (by omega) (by omega) (by omega) _) <| .r rfl trivial (q_loadGA (j := ra1.length + 1) (r := encEntry x) Tryz.isAgg37 Tryz.sizeOf37 rfl rfl rfl rfl (by exact at_x ..)) <| .mv rfl rfl <| .mv rfl rfl <| .p rfl trivial (fun _ => q_sub rfl rfl (wrap64_ok (by omega) (by omega)) _) <| .p rfl trivial (fun _ => q_indexG (off := (ra1.length) * 3) Tryz.underlying22 Tryz.sizeOf37 rfl rfl (by omega) (by omega) (by omega) _) <| .r rfl trivial (q_loadGA (j := ra1.length) (r := encEntry y) Tryz.isAgg37 Tryz.sizeOf37 rfl rfl rfl rfl (by exact at_y ..)) <| .p rfl trivial (fun _ => q_indexG (off := (ra1.length) * 3) Tryz.underlying22 Tryz.sizeOf37 rfl rfl (by omega) (by omega) (by omega) _) <| .w rfl trivial (q_storeGA (j := ra1.length) Tryz.sizeOf37 rfl rfl rfl rfl rfl rfl rfl rfl (by first | (simp; done) | (simp; omega))) <| .p rfl trivial (fun _ => q_indexG (off := (ra1.length + 1) * 3) Tryz.underlying22 Tryz.sizeOf37 rfl rfl (by omega) (by omega) (by omega) _) <| .w rfl trivial (q_storeGA (j := ra1.length + 1) Tryz.sizeOf37 rfl rfl rfl rfl rfl rfl rfl rfl (by first | (simp; done) | (simp; omega))) <| .nil ?_
            refine Run.nil (bq_norm ?_)
            refine Run.reg [.p, .p, .p] ?_
            refine .mv rfl rfl <| .p rfl trivial (fun _ => q_sub rfl rfl (wrap64_ok (by omega) (by omega)) _) <| .ag rfl rfl <| .nil ?_
            refine Run.nil (tq_norm ?_)
            exact ⟨⟨ra1, y :: mid, by rw [hq, insR, if_pos (by omega)]; simp, by simp; omega⟩, by simp, Le.mk rfl (.cons rfl (Sub.gs (by simp)) rfl (.cons rfl (Sub.int (by first | rfl | (simp; done) | omega | (simp; omega))) rfl (.cons rfl (Sub.int (by first | rfl | (simp; done) | omega | (simp; omega))) rfl .nil))) (.arr rfl (by first | (cases l <;> simp; done) | exact swap_yx .. | ((try dsimp only); rw [hq, insR, if_neg (by omega)]; simp; done) | (simp [hq, insR, *]; done) | grind) .nil)⟩
          · have ph1 := h1
            try simp only [bs, bne_iff_ne, ne_eq, List.length_map] at ph1
            refine Run.exit (tq_exit (bq_exit ?_))
            refine Run.nil (bq_norm ?_)
            refine Run.reg [.p, .p, .p] ?_
            refine .mv rfl rfl <| .p rfl trivial (fun _ => q_add rfl rfl (wrap64_ok (by omega) (by omega)) _) <| .ag rfl rfl <| .nil ?_
            refine Run.nil (tq_norm ?_)
            exact ⟨⟨insR ra x, rest, i + 1, by rw [insR_len]; omega, by rw [insR_len]; omega, hx⟩, by simp, Le.mk rfl (.cons rfl (Sub.gs (by simp)) rfl (.cons rfl (Sub.int (by first | rfl | (simp; done) | omega | (simp; omega))) rfl .nil)) (.arr rfl (by first | (cases l <;> simp; done) | exact swap_yx .. | ((try dsimp only); rw [hq, insR, if_neg (by omega)]; simp; done) | (simp [hq, insR, *]; done) | grind) .nil)⟩
end Go.T
