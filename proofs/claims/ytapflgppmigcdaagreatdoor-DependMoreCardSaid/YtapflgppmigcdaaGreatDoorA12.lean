/-
  Contracts of the functions that the statement reaches, and the logic in which they are proved (no condition): parts Core36, W83, W84, W72, SpecD4, W73, S5, SpecD5, W74, Core46, SpecD6, W85, Core47, S6, W86.
-/
import Derived.Test.YtapflgppmigcdaaGreatDoorA11
set_option linter.all false
namespace Go.T
open Go
variable [Noise]
variable {P : Program} {env : Env} {dst : Option Tmp} {ty : TypeId} {pos : String} {aft : Array Edge} {g : Option (Nat × Bool)}
theorem q_appendSnap {st xt e e' : TypeId} {ti : TypeInfo} {z : Value} {sz bt : Nat} {x y : Operand} {full : Bool} {rows new : List (List D)} (hu : P.underlying st = some (.slice e)) (hxu : P.underlying xt = some (.slice e')) (hs : ∀ w, (sizeOf e).run P w = .ok sz w)
  (hti : ∀ w, (typeInfo e).run P w = .ok ti w) (hz : ∀ w, (zeroValue e).run P w = .ok z w) (hzs : z.cells.size = sz) (hbt : ti.bytes = bt) (hb00 : Nat.beq bt 0 = false) (hx : env.op x = some (.snap sz true rows)) (hy : env.op y = some (.snap sz full new)) (hne : new ≠ [])
  (hbb : (rows.length + new.length) * bt ≤ 140737488355328) (obs : Obs) :
  QStep P ⟨dst, .call ⟨.builtin .append, #[x, y], #[st, xt]⟩, ty, pos, aft, g⟩ env obs (.snap sz false (rows ++ new)) obs :=
 .step fun O ρ a w hok hv => by
  have hb : (rows.length + new.length) * ti.bytes ≤ 140737488355328 := by rw [hbt]; exact hbb
  have hb0 : ti.bytes ≠ 0 := by
   rw [hbt]; intro h; subst h; simp at hb00
  have hvx := hv x (by simp [Op.operands, Call.operands]) _ hx
  have hvy := hv y (by simp [Op.operands, Call.operands]) _ hy
  have hrun : ∀ v w', (Builtin.append_ #[st, xt] ty #[a.eval x, a.eval y]).run P w = .ok v w' → (execOp a.eval ⟨dst, .call ⟨.builtin .append, #[x, y], #[st, xt]⟩, ty, pos, aft, g⟩).run P w = .ok (.value v) w' := by
   intro v w' h
   simp [execOp, resolve, invoke, builtin, h]
  obtain ⟨hlen, us, hfu, hus, hone, hul, hrl⟩ := run_firstSnap (P := P) hvy
  obtain ⟨hlen2, vs, hfv, hvs, hone2, hvl, hrr⟩ := run_firstSnap (P := P) hvx
  have hnl : new.length ≠ 0 := fun h => hne (List.length_eq_zero_iff.1 h)
  have hbig : rows.length + new.length ≤ big := by
   have : (rows.length + new.length) * 1 ≤ (rows.length + new.length) * ti.bytes := Nat.mul_le_mul_left _ (by omega)
   unfold big; omega
  have hvx' := hvx
  simp only [V] at hvx'
  obtain ⟨ad, cap, e1, hc1, hc2, _⟩ := hvx'
  have hcap := hc2 trivial
  rw [e1] at hfv
  obtain ⟨nc, h1, h2⟩ := run_append_grow (T := ty) (w := w) hu hs hxu (by simp) hti hz (fun w' _ => hlen w') hfu (vs := vs) (fun w' hw' => hfv w' hw') (by omega) hb hb0
  rw [← e1] at h2
  have hlt : ∀ b, Ot O ρ obs b → b < w.heap.size := by
   rintro b (hb | ⟨i, o, l, h1, h2, h3, h4⟩)
   ·exact hok.lt b hb
   ·obtain ⟨l', h5, _, h6⟩ := hok.own i o h1 h2
    rw [h3] at h5; cases h5
    exact h4 ▸ h6.lt h2
  have hl2 : (rows ++ new).length = rows.length + new.length := by rw [List.length_append]
  have hap : (vs ++ us).toArray = vs.toArray ++ us.toArray := by simp
  have htr : Tr O w ρ obs { w with drawn := w.drawn + 1, heap := w.heap.push (.cells (vs.toArray ++ us.toArray ++ Builtin.zeroCells z.cells (nc - (rows.length + new.length))) e (0, 0)) } ρ obs :=
   Tr.of_keep ⟨by simp, fun b hb => by simp [Array.getElem?_push, Nat.ne_of_lt hb], rfl, rfl, .inl ⟨rfl, Nat.le_succ _⟩⟩ hok
  refine ⟨_, _, ρ, .inl (hrun _ _ h2), htr, ?_⟩
  have hg := Own.grown (ρ := ρ) (b := w.heap.size) (nc := nc) (sz := sz) (T := e) (ds := rows ++ new) (vs := vs ++ us) (zs := Builtin.zeroCells z.cells (nc - (rows.length + new.length))) (w' := { w with drawn := w.drawn + 1, heap := w.heap.push (.cells (vs.toArray ++ us.toArray ++ Builtin.zeroCells z.cells (nc - (rows.length + new.length))) e (0, 0)) }) (by rw [hap]; simp) (by rw [List.length_append, hl2, hvl, hul, Nat.add_mul]) (by rw [zeroCells_size, hzs, hl2]) (by rw [hl2]; exact h1) (by rw [hl2]; exact hbig)
   (fun r hr => (List.mem_append.1 hr).elim (hrr r) (hrl r)) (by rw [List.flatten_append]; exact Vs.append hvs hus) (fun v hv' => (List.mem_append.1 hv').elim (hone2 v) (hone v)) htr.kept
  obtain ⟨c, T, q1, q2, q3, q4⟩ := hg
  simp only [V]
  exact ⟨_, _, by rw [hl2], ⟨by rw [hl2]; exact h1, by rw [hl2]; exact hbig⟩, by simp, fun _ => ⟨w.heap.size, 0, rfl, ⟨by simp, fun ho => Nat.lt_irrefl _ (hlt _ ho)⟩, q4⟩⟩
theorem q_append0 {st xt e e' : TypeId} {sz : Nat} {x y : Operand} {full full' : Bool} {rows : List (List D)} (hu : P.underlying st = some (.slice e)) (hxu : P.underlying xt = some (.slice e')) (hs : ∀ w, (sizeOf e).run P w = .ok sz w) (hx : env.op x = some (.snap sz full rows)) (hy : env.op y = some (.snap sz full' [])) (obs : Obs) :
  QStep P ⟨dst, .call ⟨.builtin .append, #[x, y], #[st, xt]⟩, ty, pos, aft, g⟩ env obs (.snap sz full rows) obs :=
 .val fun O ρ a w hok hv => by
  have hvx := hv x (by simp [Op.operands, Call.operands]) _ hx
  have hvy := hv y (by simp [Op.operands, Call.operands]) _ hy
  obtain ⟨hlen, us, hfu, hus, hone, hul, hrl⟩ := run_firstSnap (P := P) hvy
  have hus0 : us = [] := by have := hul; simp at this; exact this
  subst hus0
  have hvx' := hvx
  simp only [V] at hvx'
  obtain ⟨ad, cap, e1, hc1, hc2, _⟩ := hvx'
  have h1 := hfu w rfl
  refine ⟨_, ?_, hvx⟩
  have : (Builtin.append_ #[st, xt] ty #[a.eval x, a.eval y]).run P w = .ok (a.eval x) w := by
   rw [e1]
   cases ad with
   | none => simp [Builtin.append_, run_und hu, hs, run_und hxu, hlen w, hc1] at h1 ⊢; simp [h1]
   | some ad => simp [Builtin.append_, run_und hu, hs, run_und hxu, hlen w, hc1] at h1 ⊢; simp [h1, storeCells]
  simp [execOp, resolve, invoke, builtin, this]
end Go.T
namespace Go.T
open Go Go.Proofs Go.Proofs.Tryz
set_option maxRecDepth 20000
theorem cloneNil_ok  : Fc Tryz.prog 323 [sMag []] (sMag []) := by
 refine Fc.mk' [2] func323 rfl ntmps323 rfl rfl rfl (fun t w => results_tmp results323 t _ w) ?_
 refine Run.seq (Run.reg [.p] ?_)
 refine .ag rfl rfl <| .nil ?_
 refine Run.seq (Run.seq (Run.regT ?_))
 refine Tx.q rfl trivial (qMv rfl _) ?_
 refine Tx.n rfl trivial (q_eqlNilN underlying244 rfl rfl _) (fun nb hnb => ?_)
 dsimp only
 refine Tx.nil ?_
 refine Run.cond rfl (fun h1 => ?_) (fun h1 => ?_)
 ·refine Run.seq (Run.reg [.p] ?_)
  refine .ag rfl rfl <| .nil ?_
  refine Run.ret (?_)
  exact ret1 rfl (by exact Sub.nil _ false)
 ·refine Run.skip ?_
  refine Run.seq (Run.reg [.p, .p, .p, .p] ?_)
  refine .P rfl (q_buildSlice0 underlying244 sizeOf184) <| .mv rfl rfl <| .P rfl (q_append0 underlying244 underlying244 sizeOf184 rfl rfl) <| .ag rfl rfl <| .nil ?_
  refine Run.ret (?_)
  exact ret1 rfl (by exact Sub.unfull _ _ _)
structure minusNil_ok_L0  where
 u : Unit
theorem minusNil_ok  : Fc Tryz.prog 281 [sMag [], sMag []] (sMag []) := by
 refine Fc.mk' [4] func281 rfl ntmps281 rfl rfl rfl (fun t w => results_tmp results281 t _ w) ?_
 refine go [] ?_
 refine oP (qCa call323 rfl cloneNil_ok) ?_
 refine Run.loop (ι := minusNil_ok_L0) (fun sx => [(5, sMag []), (6, .raw (.int .u64 ((0 : Nat) : Int))), (12, .i 0), (13, .i 0), (1, sMag [])]) (fun sx => []) (fun sx => 0) ⟨()⟩ ?_ ?_
 ·exact Le.mk rfl (.s rfl rfl (.s rfl rfl (.s rfl rfl (.s rfl rfl (.s rfl rfl .nil))))) .nil
 ·rintro ⟨u⟩
  show Run _ _ _ _ [(5, sMag []), (6, .raw (.int .u64 ((0 : Nat) : Int))), (12, .i 0), (13, .i 0), (1, sMag [])] []
  skip
  ·skip
   refine go [] ?_
   refine brF (by simp) ?_
   refine go [] ?_
   refine oP (qCa call284 rfl (cut_ok [])) ?_
   exact rx1 rfl (Sub.refl _)
theorem minusZ_ok (x : List Nat) (hxs : x.length ≤ 20000) (hxo : magOK x) : Fc Tryz.prog 281 [sMag x, sMag []] (sMag (cutM (subC x [] 0))) := by
 by_cases h : x.length ≠ 0
 ·exact minusM_ok x [] h hxs (by simp) hxo (fun _ h => by simp at h)
 ·obtain rfl : x = [] := List.length_eq_zero_iff.1 (by omega)
  exact minusNil_ok
theorem addNum0_ok (n1 : Bool) (x : List Nat) (k1 : numOK n1 x) (hx : x.length ≤ 9000) : Fc Tryz.prog 237 [.agg (encNum n1 x), .agg (encNum true [])] (.agg (encNum (addM n1 x true []).1 (addM n1 x true []).2)) := by
 refine Fc.mkR func237 rfl ntmps237 rfl rfl rfl ?_
 refine go [99999] ?_
 refine br (fun h1 => ?_) (fun h1 => ?_)
 ·refine oP (qCa call280 rfl (plusAll_ok x [] (by omega) (by simp) k1.ok (fun _ h => by simp at h))) ?_
  refine ord ?_
  refine Run.ret (?_)
  exact Rd.cA results237 isAgg246 sizeOf246 rfl rfl rfl (Sub.agg (.cons (Sub.bool (by unfold addM; (rw [if_pos (by assumption)]; done))) (.cons (Sub.snap (by unfold addM; (rw [if_pos (by assumption)]; done))) .nil)))
 ·refine oP (qCa call240 rfl (compareM_ok x [] (by omega) (by simp))) ?_
  refine brF (by simpa using cmp_nil x) ?_
  refine oP (qCa call281 rfl (minusZ_ok x (by omega) k1.ok)) ?_
  refine ord ?_
  refine Run.ret (?_)
  exact Rd.cA results237 isAgg246 sizeOf246 rfl rfl rfl (Sub.agg (.cons (Sub.bool (by unfold addM; (rw [if_neg (by simpa using ‹(n1 == true) = false›), if_neg (cmp_nil x)]; done))) (.cons (Sub.snap (by unfold addM; (rw [if_neg (by simpa using ‹(n1 == true) = false›), if_neg (cmp_nil x)]; done))) .nil)))
theorem sub0_ok (s t : Str) (hs : s.length ≤ 4000) (ht : t.length ≤ 4000) (hv : val t = 0) : Fc Tryz.prog 308 [.str s, .str t] (.str (ofInt (val s - val t))) := by
 refine Fc.mk' [4] func308 rfl ntmps308 rfl rfl rfl (fun t w => results_tmp results308 t _ w) ?_
 have hdl := digits_len s
 have hgl := groupsOf_len (digits s).1
 have h1 := numOK_digits s
 have h3 := addM_zero h1
 have e0 : (val t).natAbs = 0 := by omega
 have e1 : decide (val t < 0) = false := by simp; omega
 have hrt := readN_ok t (by omega)
 rw [e0, e1, magN_zero] at hrt
 refine go [] ?_
 refine oP (qCa call238 rfl hrt) ?_
 refine oP (qCa call238 rfl (read_ok s (by omega))) ?_
 refine oP (qCa call237 rfl (addNum0_ok (digits s).2 (groupsOf (digits s).1) h1 (by omega))) ?_
 refine oP (qCa call239 rfl (text_ok _ _ h3.1 (by omega))) ?_
 refine ord ?_
 exact rx1 rfl (Sub.str (by rw [textM_ofInt _ h3.1, show val s - val t = val s by omega, ← numV_digits s, ← h3.2.1]; rfl))
theorem subN0_ok (s t : Str) (hs : s.length ≤ 4000) (ht : t.length ≤ 4000) (hv : val t ≠ 0) : Fc Tryz.prog 308 [.str s, .str t] (.str (ofInt (val s - val t))) := by
 refine Fc.mk' [4] func308 rfl ntmps308 rfl rfl rfl (fun t w => results_tmp results308 t _ w) ?_
 have hdl := digits_len s
 have hgl := groupsOf_len (digits s).1
 have hdl2 := digits_len t
 have hgl2 := groupsOf_len (digits t).1
 have h1 := numOK_digits s
 have h2 := numOK_flipD hv
 have h3 := addM_ok h1 h2
 have h4 := addM_len (digits s).2 (!(digits t).2) (groupsOf (digits s).1) (groupsOf (digits t).1)
 have h5 := addM_val h1 h2
 refine go [] ?_
 refine oP (qCa call238 rfl (read_ok t (by omega))) ?_
 refine oP (qCa call238 rfl (read_ok s (by omega))) ?_
 refine oP (qCa call237 rfl (addNum_ok (digits s).2 (groupsOf (digits s).1) (!(digits t).2) (groupsOf (digits t).1) h1 h2 (by omega) (by omega))) ?_
 refine oP (qCa call239 rfl (text_ok _ _ h3 (by omega))) ?_
 refine ord ?_
 exact rx1 rfl (Sub.str (by rw [textM_ofInt _ h3]; have h6 := numV_flipD t; rw [h6, numV_digits s] at h5; rw [show val s - val t = val s + -val t by omega, ← h5]; rfl))
theorem subS_ok (s t : Str) (hs : s.length ≤ 4000) (ht : t.length ≤ 4000) : Fc Tryz.prog 308 [.str s, .str t] (.str (ofInt (val s - val t))) := by
 by_cases h : val t = 0
 ·exact sub0_ok s t hs ht h
 ·exact subN0_ok s t hs ht h
theorem parts_ok (f : Frac) (hs : f.den.length ≤ 4000) : Fc Tryz.prog 222 [.agg (encFrac f)] (.tup [.str (partsF f).1, .str (partsF f).2]) := by
 refine Fc.mk' [2, 3] func222 rfl ntmps222 rfl rfl rfl (fun t w => results_tmp2 results222 t _ w) ?_
 refine go [] ?_
 refine oP (qCa call186 rfl (compare_ok f.den [] hs (by simp))) ?_
 refine br (fun h1 => ?_) (fun h1 => ?_)
 ·exact rx2 rfl rfl (Sub.str (by unfold partsF; rw [if_pos h1])) (Sub.str (by unfold partsF; rw [if_pos h1]))
 ·refine ord ?_
  exact rx2 rfl rfl (Sub.str (by unfold partsF; rw [if_neg (by rw [h1]; simp)])) (Sub.str (by unfold partsF; rw [if_neg (by rw [h1]; simp)]))
theorem reduced_ok (n d : Str) (hn : n.length ≤ 3000) (hd : d.length ≤ 3000) (h0 : val d ≠ 0) : Fc Tryz.prog 271 [.str n, .str d] (.tup [.str (ofInt (redN (val n) (val d)).1), .str (ofInt (redN (val n) (val d)).2)]) := by
 refine Fc.mk' [4, 5] func271 rfl ntmps271 rfl rfl rfl (fun t w => results_tmp2 results271 t _ w) ?_
 have hnn := neg_len n
 have hnd := neg_len d
 have hg1 := gcd_len (val n) h0
 have hg2 := gcd_neg_len (val (ofInt (-val n))) h0
 refine go [] ?_
 refine oP (qCa call186 rfl (compare_ok d [] (by omega) (by simp))) ?_
 refine br (fun h1 => ?_) (fun h1 => ?_)
 ·refine oP (qCa call311 rfl (negN_ok _ (by omega))) ?_
  refine oP (qCa call311 rfl (negN_ok _ (by omega))) ?_
  refine oP (qCa call312 rfl (gcd_ok _ _ (by omega) (by omega))) ?_
  refine oP (qCa call313 rfl (div10_ok _ _ (by omega) (by omega) (by exact gcd_neg_pos _ h0))) ?_
  refine oP (qCa call313 rfl (div10_ok _ _ (by omega) (by omega) (by exact gcd_neg_pos _ h0))) ?_
  exact rx2 rfl rfl (Sub.str (by (have h9 := red_T (n := n) (d := d) h1; exact h9.1))) (Sub.str (by (have h9 := red_T (n := n) (d := d) h1; exact h9.2)))
 ·refine oP (qCa call312 rfl (gcd_ok _ _ (by omega) (by omega))) ?_
  refine oP (qCa call313 rfl (div10_ok _ _ (by omega) (by omega) (by exact gcd_pos _ h0))) ?_
  refine oP (qCa call313 rfl (div10_ok _ _ (by omega) (by omega) (by exact gcd_pos _ h0))) ?_
  exact rx2 rfl rfl (Sub.str (by (have h9 := red_F (n := n) (d := d) h1; exact h9.1))) (Sub.str (by (have h9 := red_F (n := n) (d := d) h1; exact h9.2)))
theorem made_ok (n d : Str) (hn : n.length ≤ 3000) (hd : d.length ≤ 3000) (h0 : val d ≠ 0) : Fc Tryz.prog 224 [.str n, .str d] (.agg (encFrac (madeN (val n) (val d)))) := by
 refine Fc.mkR func224 rfl ntmps224 rfl rfl rfl ?_
 refine go [99999] ?_
 refine oP (qCa call271 rfl (reduced_ok _ _ (by assumption) (by assumption) (by assumption))) ?_
 refine br (fun h1 => ?_) (fun h1 => ?_)
 ·refine Run.ret (?_)
  exact Rd.cA results224 isAgg35 sizeOf35 rfl rfl rfl (Sub.agg (.r (.cons (Sub.str (by exact made_den h1)) .nil)))
 ·refine Run.ret (?_)
  exact Rd.cA results224 isAgg35 sizeOf35 rfl rfl rfl (Sub.agg (.r (.cons (Sub.str (by exact made_den' h1)) .nil)))
theorem fracCheck_ok (f : Frac) (hs : smallFr f) : Fc Tryz.prog 177 [.agg (encFrac f)] (.i (checkFr f)) := by
 refine Fc.mk' [2] func177 rfl ntmps177 rfl rfl rfl (fun t w => results_tmp results177 t _ w) ?_
 have hp := sub_len (f := f) (g := f) ⟨hs.1, hs.2⟩ ⟨hs.1, hs.2⟩ (by decide)
 refine go [] ?_
 refine oP (qCa call222 rfl (parts_ok f (Nat.le_trans hs.2 (by decide)))) ?_
 refine oP (qCa call224 rfl (made_ok _ _ (by omega) (by omega) (parts_ne f))) ?_
 refine oP (q_neqA (xs := [f.num, f.den]) (ys := [(madeN (val (partsF f).1) (val (partsF f).2)).num, (madeN (val (partsF f).1) (val (partsF f).2)).den]) underlying35 (by kernel_rfl) (by kernel_rfl) (.cons (by decide +kernel) underlying33 isAgg33 rfl (.cons (by decide +kernel) underlying33 isAgg33 rfl (.nil _))) rfl rfl rfl rfl rfl rfl) ?_
 refine ord ?_
 refine br (fun h1 => ?_) (fun h1 => ?_)
 ·exact rx1 rfl (Sub.int (by unfold checkFr; rw [if_neg (chk_T h1)]))
 ·exact rx1 rfl (Sub.int (by unfold checkFr; rw [if_pos (chk_F h1)]))
theorem fof_ok (a : Str) (hs : a.length ≤ 3000) : Fc Tryz.prog 179 [.str a] (.agg (encFrac (madeN (val a) (val [49])))) := by
 refine Fc.mkR func179 rfl ntmps179 rfl rfl rfl ?_
 refine go [99999] ?_
 refine oP (qCa call224 rfl (made_ok a [49] hs (by simp) (by decide))) ?_
 refine Run.ret (?_)
 exact Rd.cA results179 isAgg35 sizeOf35 rfl rfl rfl (Sub.agg (.r (.r .nil)))
structure isCodeI_ok_L0 (s : Str) where
 pre : List UInt8
 rest : List UInt8
 hx : s = pre ++ rest
 hp : pre.all (fun c => 65 ≤ c.toNat && c.toNat ≤ 90) = true
 h3 : s.length = 3
theorem isCodeI_ok (s : Str) : Fc Tryz.prog 171 [.str s] (.b (isCode s)) := by
 refine Fc.mk' [2] func171 rfl ntmps171 rfl rfl rfl (fun t w => results_tmp results171 t _ w) ?_
 refine Run.bStr 0 rfl (fun hb => ?_)
 simp only [big] at hb
 refine go [] ?_
 refine br (fun h1 => ?_) (fun h1 => ?_)
 ·exact rx1 rfl (Sub.bool (by grind [isCode]))
 ·refine oP (q_bytes (u := .string) underlying9 underlying152 underlying5 rfl) ?_
  refine Run.loop (ι := isCodeI_ok_L0 s) (fun sx => [(9, .snap 1 false (s.map fun c => [.raw (.int .u8 (UInt8.toNat c : Int))])), (10, .i s.length), (11, .i sx.pre.length)]) (fun sx => []) (fun sx => sx.rest.length) ⟨[], s, rfl, rfl, by simp at h1; omega⟩ ?_ ?_
  ·exact Le.mk rfl (.s rfl rfl (.cons rfl (Sub.int (by simp)) rfl (.s rfl rfl .nil))) .nil
  ·rintro ⟨pre, rest, hx, hp, h3⟩
   show Run _ _ _ _ [(9, .snap 1 false (s.map fun c => [.raw (.int .u8 (UInt8.toNat c : Int))])), (10, .i s.length), (11, .i pre.length)] []
   have hl := congrArg List.length hx
   simp only [List.length_append] at hl
   rcases rest with _ | ⟨x, rest⟩
   ·skip
    refine go [] ?_
    refine brF (by simp at hl ⊢; omega) ?_
    refine go [] ?_
    exact rx1 rfl (Sub.bool (by grind [isCode]))
   ·simp only [List.length_cons] at hl
    refine go [] ?_
    refine brT (by simp; omega) ?_
    refine ix (by omega) (iMd (fun c => [D.raw (.int .u8 (UInt8.toNat c : Int))]) hx rfl) ?_
    refine br (fun h2 => ?_) (fun h2 => ?_)
    ·exact rx1 rfl (Sub.bool (by grind [isCode]))
    ·refine sd (w64 (by omega)) ?_
     exact nx ⟨pre ++ [x], rest, by simp [hx], by grind, h3⟩ (by simp) (Le.mk rfl (.s rfl rfl (.s rfl rfl (.cons rfl (Sub.int (by simp)) rfl .nil))) .nil)
theorem sign_ok (f : Frac) (hs : f.num.length ≤ 60) : Fc Tryz.prog 267 [.agg (encFrac f)] (.i (sg f)) := by
 refine Fc.mk' [2] func267 rfl ntmps267 rfl rfl rfl (fun t w => results_tmp results267 t _ w) ?_
 refine go [] ?_
 refine oP (qCa call186 rfl (compare_ok f.num [] (by omega) (by simp))) ?_
 exact rx1 rfl (Sub.refl _)
theorem plain_ok (i : Inst) (hs : smallInst i) : Fc Tryz.prog 218 [.agg (encInst i)] (.i (plainErr i)) := by
 refine Fc.mk' [2] func218 rfl ntmps218 rfl rfl rfl (fun t w => results_tmp results218 t _ w) ?_
 refine go [] ?_
 refine oP (qCa call267 rfl (sign_ok i.face hs.1.1)) ?_
 refine gP (fun hg => qCa call267 rfl (sign_ok i.coupon hs.2.1.1)) ?_
 refine gP (fun hg => qCa call267 rfl (sign_ok i.strike hs.2.2.1)) ?_
 refine br (fun h1 => ?_) (fun h1 => ?_)
 ·exact rx1 rfl (Sub.int (by exact if_T h1))
 ·exact rx1 rfl (Sub.int (by exact if_F h1 rfl))
structure indexInt_ok_L0 (l : List Int) (n : Int) where
 pre : List Int
 rest : List Int
 hx : l = pre ++ rest
 hp : pre.any (fun m => decide (n = m)) = false
theorem indexInt_ok (l : List Int) (n : Int) : Fc Tryz.prog 304 [sInts l, .i n] (.i (findI (fun m => decide (n = m)) l)) := by
 refine Fc.mk' [4] func304 rfl ntmps304 rfl rfl rfl (fun t w => results_tmp results304 t _ w) ?_
 refine Run.bSnap 0 rfl (fun hb => ?_)
 simp only [List.length_map, big] at hb
 refine go [] ?_
 refine Run.loop (ι := indexInt_ok_L0 l n) (fun sx => [(0, sInts l), (1, .i n), (6, sInts l), (7, .i l.length), (8, .i sx.pre.length)]) (fun sx => []) (fun sx => sx.rest.length) ⟨[], l, rfl, rfl⟩ ?_ ?_
 ·exact Le.mk rfl (.s rfl rfl (.s rfl rfl (.s rfl rfl (.cons rfl (Sub.int (by simp)) rfl (.s rfl rfl .nil))))) .nil
 ·rintro ⟨pre, rest, hx, hp⟩
  show Run _ _ _ _ [(0, sInts l), (1, .i n), (6, sInts l), (7, .i l.length), (8, .i pre.length)] []
  have hl := congrArg List.length hx
  simp only [List.length_append] at hl
  rcases rest with _ | ⟨x, rest⟩
  ·skip
   refine go [] ?_
   refine brF (by simp at hl ⊢; omega) ?_
   refine go [] ?_
   exact rx1 rfl (Sub.int (by exact find_F hx hp))
  ·simp only [List.length_cons] at hl
   refine go [] ?_
   refine brT (by simp; omega) ?_
   refine ix (by omega) (iMd (fun n => [D.i n]) hx rfl) ?_
   refine br (fun h1 => ?_) (fun h1 => ?_)
   ·exact rx1 rfl (Sub.int (by exact find_T hx hp h1))
   ·refine sd (w64 (by omega)) ?_
    exact nx ⟨pre ++ [x], rest, by simp [hx], any_S hp h1⟩ (by simp) (Le.mk rfl (.s rfl rfl (.s rfl rfl (.s rfl rfl (.s rfl rfl (.cons rfl (Sub.int (by simp)) rfl .nil))))) .nil)
theorem hasInt_ok (l : List Int) (n : Int) : Fc Tryz.prog 268 [sInts l, .i n] (.b (l.any (fun m => decide (n = m)))) := by
 refine Fc.mk' [4] func268 rfl ntmps268 rfl rfl rfl (fun t w => results_tmp results268 t _ w) ?_
 refine go [] ?_
 refine oP (qCa call304 rfl (indexInt_ok _ _)) ?_
 exact rx1 rfl (Sub.bool (by exact findI_ge _ l))
theorem bond_ok (i : Inst) (hs : smallInst i) : Fc Tryz.prog 219 [.agg (encInst i)] (.i (bondErr i)) := by
 refine Fc.mk' [2] func219 rfl ntmps219 rfl rfl rfl (fun t w => results_tmp results219 t _ w) ?_
 refine go [2] ?_
 refine Run.weak (Le.freezeB 1 0 rfl rfl rfl rfl) ?_
 refine Run.weak (Le.freezeB 3 1 rfl rfl rfl rfl) ?_
 refine go [] ?_
 refine oP (qCa call267 rfl (sign_ok i.face hs.1.1)) ?_
 refine gP (fun hg => qCa call267 rfl (sign_ok i.coupon hs.2.1.1)) ?_
 refine gP (fun hg => q_sliceIA (rows := [[D.i 1], [D.i 2], [D.i 3], [D.i 4], [D.i 6], [D.i 12]]) underlying274 sizeOf3 rfl (by decide) (by decide) rfl rfl rfl (by decide)) ?_
 refine gP (fun hg => qCa call268 rfl (hasInt_ok [1, 2, 3, 4, 6, 12] i.months).sub) ?_
 refine ord ?_
 refine br (fun h1 => ?_) (fun h1 => ?_)
 ·exact rx1 rfl (Sub.int (by exact if_T h1))
 ·refine gP (fun hg => qCa call267 rfl (sign_ok i.strike hs.2.2.1)) ?_
  refine br (fun h2 => ?_) (fun h2 => ?_)
  ·exact rx1 rfl (Sub.int (by exact if_F h1 (if_T h2)))
  ·refine go [2] ?_
   exact rx1 rfl (Sub.int (by exact if_F h1 (if_F h2 rfl)))
theorem forward_ok (i : Inst) (hs : smallInst i) : Fc Tryz.prog 220 [.agg (encInst i)] (.i (fwdErr i)) := by
 refine Fc.mk' [2] func220 rfl ntmps220 rfl rfl rfl (fun t w => results_tmp results220 t _ w) ?_
 refine go [] ?_
 refine oP (qCa call171 rfl (isCodeI_ok _)) ?_
 refine br (fun h1 => ?_) (fun h1 => ?_)
 ·exact rx1 rfl (Sub.int (by exact if_T h1))
 ·refine oP (qCa call267 rfl (sign_ok i.strike hs.2.2.1)) ?_
  refine br (fun h2 => ?_) (fun h2 => ?_)
  ·exact rx1 rfl (Sub.int (by exact if_F h1 (if_T h2)))
  ·refine oP (qCa call267 rfl (sign_ok i.face hs.1.1)) ?_
   refine gP (fun hg => qCa call267 rfl (sign_ok i.coupon hs.2.1.1)) ?_
   refine br (fun h3 => ?_) (fun h3 => ?_)
   ·exact rx1 rfl (Sub.int (by exact if_F h1 (if_F h2 (if_T h3))))
   ·exact rx1 rfl (Sub.int (by exact if_F h1 (if_F h2 (if_F h3 rfl))))
theorem digN_ok (a : Str) : Fc Tryz.prog 221 [.str a] (.i (digN a)) := by
 refine Fc.mk' [2] func221 rfl ntmps221 rfl rfl rfl (fun t w => results_tmp results221 t _ w) ?_
 refine Run.bStr 0 rfl (fun hb => ?_)
 simp only [big] at hb
 refine go [] ?_
 refine ixSG (fun hg => And.intro (by decide) (hd_get (by simpa [wants] using hg))) ?_
 refine br (fun h1 => ?_) (fun h1 => ?_)
 ·refine sd (w64 (by omega)) ?_
  exact rx1 rfl (Sub.int (by unfold digN; rw [if_pos h1]))
 ·exact rx1 rfl (Sub.int (by unfold digN; rw [if_neg (by rw [h1]; simp)]))
theorem numErr_ok (f : Frac) (hs : smallFr f) : Fc Tryz.prog 174 [.agg (encFrac f)] (.i (numErr f)) := by
 refine Fc.mk' [2] func174 rfl ntmps174 rfl rfl rfl (fun t w => results_tmp results174 t _ w) ?_
 refine go [] ?_
 refine oP (qCa call177 rfl (fracCheck_ok _ (by assumption))) ?_
 refine br (fun h1 => ?_) (fun h1 => ?_)
 ·exact rx1 rfl (Sub.int (by exact if_T h1))
 ·refine oP (qCa call221 rfl (digN_ok _)) ?_
  refine oP (qCa call221 rfl (digN_ok _)) ?_
  refine ord ?_
  refine br (fun h2 => ?_) (fun h2 => ?_)
  ·exact rx1 rfl (Sub.int (by exact if_F h1 (if_T h2)))
  ·exact rx1 rfl (Sub.int (by exact if_F h1 (if_F h2 rfl)))
theorem isInst_ok (x : Inst) (id : Str) : Fc Tryz.prog 167 [.agg (encInst x), .iptr [.str id]] (.b (decide (x.id = id))) := by
 refine Fc.mk' [3] func167 rfl ntmps167 rfl rfl rfl (fun t w => results_tmp results167 t _ w) ?_
 refine go [] ?_
 exact rx1 rfl (Sub.refl _)
structure indexInst_ok_L0 (l : List Inst) (P : Inst → Bool) where
 pre : List Inst
 rest : List Inst
 hx : l = pre ++ rest
 hp : pre.any P = false
theorem indexInst_ok (l : List Inst) (f : FuncId) (caps : List D) (hcap : D.pureB.pureL caps = true) (P : Inst → Bool) (hcall : ∀ (args : Array Value) (w : World), (callFunc f args).run Tryz.prog w = .ok (.enter f args) w) (hP : ∀ x ∈ l, Fc Tryz.prog f (.agg (encInst x) :: caps) (.b (P x))) : Fc Tryz.prog 166 [sInsts l, .fn (.func f) [] caps] (.i (findI P l)) := by
 refine Fc.mk' [4] func166 rfl ntmps166 rfl (by simp [D.pureB, D.pureB.pureL, hcap]) rfl (fun t w => results_tmp results166 t _ w) ?_
 refine Run.bSnap 0 rfl (fun hb => ?_)
 simp only [List.length_map, big] at hb
 refine go [] ?_
 refine Run.loop (ι := indexInst_ok_L0 l P) (fun sx => [(0, sInsts l), (1, .fn (.func f) [] caps), (6, sInsts l), (7, .i l.length), (8, .i sx.pre.length)]) (fun sx => []) (fun sx => sx.rest.length) ⟨[], l, rfl, rfl⟩ ?_ ?_
 ·exact Le.mk rfl (.s rfl rfl (.cons rfl (Sub.refl _) (okB_fn hcap) (.s rfl rfl (.cons rfl (Sub.int (by simp)) rfl (.s rfl rfl .nil))))) .nil
 ·rintro ⟨pre, rest, hx, hp⟩
  show Run _ _ _ _ [(0, sInsts l), (1, .fn (.func f) [] caps), (6, sInsts l), (7, .i l.length), (8, .i pre.length)] []
  have hl := congrArg List.length hx
  simp only [List.length_append] at hl
  rcases rest with _ | ⟨x, rest⟩
  ·skip
   refine go [] ?_
   refine brF (by simp at hl ⊢; omega) ?_
   refine go [] ?_
   exact rx1 rfl (Sub.int (by exact find_F hx hp))
  ·simp only [List.length_cons] at hl
   refine go [] ?_
   refine brT (by simp; omega) ?_
   refine ix (by omega) (iMd encInst hx rfl) ?_
   refine oP (qCf hcall rfl rfl (hP x (by rw [hx]; simp))) ?_
   refine br (fun h1 => ?_) (fun h1 => ?_)
   ·exact rx1 rfl (Sub.int (by exact find_T hx hp h1))
   ·refine sd (w64 (by omega)) ?_
    exact nx ⟨pre ++ [x], rest, by simp [hx], any_S hp h1⟩ (by simp) (Le.mk rfl (.s rfl rfl (.cons rfl (Sub.refl _) (okB_fn hcap) (.s rfl rfl (.s rfl rfl (.cons rfl (Sub.int (by simp)) rfl .nil))))) .nil)
theorem findInst_ok (l : List Inst) (id : Str) : Fc Tryz.prog 111 [sInsts l, .str id] (.tup [.i (max (findI (fun x => decide (x.id = id)) l) 0), .b (l.any (fun x => decide (x.id = id)))]) := by
 refine Fc.mk' [4, 5] func111 rfl ntmps111 rfl rfl rfl (fun t w => results_tmp2 results111 t _ w) ?_
 refine go [1] ?_
 refine Run.weak (Le.freezeB 3 0 rfl rfl rfl rfl) ?_
 refine go [] ?_
 refine oP (qCa call166 rfl (indexInst_ok l _ [.iptr [.str id]] rfl (fun x => decide (x.id = id)) call167 (fun x _ => isInst_ok x id))) ?_
 exact rx2 rfl rfl (Sub.refl _) (Sub.bool (by exact findI_ge _ l))
end Go.T
namespace Go.T
open Go
theorem mem3 {α : Type} {a b c x : α} {pre rest : List α} (hx : [a, b, c] = pre ++ x :: rest) : x = a ∨ x = b ∨ x = c := by
 have : x ∈ [a, b, c] := by rw [hx]; simp
 simpa using this
def endsOf (k : Int) : Bool := decide (k = 2) || decide (k = 5)
def ruleErr (k : Int) (i : Inst) : Int := if k = 2 then bondErr i else if k = 5 then fwdErr i else plainErr i
def matBad (i : Inst) : Bool := decide (i.matures ≠ 0) && (!validDay i.matures || decide (i.matures ≤ i.issued)) || decide (i.matures = 0) && endsOf i.kind
def numsErr (d : Int) : List Frac → Int
 | [] => d
 | f :: r => if decide (numErr f ≠ 0) = true then numErr f else numsErr d r
def instErr (i : Inst) : Int :=
 if (!isName i.id) = true then 23 else if (decide (i.kind < 1) || decide (5 < i.kind)) = true then 7 else if (!isCode i.cur) = true then 12
 else if (decide (i.places < 0) || decide (12 < i.places)) = true then 2 else if (!validDay i.issued) = true then 13 else if matBad i = true then 13 else numsErr (ruleErr i.kind i) [i.face, i.coupon, i.strike]
theorem numsErr_T {d : Int} {l rest : List Frac} {x : Frac} (h : numsErr d l = numsErr d (x :: rest)) (k : decide (numErr x ≠ 0) = true) : numErr x = numsErr d l := by rw [h, numsErr, if_pos k]
theorem numsErr_F {d : Int} {l rest : List Frac} {x : Frac} (h : numsErr d l = numsErr d (x :: rest)) (k : decide (numErr x ≠ 0) = false) : numsErr d l = numsErr d rest := by rw [h, numsErr, if_neg (by rw [k]; simp)]
def codesOf (i : Inst) : List Str := if i.kind = 5 then [i.cur, i.other] else [i.cur]
def knownErr (i : Inst) (t : List Cur) : Int := if (codesOf i).any (fun c => !(findCur c t).2) = true then 12 else 0
def instAt (pre : List Inst) (x : Inst) (t : List Cur) : Int := if decide (instErr x ≠ 0) = true then instErr x else if pre.any (fun y => decide (y.id = x.id)) = true then 5 else knownErr x t
def instsFrom (t : List Cur) (pre : List Inst) : List Inst → Int
 | [] => 0
 | x :: r => if decide (instAt pre x t ≠ 0) = true then instAt pre x t else instsFrom t (pre ++ [x]) r
def checkInsts (l : List Inst) (t : List Cur) : Int := if decide (checkTab t ≠ 0) = true then 1 else if decide (64 < (l.length : Int)) = true then 4 else instsFrom t [] l
theorem instAt1 {pre : List Inst} {x : Inst} {t : List Cur} (h : decide (instErr x ≠ 0) = true) : instAt pre x t = instErr x := by rw [instAt, if_pos h]
theorem instAt2 {pre : List Inst} {x : Inst} {t : List Cur} (h : decide (instErr x ≠ 0) = false) (h2 : pre.any (fun y => decide (y.id = x.id)) = true) : instAt pre x t = 5 := by rw [instAt, if_neg (by rw [h]; simp), if_pos h2]
theorem instAt3 {pre : List Inst} {x : Inst} {t : List Cur} (h : decide (instErr x ≠ 0) = false) (h2 : pre.any (fun y => decide (y.id = x.id)) = false) : instAt pre x t = knownErr x t := by rw [instAt, if_neg (by rw [h]; simp), if_neg (by rw [h2]; simp)]
theorem insts_T {l pre rest : List Inst} {x : Inst} {t : List Cur} {n : Int} (h : checkInsts l t = instsFrom t pre (x :: rest)) (he : instAt pre x t = n) (hn : decide (n ≠ 0) = true) : n = checkInsts l t := by rw [h, instsFrom, he, if_pos hn]
theorem insts_N {l pre rest : List Inst} {x : Inst} {t : List Cur} {n : Int} (h : checkInsts l t = instsFrom t pre (x :: rest)) (he : instAt pre x t = n) (hn : decide (n ≠ 0) = false) : checkInsts l t = instsFrom t (pre ++ [x]) rest := by
 rw [h, instsFrom, he, if_neg (by rw [hn]; simp)]
theorem insts_0 {l : List Inst} {t : List Cur} (h1 : decide (checkTab t ≠ 0) = false) (h2 : decide (64 < (l.length : Int)) = false) : checkInsts l t = instsFrom t [] l := by rw [checkInsts, if_neg (by rw [h1]; simp), if_neg (by rw [h2]; simp)]
open Go.Proofs Go.Proofs.Tryz
set_option maxRecDepth 20000
theorem rules_ok  : Fc Tryz.prog 173 [] (.agg [.b false, .raw .nilFunc, .b false, .fn (.func 218) [] [], .b true, .fn (.func 219) [] [], .b false, .fn (.func 218) [] [], .b false, .fn (.func 218) [] [], .b true, .fn (.func 220) [] []]) := by
 refine Fc.mkR func173 rfl ntmps173 rfl rfl rfl ?_
 refine go [99999] ?_
 refine Run.ret (?_)
 exact Rd.cA results173 isAgg199 sizeOf199 rfl rfl rfl (Sub.agg (.r (.cons (Sub.refl _) (.r (.cons (Sub.refl _) (.r (.cons (Sub.refl _) (.r (.cons (Sub.refl _) (.r (.cons (Sub.refl _) (.r (.r .nil)))))))))))))
def fnOf (k : Int) : FuncId := if k = 2 then 219 else if k = 5 then 220 else 218
theorem rules_part {k : Int} (h1 : 1 ≤ k) (h5 : k ≤ 5) : (List.drop (k.toNat * 2) [D.b false, D.raw .nilFunc, D.b false, D.fn (.func 218) [] [], D.b true, D.fn (.func 219) [] [], D.b false, D.fn (.func 218) [] [], D.b false, D.fn (.func 218) [] [], D.b true, D.fn (.func 220) [] []]).take 2 = [.b (endsOf k), .fn (.func (fnOf k)) [] []] := by
 have : k = 1 ∨ k = 2 ∨ k = 3 ∨ k = 4 ∨ k = 5 := by omega
 rcases this with rfl | rfl | rfl | rfl | rfl <;> rfl
theorem rules_call (k : Int) : ∀ (args : Array Value) (w : World), (callFunc (fnOf k) args).run Tryz.prog w = .ok (.enter (fnOf k) args) w := by
 unfold fnOf
 split
 ·exact call219
 ·split
  ·exact call220
  ·exact call218
theorem ruleErr_ok (k : Int) (i : Inst) (hs : smallInst i) : Fc Tryz.prog (fnOf k) [.agg (encInst i)] (.i (ruleErr k i)) := by
 unfold fnOf ruleErr
 split
 ·exact bond_ok i hs
 ·split
  ·exact forward_ok i hs
  ·exact plain_ok i hs
structure instErr_ok_L0 (i : Inst) where
 pre : List Frac
 rest : List Frac
 hx : [i.face, i.coupon, i.strike] = pre ++ rest
 hp : numsErr (ruleErr i.kind i) [i.face, i.coupon, i.strike] = numsErr (ruleErr i.kind i) rest
theorem instErr_ok (i : Inst) (hs : smallInst i) : Fc Tryz.prog 118 [.agg (encInst i)] (.i (instErr i)) := by
 refine Fc.mk' [2] func118 rfl ntmps118 rfl rfl rfl (fun t w => results_tmp results118 t _ w) ?_
 refine go [11] ?_
 refine oP (qCa call86 rfl (name_ok _)) ?_
 refine br (fun h1 => ?_) (fun h1 => ?_)
 ·exact rx1 rfl (Sub.int (by unfold instErr; exact if_T h1))
 ·skip
  skip
  refine br (fun h2 => ?_) (fun h2 => ?_)
  ·exact rx1 rfl (Sub.int (by unfold instErr; exact if_F h1 (if_T h2)))
  ·have ph2 := h2; try simp only [bs] at ph2
   refine oP (qCa call171 rfl (isCodeI_ok _)) ?_
   refine br (fun h3 => ?_) (fun h3 => ?_)
   ·exact rx1 rfl (Sub.int (by unfold instErr; exact if_F h1 (if_F h2 (if_T h3))))
   ·refine br (fun h4 => ?_) (fun h4 => ?_)
    ·exact rx1 rfl (Sub.int (by unfold instErr; exact if_F h1 (if_F h2 (if_F h3 (if_T h4)))))
    ·refine oP (qCa call172 rfl (valid_ok _)) ?_
     refine br (fun h5 => ?_) (fun h5 => ?_)
     ·exact rx1 rfl (Sub.int (by unfold instErr; exact if_F h1 (if_F h2 (if_F h3 (if_F h4 (if_T h5))))))
     ·refine Run.weak (Le.freezeB 1 0 rfl rfl rfl rfl) ?_
      refine go [] ?_
      refine oP (qCa call173 rfl rules_ok) ?_
      refine oP (q_indexA (r := [.b (endsOf i.kind), .fn (.func (fnOf i.kind)) [] []]) underlying199 isAgg198 sizeOf198 rfl rfl (by omega) (by omega) (by simp; omega) (rules_part (by omega) (by omega))) ?_
      refine ord ?_
      refine gP (fun hg => qCa call172 rfl (valid_ok _)) ?_
      refine br (fun h6 => ?_) (fun h6 => ?_)
      ·exact rx1 rfl (Sub.int (by unfold instErr; exact if_F h1 (if_F h2 (if_F h3 (if_F h4 (if_F h5 (if_T h6)))))))
      ·refine oP (qBu (n := 3) (rows := [encFrac i.face, encFrac i.coupon, encFrac i.strike]) underlying116 sizeOf35 rfl rfl rfl zeroValue35 rfl rfl rfl rfl rfl rfl rfl) ?_
       refine Run.loop (ι := instErr_ok_L0 i) (fun sx => [(1, .iptr (encInst i)), (3, .box 1 0), (75, .snap 2 true ([i.face, i.coupon, i.strike].map encFrac)), (76, .i 3), (77, .i sx.pre.length)]) (fun sx => [(1, .cells [.b (endsOf i.kind), .fn (.func (fnOf i.kind)) [] []])]) (fun sx => sx.rest.length) ⟨[], _, rfl, rfl⟩ ?_ ?_
       ·exact Le.mk rfl (.s rfl rfl (.s rfl rfl (.s rfl rfl (.s rfl rfl (.s rfl rfl .nil))))) (.cons rfl rfl .nil)
       ·rintro ⟨pre, rest, hx, hp⟩
        show Run _ _ _ _ [(1, .iptr (encInst i)), (3, .box 1 0), (75, .snap 2 true ([i.face, i.coupon, i.strike].map encFrac)), (76, .i 3), (77, .i pre.length)] [(1, .cells [.b (endsOf i.kind), .fn (.func (fnOf i.kind)) [] []])]
        have hl := congrArg List.length hx
        simp only [List.length_append, List.length_cons, List.length_nil] at hl
        rcases rest with _ | ⟨x, rest⟩
        ·skip
         refine go [11] ?_
         refine brF (by simp at hl ⊢; omega) ?_
         refine go [11] ?_
         refine oP (qCf (rules_call i.kind) rfl rfl (ruleErr_ok i.kind i hs)) ?_
         exact rx1 rfl (Sub.int (by unfold instErr; exact if_F h1 (if_F h2 (if_F h3 (if_F h4 (if_F h5 (if_F h6 hp.symm)))))))
        ·simp only [List.length_cons] at hl
         have hx' := mem3 hx
         refine go [11] ?_
         refine brT (by simp; omega) ?_
         refine ix (by omega) (iMd encFrac hx rfl) ?_
         refine oP (qCa call174 rfl (numErr_ok x (by rcases hx' with rfl | rfl | rfl; exact hs.1; exact hs.2.1; exact hs.2.2))) ?_
         refine br (fun h7 => ?_) (fun h7 => ?_)
         ·exact rx1 rfl (Sub.int (by unfold instErr; exact if_F h1 (if_F h2 (if_F h3 (if_F h4 (if_F h5 (if_F h6 (numsErr_T hp h7))))))))
         ·refine sd (w64 (by omega)) ?_
          exact nx ⟨pre ++ [x], rest, by simp [hx], numsErr_F hp h7⟩ (by simp) (Le.mk rfl (.s rfl rfl (.s rfl rfl (.s rfl rfl (.s rfl rfl (.cons rfl (Sub.int (by simp)) rfl .nil))))) (.cons rfl rfl .nil))
structure knownErr_ok_L0 (i : Inst) (t : List Cur) where
 pre : List Str
 rest : List Str
 hx : codesOf i = pre ++ rest
 hp : pre.any (fun c => !(findCur c t).2) = false
theorem knownErr_ok (i : Inst) (t : List Cur) : Fc Tryz.prog 119 [.agg (encInst i), sCurs t] (.i (knownErr i t)) := by
 refine Fc.mk' [4] func119 rfl ntmps119 rfl rfl rfl (fun t w => results_tmp results119 t _ w) ?_
 have hcl : (codesOf i).length ≤ 2 := by unfold codesOf; split <;> simp
 refine go [] ?_
 refine oP (qBu (n := 1) (rows := [[D.str i.cur]]) underlying48 sizeOf9 rfl rfl rfl zeroValue9 rfl rfl rfl rfl rfl rfl rfl) ?_
 refine br (fun h1 => ?_) (fun h1 => ?_)
 ·refine oP (qBu (n := 1) (rows := [[D.str i.other]]) underlying48 sizeOf9 rfl rfl rfl zeroValue9 rfl rfl rfl rfl rfl rfl rfl) ?_
  refine oP (q_appendSnap underlying48 underlying48 sizeOf9 typeInfo9 zeroValue9 rfl (bt := 16) rfl rfl rfl rfl (by simp) (by simp)) ?_
  refine Run.loop (ι := knownErr_ok_L0 i t) (fun sx => [(1, sCurs t), (21, .snap 1 false ((codesOf i).map fun s => [D.str s])), (22, .i (codesOf i).length), (23, .i sx.pre.length)]) (fun sx => []) (fun sx => sx.rest.length) ⟨[], _, rfl, rfl⟩ ?_ ?_
  ·exact Le.mk rfl (.s rfl rfl (.cons rfl (Sub.snap (by (unfold codesOf; (rw [if_pos (by simpa using h1)]; rfl)))) rfl (.cons rfl (Sub.int (by (unfold codesOf; (rw [if_pos (by simpa using h1)]; rfl)))) rfl (.s rfl rfl .nil)))) .nil
  ·rintro ⟨pre, rest, hx, hp⟩
   show Run _ _ _ _ [(1, sCurs t), (21, .snap 1 false ((codesOf i).map fun s => [D.str s])), (22, .i (codesOf i).length), (23, .i pre.length)] []
   have hl := congrArg List.length hx
   simp only [List.length_append] at hl
   rcases rest with _ | ⟨x, rest⟩
   ·skip
    refine go [] ?_
    refine brF (by simp at hl ⊢; omega) ?_
    refine go [] ?_
    exact rx1 rfl (Sub.int (by exact if_F (any_F hx hp) rfl))
   ·simp only [List.length_cons] at hl
    refine go [] ?_
    refine brT (by simp; omega) ?_
    refine ix (by omega) (iMd (fun s => [D.str s]) hx rfl) ?_
    refine oP (qCa call170 rfl (findCur_ok t x)) ?_
    refine br (fun h2 => ?_) (fun h2 => ?_)
    ·exact rx1 rfl (Sub.int (by exact if_T (any_T hx (by assumption))))
    ·refine sd (w64 (by omega)) ?_
     exact nx ⟨pre ++ [x], rest, by simp [hx], any_S hp (by assumption)⟩ (by simp) (Le.mk rfl (.s rfl rfl (.cons rfl (Sub.refl _) rfl (.s rfl rfl (.cons rfl (Sub.int (by simp)) rfl .nil)))) .nil)
 ·refine Run.loop (ι := knownErr_ok_L0 i t) (fun sx => [(1, sCurs t), (21, .snap 1 false ((codesOf i).map fun s => [D.str s])), (22, .i (codesOf i).length), (23, .i sx.pre.length)]) (fun sx => []) (fun sx => sx.rest.length) ⟨[], _, rfl, rfl⟩ ?_ ?_
  ·exact Le.mk rfl (.s rfl rfl (.cons rfl (Sub.snap (by (unfold codesOf; (rw [if_neg (by simpa using h1)]; rfl)))) rfl (.cons rfl (Sub.int (by (unfold codesOf; (rw [if_neg (by simpa using h1)]; rfl)))) rfl (.s rfl rfl .nil)))) .nil
  ·rintro ⟨pre, rest, hx, hp⟩
   show Run _ _ _ _ [(1, sCurs t), (21, .snap 1 false ((codesOf i).map fun s => [D.str s])), (22, .i (codesOf i).length), (23, .i pre.length)] []
   have hl := congrArg List.length hx
   simp only [List.length_append] at hl
   rcases rest with _ | ⟨x, rest⟩
   ·skip
    refine go [] ?_
    refine brF (by simp at hl ⊢; omega) ?_
    refine go [] ?_
    exact rx1 rfl (Sub.int (by exact if_F (any_F hx hp) rfl))
   ·simp only [List.length_cons] at hl
    refine go [] ?_
    refine brT (by simp; omega) ?_
    refine ix (by omega) (iMd (fun s => [D.str s]) hx rfl) ?_
    refine oP (qCa call170 rfl (findCur_ok t x)) ?_
    refine br (fun h3 => ?_) (fun h3 => ?_)
    ·exact rx1 rfl (Sub.int (by exact if_T (any_T hx (by assumption))))
    ·refine sd (w64 (by omega)) ?_
     exact nx ⟨pre ++ [x], rest, by simp [hx], any_S hp (by assumption)⟩ (by simp) (Le.mk rfl (.s rfl rfl (.cons rfl (Sub.refl _) rfl (.s rfl rfl (.cons rfl (Sub.int (by simp)) rfl .nil)))) .nil)
structure checkInsts_ok_L0 (l : List Inst) (t : List Cur) where
 pre : List Inst
 rest : List Inst
 hx : l = pre ++ rest
 hp : checkInsts l t = instsFrom t pre rest
theorem checkInsts_ok (l : List Inst) (t : List Cur) (hs : ∀ x ∈ l, smallInst x) : Fc Tryz.prog 85 [sInsts l, sCurs t] (.i (checkInsts l t)) := by
 refine Fc.mk' [4] func85 rfl ntmps85 rfl rfl rfl (fun t w => results_tmp results85 t _ w) ?_
 refine Run.bSnap 0 rfl (fun hb => ?_)
 simp only [List.length_map, big] at hb
 refine go [11] ?_
 refine oP (qCa call117 rfl (checkTab_ok _)) ?_
 refine br (fun h1 => ?_) (fun h1 => ?_)
 ·exact rx1 rfl (Sub.int (by exact if_T h1))
 ·refine br (fun h2 => ?_) (fun h2 => ?_)
  ·exact rx1 rfl (Sub.int (by exact if_F h1 (if_T (by simpa using h2))))
  ·refine Run.loop (ι := checkInsts_ok_L0 l t) (fun sx => [(1, sCurs t), (0, sInsts l), (17, sInsts l), (18, .i l.length), (19, .i sx.pre.length)]) (fun sx => []) (fun sx => sx.rest.length) ⟨[], l, rfl, insts_0 h1 (by simpa using h2)⟩ ?_ ?_
   ·exact Le.mk rfl (.s rfl rfl (.s rfl rfl (.s rfl rfl (.cons rfl (Sub.int (by simp)) rfl (.s rfl rfl .nil))))) .nil
   ·rintro ⟨pre, rest, hx, hp⟩
    show Run _ _ _ _ [(1, sCurs t), (0, sInsts l), (17, sInsts l), (18, .i l.length), (19, .i pre.length)] []
    have hl := congrArg List.length hx
    simp only [List.length_append] at hl
    rcases rest with _ | ⟨x, rest⟩
    ·skip
     refine go [11] ?_
     refine brF (by simp at hl ⊢; omega) ?_
     refine go [11] ?_
     exact rx1 rfl (Sub.int (by exact hp.symm))
    ·simp only [List.length_cons] at hl
     refine go [11] ?_
     refine brT (by simp; omega) ?_
     refine ix (by omega) (iMd encInst hx rfl) ?_
     refine oP (qCa call118 rfl (instErr_ok x (hs x (by rw [hx]; simp)))) ?_
     refine br (fun h3 => ?_) (fun h3 => ?_)
     ·exact rx1 rfl (Sub.int (by exact insts_T hp (instAt1 h3) h3))
     ·refine Run.weak (Le.freezeB 6 0 rfl rfl rfl rfl) ?_
      refine go [] ?_
      refine oP (q_sliceI underlying23 sizeOf65 rfl (l := 0) (h := pre.length) (r := pre.map encInst) (.inl ⟨rfl, rfl⟩) (.inr ⟨_, _, rfl, rfl⟩) (by omega) (by simp [hx]) (by rw [hx]; simp)) ?_
      refine oP (qCa call111 rfl (findInst_ok pre x.id)) ?_
      refine ord ?_
      refine br (fun h4 => ?_) (fun h4 => ?_)
      ·exact rx1 rfl (Sub.int (by exact insts_T hp (instAt2 h3 h4) rfl))
      ·refine oP (qCa call119 rfl (knownErr_ok x t)) ?_
       refine br (fun h5 => ?_) (fun h5 => ?_)
       ·exact rx1 rfl (Sub.int (by exact insts_T hp (instAt3 h3 h4) h5))
       ·refine go [11] ?_
        refine sd (w64 (by omega)) ?_
        exact nx ⟨pre ++ [x], rest, by simp [hx], insts_N hp (instAt3 h3 h4) h5⟩ (by simp) (Le.mk rfl (.s rfl rfl (.s rfl rfl (.s rfl rfl (.s rfl rfl (.cons rfl (Sub.int (by simp)) rfl .nil))))) .nil)
theorem right_ok (s : Setup) (hs : ∀ x ∈ s.insts, smallInst x) : Fc Tryz.prog 41 [.agg (encSetup s)] (.b (decide (checkInsts s.insts s.curs = 0))) := by
 refine Fc.mk' [2] func41 rfl ntmps41 rfl rfl rfl (fun t w => results_tmp results41 t _ w) ?_
 refine go [] ?_
 refine oP (qCa call85 rfl (checkInsts_ok s.insts s.curs hs)) ?_
 exact rx1 rfl (Sub.refl _)
end Go.T
namespace Go.T
open Go Go.Proofs Go.Shelf Go.RowKit
@[reducible] def caps26 : Str := [65, 66, 67, 68, 69, 70, 71, 72, 73, 74, 75, 76, 77, 78, 79, 80, 81, 82, 83, 84, 85, 86, 87, 88, 89, 90]
theorem caps_cap (c : UInt8) : caps26.contains c = (decide (65 ≤ c.toNat) && decide (c.toNat ≤ 90)) := by
 have h : ∀ n : Fin 256, caps26.contains (UInt8.ofNat n.1) = (decide (65 ≤ (UInt8.ofNat n.1).toNat) && decide ((UInt8.ofNat n.1).toNat ≤ 90)) := by decide +kernel
 have := h ⟨c.toNat, c.toNat_lt⟩
 simpa using this
def trimC (s : Str) : Str := Lib.trimS s caps26
theorem trimC_nil (s : Str) : decide (trimC s = []) = s.all (fun c => decide (65 ≤ c.toNat) && decide (c.toNat ≤ 90)) := by
 have hp : (caps26.contains ·) = fun c => decide (65 ≤ c.toNat) && decide (c.toNat ≤ 90) := funext caps_cap
 have key : trimC s = [] ↔ s.all (fun c => decide (65 ≤ c.toNat) && decide (c.toNat ≤ 90)) = true := by
  unfold trimC Lib.trimS Lib.trimLeftS Lib.trimRightS
  rw [hp, dw_nil, List.all_reverse]
  constructor
  ·intro h
   have := dw_all _ s.reverse h
   rwa [List.all_reverse] at this
  ·intro h
   rw [(dw_nil _ s.reverse).2 (by rwa [List.all_reverse])]; rfl
 by_cases h : trimC s = []
 ·rw [key.1 h]; simp [h]
 ·have : s.all (fun c => decide (65 ≤ c.toNat) && decide (c.toNat ≤ 90)) = false := by
   cases e : s.all (fun c => decide (65 ≤ c.toNat) && decide (c.toNat ≤ 90)) with
   | false => rfl
   | true => exact absurd (key.2 e) h
  rw [this]; simp [h]
theorem trimC_len (s : Str) : (trimC s).length ≤ s.length := by
 unfold trimC Lib.trimS Lib.trimLeftS Lib.trimRightS
 refine Nat.le_trans (dw_len _ _) ?_
 rw [List.length_reverse]
 refine Nat.le_trans (dw_len _ _) (by simp)
theorem trimCaps_ok (s : Str) : Fc Tryz.prog 180 [.str s, .str caps26] (.str (trimC s)) := .of_calls fun w O ρ vals _ hv => by
 obtain ⟨rfl, hb, _⟩ := hv.str2
 refine (Any.strings_Trim_laid Tryz.lays160 (by kernel_rfl) ⟨s.toArray⟩ ⟨caps26.toArray⟩ w (by simp [ByteArray.size]; unfold big at hb; omega) (by decide) (ascii_of_all (by decide))).mono ?_
 rintro e w' ⟨rfl, hw⟩
 refine ⟨_, rfl, ?_, Keep.below hw⟩
 have := trimC_len s
 simp only [V]
 exact ⟨rfl, by omega⟩
end Go.T
namespace Go.T
open Go
def hasPre (s p : Str) : Bool := decide ((p.length : Int) ≤ s.length) && decide (s.take p.length = p)
def trimPre (s p : Str) : Str := if hasPre s p = true then s.drop p.length else s
theorem isCode_trim (s : Str) : (decide ((s.length : Int) = 3) && decide (trimC s = [])) = isCode s := by
 rw [trimC_nil]
 unfold isCode
 by_cases h : s.length = 3
 ·simp [h]
 ·have : ¬ ((s.length : Int) = 3) := by omega
  simp [h, this]
def eqL {α : Type} [DecidableEq α] (a b : List α) : Bool := decide (a = b)
theorem eq_len {α : Type} {a b : List α} [DecidableEq α] (h : a.length ≠ b.length) : false = eqL a b := by
 unfold eqL; rw [decide_eq_false]; intro e; exact h (congrArg List.length e)
theorem eq_ne {α : Type} {a b p q : List α} {x y : α} {r t : List α} [DecidableEq α] (h : a = p ++ x :: r) (h2 : b = q ++ y :: t) (hl : q.length = p.length) (hn : x ≠ y) : false = eqL a b := by
 unfold eqL; rw [decide_eq_false]; rintro e; rw [h, h2] at e
 have := List.append_inj e hl.symm
 exact hn (List.cons.inj this.2).1
theorem eq_all {α : Type} {a b p q : List α} [DecidableEq α] (h : a = p ++ []) (h2 : b = q ++ []) (hp : p = q) : true = eqL a b := by
 subst h; subst h2; subst hp; simp [eqL]
open Go.Proofs Go.Proofs.Tryz
set_option maxRecDepth 20000
theorem hasPre_ok (s p : Str) : Fc Tryz.prog 314 [.str s, .str p] (.b (hasPre s p)) := by
 refine Fc.mk' [4] func314 rfl ntmps314 rfl rfl rfl (fun t w => results_tmp results314 t _ w) ?_
 refine Run.bStr 0 rfl (fun hb => ?_)
 simp only [big] at hb
 refine go [] ?_
 refine gP (fun hg => q_sliceS underlying9 rfl (l := 0) (h := p.length) (r := s.take p.length) (.inl ⟨rfl, rfl⟩) (.inr ⟨_, _, rfl, rfl⟩) (by omega) (by simp [wants] at hg; omega) (by simp)) ?_
 exact rx1 rfl (Sub.refl _)
theorem trimPre0_ok (s p : Str) : Fc Tryz.prog 272 [.str s, .str p] (.str (trimPre s p)) := by
 refine Fc.mk' [4] func272 rfl ntmps272 rfl rfl rfl (fun t w => results_tmp results272 t _ w) ?_
 refine go [] ?_
 refine oP (qCa call314 rfl (hasPre_ok _ _)) ?_
 refine br (fun h1 => ?_) (fun h1 => ?_)
 ·refine oP (q_sliceS underlying9 rfl (l := p.length) (h := s.length) (r := s.drop p.length) (.inr ⟨_, _, rfl, rfl⟩) (.inl ⟨rfl, rfl⟩) (by simp [hasPre] at h1; omega) (by omega) (by rw [List.take_of_length_le]; simp)) ?_
  exact rx1 rfl (Sub.str (by unfold trimPre; rw [if_pos h1]))
 ·exact rx1 rfl (Sub.str (by unfold trimPre; rw [if_neg (by rw [h1]; simp)]))
theorem trimPre_ok (s p : Str) : Fc Tryz.prog 225 [.str s, .str p] (.str (trimPre s p)) := by
 refine Fc.mk' [4] func225 rfl ntmps225 rfl rfl rfl (fun t w => results_tmp results225 t _ w) ?_
 refine go [] ?_
 refine oP (qCa call272 rfl (trimPre0_ok _ _)) ?_
 exact rx1 rfl (Sub.refl _)
theorem fdigits_ok (a : Str) : Fc Tryz.prog 178 [.str a] (.i (trimPre a [45]).length) := by
 refine Fc.mk' [2] func178 rfl ntmps178 rfl rfl rfl (fun t w => results_tmp results178 t _ w) ?_
 refine go [] ?_
 refine oP (qCa call225 rfl (trimPre_ok _ _)) ?_
 exact rx1 rfl (Sub.refl _)
theorem whole_ok (a : Str) : Fc Tryz.prog 184 [.str a] (.agg (encFrac ⟨a, []⟩)) := by
 refine Fc.mkR func184 rfl ntmps184 rfl rfl rfl ?_
 refine go [99999] ?_
 refine Run.ret (?_)
 exact Rd.cA results184 isAgg35 sizeOf35 rfl rfl rfl (Sub.agg (.r (.r .nil)))
theorem nameErr_ok (s : Str) : Fc Tryz.prog 124 [.str s] (.i (if (!isName s) = true then 23 else 0)) := by
 refine Fc.mk' [2] func124 rfl ntmps124 rfl rfl rfl (fun t w => results_tmp results124 t _ w) ?_
 refine go [] ?_
 refine oP (qCa call86 rfl (name_ok _)) ?_
 refine br (fun h1 => ?_) (fun h1 => ?_)
 ·exact rx1 rfl (Sub.int (by exact if_T h1))
 ·exact rx1 rfl (Sub.int (by exact if_F h1 rfl))
theorem isCodeF_ok (s : Str) : Fc Tryz.prog 125 [.str s] (.b (isCode s)) := by
 refine Fc.mk' [2] func125 rfl ntmps125 rfl rfl rfl (fun t w => results_tmp results125 t _ w) ?_
 refine go [] ?_
 refine gP (fun hg => qCa call180 rfl (trimCaps_ok _)) ?_
 exact rx1 rfl (Sub.bool (by exact isCode_trim s))
theorem samePick_ok (x p : Pick) : Fc Tryz.prog 183 [.agg (encPick x), .iptr (encPick p)] (.b (decide (x.lot = p.lot))) := by
 refine Fc.mk' [3] func183 rfl ntmps183 rfl rfl rfl (fun t w => results_tmp results183 t _ w) ?_
 refine go [] ?_
 exact rx1 rfl (Sub.refl _)
structure indexPick_ok_L0 (l : List Pick) (P : Pick → Bool) where
 pre : List Pick
 rest : List Pick
 hx : l = pre ++ rest
 hp : pre.any P = false
theorem indexPick_ok (l : List Pick) (f : FuncId) (caps : List D) (hcap : D.pureB.pureL caps = true) (P : Pick → Bool) (hcall : ∀ (args : Array Value) (w : World), (callFunc f args).run Tryz.prog w = .ok (.enter f args) w) (hP : ∀ x ∈ l, Fc Tryz.prog f (.agg (encPick x) :: caps) (.b (P x))) : Fc Tryz.prog 236 [sPicks l, .fn (.func f) [] caps] (.i (findI P l)) := by
 refine Fc.mk' [4] func236 rfl ntmps236 rfl (by simp [D.pureB, D.pureB.pureL, hcap]) rfl (fun t w => results_tmp results236 t _ w) ?_
 refine Run.bSnap 0 rfl (fun hb => ?_)
 simp only [List.length_map, big] at hb
 refine go [] ?_
 refine Run.loop (ι := indexPick_ok_L0 l P) (fun sx => [(0, sPicks l), (1, .fn (.func f) [] caps), (6, sPicks l), (7, .i l.length), (8, .i sx.pre.length)]) (fun sx => []) (fun sx => sx.rest.length) ⟨[], l, rfl, rfl⟩ ?_ ?_
 ·exact Le.mk rfl (.s rfl rfl (.cons rfl (Sub.refl _) (okB_fn hcap) (.s rfl rfl (.cons rfl (Sub.int (by simp)) rfl (.s rfl rfl .nil))))) .nil
 ·rintro ⟨pre, rest, hx, hp⟩
  show Run _ _ _ _ [(0, sPicks l), (1, .fn (.func f) [] caps), (6, sPicks l), (7, .i l.length), (8, .i pre.length)] []
  have hl := congrArg List.length hx
  simp only [List.length_append] at hl
  rcases rest with _ | ⟨x, rest⟩
  ·skip
   refine go [] ?_
   refine brF (by simp at hl ⊢; omega) ?_
   refine go [] ?_
   exact rx1 rfl (Sub.int (by exact find_F hx hp))
  ·simp only [List.length_cons] at hl
   refine go [] ?_
   refine brT (by simp; omega) ?_
   refine ix (by omega) (iMd encPick hx rfl) ?_
   refine oP (qCf hcall rfl rfl (hP x (by rw [hx]; simp))) ?_
   refine br (fun h1 => ?_) (fun h1 => ?_)
   ·exact rx1 rfl (Sub.int (by exact find_T hx hp h1))
   ·refine sd (w64 (by omega)) ?_
    exact nx ⟨pre ++ [x], rest, by simp [hx], any_S hp h1⟩ (by simp) (Le.mk rfl (.s rfl rfl (.cons rfl (Sub.refl _) (okB_fn hcap) (.s rfl rfl (.s rfl rfl (.cons rfl (Sub.int (by simp)) rfl .nil))))) .nil)
theorem containsPick_ok (l : List Pick) (f : FuncId) (caps : List D) (hcap : D.pureB.pureL caps = true) (P : Pick → Bool) (hcall : ∀ (args : Array Value) (w : World), (callFunc f args).run Tryz.prog w = .ok (.enter f args) w) (hP : ∀ x ∈ l, Fc Tryz.prog f (.agg (encPick x) :: caps) (.b (P x))) : Fc Tryz.prog 182 [sPicks l, .fn (.func f) [] caps] (.b (l.any P)) := by
 refine Fc.mk' [4] func182 rfl ntmps182 rfl (by simp [D.pureB, D.pureB.pureL, hcap]) rfl (fun t w => results_tmp results182 t _ w) ?_
 refine go [] ?_
 refine oP (qCa call236 rfl (indexPick_ok l f caps hcap P hcall hP)) ?_
 exact rx1 rfl (Sub.bool (by exact findI_ge P l))
end Go.T
namespace Go.T
open Go
variable [Noise]
theorem Vs_get {w : World} {O : Nat → Prop} {ρ : Rho} : ∀ {ds : List D} {vs : List Value} {i : Nat} {d : D}, Vs w O ρ ds vs → ds[i]? = some d → ∃ v, vs[i]? = some v ∧ V w O ρ d v
 | [], vs, i, d, _, h => by simp at h
 | e :: ds, vs, 0, d, h, hd => by
  simp only [Vs] at h
  obtain ⟨u, us, rfl, h1, _⟩ := h
  simp at hd; subst hd
  exact ⟨u, by simp, h1⟩
 | e :: ds, vs, i + 1, d, h, hd => by
  simp only [Vs] at h
  obtain ⟨u, us, rfl, _, h2⟩ := h
  obtain ⟨v, h3, h4⟩ := Vs_get h2 (by simpa using hd)
  exact ⟨v, by simpa using h3, h4⟩
theorem q_index1 {P : Program} {env : Env} {dst : Option Tmp} {ty : TypeId} {pos : String} {aft : Array Edge} {g : Option (Nat × Bool)} {t e : TypeId} {x y : Operand} {n : Nat} {k : IntKind} {i : Int} {cs : List D} {r : D} (hu : P.underlying t = some (.array n e)) (ha : ∀ w, (isAgg e).run P w = .ok false w) (hs : ∀ w, (sizeOf e).run P w = .ok 1 w)
  (hx : env.op x = some (.agg cs)) (hy : env.op y = some (.raw (.int k i))) (h0 : 0 ≤ i) (hi : i < n) (hr : cs[i.toNat]? = some r) (obs : Obs) :
  QStep P ⟨dst, .index t x y, ty, pos, aft, g⟩ env obs r obs :=
 .val fun O ρ a w _ hv => by
  have h1 := hv x (by simp [Op.operands]) _ hx
  have h2 := hv y (by simp [Op.operands]) _ hy
  simp only [V] at h1 h2
  obtain ⟨vs, e1, h3⟩ := h1
  obtain ⟨v, h4, h5⟩ := Vs_get h3 hr
  have h6 : vs[i.toNat]? = some v := by simpa using h4
  refine ⟨v, ?_, h5⟩
  simp [execOp, Instr.index, h2, asIntOf, run_und hu, e1, h0, hi, hs, part, ha, h6]
end Go.T
namespace Go.T
open Go
theorem iT {α : Type} {b : Bool} {x y : α} (h : b = true) : x = if b = true then x else y := by rw [if_pos h]
theorem iF {α : Type} {b : Bool} {x y z : α} (h : b = false) (k : z = y) : z = if b = true then x else y := by rw [if_neg (by rw [h]; simp)]; exact k
def numLim (pos part : Bool) (f : Frac) : Int := limErr pos part f (limBad pos part f) (decide (40 < ((trimPre f.num [45]).length : Int)) || decide (40 < ((trimPre f.den [45]).length : Int)))
def valueF (f : Fact) (n : Int) : Frac :=
 if n = 4 then ⟨f.qty, []⟩ else if n = 5 then ⟨f.amt, []⟩ else if n = 6 then ⟨f.fee, []⟩ else if n = 7 then f.price else if n = 8 then f.ratio else if n = 9 then f.share else zFr
@[reducible] def encVals (f : Fact) : List D := [.str [], .str [], .str [], .str [], .str [], .str [], .str [], .str [], .str f.qty, .str [], .str f.amt, .str [], .str f.fee, .str [], .str f.price.num, .str f.price.den, .str f.ratio.num, .str f.ratio.den, .str f.share.num, .str f.share.den, .str [], .str [], .str [], .str [], .str [], .str []]
theorem value_part {f : Fact} {n : Int} (h0 : 0 ≤ n) (h1 : n < 13) : ((encVals f).drop (n.toNat * 2)).take 2 = encFrac (valueF f n) := by
 have : n = 0 ∨ n = 1 ∨ n = 2 ∨ n = 3 ∨ n = 4 ∨ n = 5 ∨ n = 6 ∨ n = 7 ∨ n = 8 ∨ n = 9 ∨ n = 10 ∨ n = 11 ∨ n = 12 := by omega
 rcases this with rfl | rfl | rfl | rfl | rfl | rfl | rfl | rfl | rfl | rfl | rfl | rfl | rfl <;> rfl
theorem fr_eq (f g : Frac) : decide ([f.num, f.den] = [g.num, g.den]) = decide (f = g) := by
 rw [decide_eq_decide]
 cases f; cases g
 simp
def emptyF (f : Fact) (n : Int) : Bool :=
 if decide (n = 0) = true then decide (f.instr = []) else if decide (n = 1) = true then decide (f.other = []) else if decide (n = 2) = true then decide (f.cur = []) else if decide (n = 3) = true then decide (f.target = [])
 else if decide (n = 10) = true then decide ((f.picks.length : Int) = 0) else if decide (n = 11) = true then decide ((f.opts.length : Int) = 0) else if decide (n = 12) = true then decide (f.choice = 0) else decide (valueF f n = zFr)
theorem pick_F {x y : Pick} (h : (!decide ([x.lot, x.qty] = [y.lot, y.qty])) = false) : x = y := by
 cases x; cases y; simpa using h
theorem pick_T {x y : Pick} (h : (!decide ([x.lot, x.qty] = [y.lot, y.qty])) = true) : ¬ x = y := by
 rintro rfl; simp at h
@[reducible] def optL (x : Opt) : List Str := [x.other, x.ratio.num, x.ratio.den, x.price.num, x.price.den, x.value.num, x.value.den]
theorem opt_F {x y : Opt} (h : (!decide (optL x = optL y)) = false) : x = y := by
 rcases x with ⟨a, ⟨b, c⟩, ⟨d, e⟩, ⟨f, g⟩⟩
 rcases y with ⟨a', ⟨b', c'⟩, ⟨d', e'⟩, ⟨f', g'⟩⟩
 simp [optL] at h
 obtain ⟨rfl, rfl, rfl, rfl, rfl, rfl, rfl⟩ := h
 rfl
theorem opt_T {x y : Opt} (h : (!decide (optL x = optL y)) = true) : ¬ x = y := by
 rintro rfl; simp at h
theorem cons_of_len {α : Type} {l : List α} {n : Nat} (h : l.length = n + 1) : ∃ y r, l = y :: r := by
 cases l with
 | nil => simp at h
 | cons y r => exact ⟨y, r, rfl⟩
def sameF (a b : Fact) : Bool := decide (a.key = b.key) && decide (a.stamp = b.stamp) && (a.cancelled == b.cancelled) && decide (a.day = b.day) && decide (a.kind = b.kind) && decide (a.instr = b.instr) && decide (a.other = b.other) && decide (a.cur = b.cur) && decide (a.target = b.target)
 && decide (a.qty = b.qty) && decide (a.amt = b.amt) && decide (a.fee = b.fee) && decide ([a.price.num, a.price.den] = [b.price.num, b.price.den]) && decide ([a.ratio.num, a.ratio.den] = [b.ratio.num, b.ratio.den]) && decide ([a.share.num, a.share.den] = [b.share.num, b.share.den])
 && eqL a.picks b.picks && eqL a.opts b.opts && decide (a.choice = b.choice)
open Go.Proofs Go.Proofs.Tryz
set_option maxRecDepth 20000
theorem opSub_ok (a b c d : Str) (ha : a.length ≤ 1000) (hb : b.length ≤ 1000) (hc : c.length ≤ 1000) (hd : d.length ≤ 1000) : Fc Tryz.prog 307 [.str a, .str b, .str c, .str d, .iptr [.fn (.func 305) [] []]] (.tup [.str (ofInt (val a * val d - val c * val b)), .str (ofInt (val b * val d))]) := by
 refine Fc.mk' [9, 10] func307 rfl ntmps307 rfl rfl rfl (fun t w => results_tmp2 results307 t _ w) ?_
 have h1 := mul_len a d
 have h2 := mul_len c b
 have h3 := mul_len b d
 refine go [] ?_
 refine oP (qCf call305 rfl rfl (mul_ok _ _ (by omega) (by omega))) ?_
 refine oP (qCf call305 rfl rfl (mul_ok _ _ (by omega) (by omega))) ?_
 refine oP (qCa call308 rfl (subS_ok _ _ (by omega) (by omega))) ?_
 refine oP (qCf call305 rfl rfl (mul_ok _ _ (by omega) (by omega))) ?_
 refine ord ?_
 exact rx2 rfl rfl (Sub.str (by rw [val_ofInt, val_ofInt])) (Sub.refl _)
theorem operations_ok  : Fc Tryz.prog 270 [] (.agg [.fn (.func 306) [] [.iptr [.fn (.func 305) [] []]], .fn (.func 307) [] [.iptr [.fn (.func 305) [] []]], .fn (.func 309) [] [.iptr [.fn (.func 305) [] []]], .fn (.func 310) [] [.iptr [.fn (.func 305) [] []]]]) := by
 refine Fc.mkR func270 rfl ntmps270 rfl rfl rfl ?_
 refine go [2, 99999] ?_
 refine Run.weak (Le.freezeB 1 1 rfl rfl rfl rfl) ?_
 refine go [99999] ?_
 refine Run.ret (?_)
 exact Rd.cA results270 isAgg279 sizeOf279 rfl rfl rfl (Sub.agg (.r (.cons (Sub.refl _) (.r (.r .nil)))))
theorem applySub_ok (f g : Frac) (hf : f.num.length ≤ 900 ∧ f.den.length ≤ 900) (hg : g.num.length ≤ 900 ∧ g.den.length ≤ 900) : Fc Tryz.prog 269 [.fn (.func 307) [] [.iptr [.fn (.func 305) [] []]], .agg (encFrac f), .agg (encFrac g)] (.agg (encFrac (subF f g))) := by
 refine Fc.mkR func269 rfl ntmps269 rfl rfl rfl ?_
 obtain ⟨hl1, hl2, hl3, hl4⟩ := sub_len hf hg (by decide)
 have hm1 := abs_mono (mul_abs (partsF f).1 (partsF g).2) (k := 1800) (by omega)
 have hm2 := abs_mono (mul_abs (partsF g).1 (partsF f).2) (k := 1800) (by omega)
 have hs := ofInt_sub_len hm1 hm2
 have hm3 := mul_len (partsF f).2 (partsF g).2
 refine go [99999] ?_
 refine oP (qCa call222 rfl (parts_ok f (by omega))) ?_
 refine oP (qCa call222 rfl (parts_ok g (by omega))) ?_
 refine oP (qCf call307 rfl rfl (opSub_ok _ _ _ _ (by omega) (by omega) (by omega) (by omega))) ?_
 refine oP (qCa call224 rfl (made_ok _ _ (by omega) (by omega) prod_ne)) ?_
 refine Run.ret (?_)
 exact Rd.cA results269 isAgg35 sizeOf35 rfl rfl rfl (Sub.agg (.cons (Sub.str (by rw [val_ofInt, val_ofInt]; rfl)) (.cons (Sub.str (by rw [val_ofInt, val_ofInt]; rfl)) .nil)))
theorem fsub_ok (f g : Frac) (hf : f.num.length ≤ 900 ∧ f.den.length ≤ 900) (hg : g.num.length ≤ 900 ∧ g.den.length ≤ 900) : Fc Tryz.prog 223 [.agg (encFrac f), .agg (encFrac g)] (.agg (encFrac (subF f g))) := by
 refine Fc.mkR func223 rfl ntmps223 rfl rfl rfl ?_
 refine go [99999] ?_
 refine oP (qCa call270 rfl operations_ok) ?_
 refine oP (q_index1 (r := .fn (.func 307) [] [.iptr [.fn (.func 305) [] []]]) underlying279 isAgg278 sizeOf278 rfl rfl (by decide) (by decide) rfl) ?_
 refine oP (qCa call269 rfl (applySub_ok _ _ (by assumption) (by assumption))) ?_
 refine ord ?_
 refine Run.ret (?_)
 exact Rd.cA results223 isAgg35 sizeOf35 rfl rfl rfl (Sub.agg (.r (.r .nil)))
theorem fcmp_ok (f g : Frac) (hf : f.num.length ≤ 900 ∧ f.den.length ≤ 900) (hg : g.num.length ≤ 900 ∧ g.den.length ≤ 900) : Fc Tryz.prog 176 [.agg (encFrac f), .agg (encFrac g)] (.i (cmpFr f g)) := by
 refine Fc.mk' [4] func176 rfl ntmps176 rfl rfl rfl (fun t w => results_tmp results176 t _ w) ?_
 have hl := subF_len (k := 900) (by decide) hf hg
 have hp := parts_num (subF f g)
 refine go [] ?_
 refine oP (qCa call223 rfl (fsub_ok _ _ (by assumption) (by assumption))) ?_
 refine oP (qCa call222 rfl (parts_ok _ (by omega))) ?_
 refine oP (qCa call186 rfl (compare_ok _ [] (by rw [hp]; omega) (by simp))) ?_
 exact rx1 rfl (Sub.int (by rw [hp]; rfl))
theorem numLim_ok (f : Frac) (pos part : Bool) (hs : smallFr f) : Fc Tryz.prog 175 [.agg (encFrac f), .iptr [.b pos], .iptr [.b part]] (.i (numLim pos part f)) := by
 refine Fc.mk' [4] func175 rfl ntmps175 rfl rfl rfl (fun t w => results_tmp results175 t _ w) ?_
 have hf : f.num.length ≤ 900 ∧ f.den.length ≤ 900 := ⟨Nat.le_trans hs.1 (by decide), Nat.le_trans hs.2 (by decide)⟩
 refine go [] ?_
 refine oP (qCa call176 rfl (fcmp_ok f zFr hf (by decide))) ?_
 refine oP (qCa call177 rfl (fracCheck_ok _ (by assumption))) ?_
 refine br (fun h1 => ?_) (fun h1 => ?_)
 ·exact rx1 rfl (Sub.int (by unfold numLim limErr; exact if_T h1))
 ·refine oP (qCa call178 rfl (fdigits_ok _)) ?_
  refine gP (fun hg => qCa call178 rfl (fdigits_ok _)) ?_
  refine br (fun h2 => ?_) (fun h2 => ?_)
  ·exact rx1 rfl (Sub.int (by unfold numLim limErr; exact if_F h1 (if_T h2)))
  ·refine gP (fun hg => qCa call179 rfl (fof_ok [49] (by decide))) ?_
   refine gP (fun hg => qCa call176 rfl (fcmp_ok f (madeN (val [49]) (val [49])) hf (made_len (k := 2) (by decide) (by decide) (by decide) |>.imp (Nat.le_trans · (by decide)) (Nat.le_trans · (by decide))))) ?_
   refine ord ?_
   refine br (fun h3 => ?_) (fun h3 => ?_)
   ·exact rx1 rfl (Sub.int (by unfold numLim limErr; exact if_F h1 (if_F h2 (if_T h3))))
   ·exact rx1 rfl (Sub.int (by unfold numLim limErr; exact if_F h1 (if_F h2 (if_F h3 rfl))))
theorem between_ok (a b : Bool) : Fc Tryz.prog 120 [.b a, .b b] (.fn (.func 175) [] [.iptr [.b a], .iptr [.b b]]) := by
 refine Fc.mk' [4] func120 rfl ntmps120 rfl rfl rfl (fun t w => results_tmp results120 t _ w) ?_
 refine go [1] ?_
 refine Run.weak (Le.freezeB 2 0 rfl rfl rfl rfl) ?_
 refine Run.weak (Le.freezeB 3 1 rfl rfl rfl rfl) ?_
 refine go [] ?_
 exact rx1 rfl (by exact Sub.refl _)
end Go.T
namespace Go.T
open Go
variable [Noise]
variable {P : Program} {env : Env} {dst : Option Tmp} {ty : TypeId} {pos : String} {aft : Array Edge} {g : Option (Nat × Bool)}
inductive StrG (P : Program) : List Field → Nat → Nat → Prop
 | nil (k : Nat) : StrG P [] k k
 | str {f : Field} {fs : List Field} {k n : Nat} (hn : (f.name == "_") = false) (hu : P.underlying f.type = some .string) (ha : ∀ w, (isAgg f.type).run P w = .ok false w) (ho : f.offset = k) (r : StrG P fs (k + 1) n) : StrG P (f :: fs) k n
 | sub {f : Field} {fs gs : List Field} {k n m : Nat} (hn : (f.name == "_") = false) (hu : P.underlying f.type = some (.struct gs.toArray)) (hp : P.stoodInHeld f.type = false) (ha : ∀ w, (isAgg f.type).run P w = .ok true w) (hs : ∀ w, (sizeOf f.type).run P w = .ok m w) (hm : gs.length = m) (hg : StrF P gs 0) (ho : f.offset = k) (r : StrG P fs (k + m) n) : StrG P (f :: fs) k n
theorem eqFields_strG {d : Nat} {xs ys : List Str} {fs : List Field} {k n : Nat} (h : StrG P fs k n) (hx : n = xs.length) (hy : n = ys.length) (w : World) :
  k ≤ n ∧ (Op.eqFields (d + 2) (xs.map fun s => Value.string ⟨s.toArray⟩).toArray (ys.map fun s => Value.string ⟨s.toArray⟩).toArray fs).run P w = .ok (decide (xs.drop k = ys.drop k)) w := by
 induction h with
 | nil k =>
  rw [List.drop_of_length_le (by omega), List.drop_of_length_le (by omega)]
  simp [Op.eqFields]
 | @str f fs k n hn hu ha ho r ih =>
  obtain ⟨hk, ih⟩ := ih hx hy
  have h1 : k < xs.length := by omega
  have h2 : k < ys.length := by omega
  have hdec : decide (xs.drop k = ys.drop k) = (decide (xs[k] = ys[k]) && decide (xs.drop (k + 1) = ys.drop (k + 1))) := by
   rw [List.drop_eq_getElem_cons h1, List.drop_eq_getElem_cons h2]; simp only [List.cons.injEq, Bool.decide_and]
  refine ⟨by omega, ?_⟩
  rw [hdec]
  have hn' : f.name ≠ "_" := by simpa using hn
  simp only [Op.eqFields, hn', ne_eq, not_false_eq_true, if_true, Sem.run_bind, part, ha, Result.andThen_ok, Bool.false_eq_true, if_false, ho]
  simp only [List.getElem?_toArray, List.getElem?_map, List.getElem?_eq_getElem h1, List.getElem?_eq_getElem h2, Option.map_some, Sem.run_pure, Result.andThen_ok, run_equalIn_string _ _ _ _ _ hu, toList_str]
  by_cases e : xs[k] = ys[k]
  ·simp only [e, BEq.rfl, Bool.not_true, Bool.false_eq_true, if_false, decide_true, Bool.true_and]; exact ih
  ·have : (xs[k] == ys[k]) = false := by simpa using e
   simp only [this, Bool.not_false, if_true, Sem.run_pure, e, decide_false, Bool.false_and]
 | @sub f fs gs k n m hn hu hp ha hs hm hg ho r ih =>
  obtain ⟨hk, ih⟩ := ih hx hy
  refine ⟨by omega, ?_⟩
  have hn' : f.name ≠ "_" := by simpa using hn
  have hfo : P.fieldsOf f.type = gs.toArray := by simp [Program.fieldsOf, hu]
  have he : ∀ zs : List Str, (zs.map fun s => Value.string ⟨s.toArray⟩).toArray.extract k (k + m) = (((zs.drop k).take m).map fun s => Value.string ⟨s.toArray⟩).toArray := by
   intro zs
   simp [List.map_take, List.map_drop]
  have h3 := fun us vs => run_equalIn_struct (P := P) w (d + 1) f.type us vs (by rw [hfo]; exact hu) hp
  have h6 := eqFields_str (d := d) hg (xs := (xs.drop k).take m) (ys := (ys.drop k).take m) (by simp; omega) (by simp; omega) w
  rw [List.drop_zero, List.drop_zero] at h6
  have hdec : decide (xs.drop k = ys.drop k) = (decide ((xs.drop k).take m = (ys.drop k).take m) && decide (xs.drop (k + m) = ys.drop (k + m))) := by
   rw [← Bool.decide_and, decide_eq_decide]
   constructor
   ·intro e
    rw [e]; exact ⟨rfl, by rw [← List.drop_drop, ← List.drop_drop, e]⟩
   ·rintro ⟨e1, e2⟩
    rw [← List.take_append_drop m (xs.drop k), ← List.take_append_drop m (ys.drop k), e1, List.drop_drop, List.drop_drop, e2]
  rw [hdec]
  rw [hfo] at h3
  simp only [Op.eqFields, hn', ne_eq, not_false_eq_true, if_true, Sem.run_bind, part, ha, hs, Result.andThen_ok, ho, Sem.run_pure, he]
  rw [h3, h6]
  simp only [Result.andThen_ok]
  by_cases e : (xs.drop k).take m = (ys.drop k).take m
  ·simp only [e, Bool.not_true, Bool.false_eq_true, if_false, decide_true, Bool.true_and]; exact ih
  ·simp only [e, decide_false, Bool.not_false, if_true, Sem.run_pure, Bool.false_and]
theorem q_cmpG {op : BinOp} {t t' : TypeId} {x y : Operand} {xs ys : List Str} {fs : List Field} {n : Nat} (hop : op = .eql ∨ op = .neq) (hu : P.underlying t = some (.struct fs.toArray)) (hp : P.stoodInHeld t = false) (hg : P.eqGuardType P.depth t = false) (hf : StrG P fs 0 n) (hlx : n = xs.length) (hly : n = ys.length)
  (hx : env.op x = some (.agg (xs.map D.str))) (hy : env.op y = some (.agg (ys.map D.str))) (obs : Obs) : QStep P ⟨dst, .binOp op t x y t', ty, pos, aft, g⟩ env obs (.raw (.bool (if op = .eql then decide (xs = ys) else !decide (xs = ys)))) obs :=
 .val fun _ _ a w _ hv => by
  have h1 := hv x (by simp [Op.operands]) _ hx
  have h2 := hv y (by simp [Op.operands]) _ hy
  simp only [V] at h1 h2
  obtain ⟨us, e1, h1⟩ := h1
  obtain ⟨vs, e2, h2⟩ := h2
  have h1 := Vs_strs h1
  have h2 := Vs_strs h2
  have hfo : P.fieldsOf t = fs.toArray := by simp [Program.fieldsOf, hu]
  have h3 := run_equalIn_struct (P := P) w 9999 t us vs (by rw [hfo]; exact hu) hp
  have h4 : us = (xs.map fun s => Value.string ⟨s.toArray⟩).toArray := by rw [← h1]
  have h5 : vs = (ys.map fun s => Value.string ⟨s.toArray⟩).toArray := by rw [← h2]
  have h6 := (eqFields_strG (d := 9997) hf (xs := xs) (ys := ys) hlx hly w).2
  rw [hfo] at h3
  simp only [h4, h5] at h3 e1 e2
  simp only [List.drop_zero] at h6
  refine ⟨.bool (if op = .eql then decide (xs = ys) else !decide (xs = ys)), ?_, by simp only [V]⟩
  rcases hop with rfl | rfl
  ·simp [execOp, e1, e2, run_eqGuard_agg _ _ _ _ _ _ _ hg, run_eql_struct, h3, h6]
  ·simp [execOp, e1, e2, run_eqGuard_agg _ _ _ _ _ _ _ hg, run_neq_struct, h3, h6]
theorem q_neqG {t t' : TypeId} {x y : Operand} {xs ys : List Str} {fs : List Field} {n : Nat} {ds es : List D} (hu : P.underlying t = some (.struct fs.toArray)) (hp : P.stoodInHeld t = false) (hg : P.eqGuardType P.depth t = false) (hf : StrG P fs 0 n) (hlx : n = xs.length) (hly : n = ys.length)
  (hx : env.op x = some (.agg ds)) (hy : env.op y = some (.agg es)) (hd : ds = xs.map D.str) (he : es = ys.map D.str) (obs : Obs) : QStep P ⟨dst, .binOp .neq t x y t', ty, pos, aft, g⟩ env obs (.raw (.bool (!decide (xs = ys)))) obs := by
 subst hd; subst he
 exact q_cmpG (.inr rfl) hu hp hg hf hlx hly hx hy obs
def isNilI : Value → Bool
 | .nilIface => true
 | _ => false
theorem q_eqlIf {t t' : TypeId} {x : Operand} {v : Value} {ms : Array (String × TypeId)} (hu : P.underlying t = some (.interface ms)) (hx : env.op x = some (.raw v)) (hv0 : v = .nilIface ∨ ∃ te pe, v = .iface te pe) (obs : Obs) :
  QStep P ⟨dst, .binOp .eql t x (.const .nilIface) t', ty, pos, aft, g⟩ env obs (.raw (.bool (isNilI v))) obs :=
 .val fun _ _ a w _ hv => by
  have h1 := hv x (by simp [Op.operands]) _ hx
  simp only [V] at h1
  refine ⟨.bool (isNilI v), ?_, by simp only [V]⟩
  have e2 : a.eval (.const .nilIface) = .nilIface := rfl
  rcases hv0 with rfl | ⟨te, pe, rfl⟩
  ·have h3 : (eqGuard .eql t x (.const .nilIface) .nilIface .nilIface).run P w = .ok () w := by cases x <;> rfl
   have h : ∀ d : Nat, (Op.equalIn (d + 1) t .nilIface .nilIface).run P w = .ok true w := fun d => by simp [Op.equalIn, run_underlying hu]
   have h4 : (binOp .eql t .nilIface .nilIface).run P w = .ok (.bool true) w := by
    show ((Op.equalIn (9999 + 1) t .nilIface .nilIface).bind fun b => Sem.pure (Value.bool b)).run P w = _
    rw [Sem.run_bind', h]; rfl
   simp only [execOp, h1, e2, isNilI]
   rw [Sem.run_bind, Sem.run_bind, h3]
   simp only [Result.andThen_ok]
   rw [h4]; rfl
  ·have h3 : (eqGuard .eql t x (.const .nilIface) (.iface te pe) .nilIface).run P w = .ok () w := rfl
   have h : ∀ d : Nat, (Op.equalIn (d + 1) t (.iface te pe) .nilIface).run P w = .ok false w := fun d => by simp [Op.equalIn, run_underlying hu]
   have h4 : (binOp .eql t (.iface te pe) .nilIface).run P w = .ok (.bool false) w := by
    show ((Op.equalIn (9999 + 1) t (.iface te pe) .nilIface).bind fun b => Sem.pure (Value.bool b)).run P w = _
    rw [Sem.run_bind', h]; rfl
   simp only [execOp, h1, e2, isNilI]
   rw [Sem.run_bind, Sem.run_bind, h3]
   simp only [Result.andThen_ok]
   rw [h4]; rfl
end Go.T
namespace Go.T
open Go Go.Proofs Go.Shelf Go.RowKit
def atoiA (s : Str) (p : Int × Value) : Prop := (Lib.atoiAll s = .ok p.1 ∧ p.2 = .nilIface) ∨ ((∀ v, Lib.atoiAll s ≠ .ok v) ∧ ∃ te pe, p.2 = .iface te pe)
theorem atoi_if {s : Str} {p : Int × Value} (h : atoiA s p) : p.2 = .nilIface ∨ ∃ te pe, p.2 = .iface te pe := h.imp (·.2) (·.2)
theorem err_of {w : World} {O : Nat → Prop} (h : Gl w O) {g : Nat} (hg : g ∈ etab) : ∃ te pe, w.cell? ⟨g, 0, none⟩ = some (.iface te pe) := by
 obtain ⟨⟨te, pe, T, fr, h1⟩, _⟩ := h.2 g hg
 exact ⟨te, pe, by simp [World.cell?, h1]⟩
theorem keep_bytes (w : World) (t : ByteArray) : Keep w (Lib.bytesWorld w byteT t) := Keep.below (Lib.bytesWorld_below w byteT t)
theorem atoi_ok (s : Str) (hs : s.length ≤ 1000) : FcE Tryz.prog 234 [.str s] (atoiA s) (fun p => .tup [.i p.1, .raw p.2]) := ⟨fun w O ρ vals hO hg hv => by
 simp only [Vs, V] at hv
 obtain ⟨_, _, rfl, ⟨rfl, _⟩, rfl⟩ := hv
 have hsz : (⟨s.toArray⟩ : ByteArray).size = s.length := by simp [ByteArray.size]
 have hl : (⟨s.toArray⟩ : ByteArray).data.toList = s := by simp
 cases e : Lib.atoiAll s with
 | ok v =>
  refine Calls.mono (Tryz.strconv_Atoi_ok ⟨s.toArray⟩ (by omega) v (by rw [hl]; exact e) w) ?_
  rintro e' w' ⟨rfl, hw⟩
  refine ⟨(v, .nilIface), _, .inl ⟨e, rfl⟩, rfl, by simp [V, Vs, D.i], ?_⟩
  rcases hw with rfl | ⟨t, rfl⟩
  ·exact ⟨Nat.le_refl _, fun _ _ => rfl, rfl, rfl, Clk.eq rfl rfl⟩
  ·exact keep_bytes w t
 | range =>
  obtain ⟨te, pe, hc⟩ := err_of hg (g := 4) (by decide)
  refine Calls.mono (Tryz.strconv_Atoi_range ⟨s.toArray⟩ (by omega) (by rw [hl]; exact e) _ w hc (.inr ⟨_, _, rfl⟩)) ?_
  rintro e' w' ⟨N, rfl, _, _, hb⟩
  exact ⟨(Lib.atoiSat s, .iface 307 (.pointer (some ⟨N, 0, none⟩))), _, .inr ⟨fun v h => (by rw [e] at h; cases h), _, _, rfl⟩, rfl, by simp [V, Vs, D.i, hl], Keep.below hb⟩
 | _ =>
  obtain ⟨te, pe, hc⟩ := err_of hg (g := 3) (by decide)
  refine Calls.mono (Any.strconv_Atoi_syntax Tryz.laysC172 ⟨s.toArray⟩ (by omega) (by rw [hl]; exact e) _ w hc (.inr ⟨_, _, rfl⟩)) ?_
  rintro e' w' ⟨N, rfl, _, _, hb⟩
  exact ⟨(0, .iface 307 (.pointer (some ⟨N, 0, none⟩))), _, .inr ⟨fun v h => (by rw [e] at h; cases h), _, _, rfl⟩, rfl, by simp [V, Vs, D.i]; rfl, Keep.below hb⟩⟩
theorem itoa_ok (n : Int) (h0 : 0 ≤ n) (h1 : n ≤ 9999) : Fc Tryz.prog 235 [.i n] (.str (Lib.itoa n)) := .of_calls fun w O ρ vals hg hv => by
 simp only [Vs, V] at hv
 obtain ⟨_, _, rfl, rfl, rfl⟩ := hv
 refine (Tryz.strconv_Itoa n (by omega) (by omega) w (tab_of hg)).mono ?_
 rintro e w' ⟨rfl, k, os, rfl⟩
 refine ⟨_, rfl, ?_, keep_grow w k os⟩
 simp only [V]
 have : (Lib.itoa n).length ≤ 20 := by
  unfold Lib.itoa
  rw [if_neg (by omega), Lib.decDigits_length]
  by_cases h : n.toNat = 0
  ·rw [h, Lib.nDigits_small (by omega)]; omega
  ·have := Lib.numDigits_eq n.toNat (by omega) (by omega); split at this <;> omega
 exact ⟨trivial, by unfold big; omega⟩
theorem cutI_le (s : Str) : (cutI s 47).2.1.length ≤ s.length := by
 unfold cutI
 split
 ·simp
 ·simp
def isLotS (s : Str) : Bool := isName (cutI s 47).1 && (match Lib.atoiAll (cutI s 47).2.1 with | .ok n => decide (1 ≤ n) && decide (n ≤ 9999) && decide (Lib.itoa n = (cutI s 47).2.1) | _ => false)
theorem isLot_end {s : Str} {p : Int × Value} (h : atoiA (cutI s 47).2.1 p) : (isName (cutI s 47).1 && isNilI p.2 && decide (1 ≤ p.1) && decide (p.1 ≤ 9999) && decide (Lib.itoa p.1 = (cutI s 47).2.1)) = isLotS s := by
 obtain ⟨n, v⟩ := p
 unfold isLotS
 rcases h with ⟨h1, h2⟩ | ⟨h1, te, pe, h2⟩
 ·simp only at h1 h2
  rw [h1, h2]; simp [isNilI, Bool.and_assoc]
 ·simp only at h1 h2
  rw [h2]
  cases e : Lib.atoiAll (cutI s 47).2.1 with
  | ok v => exact absurd e (h1 v)
  | range => simp [isNilI]
  | _ => simp [isNilI]
end Go.T
namespace Go.T
open Go Go.Proofs Go.Proofs.Tryz
set_option maxRecDepth 20000
structure eqPicks_ok_L0 (a b : List Pick) where
 pre : List Pick
 rest : List Pick
 pre2 : List Pick
 rest2 : List Pick
 hx : a = pre ++ rest
 hy : b = pre2 ++ rest2
 hp : pre = pre2
 hlp : pre2.length = pre.length
 hlr : rest2.length = rest.length
theorem eqPicks_ok (a b : List Pick) : Fc Tryz.prog 114 [sPicks a, sPicks b] (.b (eqL a b)) := by
 refine Fc.mk' [4] func114 rfl ntmps114 rfl rfl rfl (fun t w => results_tmp results114 t _ w) ?_
 refine Run.bSnap 0 rfl (fun hb => ?_)
 simp only [List.length_map, big] at hb
 refine Run.bSnap 1 rfl (fun hb2 => ?_)
 simp only [List.length_map, big] at hb2
 refine go [] ?_
 refine br (fun h1 => ?_) (fun h1 => ?_)
 ·exact rx1 rfl (Sub.bool (by exact eq_len (by have h9 := h1; simp at h9; omega)))
 ·refine Run.loop (ι := eqPicks_ok_L0 a b) (fun sx => [(0, sPicks a), (1, sPicks b), (12, .i a.length), (13, .i sx.pre.length)]) (fun sx => []) (fun sx => sx.rest.length) ⟨[], a, [], b, rfl, rfl, rfl, rfl, by simp at h1; omega⟩ ?_ ?_
  ·exact Le.mk rfl (.s rfl rfl (.s rfl rfl (.cons rfl (Sub.int (by simp)) rfl (.s rfl rfl .nil)))) .nil
  ·rintro ⟨pre, rest, pre2, rest2, hx, hy, hp, hlp, hlr⟩
   show Run _ _ _ _ [(0, sPicks a), (1, sPicks b), (12, .i a.length), (13, .i pre.length)] []
   have hl := congrArg List.length hx
   simp only [List.length_append] at hl
   rcases rest with _ | ⟨x, rest⟩
   ·obtain rfl : rest2 = [] := List.length_eq_zero_iff.1 (by simpa using hlr)
    refine go [] ?_
    refine brF (by simp at hl ⊢; omega) ?_
    refine go [] ?_
    exact rx1 rfl (Sub.bool (by exact eq_all hx hy hp))
   ·simp only [List.length_cons] at hl
    obtain ⟨y, rest2, rfl⟩ := cons_of_len (n := rest.length) (by simpa using hlr)
    refine go [] ?_
    refine brT (by simp; omega) ?_
    refine ix (by omega) (iMd encPick hx rfl) ?_
    refine ix (by omega) (iMd encPick hy (by omega)) ?_
    refine oP (q_neqA (xs := [x.lot, x.qty]) (ys := [y.lot, y.qty]) underlying85 (by kernel_rfl) (by kernel_rfl) (.cons (by decide +kernel) underlying9 isAgg9 rfl (.cons (by decide +kernel) underlying33 isAgg33 rfl (.nil _))) rfl rfl rfl rfl rfl rfl) ?_
    refine ord ?_
    refine br (fun h2 => ?_) (fun h2 => ?_)
    ·exact rx1 rfl (Sub.bool (by exact eq_ne hx hy hlp (pick_T h2)))
    ·refine sd (w64 (by omega)) ?_
     exact nx ⟨pre ++ [x], rest, pre2 ++ [y], rest2, by simp [hx], by simp [hy], by rw [hp, pick_F h2], by simp [hlp], by simpa using hlr⟩ (by simp) (Le.mk rfl (.s rfl rfl (.s rfl rfl (.s rfl rfl (.cons rfl (Sub.int (by simp)) rfl .nil)))) .nil)
structure eqOpts_ok_L0 (a b : List Opt) where
 pre : List Opt
 rest : List Opt
 pre2 : List Opt
 rest2 : List Opt
 hx : a = pre ++ rest
 hy : b = pre2 ++ rest2
 hp : pre = pre2
 hlp : pre2.length = pre.length
 hlr : rest2.length = rest.length
theorem eqOpts_ok (a b : List Opt) : Fc Tryz.prog 115 [sOpts a, sOpts b] (.b (eqL a b)) := by
 refine Fc.mk' [4] func115 rfl ntmps115 rfl rfl rfl (fun t w => results_tmp results115 t _ w) ?_
 refine Run.bSnap 0 rfl (fun hb => ?_)
 simp only [List.length_map, big] at hb
 refine Run.bSnap 1 rfl (fun hb2 => ?_)
 simp only [List.length_map, big] at hb2
 refine go [] ?_
 refine br (fun h1 => ?_) (fun h1 => ?_)
 ·exact rx1 rfl (Sub.bool (by exact eq_len (by have h9 := h1; simp at h9; omega)))
 ·refine Run.loop (ι := eqOpts_ok_L0 a b) (fun sx => [(0, sOpts a), (1, sOpts b), (12, .i a.length), (13, .i sx.pre.length)]) (fun sx => []) (fun sx => sx.rest.length) ⟨[], a, [], b, rfl, rfl, rfl, rfl, by simp at h1; omega⟩ ?_ ?_
  ·exact Le.mk rfl (.s rfl rfl (.s rfl rfl (.cons rfl (Sub.int (by simp)) rfl (.s rfl rfl .nil)))) .nil
  ·rintro ⟨pre, rest, pre2, rest2, hx, hy, hp, hlp, hlr⟩
   show Run _ _ _ _ [(0, sOpts a), (1, sOpts b), (12, .i a.length), (13, .i pre.length)] []
   have hl := congrArg List.length hx
   simp only [List.length_append] at hl
   rcases rest with _ | ⟨x, rest⟩
   ·obtain rfl : rest2 = [] := List.length_eq_zero_iff.1 (by simpa using hlr)
    refine go [] ?_
    refine brF (by simp at hl ⊢; omega) ?_
    refine go [] ?_
    exact rx1 rfl (Sub.bool (by exact eq_all hx hy hp))
   ·simp only [List.length_cons] at hl
    obtain ⟨y, rest2, rfl⟩ := cons_of_len (n := rest.length) (by simpa using hlr)
    refine go [] ?_
    refine brT (by simp; omega) ?_
    refine ix (by omega) (iMd encOpt hx rfl) ?_
    refine ix (by omega) (iMd encOpt hy (by omega)) ?_
    refine oP (q_neqG (xs := (optL x)) (ys := (optL y)) underlying87 (by kernel_rfl) (by kernel_rfl) (.str (by decide +kernel) underlying9 isAgg9 rfl (.sub (by decide +kernel) underlying35 (by kernel_rfl) isAgg35 sizeOf35 rfl (.cons (by decide +kernel) underlying33 isAgg33 rfl (.cons (by decide +kernel) underlying33 isAgg33 rfl (.nil _))) rfl (.sub (by decide +kernel) underlying35 (by kernel_rfl) isAgg35 sizeOf35 rfl (.cons (by decide +kernel) underlying33 isAgg33 rfl (.cons (by decide +kernel) underlying33 isAgg33 rfl (.nil _))) rfl (.sub (by decide +kernel) underlying35 (by kernel_rfl) isAgg35 sizeOf35 rfl (.cons (by decide +kernel) underlying33 isAgg33 rfl (.cons (by decide +kernel) underlying33 isAgg33 rfl (.nil _))) rfl (.nil _))))) rfl rfl rfl rfl rfl rfl) ?_
    refine ord ?_
    refine br (fun h2 => ?_) (fun h2 => ?_)
    ·exact rx1 rfl (Sub.bool (by exact eq_ne hx hy hlp (opt_T h2)))
    ·refine sd (w64 (by omega)) ?_
     exact nx ⟨pre ++ [x], rest, pre2 ++ [y], rest2, by simp [hx], by simp [hy], by rw [hp, opt_F h2], by simp [hlp], by simpa using hlr⟩ (by simp) (Le.mk rfl (.s rfl rfl (.s rfl rfl (.s rfl rfl (.cons rfl (Sub.int (by simp)) rfl .nil)))) .nil)
theorem same_ok (a b : Fact) : Fc Tryz.prog 76 [.agg (encFact a), .agg (encFact b)] (.b (sameF a b)) := by
 refine Fc.mk' [4] func76 rfl ntmps76 rfl rfl rfl (fun t w => results_tmp results76 t _ w) ?_
 refine go [] ?_
 refine gP (fun hg => q_eqlA (xs := [a.price.num, a.price.den]) (ys := [b.price.num, b.price.den]) underlying35 (by kernel_rfl) (by kernel_rfl) (.cons (by decide +kernel) underlying33 isAgg33 rfl (.cons (by decide +kernel) underlying33 isAgg33 rfl (.nil _))) rfl rfl rfl rfl rfl rfl) ?_
 refine gP (fun hg => q_eqlA (xs := [a.ratio.num, a.ratio.den]) (ys := [b.ratio.num, b.ratio.den]) underlying35 (by kernel_rfl) (by kernel_rfl) (.cons (by decide +kernel) underlying33 isAgg33 rfl (.cons (by decide +kernel) underlying33 isAgg33 rfl (.nil _))) rfl rfl rfl rfl rfl rfl) ?_
 refine gP (fun hg => q_eqlA (xs := [a.share.num, a.share.den]) (ys := [b.share.num, b.share.den]) underlying35 (by kernel_rfl) (by kernel_rfl) (.cons (by decide +kernel) underlying33 isAgg33 rfl (.cons (by decide +kernel) underlying33 isAgg33 rfl (.nil _))) rfl rfl rfl rfl rfl rfl) ?_
 refine gP (fun hg => qCa call114 rfl (eqPicks_ok _ _)) ?_
 refine gP (fun hg => qCa call115 rfl (eqOpts_ok _ _)) ?_
 exact rx1 rfl (Sub.refl _)
theorem value_ok (f : Fact) (n : Int) (h0 : 0 ≤ n) (hn : n < 13) : Fc Tryz.prog 128 [.agg (encFact f), .i n] (.agg (encFrac (valueF f n))) := by
 refine Fc.mkR func128 rfl ntmps128 rfl rfl rfl ?_
 refine go [1, 99999] ?_
 refine Run.weak (Le.freezeB 2 0 rfl rfl rfl rfl) ?_
 refine go [99999] ?_
 refine oP (qCa call184 rfl (whole_ok _)) ?_
 refine oP (qCa call184 rfl (whole_ok _)) ?_
 refine oP (qCa call184 rfl (whole_ok _)) ?_
 refine oP (q_indexA (r := encFrac (valueF f n)) underlying208 isAgg35 sizeOf35 rfl rfl h0 hn (by simp; omega) (value_part h0 hn)) ?_
 refine ord ?_
 refine Run.ret (?_)
 exact Rd.cA results128 isAgg35 sizeOf35 rfl rfl rfl (Sub.agg (.r (.r .nil)))
theorem empty_ok (f : Fact) (n : Int) (h0 : 0 ≤ n) (hn : n < 13) : Fc Tryz.prog 89 [.agg (encFact f), .i n] (.b (emptyF f n)) := by
 refine Fc.mk' [4] func89 rfl ntmps89 rfl rfl rfl (fun t w => results_tmp results89 t _ w) ?_
 refine go [] ?_
 refine br (fun h1 => ?_) (fun h1 => ?_)
 ·exact rx1 rfl (Sub.bool (by (try simp only [List.length_map]); unfold emptyF; exact iT h1))
 ·refine br (fun h2 => ?_) (fun h2 => ?_)
  ·exact rx1 rfl (Sub.bool (by (try simp only [List.length_map]); unfold emptyF; exact iF h1 (iT h2)))
  ·refine br (fun h3 => ?_) (fun h3 => ?_)
   ·exact rx1 rfl (Sub.bool (by (try simp only [List.length_map]); unfold emptyF; exact iF h1 (iF h2 (iT h3))))
   ·refine br (fun h4 => ?_) (fun h4 => ?_)
    ·exact rx1 rfl (Sub.bool (by (try simp only [List.length_map]); unfold emptyF; exact iF h1 (iF h2 (iF h3 (iT h4)))))
    ·refine br (fun h5 => ?_) (fun h5 => ?_)
     ·exact rx1 rfl (Sub.bool (by (try simp only [List.length_map]); unfold emptyF; exact iF h1 (iF h2 (iF h3 (iF h4 (iT h5))))))
     ·refine br (fun h6 => ?_) (fun h6 => ?_)
      ·exact rx1 rfl (Sub.bool (by (try simp only [List.length_map]); unfold emptyF; exact iF h1 (iF h2 (iF h3 (iF h4 (iF h5 (iT h6)))))))
      ·refine br (fun h7 => ?_) (fun h7 => ?_)
       ·exact rx1 rfl (Sub.bool (by (try simp only [List.length_map]); unfold emptyF; exact iF h1 (iF h2 (iF h3 (iF h4 (iF h5 (iF h6 (iT h7))))))))
       ·refine oP (qCa call128 rfl (value_ok _ _ (by assumption) (by assumption))) ?_
        refine oP (q_eqlA (xs := [(valueF f n).num, (valueF f n).den]) (ys := [zFr.num, zFr.den]) underlying35 (by kernel_rfl) (by kernel_rfl) (.cons (by decide +kernel) underlying33 isAgg33 rfl (.cons (by decide +kernel) underlying33 isAgg33 rfl (.nil _))) rfl rfl rfl rfl rfl rfl) ?_
        exact rx1 rfl (Sub.bool (by (try simp only [List.length_map]); unfold emptyF; exact iF h1 (iF h2 (iF h3 (iF h4 (iF h5 (iF h6 (iF h7 (fr_eq _ _)))))))))
theorem isLot_ok (s : Str) (hs : s.length ≤ 200) : Fc Tryz.prog 181 [.str s] (.b (isLotS s)) := by
 refine Fc.mk' [2] func181 rfl ntmps181 rfl rfl rfl (fun t w => results_tmp results181 t _ w) ?_
 have hc := cutI_le s
 refine go [2, 3] ?_
 refine oP (qCa call233 rfl (strCut_ok _ _)) ?_
 refine Run.regT ?_
 refine Tx.q rfl trivial (qMv rfl _) ?_
 refine Tx.n rfl trivial (q_callE call234 rfl (atoi_ok _ (by omega)) _) (fun nb hnb => ?_)
 dsimp only
 refine Tx.q rfl trivial (qMv rfl _) ?_
 refine Tx.q rfl trivial (qEx rfl rfl _) ?_
 refine Tx.q rfl trivial (qEx rfl rfl _) ?_
 refine Tx.q rfl trivial (q_assign rfl _) ?_
 refine Tx.q rfl trivial (q_assign rfl _) ?_
 refine Tx.nil ?_
 refine go [2, 3] ?_
 refine Run.reg [.p, .p, .p, .p, .p, .p, .p, .p, .p, .p, .p, .p, .p, .p, .p, .p, .p, .p, .p, .p, .p] ?_
 refine .mv rfl rfl <| .P rfl (qCa call86 rfl (name_ok _)) <| .mv rfl rfl <| .gT rfl (.inl rfl) rfl rfl rfl (fun hg => pk (fun _ => qMv rfl _)) <| .gT rfl (.inl rfl) rfl rfl rfl (fun hg => pk (fun _ => q_eqlIf underlying239 (opT rfl hg) (atoi_if hnb) _)) <| .P rfl (q_and rfl rfl) <| .mv rfl rfl <| .gT rfl (.inl rfl) rfl rfl rfl (fun hg => pk (fun _ => qMv rfl _)) <| .gT rfl (.inl rfl) rfl rfl rfl (fun hg => pk (fun _ => q_geq (opT rfl hg) rfl _)) <| .P rfl (q_and rfl rfl) <| .mv rfl rfl <| .gT rfl (.inl rfl) rfl rfl rfl (fun hg => pk (fun _ => qMv rfl _)) <| .gT rfl (.inl rfl) rfl rfl rfl (fun hg => pk (fun _ => q_leq (opT rfl hg) rfl _)) <| .P rfl (q_and rfl rfl) <| .mv rfl rfl <| .gT rfl (.inl rfl) rfl rfl rfl (fun hg => pk (fun _ => qMv rfl _)) <| .gT rfl (.inl rfl) rfl rfl rfl (fun hg => pk (fun _ => qCa call235 (opsC (opT rfl hg) (rfl)) (itoa_ok _ (by simp [wants] at hg; omega) (by simp [wants] at hg; omega)) _)) <| .gT rfl (.inl rfl) rfl rfl rfl (fun hg => pk (fun _ => qMv rfl _)) <| .gT rfl (.inl rfl) rfl rfl rfl (fun hg => pk (fun _ => q_eqlS (opT rfl hg) (opT rfl hg) _)) <| .P rfl (q_and rfl rfl) <| .ag rfl rfl <| .nil ?_
 refine go [2, 3] ?_
 exact rx1 rfl (Sub.bool (by exact isLot_end hnb))
end Go.T
