/-
  Contracts of the functions that the statement reaches, and the logic in which they are proved (no condition): parts W75, Core44, Div6, Div7, Div8, Div9, Core45, W76, Div10, W77, Div11, W78, Div12.
-/
import Derived.Test.YtapflgppmigcdaaGreatDoorA09
set_option linter.all false
namespace Go.T
open Go Go.Proofs Go.Proofs.Tryz
set_option maxRecDepth 20000
structure single_ok_L0 (m : List Nat) (d : Nat) where
 lo : List Nat
 rest : List Nat
 hx : m = lo ++ rest
theorem single_ok (m : List Nat) (d : Nat) (hm : m.length ≠ 0) (hs : m.length ≤ 40000) (ho : magOK m) (hd : 0 < d) (hdB : d < gB) : Fc Tryz.prog 358 [sMag m, .raw (.int .u64 (d : Int))] (.tup [sMag (cutM (sgl m d).1), .raw (.int .u64 ((sgl m d).2 : Int))]) := by
 refine Fc.mk' [4, 5] func358 rfl ntmps358 rfl rfl rfl (fun t w => results_tmp2 results358 t _ w) ?_
 refine Run.seq (Run.reg [.p, .p] ?_)
 refine .ag rfl rfl <| .ag rfl rfl <| .nil ?_
 refine Run.seq (Run.reg [.p, .p, .w, .p] ?_)
 refine .mv rfl rfl <| .P rfl (qLe underlying244 rfl) <| .W rfl (q_makeSlice1 (bt := 8) 0 m.length underlying244 sizeOf184 typeInfo184 zeroValue184 rfl rfl rfl rfl rfl (by simp [encMag]) (by simp [encMag]) (Nat.le_refl m.length) (by omega) (by omega) (by omega) rfl) <| .ag rfl rfl <| .nil ?_
 refine Run.seq (Run.reg [.p] ?_)
 refine .ag rfl rfl <| .nil ?_
 refine Run.seq (Run.seq (Run.reg [.p, .p, .p, .p] ?_))
 refine .mv rfl rfl <| .P rfl (qLe underlying244 rfl) <| .P rfl (q_sub rfl rfl (wrap64_ok (by omega) (by simp; omega))) <| .ag rfl rfl <| .nil ?_
 refine Run.block ?_
 refine Run.loop (ι := single_ok_L0 m d) (fun sx => [(7, .raw (.int .u64 ((sgl sx.rest d).2 : Int))), (8, .i ((sx.lo.length : Int) - 1)), (6, .gs 0 m.length), (0, sMag m), (1, .raw (.int .u64 (d : Int)))]) (fun sx => [(0, .arr 1 (encMag (List.replicate sx.lo.length 0 ++ (sgl sx.rest d).1)))]) (fun sx => sx.lo.length) ⟨m, [], by simp⟩ ?_ ?_
 ·exact Le.mk rfl (.s rfl rfl (.cons rfl (Sub.int (by simp)) rfl (.cons rfl (Sub.gs (by simp)) rfl (.s rfl rfl (.s rfl rfl .nil))))) (.arr rfl (by simp [encMag, sgl]) .nil)
 ·rintro ⟨lo, rest, hx⟩
  show Run _ _ _ _ [(7, .raw (.int .u64 ((sgl rest d).2 : Int))), (8, .i ((lo.length : Int) - 1)), (6, .gs 0 m.length), (0, sMag m), (1, .raw (.int .u64 (d : Int)))] [(0, .arr 1 (encMag (List.replicate lo.length 0 ++ (sgl rest d).1)))]
  rcases snoc_cases lo with rfl | ⟨i, x, rfl⟩
  ·obtain rfl : m = rest := by simpa using hx
   refine Run.seq (Run.seq (Run.reg [.p, .p] ?_))
   refine .mv rfl rfl <| .P rfl (q_geq rfl rfl) <| .nil ?_
   refine Run.condF rfl (by simp) ?_
   refine Run.exit (tX0 (bX0 ?_))
   refine Run.weak (Le.freeze 6 0 rfl rfl (by simp [encMag, sgl_len])) ?_
   refine Run.seq (Run.reg [.p, .p, .p, .p, .p] ?_)
   refine .mv rfl rfl <| .P rfl (qCa call284 rfl (cut_ok _)) <| .mv rfl rfl <| .ag rfl rfl <| .ag rfl rfl <| .nil ?_
   refine Run.ret (?_)
   exact ret2 rfl rfl (Sub.refl _) (Sub.refl _)
  ·have hl := congrArg List.length hx
   simp only [List.length_append, List.length_cons, List.length_nil] at hl
   have hxo := ho x (by rw [hx]; simp)
   have hr := sgl_lt rest hd
   have hbg := sgl_big hr hdB hxo
   refine Run.seq (Run.seq (Run.reg [.p, .p] ?_))
   refine .mv rfl rfl <| .P rfl (q_geq rfl rfl) <| .nil ?_
   refine Run.condT rfl (by simp) ?_
   refine Run.skip ?_
   refine Run.seq ?_
   refine Run.block ?_
   refine Run.seq (Run.reg [.p, .p, .p, .p, .p, .p, .p, .p] ?_)
   refine .mv rfl rfl <| .P rfl (q_mul rfl rfl (mulN (c := gB) (by decide) (by omega))) <| .mv rfl rfl <| .mv rfl rfl <| .P rfl (qIi underlying244 sizeOf184 rfl rfl (by simp) (idx_mag (l := m) (k := i.length) (b := x) (r := rest) (by simp [hx]) (by simp))) <| .P rfl (qLo isAgg184 rfl) <| .P rfl (q_add rfl rfl (addN (by omega))) <| .ag rfl rfl <| .nil ?_
   refine Run.seq (Run.reg [.p, .p, .p, .p, .p, .p, .w] ?_)
   refine .mv rfl rfl <| .mv rfl rfl <| .mv rfl rfl <| .mv rfl rfl <| .P rfl (q_quo rfl rfl (by omega) (quoNN (by omega))) <| .P rfl (qIx (off := (i.length) * 1) underlying244 sizeOf184 rfl rfl (by simp) (by simp; omega) (by simp)) <| .W rfl (qS1 (r := _) (i.length) 0 sizeOf184 rfl rfl rfl rfl rfl rfl enc_midZ (by simp)) <| .nil ?_
   refine Run.reg [.p, .p, .p, .p] ?_
   refine .mv rfl rfl <| .mv rfl rfl <| .P rfl (q_rem rfl rfl (by omega) (remNN _ _)) <| .ag rfl rfl <| .nil ?_
   refine Run.nil (bN0 ?_)
   refine Run.reg [.p, .p, .p] ?_
   refine .mv rfl rfl <| .P rfl (q_sub rfl rfl (wrap64_ok (by omega) (by simp; omega))) <| .ag rfl rfl <| .nil ?_
   refine Run.nil (tN0 ?_)
   exact ⟨⟨i, x :: rest, by rw [hx]; simp⟩, by simp, Le.mk rfl (.s rfl rfl (.cons rfl (Sub.int (by simp)) rfl (.cons rfl (Sub.gs (by simp)) rfl (.s rfl rfl (.s rfl rfl .nil))))) (.arr rfl (by exact enc_setZ) .nil)⟩
structure times_ok_L0 (m n : List Nat) where
 pre : List Nat
 rest : List Nat
 out : List Nat
 hx : m = pre ++ rest
 hlen : out.length = m.length + n.length
 ho : TO out pre.length n.length (mVa pre * mVa n)
structure times_ok_L1 (m n : List Nat) (pre : List Nat) (x : Nat) where
 pre2 : List Nat
 rest2 : List Nat
 out : List Nat
 c : Nat
 hx2 : n = pre2 ++ rest2
 hlen : out.length = m.length + n.length
 hi : TI out c pre.length n.length (mVa pre * mVa n) x pre2
theorem times_ok (m n : List Nat) (hm : m.length + n.length ≠ 0) (hms : m.length ≤ 20000) (hns : n.length ≤ 20000) (hmo : magOK m) (hno : magOK n) : Fc Tryz.prog 338 [sMag m, sMag n] (sMag (magN (mVa m * mVa n))) := by
 refine Fc.mk' [4] func338 rfl ntmps338 rfl rfl rfl (fun t w => results_tmp results338 t _ w) ?_
 refine Run.seq (Run.reg [.p] ?_)
 refine .ag rfl rfl <| .nil ?_
 refine Run.seq (Run.reg [.p, .p, .p, .p, .p, .w, .p] ?_)
 refine .mv rfl rfl <| .P rfl (qLe underlying244 rfl) <| .mv rfl rfl <| .P rfl (qLe underlying244 rfl) <| .P rfl (q_add rfl rfl (wrap64_ok (by omega) (by simp; omega))) <| .W rfl (q_makeSlice1 (bt := 8) 0 (m.length + n.length) underlying244 sizeOf184 typeInfo184 zeroValue184 rfl rfl rfl rfl rfl (by simp [encMag]) (by simp [encMag]) (Nat.le_refl (m.length + n.length)) (by omega) (by omega) (by omega) rfl) <| .ag rfl rfl <| .nil ?_
 refine Run.seq (Run.seq (Run.reg [.p, .p, .p] ?_))
 refine .mv rfl rfl <| .P rfl (qLe underlying244 rfl) <| .mv rfl rfl <| .nil ?_
 refine Run.block ?_
 refine Run.loop (ι := times_ok_L0 m n) (fun sx => [(17, sMag m), (18, .i m.length), (1, sMag n), (5, .gs 0 (m.length + n.length)), (19, .i sx.pre.length)]) (fun sx => [(0, .arr 1 (encMag sx.out))]) (fun sx => sx.rest.length) ⟨[], m, List.replicate (m.length + n.length) 0, rfl, by simp, TO0 m n _⟩ ?_ ?_
 ·exact Le.mk rfl (.s rfl rfl (.cons rfl (Sub.int (by simp)) rfl (.s rfl rfl (.cons rfl (Sub.gs (by simp)) rfl (.s rfl rfl .nil))))) (.arr rfl (by simp [encMag]) .nil)
 ·rintro ⟨pre, rest, out, hx, hlen, ho⟩
  show Run _ _ _ _ [(17, sMag m), (18, .i m.length), (1, sMag n), (5, .gs 0 (m.length + n.length)), (19, .i pre.length)] [(0, .arr 1 (encMag out))]
  have hl := congrArg List.length hx
  simp only [List.length_append] at hl
  rcases rest with _ | ⟨x, rest⟩
  ·obtain rfl : m = pre := by simpa using hx
   refine Run.seq (Run.reg [.p] ?_)
   refine .P rfl (q_lss rfl rfl) <| .nil ?_
   refine Run.seq ?_
   refine Run.condF rfl (by simp) ?_
   refine Run.exit (tX0 (bX0 ?_))
   refine Run.weak (Le.freeze 5 0 rfl rfl (by simp [encMag]; omega)) ?_
   refine Run.seq (Run.reg [.p, .p, .p] ?_)
   refine .mv rfl rfl <| .P rfl (qCa call284 rfl (cut_ok _)) <| .ag rfl rfl <| .nil ?_
   refine Run.ret (?_)
   exact ret1 rfl (Sub.snap (by rw [TO_cut ho]))
  ·simp only [List.length_cons] at hl
   have hxa := hmo x (by rw [hx]; simp)
   refine Run.seq (Run.reg [.p] ?_)
   refine .P rfl (q_lss rfl rfl) <| .nil ?_
   refine Run.seq ?_
   refine Run.condT rfl (by simp; omega) ?_
   refine Run.skip ?_
   refine Run.seq ?_
   refine Run.block ?_
   refine Run.seq (Run.reg [.p, .p, .p, .p, .p] ?_)
   refine .mv rfl rfl <| .P rfl (qIi underlying244 sizeOf184 rfl rfl (by omega) (iMd (fun (n : Nat) => [D.raw (.int .u64 (n : Int))]) hx rfl)) <| .P rfl (qLo isAgg184 rfl) <| .ag rfl rfl <| .ag rfl rfl <| .nil ?_
   refine Run.seq (Run.reg [.p] ?_)
   refine .ag rfl rfl <| .nil ?_
   refine Run.seq (Run.seq (Run.reg [.p, .p, .p] ?_))
   refine .mv rfl rfl <| .P rfl (qLe underlying244 rfl) <| .mv rfl rfl <| .nil ?_
   refine Run.block ?_
   refine Run.loop (ι := times_ok_L1 m n pre x) (fun sx => [(17, sMag m), (18, .i m.length), (1, sMag n), (5, .gs 0 (m.length + n.length)), (19, .i pre.length), (6, .i pre.length), (7, .raw (.int .u64 (x : Int))), (24, sMag n), (25, .i n.length), (8, .raw (.int .u64 (sx.c : Int))), (26, .i sx.pre2.length)]) (fun sx => [(0, .arr 1 (encMag sx.out))]) (fun sx => sx.rest2.length) ⟨[], n, out, 0, rfl, hlen, TI0 _ ho⟩ ?_ ?_
   ·exact Le.mk rfl (.s rfl rfl (.s rfl rfl (.s rfl rfl (.cons rfl (Sub.gs (by simp)) rfl (.s rfl rfl (.s rfl rfl (.s rfl rfl (.s rfl rfl (.cons rfl (Sub.int (by simp)) rfl (.s rfl rfl (.s rfl rfl .nil))))))))))) (.arr rfl (by rfl) .nil)
   ·rintro ⟨pre2, rest2, out, c, hx2, hlen, hi⟩
    show Run _ _ _ _ [(17, sMag m), (18, .i m.length), (1, sMag n), (5, .gs 0 (m.length + n.length)), (19, .i pre.length), (6, .i pre.length), (7, .raw (.int .u64 (x : Int))), (24, sMag n), (25, .i n.length), (8, .raw (.int .u64 (c : Int))), (26, .i pre2.length)] [(0, .arr 1 (encMag out))]
    have hl2 := congrArg List.length hx2
    simp only [List.length_append] at hl2
    rcases rest2 with _ | ⟨x2, rest2⟩
    ·obtain rfl : n = pre2 := by simpa using hx2
     refine Run.seq (Run.reg [.p] ?_)
     refine .P rfl (q_lss rfl rfl) <| .nil ?_
     refine Run.seq ?_
     refine Run.condF rfl (by simp) ?_
     refine Run.exit (tX0 (bX0 ?_))
     refine Run.seq (Run.reg [.p, .p, .p] ?_)
     refine .mv rfl rfl <| .P rfl (qLe underlying244 rfl) <| .P rfl (q_gtr rfl rfl) <| .nil ?_
     refine Run.cond rfl (fun h1 => ?_) (fun h1 => ?_)
     ·refine Run.reg [.p, .p, .p, .p, .p, .p, .r, .p, .p, .p, .w] ?_
      refine .mv rfl rfl <| .mv rfl rfl <| .mv rfl rfl <| .P rfl (qLe underlying244 rfl) <| .P rfl (q_add rfl rfl (wrap64_ok (by omega) (by simp; omega))) <| .P rfl (qIx (off := (pre.length + n.length) * 1) underlying244 sizeOf184 rfl rfl (by omega) (by simp; omega) (by simp; omega)) <| .R rfl (qG1 (r := _) (pre.length + n.length) 0 isAgg184 rfl rfl rfl (enc_nth (by simp at *; omega)) rfl) <| .mv rfl rfl <| .P rfl (q_add rfl rfl (addN (by have := nth_ok hi.1 (pre.length + n.length); have := hi.2.1; unfold gB at *; omega))) <| .P rfl (qIx (off := (pre.length + n.length) * 1) underlying244 sizeOf184 rfl rfl (by omega) (by simp; omega) (by simp; omega)) <| .W rfl (qS1 (r := _) (pre.length + n.length) 0 sizeOf184 rfl rfl rfl rfl rfl rfl (enc_nth (by simp at *; omega)) (by simp)) <| .nil ?_
      refine Run.nil (bN0 ?_)
      refine Run.reg [.p, .p] ?_
      refine .P rfl (q_add rfl rfl (w64 (by omega))) <| .mv rfl rfl <| .nil ?_
      refine Run.nil (tN0 ?_)
      exact ⟨⟨pre ++ [x], rest, out.set (pre.length + n.length) (nth out (pre.length + n.length) + c), by simp [hx], by simp [hlen], TI2 hi (by simp at *; omega) (by simp at *; omega) rfl⟩, by simp, Le.mk rfl (.s rfl rfl (.s rfl rfl (.s rfl rfl (.cons rfl (Sub.gs (by simp)) rfl (.cons rfl (Sub.int (by simp)) rfl .nil))))) (.arr rfl (by exact enc_setJ) .nil)⟩
     ·refine Run.skip ?_
      refine Run.nil (bN0 ?_)
      refine Run.reg [.p, .p] ?_
      refine .P rfl (q_add rfl rfl (w64 (by omega))) <| .mv rfl rfl <| .nil ?_
      refine Run.nil (tN0 ?_)
      exact ⟨⟨pre ++ [x], rest, out, by simp [hx], hlen, TI3 hi (by simp at *; omega)⟩, by simp, Le.mk rfl (.s rfl rfl (.s rfl rfl (.s rfl rfl (.cons rfl (Sub.gs (by simp)) rfl (.cons rfl (Sub.int (by simp)) rfl .nil))))) (.arr rfl (by rfl) .nil)⟩
    ·simp only [List.length_cons] at hl2
     have hyb := hno x2 (by rw [hx2]; simp)
     refine Run.seq (Run.reg [.p] ?_)
     refine .P rfl (q_lss rfl rfl) <| .nil ?_
     refine Run.seq ?_
     refine Run.condT rfl (by simp; omega) ?_
     refine Run.skip ?_
     refine Run.seq ?_
     refine Run.block ?_
     refine Run.seq (Run.reg [.p, .p, .p, .p, .p] ?_)
     refine .mv rfl rfl <| .P rfl (qIi underlying244 sizeOf184 rfl rfl (by omega) (iMd (fun (n : Nat) => [D.raw (.int .u64 (n : Int))]) hx2 rfl)) <| .P rfl (qLo isAgg184 rfl) <| .ag rfl rfl <| .ag rfl rfl <| .nil ?_
     refine Run.seq (Run.reg [.p, .p, .p, .p, .p, .p, .r, .p, .p, .p, .p, .p, .p] ?_)
     refine .mv rfl rfl <| .mv rfl rfl <| .mv rfl rfl <| .mv rfl rfl <| .P rfl (q_add rfl rfl (w64 (by omega))) <| .P rfl (qIx (off := (pre.length + pre2.length) * 1) underlying244 sizeOf184 rfl rfl (by omega) (by omega) (by omega)) <| .R rfl (qG1 (r := _) (pre.length + pre2.length) 0 isAgg184 rfl rfl rfl (enc_nth (by simp at *; omega)) rfl) <| .mv rfl rfl <| .mv rfl rfl <| .P rfl (q_mul rfl rfl (mulN rfl (TI_wrap hi.2.1 (nth_ok hi.1 (pre.length + pre2.length)) hxa hyb).1)) <| .P rfl (q_add rfl rfl (addN (TI_wrap hi.2.1 (nth_ok hi.1 (pre.length + pre2.length)) hxa hyb).2.1)) <| .P rfl (q_add rfl rfl (addN (TI_wrap hi.2.1 (nth_ok hi.1 (pre.length + pre2.length)) hxa hyb).2.2)) <| .ag rfl rfl <| .nil ?_
     refine Run.seq (Run.reg [.p, .p, .p, .p, .p, .p, .p, .w] ?_)
     refine .mv rfl rfl <| .mv rfl rfl <| .mv rfl rfl <| .P rfl (q_add rfl rfl (w64 (by omega))) <| .mv rfl rfl <| .P rfl (q_rem rfl rfl (by decide) (remN _)) <| .P rfl (qIx (off := (pre.length + pre2.length) * 1) underlying244 sizeOf184 rfl rfl (by omega) (by omega) (by omega)) <| .W rfl (qS1 (r := _) (pre.length + pre2.length) 0 sizeOf184 rfl rfl rfl rfl rfl rfl (enc_nth (by simp at *; omega)) (by simp)) <| .nil ?_
     refine Run.reg [.p, .p, .p] ?_
     refine .mv rfl rfl <| .P rfl (q_quo rfl rfl (by decide) (quoN (TI_wrap hi.2.1 (nth_ok hi.1 (pre.length + pre2.length)) hxa hyb).2.2)) <| .ag rfl rfl <| .nil ?_
     refine Run.nil (bN0 ?_)
     refine Run.reg [.p, .p] ?_
     refine .P rfl (q_add rfl rfl (w64 (by omega))) <| .mv rfl rfl <| .nil ?_
     refine Run.nil (tN0 ?_)
     exact ⟨⟨pre2 ++ [x2], rest2, out.set (pre.length + pre2.length) ((c + (nth out (pre.length + pre2.length) + x * x2)) % gB), (c + (nth out (pre.length + pre2.length) + x * x2)) / gB, by simp [hx2], by simp [hlen], TI1 hi hxa hyb (by omega) (by omega)⟩, by simp, Le.mk rfl (.s rfl rfl (.s rfl rfl (.s rfl rfl (.cons rfl (Sub.gs (by simp)) rfl (.s rfl rfl (.s rfl rfl (.s rfl rfl (.s rfl rfl (.s rfl rfl (.s rfl rfl (.cons rfl (Sub.int (by simp)) rfl .nil))))))))))) (.arr rfl (by exact enc_setJ) .nil)⟩
end Go.T
namespace Go.T
open Go
variable [Noise]
variable {P : Program} {env : Env} {dst : Option Tmp} {ty : TypeId} {pos : String} {aft : Array Edge} {g : Option (Nat × Bool)}
theorem Vr_take {w : World} {O : Nat → Prop} {b sz : Nat} : ∀ (rows : List (List D)) (off h : Nat), Vr w O b off sz rows → Vr w O b off sz (rows.take h)
 | [], _, h, _ => by simp [Vr]
 | r :: rs, off, 0, _ => by simp [Vr]
 | r :: rs, off, h + 1, hv => by
  simp only [Vr, List.take_succ_cons] at hv ⊢
  exact ⟨hv.1, Vr_take rs _ h hv.2⟩
theorem heap_same {w : World} {b : Nat} {blk : Obj} (h : w.heap[b]? = some blk) : ({ w with heap := w.heap.setIfInBounds b blk } : World) = w := by
 have e : w.heap.setIfInBounds b blk = w.heap := by
  apply Array.ext_getElem?
  intro i
  rw [Array.getElem?_setIfInBounds]
  split
  ·rename_i e; subst e
   have := (Array.getElem?_eq_some_iff.1 h).1
   simp [this, h.symm]
  ·rfl
 rw [e]
theorem Tr.shrink {O : Nat → Prop} {w : World} {ρ : Rho} {obs : Obs} {id sz : Nat} {rows : List (List D)} (h : Nat) (hok : ObsOK w O ρ obs) (ho : obs.get id = some (.arr sz rows)) (hne : rows ≠ []) : Tr O w ρ obs w ρ (obs.set id (.arr sz (rows.take h))) := by
 have hlv : (Ob.arr sz rows).live = true := by
  cases rows
  ·exact absurd rfl hne
  ·rfl
 obtain ⟨l, h3, h4, c, T, h5, h6, h7, h8⟩ := hok.own id _ ho hlv
 have hs := heap_same h5
 have := Tr.upd (o' := .arr sz (rows.take h)) hok ho hlv h3 (.cells c T (0, 0)) (by
  rw [hs]
  intro hk
  exact ⟨c, T, h5, h6, ⟨by simp; omega, by simp; omega⟩, Vr_take _ _ _ (Own.mono.vr hk rfl _ _ h8)⟩)
 rw [hs] at this
 exact this
theorem q_sliceGs {obs : Obs} {t e : TypeId} {x y : Operand} {k : IntKind} {sz id n h : Nat} {rows : List (List D)} (hu : P.underlying t = some (.slice e)) (hs : ∀ w, (sizeOf e).run P w = .ok sz w) (hx : env.op x = some (.gs id n))
  (hy : env.op y = some (.raw (.int k (h : Int)))) (ho : obs.get id = some (.arr sz rows)) (hn : rows.length = n) (hh : h ≤ n) (h0 : h ≠ 0) :
  QStep P ⟨dst, .slice t x none (some y) none, ty, pos, aft, g⟩ env obs (.gs id h) (obs.set id (.arr sz (rows.take h))) :=
 .step fun O ρ a w hok hv => by
  have h1 := hv x (by simp [Op.operands]) _ hx
  have h2 := hv y (by simp [Op.operands]) _ hy
  simp only [V] at h1 h2
  rcases h1 with ⟨h1, _⟩ | ⟨_, l, h3, e1⟩
  ·omega
  ·have hne : rows ≠ [] := by rintro rfl; simp at hn; omega
   have hlv : (Ob.arr sz rows).live = true := by
    cases rows
    ·exact absurd rfl hne
    ·rfl
   obtain ⟨l', g3, g4, c, T, g5, g6, g7, g8⟩ := hok.own id _ ho hlv
   rw [h3] at g3; cases g3
   have hcap : h ≤ l.cap := by omega
   have hb : (Instr.sliceBounds true n l.cap none (some (.int k h)) none).run P w = .ok (0, h, l.cap) w := by
    simp [Instr.sliceBounds, sliceBound_ok, hcap]
   refine ⟨.slice (some ⟨l.b, l.off, none⟩) h l.cap, w, ρ, .inl ?_, Tr.shrink h hok ho hne, ?_⟩
   ·simp [execOp, Instr.sliceAt, Instr.slice, run_und hu, e1, h2, hb, hs, addr_add]
   ·simp only [V]
    exact .inr ⟨h0, l, h3, rfl⟩
end Go.T
namespace Go.T
open Go
def MS (a0 a : List Nat) (g c i k : Nat) (pre : List Nat) : Prop :=
 magOK a ∧ c < gB ∧ a.length = a0.length ∧ mVa a + g * mVa pre * gB ^ i = mVa a0 + c * gB ^ (i + pre.length) ∧ ∀ j, i + k ≤ j → nth a j = nth a0 j
theorem MS0 {a : List Nat} (h : magOK a) (g i k : Nat) : MS a a g 0 i k [] := ⟨h, gB_pos, rfl, by simp [mVa], fun _ _ => rfl⟩
theorem MS_big {g b c : Nat} (hg : g < gB) (hb : b < gB) (hc : c < gB) : g * b + c ≤ (gB - 1) * gB := by
 have h1 : g * b ≤ (gB - 1) * (gB - 1) := Nat.mul_le_mul (by omega) (by omega)
 unfold gB at *; omega
theorem MS_wrap {g b c : Nat} (hg : g < gB) (hb : b < gB) (hc : c < gB) : g * b < 18446744073709551616 ∧ g * b + c < 18446744073709551616 := by
 have h := MS_big hg hb hc
 have h2 : (gB - 1) * gB < 18446744073709551616 := by decide
 omega
theorem MS_carry {g b c x : Nat} (hg : g < gB) (hb : b < gB) (hc : c < gB) (hx : x < (g * b + c) % gB) : (g * b + c) / gB + 1 < gB := by
 have h := MS_big hg hb hc
 rcases Nat.lt_or_ge ((g * b + c) / gB) (gB - 1) with h1 | h1
 ·omega
 ·exfalso
  have h2 := Nat.div_add_mod (g * b + c) gB
  have h3 : gB * (gB - 1) ≤ gB * ((g * b + c) / gB) := Nat.mul_le_mul_left _ h1
  rw [Nat.mul_comm gB (gB - 1)] at h3
  omega
theorem MS_div {g b c : Nat} (hg : g < gB) (hb : b < gB) (hc : c < gB) : (g * b + c) / gB < gB := by
 rw [Nat.div_lt_iff_lt_mul gB_pos]
 have h := MS_big hg hb hc
 have h2 : (gB - 1) * gB < gB * gB := by decide
 omega
theorem MS1 {a0 a pre : List Nat} {g c i k b v e : Nat} (h : MS a0 a g c i k pre) (hg : g < gB) (hb : b < gB) (hk : pre.length < k) (hl : i + pre.length < a.length)
  (hv : v + (g * b + c) % gB = nth a (i + pre.length) + e * gB) (hvB : v < gB) (hc : (g * b + c) / gB + e < gB) :
  MS a0 (a.set (i + pre.length) v) g ((g * b + c) / gB + e) i k (pre ++ [b]) := by
 obtain ⟨h1, h2, h3, h4, h5⟩ := h
 refine ⟨magOK_set h1 hvB, hc, by simpa using h3, ?_, fun j hj => ?_⟩
 ·have hs := magVal_set (v := v) hl
  have hd := Nat.div_add_mod (g * b + c) gB
  rw [magVal_snoc, List.length_append, List.length_singleton, ← Nat.add_assoc, Nat.pow_succ]
  generalize (g * b + c) / gB = u at *
  generalize (g * b + c) % gB = w at *
  generalize nth a (i + pre.length) = z at *
  have e1 : g * (mVa pre + b * gB ^ pre.length) * gB ^ i = g * mVa pre * gB ^ i + g * b * gB ^ (i + pre.length) := by
   rw [Nat.mul_add, Nat.add_mul, Nat.pow_add, ← Nat.mul_assoc g b, Nat.mul_assoc (g * b), Nat.mul_comm (gB ^ pre.length)]
  rw [e1]
  generalize gB ^ (i + pre.length) = P at *
  have e2 : (v + w) * P = (z + e * gB) * P := by rw [hv]
  have e3 : (gB * u + w) * P = (g * b + c) * P := by rw [hd]
  have e4 : (u + e) * (P * gB) = gB * u * P + e * gB * P := by
   rw [Nat.add_mul, Nat.mul_comm P gB, ← Nat.mul_assoc, ← Nat.mul_assoc, Nat.mul_comm u gB]
  rw [e4]
  rw [Nat.add_mul, Nat.add_mul] at e2 e3
  omega
 ·rw [nth_set hl, if_neg (by omega)]; exact h5 j hj
def AB (a1 a : List Nat) (d i k : Nat) (pre : List Nat) : Prop :=
 magOK a ∧ d ≤ 1 ∧ a.length = a1.length ∧ mVa a + d * gB ^ (i + pre.length) = mVa a1 + mVa pre * gB ^ i ∧ ∀ j, i + k ≤ j → nth a j = nth a1 j
theorem AB0 {a : List Nat} (h : magOK a) (i k : Nat) : AB a a 0 i k [] := ⟨h, by omega, rfl, by simp [mVa], fun _ _ => rfl⟩
theorem AB1 {a1 a pre : List Nat} {d i k b : Nat} (h : AB a1 a d i k pre) (hb : b < gB) (hk : pre.length < k) (hl : i + pre.length < a.length) :
  AB a1 (a.set (i + pre.length) ((nth a (i + pre.length) + (b + d)) % gB)) ((nth a (i + pre.length) + (b + d)) / gB) i k (pre ++ [b]) := by
 obtain ⟨h1, h2, h3, h4, h5⟩ := h
 have hn := nth_ok h1 (i + pre.length)
 refine ⟨magOK_set h1 (Nat.mod_lt _ gB_pos), ?_, by simpa using h3, ?_, fun j hj => ?_⟩
 ·have : nth a (i + pre.length) + (b + d) < gB * 2 := by omega
  have := Nat.div_lt_of_lt_mul this
  omega
 ·have hs := carry_step (t := nth a (i + pre.length) + (b + d)) (c := b + d) hl rfl (by omega)
  rw [magVal_snoc, List.length_append, List.length_singleton, show i + (pre.length + 1) = i + pre.length + 1 from rfl, hs, Nat.add_mul b, Nat.add_mul, Nat.mul_assoc b, ← Nat.pow_add, Nat.add_comm pre.length i]
  omega
 ·rw [nth_set hl, if_neg (by omega)]; exact h5 j hj
theorem split_top {l : List Nat} {n : Nat} (h : ∀ j, n < j → nth l j = 0) : mVa l = mVa (l.take n) + nth l n * gB ^ n := by
 rcases Nat.lt_or_ge n l.length with g | g
 ·have h1 := magVal_zero_tail (l := l) (k := n + 1) (fun j hj => h j hj)
  rw [h1, List.take_succ, List.getElem?_eq_getElem g]
  simp only [Option.toList]
  rw [magVal_snoc, List.length_take, Nat.min_eq_left (by omega)]
  simp [nth, g]
 ·rw [List.take_of_length_le g]; simp [nth, g]
theorem take_lt {l : List Nat} (h : magOK l) (n : Nat) : mVa (l.take n) < gB ^ n := by
 have h2 := magVal_lt (m := l.take n) (fun x hx => h x (List.mem_of_mem_take hx))
 have h3 : gB ^ (l.take n).length ≤ gB ^ n := Nat.pow_le_pow_right gB_pos (by simp; omega)
 omega
theorem two_parts {l x r y P : Nat} (h : l + x * P = r + y * P) (hl : l < P) (hr : r < P) : x = y ∧ l = r := by
 rcases Nat.lt_trichotomy x y with g | g | g
 ·exfalso
  have : (x + 1) * P ≤ y * P := Nat.mul_le_mul_right _ g
  rw [Nat.add_mul] at this; omega
 ·subst g; exact ⟨rfl, by omega⟩
 ·exfalso
  have : (y + 1) * P ≤ x * P := Nat.mul_le_mul_right _ g
  rw [Nat.add_mul] at this; omega
def DO (A bv : Nat) (a out : List Nat) (i k : Nat) : Prop := magOK a ∧ magOK out ∧ a.length = out.length + k ∧ mVa a < bv * gB ^ i ∧ mVa a + mVa out * bv = A ∧ ∀ j, j < i → nth out j = 0
theorem DO_zero {A bv : Nat} {a out b : List Nat} {i k : Nat} (h : DO A bv a out (i + 1) k) (hb : magOK b) (hk : b.length = k) (hv : mVa b = bv) (j : Nat) (hj : i + k < j) : nth a j = 0 := by
 refine nth_zero (n := i + k + 1) ?_ (by omega)
 have h1 := magVal_lt hb
 rw [hk, hv] at h1
 have h2 : bv * gB ^ (i + 1) ≤ gB ^ k * gB ^ (i + 1) := Nat.mul_le_mul_right _ (by omega)
 rw [← Nat.pow_add, show k + (i + 1) = i + k + 1 by omega] at h2
 have := h.2.2.2.1
 omega
theorem out_set {out : List Nat} {i g : Nat} (h0 : nth out i = 0) (hi : i < out.length) : mVa (out.set i g) = mVa out + g * gB ^ i := by
 have := magVal_set (v := g) hi
 rw [h0] at this; omega
theorem DO_good {A bv : Nat} {a0 a out b : List Nat} {i k g c : Nat} (h : DO A bv a0 out (i + 1) k) (hv : mVa b = bv)
  (hq : ∀ q, q < gB → q * bv * gB ^ i ≤ mVa a0 → q ≤ g) (hg : g < gB) (hm : MS a0 a g c i k b) (hk : b.length = k) (hc : c ≤ nth a (i + k)) (hl : i + k < a.length) (ho : i < out.length) :
  DO A bv (a.set (i + k) (nth a (i + k) - c)) (out.set i g) i k := by
 obtain ⟨o1, o2, o3, o4, o5, o6⟩ := h
 obtain ⟨m1, m2, m3, m4, m5⟩ := hm
 have hn := nth_ok m1 (i + k)
 have hs := magVal_set (v := nth a (i + k) - c) hl
 rw [hk, hv] at m4
 rw [Nat.sub_mul] at hs
 have hcP : c * gB ^ (i + k) ≤ nth a (i + k) * gB ^ (i + k) := Nat.mul_le_mul_right _ hc
 have hval : mVa (a.set (i + k) (nth a (i + k) - c)) + g * bv * gB ^ i = mVa a0 := by omega
 have hout := out_set (g := g) (o6 i (by omega)) ho
 refine ⟨magOK_set m1 (by omega), magOK_set o2 hg, by simp; omega, ?_, ?_, fun j hj => ?_⟩
 ·rcases Nat.lt_or_ge (mVa (a.set (i + k) (nth a (i + k) - c))) (bv * gB ^ i) with r | r
  ·exact r
  ·exfalso
   have e : (g + 1) * bv * gB ^ i ≤ mVa a0 := by rw [Nat.add_mul, Nat.add_mul, Nat.one_mul]; omega
   rcases Nat.lt_or_ge (g + 1) gB with t | t
   ·have := hq (g + 1) t e; omega
   ·have e2 : gB * bv * gB ^ i ≤ (g + 1) * bv * gB ^ i := Nat.mul_le_mul_right _ (Nat.mul_le_mul_right _ t)
    have e3 : bv * gB ^ (i + 1) = gB * bv * gB ^ i := by rw [Nat.pow_succ, Nat.mul_comm gB bv, Nat.mul_assoc, Nat.mul_comm gB]
    omega
 ·rw [hout, Nat.add_mul, Nat.mul_right_comm g (gB ^ i) bv]; omega
 ·rw [nth_set ho, if_neg (by omega)]; exact o6 j (by omega)
theorem DO_bad {A bv : Nat} {a0 a1 a out b : List Nat} {i k g c d : Nat} (h : DO A bv a0 out (i + 1) k) (hb : magOK b) (hv : mVa b = bv) (hk : b.length = k)
  (hg2 : (g - 1) * bv * gB ^ i ≤ mVa a0) (hg : g < gB) (hm : MS a0 a1 g c i k b) (hc : nth a1 (i + k) < c) (hab : AB a1 a d i k b) (hl : i + k < a.length) (ho : i < out.length) :
  1 ≤ g ∧ nth a (i + k) + d = c ∧ DO A bv (a.set (i + k) (nth a (i + k) + d - c)) (out.set i (g - 1)) i k := by
 have hz := DO_zero h hb hk hv
 obtain ⟨o1, o2, o3, o4, o5, o6⟩ := h
 obtain ⟨m1, m2, m3, m4, m5⟩ := hm
 obtain ⟨p1, p2, p3, p4, p5⟩ := hab
 have t1 : nth a (i + k) = nth a1 (i + k) := p5 _ (Nat.le_refl _)
 have sa := split_top (l := a) (n := i + k) (fun j hj => by rw [p5 j (by omega), m5 j (by omega)]; exact hz j hj)
 have s1 := split_top (l := a1) (n := i + k) (fun j hj => by rw [m5 j (by omega)]; exact hz j hj)
 have la := take_lt p1 (i + k)
 have l1 := take_lt m1 (i + k)
 have hbl := magVal_lt hb
 rw [hk, hv] at hbl m4 p4
 have hX : bv * gB ^ i < gB ^ (i + k) := by
  have : bv * gB ^ i < gB ^ k * gB ^ i := Nat.mul_lt_mul_of_pos_right hbl (Nat.pow_pos gB_pos)
  rw [← Nat.pow_add, Nat.add_comm k i] at this; exact this
 have hcP : (nth a1 (i + k) + 1) * gB ^ (i + k) ≤ c * gB ^ (i + k) := Nat.mul_le_mul_right _ hc
 rw [Nat.add_mul, Nat.one_mul] at hcP
 have hlt : mVa a0 < g * bv * gB ^ i := by omega
 have hg1 : 1 ≤ g := by
  rcases Nat.eq_zero_or_pos g with e | e
  ·subst e; simp at hlt
  ·exact e
 have hgX : g * bv * gB ^ i = (g - 1) * bv * gB ^ i + bv * gB ^ i := by
  conv => lhs; rw [show g = (g - 1) + 1 by omega]
  rw [Nat.add_mul, Nat.add_mul, Nat.one_mul]
 have key : mVa (a.take (i + k)) + (nth a (i + k) + d) * gB ^ (i + k) = (mVa a0 - (g - 1) * bv * gB ^ i) + c * gB ^ (i + k) := by
  rw [Nat.add_mul]; omega
 obtain ⟨k1, k2⟩ := two_parts key la (by omega)
 have hs := magVal_set (v := nth a (i + k) + d - c) hl
 rw [show nth a (i + k) + d - c = 0 by omega] at hs ⊢
 rw [Nat.zero_mul] at hs
 have hout := out_set (g := g - 1) (o6 i (by omega)) ho
 refine ⟨hg1, k1, magOK_set p1 gB_pos, magOK_set o2 (by omega), by simp; omega, by omega, ?_, fun j hj => ?_⟩
 ·rw [hout, Nat.add_mul, Nat.mul_right_comm (g - 1) (gB ^ i) bv]; omega
 ·rw [nth_set ho, if_neg (by omega)]; exact o6 j (by omega)
def topOf (a : List Nat) (i k : Nat) : Nat := nth a (i + k) * gB + nth a (i + k - 1)
theorem nth_take {l : List Nat} {n j : Nat} (h : j < n) : nth (l.take n) j = nth l j := by
 unfold nth; rw [List.getElem?_take, if_pos h]
theorem nth_drop {l : List Nat} {i j : Nat} : nth (l.drop i) j = nth l (i + j) := by
 unfold nth; rw [List.getElem?_drop]
theorem window {a : List Nat} {i n : Nat} (ho : magOK a) (hl : i + (n + 2) < a.length) (hz : ∀ j, i + (n + 2) < j → nth a j = 0) :
  ∃ Ur, Ur < gB ^ n ∧ mVa a / gB ^ i = (topOf a i (n + 2) * gB + nth a (i + n)) * gB ^ n + Ur := by
 have h1 := magVal_drop_div ho i
 have h2 := magVal_zero_tail (l := a.drop i) (k := n + 3) (fun j hj => by rw [nth_drop]; exact hz _ (by omega))
 have hl3 : n + 3 = ((a.drop i).take (n + 3)).length := by simp; omega
 have h3 := top3 hl3
 rw [nth_take (by omega), nth_take (by omega), nth_take (by omega), nth_drop, nth_drop, nth_drop] at h3
 have hlt := take_lt (l := (a.drop i).take (n + 3)) (fun x hx => ho x (List.mem_of_mem_drop (List.mem_of_mem_take hx))) n
 refine ⟨_, hlt, ?_⟩
 rw [← h1, h2, h3]
 rfl
theorem le_window {q bv M P : Nat} (hP : 0 < P) : q * bv * P ≤ M ↔ q * bv ≤ M / P := (Nat.le_div_iff_mul_le hP).symm
def GS (a b : List Nat) (i k g : Nat) : Prop := g < gB ∧ g * nth b (k - 1) ≤ topOf a i k ∧ ∀ q, q < gB → q * mVa b * gB ^ i ≤ mVa a → q ≤ g
theorem b_top {b : List Nat} {n : Nat} (ho : magOK b) (hl : b.length = n + 2) : ∃ Vr, Vr < gB ^ n ∧ mVa b = (nth b (n + 1) * gB + nth b n) * gB ^ n + Vr :=
 ⟨_, take_lt ho n, top2 hl.symm⟩
theorem top_rest {a : List Nat} {i n Ur : Nat} (ho : magOK a) (hU : Ur < gB ^ n) : nth a (i + n) * gB ^ n + Ur < gB * gB ^ n := by
 have h := nth_ok ho (i + n)
 have : (nth a (i + n) + 1) * gB ^ n ≤ gB * gB ^ n := Nat.mul_le_mul_right _ h
 rw [Nat.add_mul, Nat.one_mul] at this; omega
theorem GS0 {a b : List Nat} {i n : Nat} (ha : magOK a) (hb : magOK b) (hl : i + (n + 2) < a.length) (hz : ∀ j, i + (n + 2) < j → nth a j = 0) (hk : b.length = n + 2) (hv1 : 0 < nth b (n + 1)) :
  GS a b i (n + 2) (min (topOf a i (n + 2) / nth b (n + 1)) (gB - 1)) := by
 obtain ⟨Ur, hU, hW⟩ := window ha hl hz
 obtain ⟨Vr, hV, hB⟩ := b_top hb hk
 refine ⟨Nat.lt_of_le_of_lt (Nat.min_le_right _ _) (by unfold gB; omega), ?_, fun q hq hle => ?_⟩
 ·exact Nat.le_trans (Nat.mul_le_mul_right _ (Nat.min_le_left _ _)) (Nat.div_mul_le_self _ _)
 ·rw [le_window (Nat.pow_pos gB_pos), hW, hB] at hle
  exact guess0 (Nat.pow_pos gB_pos) hle (top_rest ha hU) hv1 (by omega)
theorem GS1 {a b : List Nat} {i n g : Nat} (ha : magOK a) (hb : magOK b) (hl : i + (n + 2) < a.length) (hz : ∀ j, i + (n + 2) < j → nth a j = 0) (hk : b.length = n + 2) (h : GS a b i (n + 2) g)
  (ht : (topOf a i (n + 2) - g * nth b (n + 1)) * gB + nth a (i + n) < g * nth b n) : 1 ≤ g ∧ GS a b i (n + 2) (g - 1) := by
 obtain ⟨Ur, hU, hW⟩ := window ha hl hz
 obtain ⟨Vr, hV, hB⟩ := b_top hb hk
 obtain ⟨h1, h2, h3⟩ := h
 have hg : 1 ≤ g := by
  rcases Nat.eq_zero_or_pos g with e | e
  ·subst e; simp at ht
  ·exact e
 refine ⟨hg, by omega, Nat.le_trans (Nat.mul_le_mul_right _ (Nat.sub_le _ _)) h2, fun q hq hle => ?_⟩
 rw [le_window (Nat.pow_pos gB_pos), hW, hB] at hle
 exact guess_less hU h2 ht hle
theorem GS2 {a b : List Nat} {i n g : Nat} (ha : magOK a) (hb : magOK b) (hl : i + (n + 2) < a.length) (hz : ∀ j, i + (n + 2) < j → nth a j = 0) (hk : b.length = n + 2) (hv1 : 0 < nth b (n + 1)) (h : GS a b i (n + 2) g)
  (ht : gB ≤ topOf a i (n + 2) - g * nth b (n + 1) ∨ g * nth b n ≤ (topOf a i (n + 2) - g * nth b (n + 1)) * gB + nth a (i + n)) : (g - 1) * mVa b * gB ^ i ≤ mVa a := by
 obtain ⟨Ur, hU, hW⟩ := window ha hl hz
 obtain ⟨Vr, hV, hB⟩ := b_top hb hk
 obtain ⟨h1, h2, h3⟩ := h
 rw [le_window (Nat.pow_pos gB_pos), hW, hB]
 exact guess_near hv1 gB_pos h2 (by omega) (by have := nth_ok hb n; omega) hV ht
theorem sgl_cut {l : List Nat} {d : Nat} (hl : magOK l) (hd : 0 < d) : cutM (sgl l d).1 = magN (mVa l / d) ∧ (sgl l d).2 = mVa l % d := by
 have hv := sgl_val l d
 have hr := sgl_lt l hd
 have h1 : mVa l / d = mVa (sgl l d).1 := by
  rw [hv, Nat.add_comm, Nat.add_mul_div_right _ _ hd, Nat.div_eq_of_lt hr]; omega
 have h2 : mVa l % d = (sgl l d).2 := by
  rw [hv, Nat.add_comm, Nat.add_mul_mod_self_right, Nat.mod_eq_of_lt hr]
 exact ⟨by rw [cut_eq (sgl_ok hl hd), h1], h2.symm⟩
theorem magN_ge {v : Nat} (h : (magN v).length ≠ 0) : gB ^ ((magN v).length - 1) ≤ v := by
 have := magVal_ge (magN_cut v) h
 rw [magN_val] at this; exact this
theorem magN_lt (v : Nat) : v < gB ^ (magN v).length := by
 have := magVal_lt (magN_ok v)
 rw [magN_val] at this; exact this
theorem magN_mono {u v : Nat} (h : u ≤ v) : (magN u).length ≤ (magN v).length := by
 rcases Nat.eq_zero_or_pos (magN u).length with e | e
 ·omega
 ·have h1 := magN_ge (v := u) (by omega)
  have h2 := magN_lt v
  have h3 : gB ^ ((magN u).length - 1) < gB ^ (magN v).length := by omega
  have := (Nat.pow_lt_pow_iff_right (by unfold gB; omega)).1 h3
  omega
theorem magN_two {v : Nat} (h : gB ≤ v) : 2 ≤ (magN v).length := by
 rcases Nat.lt_or_ge (magN v).length 2 with e | e
 ·exfalso
  have h2 := magN_lt v
  have h3 : gB ^ (magN v).length ≤ gB ^ 1 := Nat.pow_le_pow_right gB_pos (by omega)
  rw [Nat.pow_one] at h3; omega
 ·exact e
theorem magN_last {v : Nat} {k : Nat} (h : (magN v).length = k + 1) : 0 < nth (magN v) k := by
 have hc := magN_cut v
 rcases snoc_cases (magN v) with e | ⟨i, x, e⟩
 ·rw [e] at h; simp at h
 ·have hi : i.length = k := by rw [e] at h; simpa using h
  rw [e, ← hi, nth_mid]
  rcases Nat.eq_zero_or_pos x with z | z
  ·exfalso
   subst z
   have h1 := cutM_zero i
   have h2 := cutM_len i
   rw [e] at hc
   rw [h1] at hc
   have := congrArg List.length hc
   simp at this; omega
  ·exact z
theorem DO_start {M N : Nat} (hN : gB ≤ N) (hMN : N ≤ M) :
  DO M N (magN M ++ [0, 0]) (List.replicate ((magN M).length + 2 - (magN N).length) 0) ((magN M).length + 2 - (magN N).length) (magN N).length := by
 have hk := magN_mono hMN
 have h2 := magN_two hN
 have hz : mVa (magN M ++ [0, 0]) = M := by rw [magVal_append, magN_val]; simp [mVa]
 refine ⟨magOK_append (magN_ok M) (fun x hx => by simp at hx; subst hx; exact gB_pos), magOK_zeros _, by simp; omega, ?_, by rw [hz, magVal_zeros]; omega, fun j hj => ?_⟩
 ·rw [hz]
  have h3 := magN_ge (v := N) (by omega)
  have h4 := magN_lt M
  have h5 : gB ^ ((magN N).length - 1) * gB ^ ((magN M).length + 2 - (magN N).length) ≤ N * gB ^ ((magN M).length + 2 - (magN N).length) := Nat.mul_le_mul_right _ h3
  rw [← Nat.pow_add, show (magN N).length - 1 + ((magN M).length + 2 - (magN N).length) = (magN M).length + 1 by omega] at h5
  have h6 : gB ^ (magN M).length ≤ gB ^ ((magN M).length + 1) := Nat.pow_le_pow_right gB_pos (by omega)
  omega
 ·unfold nth
  rw [List.getElem?_replicate]; split <;> rfl
theorem DO_end {M N s : Nat} {a out : List Nat} {k : Nat} (h : DO (M * s) (N * s) a out 0 k) (hs : 0 < s) (hN : 0 < N) (hb : N * s < gB ^ k) :
  cutM out = magN (M / N) ∧ cutM (a.take k) = magN (M % N * s) := by
 obtain ⟨o1, o2, o3, o4, o5, o6⟩ := h
 rw [Nat.pow_zero, Nat.mul_one] at o4
 have hNs : 0 < N * s := Nat.mul_pos hN hs
 have e1 : M * s / (N * s) = mVa out := by rw [← o5, Nat.add_mul_div_right _ _ hNs, Nat.div_eq_of_lt o4]; omega
 have e2 : M * s % (N * s) = mVa a := by rw [← o5, Nat.add_mul_mod_self_right, Nat.mod_eq_of_lt o4]
 rw [Nat.mul_div_mul_right _ _ hs] at e1
 rw [Nat.mul_mod_mul_right] at e2
 have e3 := magVal_zero_tail (l := a) (k := k) (fun j hj => nth_zero (n := k) (by omega) hj)
 refine ⟨by rw [cut_eq o2, e1], ?_⟩
 rw [cut_eq (fun x hx => o1 x (List.mem_of_mem_take hx)), ← e3, e2]
variable [Noise]
variable {P : Program} {env : Env} {dst : Option Tmp} {ty : TypeId} {pos : String} {aft : Array Edge} {g : Option (Nat × Bool)}
theorem run_make00 {t e : TypeId} {ti : TypeInfo} (hu : P.underlying t = some (.slice e)) (hs : ∀ w, (sizeOf e).run P w = .ok 1 w) (hti : ∀ w, (typeInfo e).run P w = .ok ti w) (w : World) :
  (Instr.makeSlice t (.int .i64 0) (.int .i64 0)).run P w = .ok (.slice (some ⟨w.heap.size, 0, none⟩) 0 0) (w.alloc (.cells #[] e)) := by
 have wl : IntKind.i64.wrap 0 = 0 := by rw [IntKind.wrap_i64]; omega
 have e0 : (Array.range 0).map (fun _ => (default : Value)) = #[] := by apply Array.ext_getElem?; intro i; simp
 simp [Instr.makeSlice, run_underlying hu, asInt, asIntOf, hti, hs, wl, newRow, e0]
theorem q_makeSlice00 {t e : TypeId} {ti : TypeInfo} {x y : Operand} {nx ny : Int} (hu : P.underlying t = some (.slice e)) (hs : ∀ w, (sizeOf e).run P w = .ok 1 w) (hti : ∀ w, (typeInfo e).run P w = .ok ti w)
  (hx : env.op x = some (.raw (.int .i64 nx))) (hy : env.op y = some (.raw (.int .i64 ny))) (hnx : nx = 0) (hny : ny = 0) (obs : Obs) :
  QStep P ⟨dst, .makeSlice t x y, ty, pos, aft, g⟩ env obs (.snap 1 false []) obs :=
 .step fun O ρ a w hok hv => by
  have hvx := hv x (by simp [Op.operands]) _ hx
  have hvy := hv y (by simp [Op.operands]) _ hy
  simp only [V] at hvx hvy
  subst hnx; subst hny
  have hr := run_make00 hu hs hti w
  refine ⟨.slice (some ⟨w.heap.size, 0, none⟩) 0 0, w.alloc (.cells #[] e), ρ, .inl ?_, Tr.of_keep ⟨by simp, fun b hb => by show (w.heap.push _)[b]? = _; rw [Array.getElem?_push, if_neg (Nat.ne_of_lt hb)], rfl, rfl, Clk.eq rfl rfl⟩ hok, ?_⟩
  ·simp only [execOp, hvx, hvy]
   rw [Sem.run_bind, hr]
   rfl
  ·simp [V, big]
end Go.T
namespace Go.T
open Go Go.Proofs Go.Proofs.Tryz
set_option maxRecDepth 20000
structure cutO7200_ok_L0 (m : List Nat) where
 cur : List Nat
 hx : cutM cur = cutM m
 hl : cur.length ≤ m.length
theorem cutO7200_ok (m : List Nat) (hm : cutM m ≠ []) (hs : m.length ≤ 1000000) : FcO Tryz.prog 284 [.gs 7200 m.length] [(7200, .arr 1 (encMag m))] (.gs 7200 (cutM m).length) [(7200, .arr 1 (encMag (cutM m)))] := by
 refine FcO.mk' [2] func284 rfl ntmps284 rfl rfl rfl (fun t w => results_tmp results284 t _ w) ?_
 refine Run.seq (Run.reg [.p] ?_)
 refine .ag rfl rfl <| .nil ?_
 refine Run.seq ?_
 refine Run.block ?_
 refine Run.loop (ι := cutO7200_ok_L0 m) (fun sx => [(0, .gs 7200 sx.cur.length)]) (fun sx => [(7200, .arr 1 (encMag sx.cur))]) (fun sx => sx.cur.length) ⟨m, rfl, by omega⟩ ?_ ?_
 ·exact Le.mk rfl (.cons rfl (Sub.gs (by simp)) rfl .nil) (.arr rfl (by rfl) .nil)
 ·rintro ⟨cur, hx, hl⟩
  show Run _ _ _ _ [(0, .gs 7200 cur.length)] [(7200, .arr 1 (encMag cur))]
  rcases snoc_cases cur with rfl | ⟨i, x, rfl⟩
  ·exact absurd hx.symm hm
  ·skip
   refine Run.seq (Run.seq (Run.reg [.p, .p, .p, .p, .p, .p, .p, .p, .p, .r, .p, .p] ?_))
   refine .mv rfl rfl <| .P rfl (q_lenG underlying244 rfl) <| .P rfl (q_gtr rfl rfl) <| .mv rfl rfl <| .p rfl (on_of rfl rfl rfl (by simp)) (fun _ => qMv rfl _) <| .p rfl (on_of rfl rfl rfl (by simp)) (fun _ => qMv rfl _) <| .p rfl (on_of rfl rfl rfl (by simp)) (fun _ => q_lenG underlying244 rfl _) <| .p rfl (on_of rfl rfl rfl (by simp)) (fun _ => q_sub rfl rfl (w64 (by omega)) _) <| .p rfl (on_of rfl rfl rfl (by simp)) (fun _ => qIx (off := (i.length) * 1) underlying244 sizeOf184 rfl rfl (by simp) (by simp) (by simp) _) <| .r rfl (on_of rfl rfl rfl (by simp)) (qG1 (r := _) (i.length) 0 isAgg184 rfl rfl rfl (enc_mid i x []) rfl) <| .p rfl (on_of rfl rfl rfl (by simp)) (fun _ => q_eql rfl rfl _) <| .P rfl (q_pickT rfl (by simp) rfl) <| .nil ?_
   refine Run.cond rfl (fun h1 => ?_) (fun h1 => ?_)
   ·have ph1 := h1; try simp only [bs] at ph1
    refine Run.skip ?_
    refine Run.block ?_
    refine Run.reg [.p, .p, .p, .p, .w, .p] ?_
    refine .mv rfl rfl <| .mv rfl rfl <| .P rfl (q_lenG underlying244 rfl) <| .P rfl (q_sub rfl rfl (w64 (by omega))) <| .W rfl (q_sliceGs (h := i.length) underlying244 sizeOf184 rfl (opI rfl (by simp)) rfl (by simp [encMag]) (by simp) (by rintro h0; obtain rfl := List.length_eq_zero_iff.1 h0; exact hm (by rw [← hx, show x = 0 by omega, cutM_zero]; rfl))) <| .ag rfl rfl <| .nil ?_
    refine Run.nil (bN0 ?_)
    refine Run.nil (tN0 ?_)
    exact ⟨⟨i, by rw [← hx, show x = 0 by omega, cutM_zero], by simp at hl; omega⟩, by simp, Le.mk rfl (.cons rfl (Sub.gs (by simp)) rfl .nil) (.arr rfl (by simp [encMag]) .nil)⟩
   ·have ph1 := h1; try simp only [bs] at ph1
    refine Run.exit (tX0 (bX0 ?_))
    refine Run.seq (Run.reg [.p, .p] ?_)
    refine .mv rfl rfl <| .ag rfl rfl <| .nil ?_
    refine Run.ret (?_)
    exact retO1 rfl (by exact Sub.gs (by (rw [← hx, cutM_pos i (by omega)]))) (.eq rfl (by (rw [← hx, cutM_pos i (by omega)])) rfl .nil)
structure timesO7200_ok_L0 (m n : List Nat) where
 pre : List Nat
 rest : List Nat
 out : List Nat
 hx : m = pre ++ rest
 hlen : out.length = m.length + n.length
 ho : TO out pre.length n.length (mVa pre * mVa n)
structure timesO7200_ok_L1 (m n : List Nat) (pre : List Nat) (x : Nat) where
 pre2 : List Nat
 rest2 : List Nat
 out : List Nat
 c : Nat
 hx2 : n = pre2 ++ rest2
 hlen : out.length = m.length + n.length
 hi : TI out c pre.length n.length (mVa pre * mVa n) x pre2
theorem timesO7200_ok (m n : List Nat) (hm : m.length + n.length ≠ 0) (hms : m.length ≤ 20000) (hns : n.length ≤ 20000) (hmo : magOK m) (hno : magOK n) (hmn : magN (mVa m * mVa n) ≠ []) : FcO Tryz.prog 338 [sMag m, sMag n] [] (.gs 7200 (magN (mVa m * mVa n)).length) [(7200, .arr 1 (encMag (magN (mVa m * mVa n))))] := by
 refine FcO.mk' [4] func338 rfl ntmps338 rfl rfl rfl (fun t w => results_tmp results338 t _ w) ?_
 refine Run.seq (Run.reg [.p] ?_)
 refine .ag rfl rfl <| .nil ?_
 refine Run.seq (Run.reg [.p, .p, .p, .p, .p, .w, .p] ?_)
 refine .mv rfl rfl <| .P rfl (qLe underlying244 rfl) <| .mv rfl rfl <| .P rfl (qLe underlying244 rfl) <| .P rfl (q_add rfl rfl (wrap64_ok (by omega) (by simp; omega))) <| .W rfl (q_makeSlice1 (bt := 8) 7200 (m.length + n.length) underlying244 sizeOf184 typeInfo184 zeroValue184 rfl rfl rfl rfl rfl (by simp [encMag]) (by simp [encMag]) (Nat.le_refl (m.length + n.length)) (by omega) (by omega) (by omega) rfl) <| .ag rfl rfl <| .nil ?_
 refine Run.seq (Run.seq (Run.reg [.p, .p, .p] ?_))
 refine .mv rfl rfl <| .P rfl (qLe underlying244 rfl) <| .mv rfl rfl <| .nil ?_
 refine Run.block ?_
 refine Run.loop (ι := timesO7200_ok_L0 m n) (fun sx => [(17, sMag m), (18, .i m.length), (1, sMag n), (5, .gs 7200 (m.length + n.length)), (19, .i sx.pre.length)]) (fun sx => [(7200, .arr 1 (encMag sx.out))]) (fun sx => sx.rest.length) ⟨[], m, List.replicate (m.length + n.length) 0, rfl, by simp, TO0 m n _⟩ ?_ ?_
 ·exact Le.mk rfl (.s rfl rfl (.cons rfl (Sub.int (by simp)) rfl (.s rfl rfl (.cons rfl (Sub.gs (by simp)) rfl (.s rfl rfl .nil))))) (.arr rfl (by simp [encMag]) .nil)
 ·rintro ⟨pre, rest, out, hx, hlen, ho⟩
  show Run _ _ _ _ [(17, sMag m), (18, .i m.length), (1, sMag n), (5, .gs 7200 (m.length + n.length)), (19, .i pre.length)] [(7200, .arr 1 (encMag out))]
  have hl := congrArg List.length hx
  simp only [List.length_append] at hl
  rcases rest with _ | ⟨x, rest⟩
  ·obtain rfl : m = pre := by simpa using hx
   refine Run.seq (Run.reg [.p] ?_)
   refine .P rfl (q_lss rfl rfl) <| .nil ?_
   refine Run.seq ?_
   refine Run.condF rfl (by simp) ?_
   refine Run.exit (tX0 (bX0 ?_))
   refine Run.seq (Run.reg [.p, .w, .p] ?_)
   refine .mv rfl rfl <| .W rfl (q_callO call284 (by rw [← hlen]; rfl) (cutO7200_ok out (by rw [TO_cut ho]; exact hmn) (by omega)) (.cons rfl rfl .nil) rfl rfl) <| .ag rfl rfl <| .nil ?_
   refine Run.ret (?_)
   exact retO1 rfl (by exact Sub.gs (by rw [TO_cut ho])) (.eq rfl (by rw [TO_cut ho]) rfl .nil)
  ·simp only [List.length_cons] at hl
   have hxa := hmo x (by rw [hx]; simp)
   refine Run.seq (Run.reg [.p] ?_)
   refine .P rfl (q_lss rfl rfl) <| .nil ?_
   refine Run.seq ?_
   refine Run.condT rfl (by simp; omega) ?_
   refine Run.skip ?_
   refine Run.seq ?_
   refine Run.block ?_
   refine Run.seq (Run.reg [.p, .p, .p, .p, .p] ?_)
   refine .mv rfl rfl <| .P rfl (qIi underlying244 sizeOf184 rfl rfl (by omega) (iMd (fun (n : Nat) => [D.raw (.int .u64 (n : Int))]) hx rfl)) <| .P rfl (qLo isAgg184 rfl) <| .ag rfl rfl <| .ag rfl rfl <| .nil ?_
   refine Run.seq (Run.reg [.p] ?_)
   refine .ag rfl rfl <| .nil ?_
   refine Run.seq (Run.seq (Run.reg [.p, .p, .p] ?_))
   refine .mv rfl rfl <| .P rfl (qLe underlying244 rfl) <| .mv rfl rfl <| .nil ?_
   refine Run.block ?_
   refine Run.loop (ι := timesO7200_ok_L1 m n pre x) (fun sx => [(17, sMag m), (18, .i m.length), (1, sMag n), (5, .gs 7200 (m.length + n.length)), (19, .i pre.length), (6, .i pre.length), (7, .raw (.int .u64 (x : Int))), (24, sMag n), (25, .i n.length), (8, .raw (.int .u64 (sx.c : Int))), (26, .i sx.pre2.length)]) (fun sx => [(7200, .arr 1 (encMag sx.out))]) (fun sx => sx.rest2.length) ⟨[], n, out, 0, rfl, hlen, TI0 _ ho⟩ ?_ ?_
   ·exact Le.mk rfl (.s rfl rfl (.s rfl rfl (.s rfl rfl (.cons rfl (Sub.gs (by simp)) rfl (.s rfl rfl (.s rfl rfl (.s rfl rfl (.s rfl rfl (.cons rfl (Sub.int (by simp)) rfl (.s rfl rfl (.s rfl rfl .nil))))))))))) (.arr rfl (by rfl) .nil)
   ·rintro ⟨pre2, rest2, out, c, hx2, hlen, hi⟩
    show Run _ _ _ _ [(17, sMag m), (18, .i m.length), (1, sMag n), (5, .gs 7200 (m.length + n.length)), (19, .i pre.length), (6, .i pre.length), (7, .raw (.int .u64 (x : Int))), (24, sMag n), (25, .i n.length), (8, .raw (.int .u64 (c : Int))), (26, .i pre2.length)] [(7200, .arr 1 (encMag out))]
    have hl2 := congrArg List.length hx2
    simp only [List.length_append] at hl2
    rcases rest2 with _ | ⟨x2, rest2⟩
    ·obtain rfl : n = pre2 := by simpa using hx2
     refine Run.seq (Run.reg [.p] ?_)
     refine .P rfl (q_lss rfl rfl) <| .nil ?_
     refine Run.seq ?_
     refine Run.condF rfl (by simp) ?_
     refine Run.exit (tX0 (bX0 ?_))
     refine Run.seq (Run.reg [.p, .p, .p] ?_)
     refine .mv rfl rfl <| .P rfl (qLe underlying244 rfl) <| .P rfl (q_gtr rfl rfl) <| .nil ?_
     refine Run.cond rfl (fun h1 => ?_) (fun h1 => ?_)
     ·refine Run.reg [.p, .p, .p, .p, .p, .p, .r, .p, .p, .p, .w] ?_
      refine .mv rfl rfl <| .mv rfl rfl <| .mv rfl rfl <| .P rfl (qLe underlying244 rfl) <| .P rfl (q_add rfl rfl (wrap64_ok (by omega) (by simp; omega))) <| .P rfl (qIx (off := (pre.length + n.length) * 1) underlying244 sizeOf184 rfl rfl (by omega) (by simp; omega) (by simp; omega)) <| .R rfl (qG1 (r := _) (pre.length + n.length) 0 isAgg184 rfl rfl rfl (enc_nth (by simp at *; omega)) rfl) <| .mv rfl rfl <| .P rfl (q_add rfl rfl (addN (by have := nth_ok hi.1 (pre.length + n.length); have := hi.2.1; unfold gB at *; omega))) <| .P rfl (qIx (off := (pre.length + n.length) * 1) underlying244 sizeOf184 rfl rfl (by omega) (by simp; omega) (by simp; omega)) <| .W rfl (qS1 (r := _) (pre.length + n.length) 0 sizeOf184 rfl rfl rfl rfl rfl rfl (enc_nth (by simp at *; omega)) (by simp)) <| .nil ?_
      refine Run.nil (bN0 ?_)
      refine Run.reg [.p, .p] ?_
      refine .P rfl (q_add rfl rfl (w64 (by omega))) <| .mv rfl rfl <| .nil ?_
      refine Run.nil (tN0 ?_)
      exact ⟨⟨pre ++ [x], rest, out.set (pre.length + n.length) (nth out (pre.length + n.length) + c), by simp [hx], by simp [hlen], TI2 hi (by simp at *; omega) (by simp at *; omega) rfl⟩, by simp, Le.mk rfl (.s rfl rfl (.s rfl rfl (.s rfl rfl (.cons rfl (Sub.gs (by simp)) rfl (.cons rfl (Sub.int (by simp)) rfl .nil))))) (.arr rfl (by exact enc_setJ) .nil)⟩
     ·refine Run.skip ?_
      refine Run.nil (bN0 ?_)
      refine Run.reg [.p, .p] ?_
      refine .P rfl (q_add rfl rfl (w64 (by omega))) <| .mv rfl rfl <| .nil ?_
      refine Run.nil (tN0 ?_)
      exact ⟨⟨pre ++ [x], rest, out, by simp [hx], hlen, TI3 hi (by simp at *; omega)⟩, by simp, Le.mk rfl (.s rfl rfl (.s rfl rfl (.s rfl rfl (.cons rfl (Sub.gs (by simp)) rfl (.cons rfl (Sub.int (by simp)) rfl .nil))))) (.arr rfl (by rfl) .nil)⟩
    ·simp only [List.length_cons] at hl2
     have hyb := hno x2 (by rw [hx2]; simp)
     refine Run.seq (Run.reg [.p] ?_)
     refine .P rfl (q_lss rfl rfl) <| .nil ?_
     refine Run.seq ?_
     refine Run.condT rfl (by simp; omega) ?_
     refine Run.skip ?_
     refine Run.seq ?_
     refine Run.block ?_
     refine Run.seq (Run.reg [.p, .p, .p, .p, .p] ?_)
     refine .mv rfl rfl <| .P rfl (qIi underlying244 sizeOf184 rfl rfl (by omega) (iMd (fun (n : Nat) => [D.raw (.int .u64 (n : Int))]) hx2 rfl)) <| .P rfl (qLo isAgg184 rfl) <| .ag rfl rfl <| .ag rfl rfl <| .nil ?_
     refine Run.seq (Run.reg [.p, .p, .p, .p, .p, .p, .r, .p, .p, .p, .p, .p, .p] ?_)
     refine .mv rfl rfl <| .mv rfl rfl <| .mv rfl rfl <| .mv rfl rfl <| .P rfl (q_add rfl rfl (w64 (by omega))) <| .P rfl (qIx (off := (pre.length + pre2.length) * 1) underlying244 sizeOf184 rfl rfl (by omega) (by omega) (by omega)) <| .R rfl (qG1 (r := _) (pre.length + pre2.length) 0 isAgg184 rfl rfl rfl (enc_nth (by simp at *; omega)) rfl) <| .mv rfl rfl <| .mv rfl rfl <| .P rfl (q_mul rfl rfl (mulN rfl (TI_wrap hi.2.1 (nth_ok hi.1 (pre.length + pre2.length)) hxa hyb).1)) <| .P rfl (q_add rfl rfl (addN (TI_wrap hi.2.1 (nth_ok hi.1 (pre.length + pre2.length)) hxa hyb).2.1)) <| .P rfl (q_add rfl rfl (addN (TI_wrap hi.2.1 (nth_ok hi.1 (pre.length + pre2.length)) hxa hyb).2.2)) <| .ag rfl rfl <| .nil ?_
     refine Run.seq (Run.reg [.p, .p, .p, .p, .p, .p, .p, .w] ?_)
     refine .mv rfl rfl <| .mv rfl rfl <| .mv rfl rfl <| .P rfl (q_add rfl rfl (w64 (by omega))) <| .mv rfl rfl <| .P rfl (q_rem rfl rfl (by decide) (remN _)) <| .P rfl (qIx (off := (pre.length + pre2.length) * 1) underlying244 sizeOf184 rfl rfl (by omega) (by omega) (by omega)) <| .W rfl (qS1 (r := _) (pre.length + pre2.length) 0 sizeOf184 rfl rfl rfl rfl rfl rfl (enc_nth (by simp at *; omega)) (by simp)) <| .nil ?_
     refine Run.reg [.p, .p, .p] ?_
     refine .mv rfl rfl <| .P rfl (q_quo rfl rfl (by decide) (quoN (TI_wrap hi.2.1 (nth_ok hi.1 (pre.length + pre2.length)) hxa hyb).2.2)) <| .ag rfl rfl <| .nil ?_
     refine Run.nil (bN0 ?_)
     refine Run.reg [.p, .p] ?_
     refine .P rfl (q_add rfl rfl (w64 (by omega))) <| .mv rfl rfl <| .nil ?_
     refine Run.nil (tN0 ?_)
     exact ⟨⟨pre2 ++ [x2], rest2, out.set (pre.length + pre2.length) ((c + (nth out (pre.length + pre2.length) + x * x2)) % gB), (c + (nth out (pre.length + pre2.length) + x * x2)) / gB, by simp [hx2], by simp [hlen], TI1 hi hxa hyb (by omega) (by omega)⟩, by simp, Le.mk rfl (.s rfl rfl (.s rfl rfl (.s rfl rfl (.cons rfl (Sub.gs (by simp)) rfl (.s rfl rfl (.s rfl rfl (.s rfl rfl (.s rfl rfl (.s rfl rfl (.s rfl rfl (.cons rfl (Sub.int (by simp)) rfl .nil))))))))))) (.arr rfl (by exact enc_setJ) .nil)⟩
structure singleNil_ok_L0 (d : Nat) where
 u : Unit
theorem singleNil_ok (d : Nat) : Fc Tryz.prog 358 [.snap 1 false [], .raw (.int .u64 (d : Int))] (.tup [.snap 1 false [], .raw (.int .u64 ((0 : Nat) : Int))]) := by
 refine Fc.mk' [4, 5] func358 rfl ntmps358 rfl rfl rfl (fun t w => results_tmp2 results358 t _ w) ?_
 refine go [] ?_
 refine oP (q_makeSlice00 underlying244 sizeOf184 typeInfo184 rfl rfl rfl rfl) ?_
 refine sd (wrap64_ok (by omega) (by simp)) ?_
 refine Run.loop (ι := singleNil_ok_L0 d) (fun sx => [(7, .raw (.int .u64 ((0 : Nat) : Int))), (8, .i (-1)), (6, sMag []), (0, .snap 1 false []), (1, .raw (.int .u64 (d : Int)))]) (fun sx => []) (fun sx => 0) ⟨()⟩ ?_ ?_
 ·exact Le.mk rfl (.s rfl rfl (.s rfl rfl (.s rfl rfl (.s rfl rfl (.s rfl rfl .nil))))) .nil
 ·rintro ⟨u⟩
  show Run _ _ _ _ [(7, .raw (.int .u64 ((0 : Nat) : Int))), (8, .i (-1)), (6, sMag []), (0, .snap 1 false []), (1, .raw (.int .u64 (d : Int)))] []
  skip
  ·skip
   refine go [] ?_
   refine brF (by simp) ?_
   refine go [] ?_
   refine oP (qCa call284 rfl (cut_ok _)) ?_
   exact rx2 rfl rfl (Sub.refl _) (Sub.refl _)
theorem singleN_ok (M d : Nat) (hs : (magN M).length ≤ 40000) (hd : 0 < d) (hdB : d < gB) : Fc Tryz.prog 358 [sMag (magN M), .raw (.int .u64 (d : Int))] (.tup [sMag (magN (M / d)), .raw (.int .u64 ((M % d : Nat) : Int))]) := by
 have h := sgl_cut (magN_ok M) hd
 rw [magN_val] at h
 rw [← h.1, ← h.2]
 by_cases e : (magN M).length = 0
 ·have e := List.eq_nil_of_length_eq_zero e
  rw [e]
  exact singleNil_ok d
 ·exact single_ok _ d e hs (magN_ok M) hd hdB
end Go.T
namespace Go.T
open Go
theorem cmpN_lt {M N : Nat} : cmpM (magN M) (magN N) < 0 ↔ M < N := by
 have h := (cmpM_spec (magN_ok M) (magN_ok N) (magN_cut M) (magN_cut N)).1
 rw [magN_val, magN_val] at h; exact h
theorem magN_one {N : Nat} (h : (magN N).length = 1) : magN N = [N] ∧ 0 < N ∧ N < gB := by
 have h0 : N ≠ 0 := by rintro rfl; rw [magN_zero] at h; simp at h
 have h1 := magN_lt N
 rw [h, Nat.pow_one] at h1
 refine ⟨?_, by omega, h1⟩
 rw [magN_step h0, Nat.mod_eq_of_lt h1, Nat.div_eq_of_lt h1, magN_zero]
theorem cut_one {r : Nat} (h : r < gB) : cutM [r] = magN r := by
 rw [cut_eq (fun x hx => by simp at hx; subst hx; exact h)]
 simp [mVa]
open Go.Proofs Go.Proofs.Tryz
set_option maxRecDepth 20000
theorem divLess_ok (M N : Nat) (hML : (magN M).length ≤ 10000) (hNL : (magN N).length ≤ 10000) (h : M < N) : Fc Tryz.prog 340 [sMag (magN M), sMag (magN N)] (.tup [sMag (magN (M / N)), sMag (magN (M % N))]) := by
 refine Fc.mk' [4, 5] func340 rfl ntmps340 rfl rfl rfl (fun t w => results_tmp2 results340 t _ w) ?_
 refine go [] ?_
 refine oP (qCa call240 rfl (compareM_ok _ _ (by omega) (by omega))) ?_
 refine brT (by simpa using cmpN_lt.2 h) ?_
 exact rx2 rfl rfl (by exact (Sub.nil _ false).trans (Sub.snap (by rw [Nat.div_eq_of_lt h, magN_zero]; rfl))) (Sub.snap (by rw [Nat.mod_eq_of_lt h]))
theorem divOne_ok (M N : Nat) (hML : (magN M).length ≤ 10000) (hNL : (magN N).length ≤ 10000) (h : ¬ M < N) (h1 : (magN N).length = 1) : Fc Tryz.prog 340 [sMag (magN M), sMag (magN N)] (.tup [sMag (magN (M / N)), sMag (magN (M % N))]) := by
 refine Fc.mk' [4, 5] func340 rfl ntmps340 rfl rfl rfl (fun t w => results_tmp2 results340 t _ w) ?_
 have hn1 := magN_one h1
 refine go [] ?_
 refine oP (qCa call240 rfl (compareM_ok _ _ (by omega) (by omega))) ?_
 refine brF (by simpa using fun hc => h (cmpN_lt.1 hc)) ?_
 refine brT (by simp [encMag, h1]) ?_
 refine ix (by omega) (idx_mag (l := magN N) (k := 0) (b := N) (r := []) (by rw [hn1.1]; rfl) (by rfl)) ?_
 refine oP (qCa call358 rfl (singleN_ok _ _ (by omega) (by omega) (by omega))) ?_
 refine oP (qBu (n := 1) (rows := encMag [M % N]) underlying244 sizeOf184 rfl rfl rfl zeroValue184 rfl rfl rfl rfl rfl rfl rfl) ?_
 refine oP (qCa call284 rfl (cut_ok [M % N]).sub) ?_
 exact rx2 rfl rfl (Sub.refl _) (Sub.snap (by rw [cut_one (Nat.lt_trans (Nat.mod_lt _ hn1.2.1) hn1.2.2)]))
end Go.T
namespace Go.T
open Go
def dS (N : Nat) : Nat := gB / (nth (magN N) ((magN N).length - 1) + 1)
def dK (N : Nat) : Nat := (magN (N * dS N)).length
def dL (M N : Nat) : Nat := (magN (M * dS N)).length
theorem dS_pos (N : Nat) : 0 < dS N := by
 have h := nth_ok (magN_ok N) ((magN N).length - 1)
 exact Nat.div_pos h (by omega)
theorem dS_lt {N : Nat} (h : (magN N).length ≠ 0) : dS N < gB := by
 obtain ⟨k, hk⟩ : ∃ k, (magN N).length = k + 1 := ⟨(magN N).length - 1, by omega⟩
 have h1 := magN_last hk
 unfold dS
 rw [show (magN N).length - 1 = k by omega]
 exact Nat.div_lt_self gB_pos (by omega)
theorem magN_len_le {v n : Nat} (h : v < gB ^ n) : (magN v).length ≤ n := by
 rcases Nat.lt_or_ge n (magN v).length with g | g
 ·exfalso
  have h1 := magN_ge (v := v) (by omega)
  have h2 : gB ^ n ≤ gB ^ ((magN v).length - 1) := Nat.pow_le_pow_right gB_pos (by omega)
  omega
 ·exact g
theorem dL_le {M N : Nat} (h : (magN N).length ≠ 0) : dL M N ≤ (magN M).length + 1 := by
 refine magN_len_le ?_
 have h1 := magN_lt M
 have h2 := dS_lt h
 rw [Nat.pow_succ]
 exact Nat.mul_lt_mul_of_lt_of_le h1 (by omega) gB_pos
theorem two_le {N : Nat} (h : 2 ≤ (magN N).length) : gB ≤ N := by
 have h1 := magN_ge (v := N) (by omega)
 have h2 : gB ^ 1 ≤ gB ^ ((magN N).length - 1) := Nat.pow_le_pow_right gB_pos (by omega)
 rw [Nat.pow_one] at h2; omega
theorem dN_ge {N : Nat} (h : 2 ≤ (magN N).length) : gB ≤ N * dS N := Nat.le_trans (two_le h) (Nat.le_mul_of_pos_right _ (dS_pos N))
theorem dK_two {N : Nat} (h : 2 ≤ (magN N).length) : 2 ≤ dK N := magN_two (dN_ge h)
theorem dK_le {M N : Nat} (h : ¬ M < N) : dK N ≤ dL M N := magN_mono (Nat.mul_le_mul_right _ (by omega))
theorem last_drop {l : List Nat} (h : l.length ≠ 0) : l.drop (l.length - 1) = nth l (l.length - 1) :: [] := by
 rw [drop_nth (by omega), List.drop_of_length_le (by omega)]
theorem dO_start {M N : Nat} (h : ¬ M < N) (h2 : 2 ≤ (magN N).length) : DO (M * dS N) (N * dS N) (magN (M * dS N) ++ [0, 0]) (List.replicate (dL M N + 2 - dK N) 0) (dL M N + 2 - dK N) (dK N) :=
 DO_start (dN_ge h2) (Nat.mul_le_mul_right _ (by omega))
theorem magVal_one (s : Nat) : mVa [s] = s := by simp [mVa]
theorem magN_ne {v : Nat} (h : v ≠ 0) : magN v ≠ [] := by rw [magN_step h]; simp
open Go.Proofs Go.Proofs.Tryz
set_option maxRecDepth 20000
theorem FcO.sub {P : Program} {f : FuncId} {ds ds' : List D} {pre : Obs} {r : D} {post : Obs} (h : FcO P f ds' pre r post) (hs : Subs ds ds') : FcO P f ds pre r post :=
 ⟨fun w O ρ vals hok hg hv => h.out w O ρ vals hok hg (hs.out w _ ρ vals hv)⟩
theorem timesA_ok (M s : Nat) (hL : (magN M).length ≤ 10000) (hs : 0 < s) (hsB : s < gB) (hM : M ≠ 0) : FcO Tryz.prog 338 [sMag (magN M), .snap 1 true (encMag [s])] [] (.gs 7200 (magN (M * s)).length) [(7200, .arr 1 (encMag (magN (M * s))))] := by
 have h := timesO7200_ok (magN M) [s] (by simp) (by omega) (by simp) (magN_ok M) (fun x hx => by simp at hx; subst hx; exact hsB) (by rw [magN_val, magVal_one]; exact magN_ne (Nat.mul_ne_zero hM (by omega)))
 rw [magN_val, magVal_one] at h
 exact h.sub (.r (.cons (Sub.unfull _ _ _) .nil))
theorem timesB_ok (M s : Nat) (hL : (magN M).length ≤ 10000) (hsB : s < gB) : Fc Tryz.prog 338 [sMag (magN M), .snap 1 true (encMag [s])] (sMag (magN (M * s))) := by
 have h := times_ok (magN M) [s] (by simp) (by omega) (by simp) (magN_ok M) (fun x hx => by simp at hx; subst hx; exact hsB)
 rw [magN_val, magVal_one] at h
 exact h.sub
end Go.T
namespace Go.T
open Go
variable {a b : List Nat} {i k g : Nat}
theorem GS0k (ha : magOK a) (hb : magOK b) (hl : i + k < a.length) (hz : ∀ j, i + k < j → nth a j = 0) (hk : b.length = k) (h2 : 2 ≤ k) (hv1 : 0 < nth b (k - 1)) :
  GS a b i k (min (topOf a i k / nth b (k - 1)) (gB - 1)) := by
 obtain ⟨n, rfl⟩ : ∃ n, k = n + 2 := ⟨k - 2, by omega⟩
 exact GS0 ha hb hl hz hk hv1
theorem GS1k (ha : magOK a) (hb : magOK b) (hl : i + k < a.length) (hz : ∀ j, i + k < j → nth a j = 0) (hk : b.length = k) (h2 : 2 ≤ k) (h : GS a b i k g)
  (ht : (topOf a i k - g * nth b (k - 1)) * gB + nth a (i + k - 2) < g * nth b (k - 2)) : 1 ≤ g ∧ GS a b i k (g - 1) := by
 obtain ⟨n, rfl⟩ : ∃ n, k = n + 2 := ⟨k - 2, by omega⟩
 exact GS1 ha hb hl hz hk h ht
theorem GS2k (ha : magOK a) (hb : magOK b) (hl : i + k < a.length) (hz : ∀ j, i + k < j → nth a j = 0) (hk : b.length = k) (h2 : 2 ≤ k) (hv1 : 0 < nth b (k - 1)) (h : GS a b i k g)
  (ht : gB ≤ topOf a i k - g * nth b (k - 1) ∨ g * nth b (k - 2) ≤ (topOf a i k - g * nth b (k - 1)) * gB + nth a (i + k - 2)) : (g - 1) * mVa b * gB ^ i ≤ mVa a := by
 obtain ⟨n, rfl⟩ : ∃ n, k = n + 2 := ⟨k - 2, by omega⟩
 exact GS2 ha hb hl hz hk hv1 h ht
theorem dK_last {N : Nat} (h : 2 ≤ (magN N).length) : 0 < nth (magN (N * dS N)) (dK N - 1) := by
 have h2 := dK_two h
 exact magN_last (k := dK N - 1) (by show dK N = _; omega)
theorem MS_pos {A bv : Nat} {a0 a1 out b : List Nat} {i k g c : Nat} (h : DO A bv a0 out (i + 1) k) (hb : magOK b) (hv : mVa b = bv) (hk : b.length = k)
  (hm : MS a0 a1 g c i k b) (hc : nth a1 (i + k) < c) : 1 ≤ g := by
 have hz := DO_zero h hb hk hv
 obtain ⟨o1, o2, o3, o4, o5, o6⟩ := h
 obtain ⟨m1, m2, m3, m4, m5⟩ := hm
 have s1 := split_top (l := a1) (n := i + k) (fun j hj => by rw [m5 j (by omega)]; exact hz j hj)
 have l1 := take_lt m1 (i + k)
 rw [hk] at m4
 have hcP : (nth a1 (i + k) + 1) * gB ^ (i + k) ≤ c * gB ^ (i + k) := Nat.mul_le_mul_right _ hc
 rw [Nat.add_mul, Nat.one_mul] at hcP
 rcases Nat.eq_zero_or_pos g with e | e
 ·subst e
  rw [Nat.zero_mul, Nat.zero_mul] at m4
  omega
 ·exact e
theorem T_mod (t : Nat) : t % gB < gB := Nat.mod_lt _ gB_pos
theorem min_cast (t k : Nat) : min (t : Int) (k : Int) = ((min t k : Nat) : Int) := by omega
theorem min_gB (t : Nat) : min (t : Int) 999999999 = ((min t (gB - 1) : Nat) : Int) := min_cast t 999999999
end Go.T
