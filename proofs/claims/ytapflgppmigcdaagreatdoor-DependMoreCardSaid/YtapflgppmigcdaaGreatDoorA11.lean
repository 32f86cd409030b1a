/-
  Contracts of the functions that the statement reaches, and the logic in which they are proved (no condition): parts W79, Div13, W80, Div14, W81, W82, SpecD3, Div15, Div16, Core30, Core31, Core32, Core33.
-/
import Derived.Test.YtapflgppmigcdaaGreatDoorA10
import Derived.Shelf.SlSortCmp.WholeK
set_option linter.all false
namespace Go.T
open Go Go.Proofs Go.Proofs.Tryz
set_option maxRecDepth 20000
theorem mulB {x : Nat} (h : x < gB) : x * gB < 18446744073709551616 ∧ ∀ y, y < gB → x * gB + y < 18446744073709551616 := by
 have h1 : x * gB ≤ 999999999 * gB := Nat.mul_le_mul_right _ (by unfold gB at *; omega)
 unfold gB at *
 exact ⟨by omega, fun y hy => by omega⟩
theorem mulBB {x y : Nat} (h : x < gB) (k : y < gB) : x * y < 18446744073709551616 := Nat.lt_of_le_of_lt (Nat.mul_le_mul_left _ (Nat.le_of_lt k)) (mulB h).1
theorem topOf_lt {a : List Nat} (h : magOK a) (i k : Nat) : topOf a i k < 18446744073709551616 := (mulB (nth_ok h _)).2 _ (nth_ok h _)
structure divMany_ok_L0 (M N : Nat) where
 a : List Nat
 out : List Nat
 i : Nat
 hd : DO (M * dS N) (N * dS N) a out i (dK N)
 hal : a.length = dL M N + 2
 hio : i ≤ out.length
structure divMany_ok_L1 (M N : Nat) (a out : List Nat) (i : Nat) where
 g : Nat
 hgs : GS a (magN (N * dS N)) i (dK N) g
structure divMany_ok_L2 (M N : Nat) (a out : List Nat) (i g : Nat) where
 pre2 : List Nat
 rest2 : List Nat
 a1 : List Nat
 c : Nat
 hx2 : (magN (N * dS N)) = pre2 ++ rest2
 hm : MS a a1 g c i (dK N) pre2
 hg2 : (g - 1) * mVa (magN (N * dS N)) * gB ^ i ≤ mVa a
structure divMany_ok_L3 (M N : Nat) (a1 out : List Nat) (i g c : Nat) where
 pre2 : List Nat
 rest2 : List Nat
 a2 : List Nat
 d : Nat
 hx2 : (magN (N * dS N)) = pre2 ++ rest2
 hp : AB a1 a2 d i (dK N) pre2
theorem divMany_ok (M N : Nat) (hML : (magN M).length ≤ 10000) (hNL : (magN N).length ≤ 10000) (h : ¬ M < N) (h2 : 2 ≤ (magN N).length) : Fc Tryz.prog 340 [sMag (magN M), sMag (magN N)] (.tup [sMag (magN (M / N)), sMag (magN (M % N))]) := by
 refine Fc.mk' [4, 5] func340 rfl ntmps340 rfl rfl rfl (fun t w => results_tmp2 results340 t _ w) ?_
 have hsB := dS_lt (N := N) (by omega)
 have hM0 : M ≠ 0 := by have := two_le h2; unfold gB at this; omega
 have hdL := dL_le (M := M) (N := N) (by omega)
 have hdK := dK_le h
 have hdK2 := dK_two h2
 have eL : (magN (M * dS N)).length = dL M N := rfl
 have eK : (magN (N * dS N)).length = dK N := rfl
 have hv1 := dK_last h2
 refine Run.seq (Run.reg [.p, .p] ?_)
 refine .ag rfl rfl <| .ag rfl rfl <| .nil ?_
 refine Run.seq (Run.seq (Run.reg [.p, .p, .p, .p] ?_))
 refine .mv rfl rfl <| .mv rfl rfl <| .P rfl (qCa call240 rfl (compareM_ok _ _ (by omega) (by omega))) <| .P rfl (q_lss rfl rfl) <| .nil ?_
 refine Run.condF rfl (by simpa using fun hc => h (cmpN_lt.1 hc)) ?_
 refine Run.skip ?_
 refine Run.seq (Run.seq (Run.reg [.p, .p, .p] ?_))
 refine .mv rfl rfl <| .P rfl (qLe underlying244 rfl) <| .P rfl (q_eql rfl rfl) <| .nil ?_
 refine Run.condF rfl (by simp [encMag]; omega) ?_
 refine Run.skip ?_
 refine Run.seq (Run.reg [.p, .p, .p, .p, .p, .p, .p, .p, .p] ?_)
 refine .mv rfl rfl <| .mv rfl rfl <| .P rfl (qLe underlying244 rfl) <| .P rfl (q_sub rfl rfl (wrap64_ok (by omega) (by simp; omega))) <| .P rfl (qIi underlying244 sizeOf184 rfl rfl (by simp [encMag]; omega) (idx_mag (l := magN N) (k := (magN N).length - 1) (b := nth (magN N) ((magN N).length - 1)) (r := []) (last_drop (by omega)) (by simp [encMag]; omega))) <| .P rfl (qLo isAgg184 rfl) <| .P rfl (q_add rfl rfl (addN (b := 1) (by have := nth_ok (magN_ok N) ((magN N).length - 1); unfold gB at *; omega))) <| .P rfl (q_quo rfl rfl (by omega) (quoNN (a := gB) (by decide))) <| .ag rfl rfl <| .nil ?_
 refine Run.seq (Run.reg [.p, .p, .p, .w, .p, .w, .p, .p, .p, .p, .p, .p] ?_)
 refine .mv rfl rfl <| .mv rfl rfl <| .P rfl (qBu (n := 1) (rows := encMag [dS N]) underlying244 sizeOf184 rfl rfl rfl zeroValue184 rfl rfl rfl rfl rfl rfl rfl) <| .W rfl (q_callO call338 rfl (timesA_ok M (dS N) hML (dS_pos N) hsB hM0) .nil rfl rfl) <| .P rfl (qBu (n := 2) (rows := encMag [0, 0]) underlying244 sizeOf184 rfl rfl rfl zeroValue184 rfl rfl rfl rfl rfl rfl rfl) <| .W rfl (q_append 0 underlying244 underlying244 sizeOf184 typeInfo184 zeroValue184 rfl (bt := 8) rfl rfl rfl rfl (by simp [encMag]) rfl rfl (by simp; omega)) <| .mv rfl rfl <| .mv rfl rfl <| .P rfl (qBu (n := 1) (rows := encMag [dS N]) underlying244 sizeOf184 rfl rfl rfl zeroValue184 rfl rfl rfl rfl rfl rfl rfl) <| .P rfl (qCa call338 rfl (timesB_ok N (dS N) hNL hsB)) <| .ag rfl rfl <| .ag rfl rfl <| .nil ?_
 refine Run.seq (Run.reg [.p, .p, .p] ?_)
 refine .mv rfl rfl <| .P rfl (qLe underlying244 rfl) <| .ag rfl rfl <| .nil ?_
 refine Run.seq (Run.reg [.p, .p, .p, .p, .w, .p] ?_)
 refine .mv rfl rfl <| .P rfl (q_lenG underlying244 rfl) <| .mv rfl rfl <| .P rfl (q_sub rfl rfl (wrap64_ok (by simp; omega) (by simp; omega))) <| .W rfl (q_makeSlice1 (bt := 8) 1 (dL M N + 2 - dK N) underlying244 sizeOf184 typeInfo184 zeroValue184 rfl rfl rfl rfl rfl (by simp [encMag]; omega) (by simp [encMag]; omega) (Nat.le_refl (dL M N + 2 - dK N)) (by omega) (by omega) (by omega) rfl) <| .ag rfl rfl <| .nil ?_
 refine Run.seq (Run.seq (Run.reg [.p, .p, .p, .p, .p, .p] ?_))
 refine .mv rfl rfl <| .P rfl (q_lenG underlying244 rfl) <| .mv rfl rfl <| .P rfl (q_sub rfl rfl (wrap64_ok (by simp; omega) (by simp; omega))) <| .P rfl (q_sub rfl rfl (wrap64_ok (by simp; omega) (by simp; omega))) <| .ag rfl rfl <| .nil ?_
 refine Run.block ?_
 refine Run.loop (ι := divMany_ok_L0 M N) (fun sx => [(9, .gs 0 (dL M N + 2)), (10, sMag (magN (N * dS N))), (11, .i (dK N)), (12, .gs 1 (dL M N + 2 - dK N)), (8, .raw (.int .u64 ((dS N) : Int))), (13, .i ((sx.i : Int) - 1))]) (fun sx => [(1, .arr 1 (encMag sx.out)), (0, .arr 1 (encMag sx.a))]) (fun sx => sx.i) ⟨_, _, _, dO_start h h2, by simp [dL], by simp⟩ ?_ ?_
 ·exact Le.mk rfl (.cons rfl (Sub.refl _) rfl (.s rfl rfl (.cons rfl (Sub.int (by simp; omega)) rfl (.cons rfl (Sub.refl _) rfl (.s rfl rfl (.cons rfl (Sub.int (by simp; omega)) rfl .nil)))))) (.arr rfl (by simp [encMag]) (.arr rfl (by simp [encMag]) .nil))
 ·rintro ⟨a, out, i, hd, hal, hio⟩
  show Run _ _ _ _ [(9, .gs 0 (dL M N + 2)), (10, sMag (magN (N * dS N))), (11, .i (dK N)), (12, .gs 1 (dL M N + 2 - dK N)), (8, .raw (.int .u64 ((dS N) : Int))), (13, .i ((i : Int) - 1))] [(1, .arr 1 (encMag out)), (0, .arr 1 (encMag a))]
  rcases i with _ | i
  ·have hol := hd.2.2.1
   have hN0 : 0 < N := by have := two_le h2; unfold gB at this; omega
   have hfin := DO_end hd (dS_pos N) hN0 (magN_lt _)
   have hrl : (magN (M % N * dS N)).length ≤ dK N := magN_mono (Nat.mul_le_mul_right _ (Nat.le_of_lt (Nat.mod_lt _ hN0)))
   refine Run.seq (Run.seq (Run.reg [.p, .p] ?_))
   refine .mv rfl rfl <| .P rfl (q_geq rfl rfl) <| .nil ?_
   refine Run.condF rfl (by simp) ?_
   refine Run.exit (tX0 (bX0 ?_))
   refine Run.weak (Le.freeze 9 0 rfl rfl (by simp [encMag]; omega)) ?_
   refine Run.seq (Run.reg [.p, .p, .p, .p, .p, .p, .p, .p, .p, .p, .p] ?_)
   refine .mv rfl rfl <| .mv rfl rfl <| .P rfl (q_sliceI underlying244 sizeOf184 rfl (h := dK N) (r := encMag (a.take (dK N))) (.inl ⟨rfl, rfl⟩) (.inr ⟨_, _, rfl, rfl⟩) (by omega) (by simp [encMag]; omega) (by simp [encMag])) <| .P rfl (qCa call284 rfl (cut_ok _)) <| .mv rfl rfl <| .P rfl (qCa call358 (by rw [← hfin.2]; rfl) (singleN_ok (M % N * dS N) (dS N) (by omega) (dS_pos N) hsB)) <| .mv rfl rfl <| .P rfl (qEx rfl rfl) <| .P rfl (qEx rfl rfl) <| .ag rfl rfl <| .ag rfl rfl <| .nil ?_
   refine Run.weak (Le.freeze 12 1 rfl rfl (by simp [encMag]; omega)) ?_
   refine Run.seq (Run.reg [.p, .p, .p, .p, .p] ?_)
   refine .mv rfl rfl <| .P rfl (qCa call284 rfl (cut_ok _)) <| .mv rfl rfl <| .ag rfl rfl <| .ag rfl rfl <| .nil ?_
   refine Run.ret (?_)
   exact ret2 rfl rfl (Sub.snap (by rw [hfin.1])) (Sub.snap (by rw [Nat.mul_div_cancel _ (dS_pos N)]))
  ·have hk2 := dK_two h2
   have hb := magN_ok (N * dS N)
   have hz := DO_zero hd hb rfl (magN_val _)
   have hol := hd.2.2.1
   have haO := hd.1
   have hl : i + dK N < a.length := by omega
   have hg0 := GS0k haO hb hl (fun j hj => hz j hj) rfl hk2 hv1
   refine Run.seq (Run.seq (Run.reg [.p, .p] ?_))
   refine .mv rfl rfl <| .P rfl (q_geq rfl rfl) <| .nil ?_
   refine Run.condT rfl (by simp) ?_
   refine Run.skip ?_
   refine Run.seq ?_
   refine Run.block ?_
   refine Run.seq (Run.regD [.p, .p, .p, .p, .p, .r, .p, .p, .p, .p, .p, .p, .p, .r, .p, .p] Tryz_mixed (by decide +kernel) ?_)
   refine .mv rfl rfl <| .mv rfl rfl <| .mv rfl rfl <| .P rfl (q_add rfl rfl (w64 (by omega))) <| .P rfl (qIx (off := (i + dK N) * 1) underlying244 sizeOf184 rfl rfl (by omega) (by omega) (by omega)) <| .R rfl (qG1 (r := _) (i + dK N) 0 isAgg184 rfl rfl rfl (enc_nth (by simp at *; omega)) rfl) <| .P rfl (q_mul rfl rfl (mulN (c := gB) (by decide) (mulB (nth_ok haO (i + dK N))).1)) <| .mv rfl rfl <| .mv rfl rfl <| .mv rfl rfl <| .P rfl (q_add rfl rfl (w64 (by omega))) <| .P rfl (q_sub rfl rfl (w64 (by omega))) <| .P rfl (qIx (off := (i + dK N - 1) * 1) underlying244 sizeOf184 rfl rfl (by omega) (by omega) (by omega)) <| .R rfl (qG1 (r := _) (i + dK N - 1) 0 isAgg184 rfl rfl rfl (enc_nth (by simp at *; omega)) rfl) <| .P rfl (q_add rfl rfl (addN ((mulB (nth_ok haO (i + dK N))).2 _ (nth_ok haO (i + dK N - 1))))) <| .ag rfl rfl <| .nil ?_
   refine Run.seq (Run.reg [.p, .p, .p, .p, .p, .p, .p, .p, .p] ?_)
   refine .mv rfl rfl <| .mv rfl rfl <| .mv rfl rfl <| .P rfl (q_sub rfl rfl (w64 (by omega))) <| .P rfl (qIi underlying244 sizeOf184 rfl rfl (by omega) (idx_mag (l := (magN (N * dS N))) (k := dK N - 1) (b := nth (magN (N * dS N)) (dK N - 1)) (r := []) (last_drop (by show dK N ≠ 0; omega)) (by omega))) <| .P rfl (qLo isAgg184 rfl) <| .P rfl (q_quo rfl rfl (by omega) (quoNN (topOf_lt haO i (dK N)))) <| .P rfl (q_min rfl rfl rfl) <| .ag rfl rfl <| .nil ?_
   refine Run.seq ?_
   refine Run.block ?_
   refine Run.loop (ι := divMany_ok_L1 M N a out i) (fun sx => [(9, .gs 0 (dL M N + 2)), (10, sMag (magN (N * dS N))), (11, .i (dK N)), (12, .gs 1 (dL M N + 2 - dK N)), (8, .raw (.int .u64 ((dS N) : Int))), (13, .i (i : Int)), (14, .raw (.int .u64 ((topOf a i (dK N)) : Int))), (15, .raw (.int .u64 (sx.g : Int)))]) (fun sx => [(1, .arr 1 (encMag out)), (0, .arr 1 (encMag a))]) (fun sx => sx.g) ⟨_, hg0⟩ ?_ ?_
   ·exact Le.mk rfl (.cons rfl (Sub.gs (by simp)) rfl (.s rfl rfl (.s rfl rfl (.cons rfl (Sub.gs (by simp)) rfl (.s rfl rfl (.cons rfl (Sub.int (by simp)) rfl (.s rfl rfl (.cons rfl (Sub.int (by exact min_gB _)) rfl .nil)))))))) (.arr rfl (by rfl) (.arr rfl (by rfl) .nil))
   ·rintro ⟨g, hgs⟩
    show Run _ _ _ _ [(9, .gs 0 (dL M N + 2)), (10, sMag (magN (N * dS N))), (11, .i (dK N)), (12, .gs 1 (dL M N + 2 - dK N)), (8, .raw (.int .u64 ((dS N) : Int))), (13, .i (i : Int)), (14, .raw (.int .u64 ((topOf a i (dK N)) : Int))), (15, .raw (.int .u64 (g : Int)))] [(1, .arr 1 (encMag out)), (0, .arr 1 (encMag a))]
    refine Run.block ?_
    refine Run.seq (Run.reg [.p, .p, .p, .p, .p, .p, .p, .p, .p, .p] ?_)
    refine .mv rfl rfl <| .mv rfl rfl <| .mv rfl rfl <| .mv rfl rfl <| .P rfl (q_sub rfl rfl (w64 (by omega))) <| .P rfl (qIi underlying244 sizeOf184 rfl rfl (by omega) (idx_mag (l := (magN (N * dS N))) (k := dK N - 1) (b := nth (magN (N * dS N)) (dK N - 1)) (r := []) (last_drop (by show dK N ≠ 0; omega)) (by omega))) <| .P rfl (qLo isAgg184 rfl) <| .P rfl (q_mul rfl rfl (mulN rfl (mulBB hgs.1 (nth_ok hb (dK N - 1))))) <| .P rfl (q_sub rfl rfl (subN hgs.2.1 (topOf_lt haO i (dK N)))) <| .ag rfl rfl <| .nil ?_
    refine Run.seq (Run.seq (Run.regD [.p, .p, .p, .p, .p, .p, .p, .p, .p, .p, .p, .p, .p, .p, .p, .p, .p, .p, .r, .p, .p, .p] Tryz_mixed (by decide +kernel) ?_))
    refine .mv rfl rfl <| .P rfl (q_geq rfl rfl) <| .mv rfl rfl <| .gF rfl (.inl rfl) rfl rfl rfl (fun hg => pk (fun _ => qMv rfl _)) <| .gF rfl (.inl rfl) rfl rfl rfl (fun hg => pk (fun _ => qMv rfl _)) <| .gF rfl (.inl rfl) rfl rfl rfl (fun hg => pk (fun _ => qMv rfl _)) <| .gF rfl (.inl rfl) rfl rfl rfl (fun hg => pk (fun _ => q_sub (opT rfl (nt hg)) rfl (w64 (by omega)) _)) <| .gF rfl (.inl rfl) rfl rfl rfl (fun hg => pk (fun _ => qIi underlying244 sizeOf184 (opT rfl (nt hg)) (opT rfl (nt hg)) (by omega) (idx_mag (l := (magN (N * dS N))) (k := dK N - 2) (b := nth (magN (N * dS N)) (dK N - 2)) (r := _) (drop_nth (by show dK N - 2 < dK N; omega)) (by omega)) _)) <| .gF rfl (.inl rfl) rfl rfl rfl (fun hg => pk (fun _ => qLo isAgg184 (opT rfl (nt hg)) _)) <| .gF rfl (.inl rfl) rfl rfl rfl (fun hg => pk (fun _ => q_mul (opT rfl (nt hg)) (opT rfl (nt hg)) (mulN rfl (mulBB hgs.1 (nth_ok hb (dK N - 2)))) _)) <| .gF rfl (.inl rfl) rfl rfl rfl (fun hg => pk (fun _ => qMv rfl _)) <| .gF rfl (.inl rfl) rfl rfl rfl (fun hg => pk (fun _ => q_mul (opT rfl (nt hg)) rfl (mulN (c := gB) (by decide) (mulB (by have h9 := of_decide_eq_false hg; unfold gB at *; omega)).1) _)) <| .gF rfl (.inl rfl) rfl rfl rfl (fun hg => pk (fun _ => qMv rfl _)) <| .gF rfl (.inl rfl) rfl rfl rfl (fun hg => pk (fun _ => qMv rfl _)) <| .gF rfl (.inl rfl) rfl rfl rfl (fun hg => pk (fun _ => qMv rfl _)) <| .gF rfl (.inl rfl) rfl rfl rfl (fun hg => pk (fun _ => q_add (opT rfl (nt hg)) (opT rfl (nt hg)) (w64 (by omega)) _)) ?_
    refine .gF rfl (.inl rfl) rfl rfl rfl (fun hg => pk (fun _ => q_sub (opT rfl (nt hg)) rfl (w64 (by omega)) _)) <| .gF rfl (.inl rfl) rfl rfl rfl (fun hg => pk (fun _ => qIx (off := (i + dK N - 2) * 1) underlying244 sizeOf184 (opT rfl (nt hg)) (opT rfl (nt hg)) (by omega) (by omega) (by omega) _)) <| .gF rfl (.inr rfl) rfl rfl rfl (fun hg => rk (qG1 (r := _) (i + dK N - 2) 0 isAgg184 (opT rfl (nt hg)) rfl rfl (enc_nth (by simp at *; omega)) rfl)) <| .gF rfl (.inl rfl) rfl rfl rfl (fun hg => pk (fun _ => q_add (opT rfl (nt hg)) (opT rfl (nt hg)) (addN ((mulB (by have h9 := of_decide_eq_false hg; unfold gB at *; omega)).2 _ (nth_ok haO (i + dK N - 2)))) _)) <| .gF rfl (.inl rfl) rfl rfl rfl (fun hg => pk (fun _ => q_leq (opT rfl (nt hg)) (opT rfl (nt hg)) _)) <| .P rfl (q_or rfl rfl) <| .nil ?_
    refine Run.cond rfl (fun h1 => ?_) (fun h1 => ?_)
    ·have ph1 := h1; try simp only [bs] at ph1
     refine Run.exit (bq_pass rfl (tX0 (bX0 ?_)))
     refine Run.seq (Run.reg [.p] ?_)
     refine .ag rfl rfl <| .nil ?_
     refine Run.seq (Run.seq (Run.reg [.p, .p, .p] ?_))
     refine .mv rfl rfl <| .P rfl (qLe underlying244 rfl) <| .mv rfl rfl <| .nil ?_
     refine Run.block ?_
     refine Run.loop (ι := divMany_ok_L2 M N a out i g) (fun sx => [(9, .gs 0 (dL M N + 2)), (10, sMag (magN (N * dS N))), (11, .i (dK N)), (12, .gs 1 (dL M N + 2 - dK N)), (8, .raw (.int .u64 ((dS N) : Int))), (13, .i (i : Int)), (15, .raw (.int .u64 (g : Int))), (17, .raw (.int .u64 (sx.c : Int))), (134, sMag (magN (N * dS N))), (135, .i (dK N)), (136, .i sx.pre2.length)]) (fun sx => [(1, .arr 1 (encMag out)), (0, .arr 1 (encMag sx.a1))]) (fun sx => sx.rest2.length) ⟨[], _, a, 0, rfl, MS0 haO g i (dK N), by rcases ph1 with h9 | h9; exact GS2k haO hb hl (fun j hj => hz j hj) rfl hk2 hv1 hgs (.inl (by unfold gB; omega)); exact GS2k haO hb hl (fun j hj => hz j hj) rfl hk2 hv1 hgs (.inr (by omega))⟩ ?_ ?_
     ·exact Le.mk rfl (.cons rfl (Sub.refl _) rfl (.s rfl rfl (.s rfl rfl (.cons rfl (Sub.refl _) rfl (.s rfl rfl (.s rfl rfl (.s rfl rfl (.s rfl rfl (.s rfl rfl (.cons rfl (Sub.int (by simp; omega)) rfl (.s rfl rfl .nil))))))))))) (.arr rfl (by rfl) (.arr rfl (by rfl) .nil))
     ·rintro ⟨pre2, rest2, a1, c, hx2, hm, hg2⟩
      show Run _ _ _ _ [(9, .gs 0 (dL M N + 2)), (10, sMag (magN (N * dS N))), (11, .i (dK N)), (12, .gs 1 (dL M N + 2 - dK N)), (8, .raw (.int .u64 ((dS N) : Int))), (13, .i (i : Int)), (15, .raw (.int .u64 (g : Int))), (17, .raw (.int .u64 (c : Int))), (134, sMag (magN (N * dS N))), (135, .i (dK N)), (136, .i pre2.length)] [(1, .arr 1 (encMag out)), (0, .arr 1 (encMag a1))]
      have hl2 := congrArg List.length hx2
      simp only [List.length_append] at hl2
      rcases rest2 with _ | ⟨x2, rest2⟩
      ·obtain rfl : pre2 = (magN (N * dS N)) := by simpa using hx2.symm
       have hal1 := hm.2.2.1
       refine Run.seq (Run.reg [.p] ?_)
       refine .P rfl (q_lss rfl rfl) <| .nil ?_
       refine Run.seq ?_
       refine Run.condF rfl (by simp; omega) ?_
       refine Run.exit (tX0 (bX0 ?_))
       refine Run.seq (Run.seq (Run.reg [.p, .p, .p, .p, .p, .r, .p, .p] ?_))
       refine .mv rfl rfl <| .mv rfl rfl <| .mv rfl rfl <| .P rfl (q_add rfl rfl (w64 (by omega))) <| .P rfl (qIx (off := (i + dK N) * 1) underlying244 sizeOf184 rfl rfl (by omega) (by omega) (by omega)) <| .R rfl (qG1 (r := _) (i + dK N) 0 isAgg184 rfl rfl rfl (enc_nth (by simp at *; omega)) rfl) <| .mv rfl rfl <| .P rfl (q_geq rfl rfl) <| .nil ?_
       refine Run.cond rfl (fun h2 => ?_) (fun h2 => ?_)
       ·have ph2 := h2; try simp only [bs] at ph2
        refine Run.reg [.p, .p, .p, .p, .p, .r, .p, .p, .p, .w] ?_
        refine .mv rfl rfl <| .mv rfl rfl <| .mv rfl rfl <| .P rfl (q_add rfl rfl (w64 (by omega))) <| .P rfl (qIx (off := (i + dK N) * 1) underlying244 sizeOf184 rfl rfl (by omega) (by omega) (by omega)) <| .R rfl (qG1 (r := _) (i + dK N) 0 isAgg184 rfl rfl rfl (enc_nth (by simp at *; omega)) rfl) <| .mv rfl rfl <| .P rfl (q_sub rfl rfl (subN (by omega) (by have := nth_ok hm.1 (i + dK N); unfold gB at *; omega))) <| .P rfl (qIx (off := (i + dK N) * 1) underlying244 sizeOf184 rfl rfl (by omega) (by omega) (by omega)) <| .W rfl (qS1 (r := _) (i + dK N) 0 sizeOf184 rfl rfl rfl rfl rfl rfl (enc_nth (by simp at *; omega)) (by simp)) <| .nil ?_
        refine Run.reg [.p, .p, .p, .p, .w] ?_
        refine .mv rfl rfl <| .mv rfl rfl <| .mv rfl rfl <| .P rfl (qIx (off := (i) * 1) underlying244 sizeOf184 rfl rfl (by omega) (by omega) (by omega)) <| .W rfl (qS1 (r := _) (i) 0 sizeOf184 rfl rfl rfl rfl rfl rfl (enc_nth (by simp at *; omega)) (by simp)) <| .nil ?_
        refine Run.nil (bN0 ?_)
        refine Run.reg [.p, .p, .p] ?_
        refine .mv rfl rfl <| .P rfl (q_sub rfl rfl (w64 (by omega))) <| .ag rfl rfl <| .nil ?_
        refine Run.nil (tN0 ?_)
        exact ⟨⟨a1.set (i + dK N) (nth a1 (i + dK N) - c), out.set i g, i, DO_good hd (magN_val _) (by simpa [magN_val] using hgs.2.2) hgs.1 hm rfl (by omega) (by omega) (by omega), by simp; omega, by simp; omega⟩, by simp, Le.mk rfl (.cons rfl (Sub.refl _) rfl (.s rfl rfl (.s rfl rfl (.cons rfl (Sub.refl _) rfl (.s rfl rfl (.s rfl rfl .nil)))))) (.arr rfl (by exact enc_setJ) (.arr rfl (by exact enc_setJ) .nil))⟩
       ·have ph2 := h2; try simp only [bs] at ph2
        have hg1 := MS_pos hd hb (magN_val _) rfl hm (by omega)
        refine Run.seq (Run.reg [.p, .p, .p] ?_)
        refine .mv rfl rfl <| .P rfl (q_sub rfl rfl (subN (b := 1) (by omega) (by have := hgs.1; unfold gB at *; omega))) <| .ag rfl rfl <| .nil ?_
        refine Run.seq (Run.reg [.p] ?_)
        refine .ag rfl rfl <| .nil ?_
        refine Run.seq (Run.seq (Run.reg [.p, .p, .p] ?_))
        refine .mv rfl rfl <| .P rfl (qLe underlying244 rfl) <| .mv rfl rfl <| .nil ?_
        refine Run.block ?_
        refine Run.loop (ι := divMany_ok_L3 M N a1 out i g c) (fun sx => [(9, .gs 0 (dL M N + 2)), (10, sMag (magN (N * dS N))), (11, .i (dK N)), (12, .gs 1 (dL M N + 2 - dK N)), (8, .raw (.int .u64 ((dS N) : Int))), (13, .i (i : Int)), (15, .raw (.int .u64 ((g - 1 : Nat) : Int))), (17, .raw (.int .u64 (c : Int))), (20, .raw (.int .u64 (sx.d : Int))), (198, sMag (magN (N * dS N))), (199, .i (dK N)), (200, .i sx.pre2.length)]) (fun sx => [(1, .arr 1 (encMag out)), (0, .arr 1 (encMag sx.a2))]) (fun sx => sx.rest2.length) ⟨[], _, a1, 0, rfl, AB0 hm.1 i (dK N)⟩ ?_ ?_
        ·exact Le.mk rfl (.cons rfl (Sub.refl _) rfl (.s rfl rfl (.s rfl rfl (.cons rfl (Sub.refl _) rfl (.s rfl rfl (.s rfl rfl (.s rfl rfl (.s rfl rfl (.s rfl rfl (.s rfl rfl (.cons rfl (Sub.int (by simp; omega)) rfl (.s rfl rfl .nil)))))))))))) (.arr rfl (by rfl) (.arr rfl (by rfl) .nil))
        ·rintro ⟨pre2, rest2, a2, d, hx2, hp⟩
         show Run _ _ _ _ [(9, .gs 0 (dL M N + 2)), (10, sMag (magN (N * dS N))), (11, .i (dK N)), (12, .gs 1 (dL M N + 2 - dK N)), (8, .raw (.int .u64 ((dS N) : Int))), (13, .i (i : Int)), (15, .raw (.int .u64 ((g - 1 : Nat) : Int))), (17, .raw (.int .u64 (c : Int))), (20, .raw (.int .u64 (d : Int))), (198, sMag (magN (N * dS N))), (199, .i (dK N)), (200, .i pre2.length)] [(1, .arr 1 (encMag out)), (0, .arr 1 (encMag a2))]
         have hl2 := congrArg List.length hx2
         simp only [List.length_append] at hl2
         rcases rest2 with _ | ⟨x2, rest2⟩
         ·obtain rfl : pre2 = (magN (N * dS N)) := by simpa using hx2.symm
          have hal1 := hm.2.2.1
          have hal2 := hp.2.2.1
          have hdb := DO_bad hd hb (magN_val _) rfl (by simpa [magN_val] using hg2) hgs.1 hm (by omega) hp (by omega) (by omega)
          refine Run.seq (Run.reg [.p] ?_)
          refine .P rfl (q_lss rfl rfl) <| .nil ?_
          refine Run.seq ?_
          refine Run.condF rfl (by simp; omega) ?_
          refine Run.exit (tX0 (bX0 ?_))
          refine Run.reg [.p, .p, .p, .p, .p, .p, .p, .p, .p, .r, .p, .p, .p, .p, .p, .w] ?_
          refine .mv rfl rfl <| .mv rfl rfl <| .mv rfl rfl <| .P rfl (q_add rfl rfl (w64 (by omega))) <| .mv rfl rfl <| .mv rfl rfl <| .mv rfl rfl <| .P rfl (q_add rfl rfl (w64 (by omega))) <| .P rfl (qIx (off := (i + dK N) * 1) underlying244 sizeOf184 rfl rfl (by omega) (by omega) (by omega)) <| .R rfl (qG1 (r := _) (i + dK N) 0 isAgg184 rfl rfl rfl (enc_nth (by simp at *; omega)) rfl) <| .mv rfl rfl <| .P rfl (q_add rfl rfl (addN (by have := nth_ok hp.1 (i + dK N); have := hp.2.1; unfold gB at *; omega))) <| .mv rfl rfl <| .P rfl (q_sub rfl rfl (subN (by have := hdb.2.1; omega) (by have := nth_ok hp.1 (i + dK N); have := hp.2.1; unfold gB at *; omega))) <| .P rfl (qIx (off := (i + dK N) * 1) underlying244 sizeOf184 rfl rfl (by omega) (by omega) (by omega)) <| .W rfl (qS1 (r := _) (i + dK N) 0 sizeOf184 rfl rfl rfl rfl rfl rfl (enc_nth (by simp at *; omega)) (by simp)) <| .nil ?_
          refine Run.reg [.p, .p, .p, .p, .w] ?_
          refine .mv rfl rfl <| .mv rfl rfl <| .mv rfl rfl <| .P rfl (qIx (off := (i) * 1) underlying244 sizeOf184 rfl rfl (by omega) (by omega) (by omega)) <| .W rfl (qS1 (r := _) (i) 0 sizeOf184 rfl rfl rfl rfl rfl rfl (enc_nth (by simp at *; omega)) (by simp)) <| .nil ?_
          refine Run.nil (bN0 ?_)
          refine Run.reg [.p, .p, .p] ?_
          refine .mv rfl rfl <| .P rfl (q_sub rfl rfl (w64 (by omega))) <| .ag rfl rfl <| .nil ?_
          refine Run.nil (tN0 ?_)
          exact ⟨⟨a2.set (i + dK N) (nth a2 (i + dK N) + d - c), out.set i (g - 1), i, hdb.2.2, by simp; omega, by simp; omega⟩, by simp, Le.mk rfl (.cons rfl (Sub.refl _) rfl (.s rfl rfl (.s rfl rfl (.cons rfl (Sub.refl _) rfl (.s rfl rfl (.s rfl rfl .nil)))))) (.arr rfl (by exact enc_setJ) (.arr rfl (by exact enc_setJ) .nil))⟩
         ·simp only [List.length_cons] at hl2
          have hal1 := hm.2.2.1
          have hal2 := hp.2.2.1
          have hxb := hb x2 (by rw [hx2]; simp)
          have hkk : (pre2 ++ x2 :: rest2).length = dK N := by rw [← hx2]; rfl
          refine Run.seq (Run.reg [.p] ?_)
          refine .P rfl (q_lss rfl rfl) <| .nil ?_
          refine Run.seq ?_
          refine Run.condT rfl (by simp; omega) ?_
          refine Run.skip ?_
          refine Run.seq ?_
          refine Run.block ?_
          refine Run.seq (Run.reg [.p, .p] ?_)
          refine .mv rfl rfl <| .ag rfl rfl <| .nil ?_
          refine Run.seq (Run.regD [.p, .p, .p, .p, .p, .r, .p, .p, .p, .p, .p, .p, .p, .p, .w] Tryz_mixed (by decide +kernel) ?_)
          refine .mv rfl rfl <| .mv rfl rfl <| .mv rfl rfl <| .P rfl (q_add rfl rfl (w64 (by omega))) <| .P rfl (qIx (off := (i + pre2.length) * 1) underlying244 sizeOf184 rfl rfl (by omega) (by omega) (by omega)) <| .R rfl (qG1 (r := _) (i + pre2.length) 0 isAgg184 rfl rfl rfl (enc_nth (by simp at *; omega)) rfl) <| .mv rfl rfl <| .mv rfl rfl <| .P rfl (qIi underlying244 sizeOf184 rfl rfl (by omega) (iMd (fun (n : Nat) => [D.raw (.int .u64 (n : Int))]) hx2 rfl)) <| .P rfl (qLo isAgg184 rfl) <| .mv rfl rfl <| .P rfl (q_add rfl rfl (addN (by have := hp.2.1; unfold gB at *; omega))) <| .P rfl (q_add rfl rfl (addN (by have := nth_ok hp.1 (i + pre2.length); have := hp.2.1; unfold gB at *; omega))) <| .P rfl (qIx (off := (i + pre2.length) * 1) underlying244 sizeOf184 rfl rfl (by omega) (by omega) (by omega)) <| .W rfl (qS1 (r := _) (i + pre2.length) 0 sizeOf184 rfl rfl rfl rfl rfl rfl (enc_nth (by simp at *; omega)) (by simp)) <| .nil ?_
          refine Run.seq (Run.reg [.p, .p, .p, .p, .p, .r, .p, .p] ?_)
          refine .mv rfl rfl <| .mv rfl rfl <| .mv rfl rfl <| .P rfl (q_add rfl rfl (w64 (by omega))) <| .P rfl (qIx (off := (i + pre2.length) * 1) underlying244 sizeOf184 rfl rfl (by omega) (by omega) (by omega)) <| .R rfl (qG1 (r := _) (i + pre2.length) 0 isAgg184 rfl rfl rfl (row_set (enc_nth (by simp at *; omega))) rfl) <| .P rfl (q_quo rfl rfl (by decide) (quoN (by have := nth_ok hp.1 (i + pre2.length); have := hp.2.1; unfold gB at *; omega))) <| .ag rfl rfl <| .nil ?_
          refine Run.reg [.p, .p, .p, .p, .p, .r, .p, .p, .w] ?_
          refine .mv rfl rfl <| .mv rfl rfl <| .mv rfl rfl <| .P rfl (q_add rfl rfl (w64 (by omega))) <| .P rfl (qIx (off := (i + pre2.length) * 1) underlying244 sizeOf184 rfl rfl (by omega) (by omega) (by omega)) <| .R rfl (qG1 (r := _) (i + pre2.length) 0 isAgg184 rfl rfl rfl (row_set (enc_nth (by simp at *; omega))) rfl) <| .P rfl (q_rem rfl rfl (by decide) (remN _)) <| .P rfl (qIx (off := (i + pre2.length) * 1) underlying244 sizeOf184 rfl rfl (by omega) (by omega) (by omega)) <| .W rfl (qS1 (r := _) (i + pre2.length) 0 sizeOf184 rfl rfl rfl rfl rfl rfl (row_set (enc_nth (by simp at *; omega))) (by simp)) <| .nil ?_
          refine Run.nil (bN0 ?_)
          refine Run.reg [.p, .p] ?_
          refine .P rfl (q_add rfl rfl (w64 (by omega))) <| .mv rfl rfl <| .nil ?_
          refine Run.nil (tN0 ?_)
          exact ⟨⟨pre2 ++ [x2], rest2, a2.set (i + pre2.length) ((nth a2 (i + pre2.length) + (x2 + d)) % gB), (nth a2 (i + pre2.length) + (x2 + d)) / gB, by simp [hx2], AB1 hp hxb (by simp at hkk; omega) (by simp at hkk; have := hp.2.2.1; have := hm.2.2.1; omega)⟩, by simp, Le.mk rfl (.cons rfl (Sub.refl _) rfl (.s rfl rfl (.s rfl rfl (.cons rfl (Sub.refl _) rfl (.s rfl rfl (.s rfl rfl (.s rfl rfl (.s rfl rfl (.s rfl rfl (.s rfl rfl (.s rfl rfl (.cons rfl (Sub.int (by simp)) rfl .nil)))))))))))) (.arr rfl (by rfl) (.arr rfl (by simp [encMag]) .nil))⟩
      ·simp only [List.length_cons] at hl2
       have hal1 := hm.2.2.1
       have hxb := hb x2 (by rw [hx2]; simp)
       have hkk : (pre2 ++ x2 :: rest2).length = dK N := by rw [← hx2]; rfl
       refine Run.seq (Run.reg [.p] ?_)
       refine .P rfl (q_lss rfl rfl) <| .nil ?_
       refine Run.seq ?_
       refine Run.condT rfl (by simp; omega) ?_
       refine Run.skip ?_
       refine Run.seq ?_
       refine Run.block ?_
       refine Run.seq (Run.reg [.p, .p] ?_)
       refine .mv rfl rfl <| .ag rfl rfl <| .nil ?_
       refine Run.seq (Run.reg [.p, .p, .p, .p, .p, .p, .p, .p, .p] ?_)
       refine .mv rfl rfl <| .mv rfl rfl <| .mv rfl rfl <| .P rfl (qIi underlying244 sizeOf184 rfl rfl (by omega) (iMd (fun (n : Nat) => [D.raw (.int .u64 (n : Int))]) hx2 rfl)) <| .P rfl (qLo isAgg184 rfl) <| .P rfl (q_mul rfl rfl (mulN rfl (MS_wrap hgs.1 hxb hm.2.1).1)) <| .mv rfl rfl <| .P rfl (q_add rfl rfl (addN (MS_wrap hgs.1 hxb hm.2.1).2)) <| .ag rfl rfl <| .nil ?_
       refine Run.seq (Run.reg [.p, .p, .p] ?_)
       refine .mv rfl rfl <| .P rfl (q_quo rfl rfl (by decide) (quoN (MS_wrap hgs.1 hxb hm.2.1).2)) <| .ag rfl rfl <| .nil ?_
       refine Run.seq (Run.reg [.p, .p, .p] ?_)
       refine .mv rfl rfl <| .P rfl (q_rem rfl rfl (by decide) (remN _)) <| .ag rfl rfl <| .nil ?_
       refine Run.seq (Run.seq (Run.reg [.p, .p, .p, .p, .p, .r, .p, .p] ?_))
       refine .mv rfl rfl <| .mv rfl rfl <| .mv rfl rfl <| .P rfl (q_add rfl rfl (w64 (by omega))) <| .P rfl (qIx (off := (i + pre2.length) * 1) underlying244 sizeOf184 rfl rfl (by omega) (by omega) (by omega)) <| .R rfl (qG1 (r := _) (i + pre2.length) 0 isAgg184 rfl rfl rfl (enc_nth (by simp at *; omega)) rfl) <| .mv rfl rfl <| .P rfl (q_lss rfl rfl) <| .nil ?_
       refine Run.cond rfl (fun h3 => ?_) (fun h3 => ?_)
       ·have ph3 := h3; try simp only [bs] at ph3
        refine Run.seq (Run.reg [.p, .p, .p, .p, .p, .r, .p, .p, .w] ?_)
        refine .mv rfl rfl <| .mv rfl rfl <| .mv rfl rfl <| .P rfl (q_add rfl rfl (w64 (by omega))) <| .P rfl (qIx (off := (i + pre2.length) * 1) underlying244 sizeOf184 rfl rfl (by omega) (by omega) (by omega)) <| .R rfl (qG1 (r := _) (i + pre2.length) 0 isAgg184 rfl rfl rfl (enc_nth (by simp at *; omega)) rfl) <| .P rfl (q_add rfl rfl (addN (b := gB) (by have := nth_ok hm.1 (i + pre2.length); unfold gB at *; omega))) <| .P rfl (qIx (off := (i + pre2.length) * 1) underlying244 sizeOf184 rfl rfl (by omega) (by omega) (by omega)) <| .W rfl (qS1 (r := _) (i + pre2.length) 0 sizeOf184 rfl rfl rfl rfl rfl rfl (enc_nth (by simp at *; omega)) (by simp)) <| .nil ?_
        refine Run.reg [.p, .p, .p] ?_
        refine .mv rfl rfl <| .P rfl (q_add rfl rfl (addN (b := 1) (by have := MS_div hgs.1 hxb hm.2.1; unfold gB at *; omega))) <| .ag rfl rfl <| .nil ?_
        refine Run.reg [.p, .p, .p, .p, .p, .r, .p, .p, .p, .w] ?_
        refine .mv rfl rfl <| .mv rfl rfl <| .mv rfl rfl <| .P rfl (q_add rfl rfl (w64 (by omega))) <| .P rfl (qIx (off := (i + pre2.length) * 1) underlying244 sizeOf184 rfl rfl (by omega) (by omega) (by omega)) <| .R rfl (qG1 (r := _) (i + pre2.length) 0 isAgg184 rfl rfl rfl (row_set (enc_nth (by simp at *; omega))) rfl) <| .mv rfl rfl <| .P rfl (q_sub rfl rfl (subN (by have := T_mod (g * x2 + c); omega) (by have := nth_ok hm.1 (i + pre2.length); unfold gB at *; omega))) <| .P rfl (qIx (off := (i + pre2.length) * 1) underlying244 sizeOf184 rfl rfl (by omega) (by omega) (by omega)) <| .W rfl (qS1 (r := _) (i + pre2.length) 0 sizeOf184 rfl rfl rfl rfl rfl rfl (row_set (enc_nth (by simp at *; omega))) (by simp)) <| .nil ?_
        refine Run.nil (bN0 ?_)
        refine Run.reg [.p, .p] ?_
        refine .P rfl (q_add rfl rfl (w64 (by omega))) <| .mv rfl rfl <| .nil ?_
        refine Run.nil (tN0 ?_)
        exact ⟨⟨pre2 ++ [x2], rest2, a1.set (i + pre2.length) (nth a1 (i + pre2.length) + gB - (g * x2 + c) % gB), (g * x2 + c) / gB + 1, by simp [hx2], MS1 (e := 1) hm hgs.1 hxb (by simp at hkk; omega) (by simp at hkk; have := hm.2.2.1; omega) (by have := T_mod (g * x2 + c); omega) (by omega) (MS_carry hgs.1 hxb hm.2.1 (x := nth a1 (i + pre2.length)) (by omega)), hg2⟩, by simp, Le.mk rfl (.cons rfl (Sub.refl _) rfl (.s rfl rfl (.s rfl rfl (.cons rfl (Sub.refl _) rfl (.s rfl rfl (.s rfl rfl (.s rfl rfl (.s rfl rfl (.s rfl rfl (.s rfl rfl (.cons rfl (Sub.int (by simp)) rfl .nil))))))))))) (.arr rfl (by rfl) (.arr rfl (by simp [encMag]) .nil))⟩
       ·have ph3 := h3; try simp only [bs] at ph3
        refine Run.skip ?_
        refine Run.reg [.p, .p, .p, .p, .p, .r, .p, .p, .p, .w] ?_
        refine .mv rfl rfl <| .mv rfl rfl <| .mv rfl rfl <| .P rfl (q_add rfl rfl (w64 (by omega))) <| .P rfl (qIx (off := (i + pre2.length) * 1) underlying244 sizeOf184 rfl rfl (by omega) (by omega) (by omega)) <| .R rfl (qG1 (r := _) (i + pre2.length) 0 isAgg184 rfl rfl rfl (enc_nth (by simp at *; omega)) rfl) <| .mv rfl rfl <| .P rfl (q_sub rfl rfl (subN (by have := T_mod (g * x2 + c); omega) (by have := nth_ok hm.1 (i + pre2.length); unfold gB at *; omega))) <| .P rfl (qIx (off := (i + pre2.length) * 1) underlying244 sizeOf184 rfl rfl (by omega) (by omega) (by omega)) <| .W rfl (qS1 (r := _) (i + pre2.length) 0 sizeOf184 rfl rfl rfl rfl rfl rfl (enc_nth (by simp at *; omega)) (by simp)) <| .nil ?_
        refine Run.nil (bN0 ?_)
        refine Run.reg [.p, .p] ?_
        refine .P rfl (q_add rfl rfl (w64 (by omega))) <| .mv rfl rfl <| .nil ?_
        refine Run.nil (tN0 ?_)
        exact ⟨⟨pre2 ++ [x2], rest2, a1.set (i + pre2.length) (nth a1 (i + pre2.length) - (g * x2 + c) % gB), (g * x2 + c) / gB + 0, by simp [hx2], MS1 (e := 0) hm hgs.1 hxb (by simp at hkk; omega) (by simp at hkk; have := hm.2.2.1; omega) (by omega) (by have := nth_ok hm.1 (i + pre2.length); omega) (MS_div hgs.1 hxb hm.2.1), hg2⟩, by simp, Le.mk rfl (.cons rfl (Sub.refl _) rfl (.s rfl rfl (.s rfl rfl (.cons rfl (Sub.refl _) rfl (.s rfl rfl (.s rfl rfl (.s rfl rfl (.s rfl rfl (.s rfl rfl (.s rfl rfl (.cons rfl (Sub.int (by simp)) rfl .nil))))))))))) (.arr rfl (by rfl) (.arr rfl (by exact enc_setJ) .nil))⟩
    ·have ph1 := h1; try simp only [bs] at ph1
     have hg1 := (GS1k haO hb hl (fun j hj => hz j hj) rfl hk2 hgs (by omega)).1
     refine Run.skip ?_
     refine Run.reg [.p, .p, .p] ?_
     refine .mv rfl rfl <| .P rfl (q_sub rfl rfl (subN (b := 1) (by omega) (by have := hgs.1; unfold gB at *; omega))) <| .ag rfl rfl <| .nil ?_
     refine Run.nil (bN0 ?_)
     refine Run.nil (tN0 ?_)
     exact ⟨⟨g - 1, (GS1k haO hb hl (fun j hj => hz j hj) rfl hk2 hgs (by omega)).2⟩, by simp; omega, Le.mk rfl (.cons rfl (Sub.gs (by simp)) rfl (.s rfl rfl (.s rfl rfl (.cons rfl (Sub.gs (by simp)) rfl (.s rfl rfl (.s rfl rfl (.s rfl rfl (.s rfl rfl .nil)))))))) (.arr rfl (by rfl) (.arr rfl (by rfl) .nil))⟩
end Go.T
namespace Go.T
open Go
def euc (m n : Nat) : List (Nat × Nat) := if h : n = 0 then [(m, n)] else (m, n) :: euc n (m % n)
termination_by n
decreasing_by exact Nat.mod_lt _ (Nat.pos_of_ne_zero h)
theorem euc_0 (m : Nat) : euc m 0 = [(m, 0)] := by rw [euc]; simp
theorem euc_S {m n : Nat} (h : n ≠ 0) : euc m n = (m, n) :: euc n (m % n) := by rw [euc]; simp [h]
theorem euc_cons (m n : Nat) : ∃ r, euc m n = (m, n) :: r := by
 by_cases h : n = 0
 ·subst h; exact ⟨[], euc_0 m⟩
 ·exact ⟨_, euc_S h⟩
def lastM (l : List (Nat × Nat)) : Nat := (l.getLast?.getD (0, 0)).1
theorem lastM_snoc (l : List (Nat × Nat)) (x : Nat × Nat) : lastM (l ++ [x]) = x.1 := by simp [lastM]
theorem lastM_euc (m n : Nat) : lastM (euc m n) = Nat.gcd m n := by
 induction n using Nat.strongRecOn generalizing m with
 | _ n ih =>
  by_cases h : n = 0
  ·subst h; rw [euc_0]; simp [lastM]
  ·rw [euc_S h]
   obtain ⟨r, hr⟩ := euc_cons n (m % n)
   have h1 := ih (m % n) (Nat.mod_lt _ (Nat.pos_of_ne_zero h)) n
   rw [hr] at h1 ⊢
   rw [Nat.gcd_comm m n, Nat.gcd_rec n m, Nat.gcd_comm (m % n) n, ← h1]
   simp [lastM]
theorem euc_pre {M N m n : Nat} {pre : List (Nat × Nat)} (h : euc M N = pre ++ euc m n) : pre ++ [(m, n)] <+: euc M N := by
 obtain ⟨r, hr⟩ := euc_cons m n
 exact ⟨r, by rw [h, hr]; simp⟩
theorem euc_next {M N m n : Nat} {pre : List (Nat × Nat)} (h : euc M N = pre ++ euc m n) (hn : n ≠ 0) : euc M N = (pre ++ [(m, n)]) ++ euc n (m % n) := by rw [h, euc_S hn]; simp
theorem euc_end {M N m n : Nat} {pre : List (Nat × Nat)} (h : euc M N = pre ++ euc m n) (hn : n = 0) : pre ++ [(m, n)] = euc M N := by subst hn; rw [h, euc_0]
theorem magN_len0 {n : Nat} (h : (magN n).length = 0) : n = 0 := by
 rcases Nat.eq_zero_or_pos n with e | e
 ·exact e
 ·rw [magN_step (by omega)] at h; simp at h
theorem groups_magN (s : Str) : groupsOf (digits s).1 = magN (val s).natAbs := by
 have h := numOK_digits s
 have hv := numV_digits s
 rw [mag_eq h.ok h.cut]
 congr 1
 unfold numV at hv
 split at hv <;> omega
theorem neg_val (s : Str) : (digits s).2 = decide (val s < 0) := by
 have h := numOK_digits s
 have hv := numV_digits s
 cases e : (digits s).2 with
 | true =>
  have := magVal_pos h.cut (h.neg0 e)
  rw [e] at hv; simp [numV] at hv
  exact (decide_eq_true (by omega)).symm
 | false =>
  rw [e] at hv; simp [numV] at hv
  exact (decide_eq_false (by omega)).symm
open Go.Proofs Go.Proofs.Tryz
set_option maxRecDepth 20000
theorem div_ok (M N : Nat) (hML : (magN M).length ≤ 10000) (hNL : (magN N).length ≤ 10000) (hN : N ≠ 0) : Fc Tryz.prog 340 [sMag (magN M), sMag (magN N)] (.tup [sMag (magN (M / N)), sMag (magN (M % N))]) := by
 by_cases h : M < N
 ·exact divLess_ok M N hML hNL h
 ·by_cases h1 : (magN N).length = 1
  ·exact divOne_ok M N hML hNL h h1
  ·refine divMany_ok M N hML hNL h ?_
   have h2 : (magN N).length ≠ 0 := fun e => hN (magN_len0 e)
   omega
structure stepsY_ok_L0 (M N : Nat) where
 pre : List (Nat × Nat)
 m : Nat
 n : Nat
 hs : euc M N = pre ++ euc m n
 hm : (magN m).length ≤ 10000
 hn : (magN n).length ≤ 10000
theorem stepsY_ok (M N : Nat) (hM : (magN M).length ≤ 10000) (hN : (magN N).length ≤ 10000) : FcY (α := Nat × Nat) Tryz.prog 357 8000 [.box 8000 0, .box 8001 0] [(8000, .cells [sMag (magN M)]), (8001, .cells [sMag (magN N)])] (fun p => [sMag (magN p.1), sMag (magN p.2)]) (fun p => p <+: euc M N) (fun p => p = euc M N) := by
 refine FcY.mk' func357 rfl ntmps357 rfl (fun t w => results_none results357 t _ w) (fun idL lb ids B X Y => ?_)
 refine Run.block ?_
 refine Run.loop (ι := stepsY_ok_L0 M N) (fun sx => [(0, yv lb), (1, .box 8000 0), (2, .box 8001 0)]) (fun sx => ([(8000, .cells [sMag (magN sx.m)]), (8001, .cells [sMag (magN sx.n)])] ++ B sx.pre)) (fun sx => sx.n) ⟨[], M, N, rfl, hM, hN⟩ ?_ ?_
 ·exact Le.mk (ps_ok (Y.has _) rfl) (.s rfl rfl (.s rfl rfl (.s rfl rfl .nil))) (.cons rfl rfl (.cons rfl rfl (.tail (tail_ok (own := [(8000, _), (8001, _)]) (own' := [(8000, _), (8001, _)]) rfl (Y.free _) (Y.okb _)))))
 ·rintro ⟨pre, m, n, hs, hm, hn⟩
  show Run _ _ _ _ [(0, yv lb), (1, .box 8000 0), (2, .box 8001 0)] ([(8000, .cells [sMag (magN m)]), (8001, .cells [sMag (magN n)])] ++ B pre)
  refine Run.seq (Run.seq (Run.regT ?_))
  refine Tx.q rfl trivial (qMv rfl _) ?_
  refine Tx.q rfl trivial (q_load1 isAgg244 rfl rfl rfl) ?_
  refine Tx.q rfl trivial (q_load1 isAgg244 rfl rfl rfl) ?_
  refine Tx.weak (Le.mk (obs' := [(8000, _), (8001, _)] ++ B (pre)) (ps_ok (Y.has _) rfl) (show EnvLe _ _ [(0, _), (1, _), (2, _), (6, _), (7, _), (8, _)] from (.s rfl rfl (.s rfl rfl (.s rfl rfl (.s rfl rfl (.s rfl rfl (.s rfl rfl .nil))))))) (.cons (i := 8000) rfl rfl (.cons (i := 8001) rfl rfl (.tail (tail_ok (own := [(8000, _), (8001, _)]) (own' := [(8000, _), (8001, _)]) rfl (Y.free _) (Y.okb _)))))) ?_
  refine Tx.y Y (own := [(8000, _), (8001, _)]) (pre := pre) (env' := [(0, _), (1, _), (2, _), (6, _), (7, _), (8, _)]) (m, n) rfl rfl rfl trivial rfl rfl rfl (euc_pre hs) rfl rfl (.cons rfl rfl (.cons rfl rfl (.cons rfl rfl (.cons rfl rfl (.cons rfl rfl (.cons rfl rfl .nil)))))) ?_ (fun o hX => ?_)
  ·skip
   refine Tx.q rfl trivial (qMv rfl _) ?_
   refine Tx.q rfl (on_of rfl rfl rfl rfl) (q_load1 isAgg244 rfl rfl rfl) ?_
   refine Tx.q rfl (on_of rfl rfl rfl rfl) (qLe underlying244 rfl _) ?_
   refine Tx.q rfl (on_of rfl rfl rfl rfl) (q_gtr rfl rfl _) ?_
   refine Tx.q rfl trivial (q_pickT rfl rfl rfl _) ?_
   refine Tx.nil ?_
   refine Run.cond rfl (fun h1 => ?_) (fun h1 => ?_)
   ·have hn0 : n ≠ 0 := by rintro rfl; simp [encMag, magN_zero] at h1
    refine Run.skip ?_
    refine Run.block ?_
    refine Run.seq (Run.reg [.r, .r, .p, .p, .p, .p, .p, .p] ?_)
    refine .R rfl (q_load1 isAgg244 rfl rfl rfl) <| .R rfl (q_load1 isAgg244 rfl rfl rfl) <| .P rfl (qCa call340 rfl (div_ok _ _ (by assumption) (by assumption) (by assumption))) <| .mv rfl rfl <| .P rfl (qEx rfl rfl) <| .P rfl (qEx rfl rfl) <| .ag rfl rfl <| .ag rfl rfl <| .nil ?_
    refine Run.reg [.r, .p, .w, .w] ?_
    refine .R rfl (q_load1 isAgg244 rfl rfl rfl) <| .mv rfl rfl <| .W rfl (q_store1 sizeOf244 rfl rfl rfl rfl (by simp)) <| .W rfl (q_store1 sizeOf244 rfl rfl rfl rfl (by simp)) <| .nil ?_
    refine Run.nil (bN0 ?_)
    refine Run.nil (tN0 ?_)
    exact ⟨⟨pre ++ [(m, n)], n, m % n, euc_next hs hn0, hn, Nat.le_trans (magN_mono (Nat.le_of_lt (Nat.mod_lt _ (Nat.pos_of_ne_zero hn0)))) hn⟩, by exact Nat.mod_lt _ (Nat.pos_of_ne_zero hn0), Le.mk (ps_ok (Y.has _) rfl) (.s rfl rfl (.s rfl rfl (.s rfl rfl .nil))) (.cons rfl rfl (.cons rfl rfl (.tail (tail_ok (own := [(8000, _), (8001, _)]) (own' := [(8000, _), (8001, _)]) rfl (Y.free _) (Y.okb _)))))⟩
   ·have ph1 := h1; try simp only [bs] at ph1
    refine Run.exit (tX0 (bX0 ?_))
    refine Run.nil ?_
    exact retY_fin (.inr rfl) (pre ++ [(m, n)]) (by exact euc_end hs (magN_len0 (by simpa [encMag] using ph1))) (own_get (own := [(8000, _), (8001, _)]) rfl (Y.free _))
  ·skip
   refine Tx.q rfl trivial (qMv rfl _) ?_
   refine Tx.off rfl (off_of rfl rfl rfl rfl) ?_
   refine Tx.off rfl (off_of rfl rfl rfl rfl) ?_
   refine Tx.off rfl (off_of rfl rfl rfl rfl) ?_
   refine Tx.q rfl trivial (q_pickF rfl rfl rfl _) ?_
   refine Tx.nil ?_
   refine Run.condF rfl rfl ?_
   refine Run.exit (tX0 (bX0 ?_))
   refine Run.nil ?_
   exact retY_x (.inr rfl) o hX (own_get (own := [(8000, _), (8001, _)]) rfl (Y.freeX _ hX))
theorem steps_ok (a b : List Nat) : FcO Tryz.prog 339 [sMag a, sMag b] [] (.fn (.func 357) [] [.box 8000 0, .box 8001 0]) [(8000, .cells [sMag a]), (8001, .cells [sMag b])] := by
 refine FcO.mk' [4] func339 rfl ntmps339 rfl rfl rfl (fun t w => results_tmp results339 t _ w) ?_
 refine Run.seq (Run.reg [.w, .w, .p] ?_)
 refine .W rfl (q_box1 8000 rfl rfl rfl) <| .W rfl (q_box1 8001 rfl rfl rfl) <| .ag rfl rfl <| .nil ?_
 refine Run.seq (Run.reg [.p, .p] ?_)
 refine .P rfl (q_makeFunc (xs := []) (ys := _) rfl rfl) <| .ag rfl rfl <| .nil ?_
 refine Run.ret (?_)
 exact retO1 rfl (by exact Sub.refl _) (.cons rfl rfl (.cons rfl rfl .nil))
end Go.T
namespace Go.T
open Go
theorem magN_text_len (s : Str) : (magN (val s).natAbs).length ≤ s.length := by
 rw [← groups_magN]
 have h1 := groupsOf_len (digits s).1
 have h2 := digits_len s
 omega
theorem val_abs (s : Str) : (val s).natAbs < 10 ^ s.length := by
 have h1 := natVal_lt (digits s).1 (digits_dig s)
 have h2 := digits_len s
 have h3 : 10 ^ (digits s).1.length ≤ 10 ^ s.length := Nat.pow_le_pow_right (by omega) h2
 unfold val
 split <;> omega
theorem ofIntA_len {n : Int} {k : Nat} (h : n.natAbs < 10 ^ k) : (ofInt n).length ≤ k + 1 := by
 have := natDig_len k n.natAbs h
 unfold ofInt
 split <;> simp <;> omega
theorem ofInt_len_le {n : Int} {s : Str} (h : n.natAbs ≤ (val s).natAbs) : (ofInt n).length ≤ s.length + 1 := ofIntA_len (Nat.lt_of_le_of_lt h (val_abs s))
theorem textM_magN (neg : Bool) (n : Nat) : textM neg (magN n) = ofInt (if neg then -(n : Int) else n) := by rw [textM_ofInt _ (magN_ok n), magN_val]
theorem fl_pos {a b : Int} (hb : 0 < b) (h : ¬ (decide (a < 0) = true ∧ a.natAbs % b.natAbs ≠ 0)) : (if decide (a < 0) then -((a.natAbs / b.natAbs : Nat) : Int) else ((a.natAbs / b.natAbs : Nat) : Int)) = a / b := by
 obtain ⟨n, rfl⟩ : ∃ n : Nat, b = n := ⟨b.toNat, by omega⟩
 simp only [Int.natAbs_natCast] at h ⊢
 by_cases ha : a < 0
 ·simp only [ha, decide_true, if_true, true_and] at h ⊢
  have hm : a.natAbs % n = 0 := by omega
  obtain ⟨k, hk⟩ : ∃ k : Nat, a = -(k : Int) := ⟨a.natAbs, by omega⟩
  subst hk
  simp only [Int.natAbs_neg, Int.natAbs_natCast] at hm ⊢
  have hd := Nat.div_add_mod k n
  rw [hm, Nat.add_zero] at hd
  have e : -(k : Int) = (n : Int) * (-((k / n : Nat) : Int)) := by
   rw [Int.mul_neg, ← Int.natCast_mul, hd]
  rw [e, Int.mul_ediv_cancel_left _ (by omega)]
 ·simp only [ha, decide_false] at h ⊢
  obtain ⟨k, hk⟩ : ∃ k : Nat, a = (k : Int) := ⟨a.toNat, by omega⟩
  subst hk
  simp
theorem fl_neg {a b : Int} (hb : 0 < b) (ha : a < 0) (h : a.natAbs % b.natAbs ≠ 0) : -((a.natAbs / b.natAbs + 1 : Nat) : Int) = a / b := by
 obtain ⟨n, rfl⟩ : ∃ n : Nat, b = n := ⟨b.toNat, by omega⟩
 obtain ⟨k, hk⟩ : ∃ k : Nat, a = -(k : Int) := ⟨a.natAbs, by omega⟩
 subst hk
 simp only [Int.natAbs_neg, Int.natAbs_natCast] at h ⊢
 have hd := Nat.div_add_mod k n
 have hlt := Nat.mod_lt k (y := n) (by omega)
 have e : -(k : Int) = (n : Int) * (-((k / n + 1 : Nat) : Int)) + ((n - k % n : Nat) : Int) := by
  have h1 : (k : Int) = (n : Int) * ((k / n : Nat) : Int) + ((k % n : Nat) : Int) := by rw [← Int.natCast_mul, ← Int.natCast_add, hd]
  have h2 : ((n - k % n : Nat) : Int) = (n : Int) - ((k % n : Nat) : Int) := by omega
  have h3 : ((k / n + 1 : Nat) : Int) = ((k / n : Nat) : Int) + 1 := by omega
  rw [h2, h3, Int.mul_neg, Int.mul_add, Int.mul_one]
  omega
 rw [e, Int.add_comm, Int.add_mul_ediv_left _ _ (by omega), Int.ediv_eq_zero_of_lt (by omega) (by omega)]
 omega
theorem magN_pos {n : Nat} (h : 0 < ((magN n).length : Int)) : n ≠ 0 := by
 rintro rfl; rw [magN_zero] at h; simp at h
theorem sgn_T {a b : Int} (hb : 0 < b) (h : ¬ decide (a < 0) = decide (b < 0)) : a < 0 := by
 have : decide (b < 0) = false := by simp; omega
 rw [this] at h; simpa using h
theorem dq_T {a b : Int} (hb : 0 < b) (h : (¬ decide (a < 0) = decide (b < 0)) ∧ 0 < ((magN (a.natAbs % b.natAbs)).length : Int)) : ofInt (if (decide (a < 0) != decide (b < 0)) = true then -((a.natAbs / b.natAbs + 1 : Nat) : Int) else ((a.natAbs / b.natAbs + 1 : Nat) : Int)) = ofInt (a / b) := by
 have ha := sgn_T hb h.1
 have h0 : decide (b < 0) = false := by simp; omega
 rw [if_pos (by simp [ha, h0]), fl_neg hb ha (magN_pos h.2)]
theorem dr_T {a b : Int} (hb : 0 < b) (h : (¬ decide (a < 0) = decide (b < 0)) ∧ 0 < ((magN (a.natAbs % b.natAbs)).length : Int)) : ofInt (if decide (b < 0) = true then -((b.natAbs - a.natAbs % b.natAbs : Nat) : Int) else ((b.natAbs - a.natAbs % b.natAbs : Nat) : Int)) = ofInt (a % b) := by
 have ha := sgn_T hb h.1
 have h1 := fl_neg hb ha (magN_pos h.2)
 rw [if_neg (by simp; omega)]
 congr 1
 have h2 := Int.mul_ediv_add_emod a b
 have h3 := Nat.div_add_mod a.natAbs b.natAbs
 have h4 := Nat.mod_lt a.natAbs (y := b.natAbs) (by omega)
 rw [← h1] at h2
 obtain ⟨n, rfl⟩ : ∃ n : Nat, b = n := ⟨b.toNat, by omega⟩
 simp only [Int.natAbs_natCast] at *
 have h5 : ((n * (a.natAbs / n) + a.natAbs % n : Nat) : Int) = a.natAbs := by rw [h3]
 rw [Int.natCast_add, Int.natCast_mul] at h5
 have h6 : (n : Int) * -((a.natAbs / n + 1 : Nat) : Int) = -((n : Int) * ((a.natAbs / n : Nat) : Int)) - n := by rw [Int.mul_neg, Int.natCast_add, Int.mul_add]; omega
 rw [h6] at h2
 omega
theorem dq_F {a b : Int} (hb : 0 < b) (h : (decide (a < 0) != decide (b < 0)) = false ∨ ((magN (a.natAbs % b.natAbs)).length : Int) ≤ 0) : ofInt (if (decide (a < 0) != decide (b < 0)) = true then -((a.natAbs / b.natAbs : Nat) : Int) else ((a.natAbs / b.natAbs : Nat) : Int)) = ofInt (a / b) := by
 have h0 : decide (b < 0) = false := by simp; omega
 have := fl_pos (a := a) hb (by
  rintro ⟨g1, g2⟩
  rcases h with h | h
  ·rw [g1, h0] at h; simp at h
  ·exact g2 (magN_len0 (by omega)))
 rw [← this, h0]; simp
theorem dr_F {a b : Int} (hb : 0 < b) (h : (decide (a < 0) != decide (b < 0)) = false ∨ ((magN (a.natAbs % b.natAbs)).length : Int) ≤ 0) : ofInt (if decide (b < 0) = true then -((a.natAbs % b.natAbs : Nat) : Int) else ((a.natAbs % b.natAbs : Nat) : Int)) = ofInt (a % b) := by
 have h0 : decide (b < 0) = false := by simp; omega
 have h1 := fl_pos (a := a) hb (by
  rintro ⟨g1, g2⟩
  rcases h with h | h
  ·rw [g1, h0] at h; simp at h
  ·exact g2 (magN_len0 (by omega)))
 rw [if_neg (by simp; omega)]
 congr 1
 have h2 := Int.mul_ediv_add_emod a b
 have h3 := Nat.div_add_mod a.natAbs b.natAbs
 rw [← h1] at h2
 obtain ⟨n, rfl⟩ : ∃ n : Nat, b = n := ⟨b.toNat, by omega⟩
 simp only [Int.natAbs_natCast] at *
 have h5 : ((n * (a.natAbs / n) + a.natAbs % n : Nat) : Int) = a.natAbs := by rw [h3]
 rw [Int.natCast_add, Int.natCast_mul] at h5
 by_cases g1 : a < 0
 ·simp only [g1, decide_true, if_true, Int.mul_neg] at h2
  have : a.natAbs % n = 0 := by
   rcases h with h | h
   ·simp [g1] at h; omega
   ·exact magN_len0 (by omega)
  omega
 ·simp only [g1, decide_false, Bool.false_eq_true, if_false] at h2
  omega
open Go.Proofs Go.Proofs.Tryz
set_option maxRecDepth 20000
theorem readN_ok (s : Str) (hs : s.length ≤ 100000) : Fc Tryz.prog 238 [.str s] (.agg (encNum (decide (val s < 0)) (magN (val s).natAbs))) := by
 have := read_ok s hs
 rw [neg_val, groups_magN] at this
 exact this
theorem textN_ok (neg : Bool) (n : Nat) (h : (magN n).length ≤ 20000) : Fc Tryz.prog 239 [.agg (encNum neg (magN n))] (.str (ofInt (if neg then -(n : Int) else n))) := by
 have := text_ok neg (magN n) (magN_ok n) h
 rw [textM_magN] at this
 exact this
theorem negN_ok (s : Str) (hs : s.length ≤ 9000) : Fc Tryz.prog 311 [.str s] (.str (ofInt (-val s))) := by
 have := neg_ok s hs
 rw [neg_val, groups_magN, textM_magN] at this
 have e : (if (!decide (val s < 0)) = true then -((val s).natAbs : Int) else ((val s).natAbs : Int)) = -val s := by
  by_cases h : val s < 0
  ·simp [h]; omega
  ·simp [h]; omega
 rw [e] at this
 exact this
theorem nilMag : Sub (.raw (.slice none 0 0)) (sMag (magN (lastM []))) := by
 rw [show lastM [] = 0 from rfl, magN_zero]; exact Sub.nil _ false
theorem gcd_ok (a b : Str) (ha : a.length ≤ 4000) (hb : b.length ≤ 4000) : Fc Tryz.prog 312 [.str a, .str b] (.str (ofInt (Int.gcd (val a) (val b) : Int))) := by
 refine Fc.mk' [4] func312 rfl ntmps312 rfl rfl rfl (fun t w => results_tmp results312 t _ w) ?_
 have hla := magN_text_len a
 have hlb := magN_text_len b
 have hgl : (magN (Nat.gcd (val a).natAbs (val b).natAbs)).length ≤ 10000 := by
  rcases Nat.eq_zero_or_pos (val a).natAbs with e | e
  ·rw [e, Nat.gcd_zero_left]; omega
  ·exact Nat.le_trans (magN_mono (Nat.gcd_le_left _ e)) (by omega)
 refine Run.seq (Run.reg [.p] ?_)
 refine .ag rfl rfl <| .nil ?_
 refine Run.seq (Run.reg [.w] ?_)
 refine .W rfl (q_alloc 0 zeroValue244 rfl) <| .nil ?_
 refine Run.seq (Run.seq (Run.reg [.p, .p, .p, .p, .p, .p, .w] ?_))
 refine .mv rfl rfl <| .P rfl (qCa call238 rfl (readN_ok _ (by omega))) <| .P rfl (q_field1 244 1 underlying246 isAgg244 rfl rfl rfl) <| .mv rfl rfl <| .P rfl (qCa call238 rfl (readN_ok _ (by omega))) <| .P rfl (q_field1 244 1 underlying246 isAgg244 rfl rfl rfl) <| .W rfl (q_callO call339 rfl (steps_ok _ _) .nil rfl rfl) <| .nil ?_
 refine Run.block ?_
 refine Run.rangeF (α := Nat × Nat) 7900 [0] [(0, _), (1, _), (4, _), (5, _), (7, _), (8, _), (9, _), (10, _), (11, _), (12, _)] (fun (pre : List (Nat × Nat)) => [(0, .cells [sMag (magN (lastM pre))])]) (fun _ _ => False) rfl call357 (stepsY_ok (val a).natAbs (val b).natAbs (by omega) (by omega)) (env1 := [(0, _), (1, _), (4, _), (5, _), (7, _), (8, _), (9, _), (10, _), (11, _), (12, _), (13, _)]) ((Le.subO 0 0 rfl rfl nilMag).trans <| Le.mk (obs' := [(8000, _), (8001, _)] ++ (fun (pre : List (Nat × Nat)) => [(0, .cells [sMag (magN (lastM pre))])]) []) rfl (show EnvLe _ _ [(0, _), (1, _), (4, _), (5, _), (7, _), (8, _), (9, _), (10, _), (11, _), (12, _), (13, _)] from (.s rfl rfl (.s rfl rfl (.s rfl rfl (.s rfl rfl (.s rfl rfl (.s rfl rfl (.s rfl rfl (.s rfl rfl (.s rfl rfl (.s rfl rfl (.s rfl rfl .nil)))))))))))) (.cons (i := 8000) rfl rfl (.cons (i := 8001) rfl rfl (.cons rfl rfl .nil)))) rfl rfl (fun _ => rfl) (.cons rfl rfl (.cons rfl rfl (.cons rfl rfl (.cons rfl rfl (.cons rfl rfl (.cons rfl rfl (.cons rfl rfl (.cons rfl rfl (.cons rfl rfl (.cons rfl rfl .nil)))))))))) rfl (fun _ => rfl) (by rintro j o h; exact h.elim) (fun _ => Obs.okB_get rfl) (by rintro j o h; exact h.elim) (fun _ => freeB_get rfl) (by rintro j o h; exact h.elim) (by decide) rfl (fun pre x hok => ?_) (fun xs hfin => ?_) (fun _ _ h => h.elim)
 ·skip
  refine Run.reg [.p] ?_
  refine .ag rfl rfl <| .nil ?_
  refine Run.nil ⟨rfl, ?_⟩
  refine Run.block ?_
  refine Run.reg [.p, .w] ?_
  refine .mv rfl rfl <| .W rfl (q_store1 sizeOf244 rfl rfl rfl rfl (by simp)) <| .nil ?_
  refine Run.nil (bN0 ?_)
  refine Run.nil ?_
  exact ⟨rfl, Le.mk rfl .nil (.cons rfl rfl (.eq rfl (by rw [lastM_snoc]; rfl) rfl .nil))⟩
 ·skip
  subst hfin
  rw [lastM_euc]
  refine Run.nil (bN0 ?_)
  refine Run.seq (Run.reg [.r, .p, .p, .p] ?_)
  refine .R rfl (q_load1 isAgg244 rfl rfl rfl) <| .P rfl (q_build (pl := #[(0, 1), (1, 1)]) underlying246 zeroValue246 (fun w => by kernel_rfl) rfl rfl) <| .P rfl (qCa call239 rfl (textN_ok false _ (Nat.le_trans hgl (by decide)))) <| .ag rfl rfl <| .nil ?_
  refine Run.ret (?_)
  exact ret1 rfl (Sub.refl _)
structure timesNil_ok_L0  where
 u : Unit
theorem timesNil_ok  : Fc Tryz.prog 338 [.snap 1 false [], .snap 1 false []] (.snap 1 false []) := by
 refine Fc.mk' [4] func338 rfl ntmps338 rfl rfl rfl (fun t w => results_tmp results338 t _ w) ?_
 refine go [] ?_
 refine sd (wrap64_ok (by omega) (by simp)) ?_
 refine oP (q_makeSlice00 underlying244 sizeOf184 typeInfo184 rfl rfl rfl rfl) ?_
 refine Run.loop (ι := timesNil_ok_L0) (fun sx => [(17, sMag []), (18, .i 0), (19, .i 0), (1, .snap 1 false []), (5, sMag [])]) (fun sx => []) (fun sx => 0) ⟨()⟩ ?_ ?_
 ·exact Le.mk rfl (.s rfl rfl (.s rfl rfl (.s rfl rfl (.s rfl rfl (.s rfl rfl .nil))))) .nil
 ·rintro ⟨u⟩
  show Run _ _ _ _ [(17, sMag []), (18, .i 0), (19, .i 0), (1, .snap 1 false []), (5, sMag [])] []
  skip
  ·skip
   refine go [] ?_
   refine brF (by simp) ?_
   refine go [] ?_
   refine oP (qCa call284 rfl (cut_ok _)) ?_
   exact rx1 rfl (Sub.refl _)
theorem timesN_ok (M N : Nat) (hM : (magN M).length ≤ 20000) (hN : (magN N).length ≤ 20000) : Fc Tryz.prog 338 [sMag (magN M), sMag (magN N)] (sMag (magN (M * N))) := by
 by_cases h : (magN M).length + (magN N).length ≠ 0
 ·have := times_ok (magN M) (magN N) h hM hN (magN_ok M) (magN_ok N)
  rw [magN_val, magN_val] at this
  exact this
 ·have e1 := magN_len0 (n := M) (by omega)
  have e2 := magN_len0 (n := N) (by omega)
  subst e1; subst e2
  rw [magN_zero]
  exact timesNil_ok
theorem mul_sign (a b : Int) : (if (decide (a < 0) != decide (b < 0)) = true then -((a.natAbs * b.natAbs : Nat) : Int) else ((a.natAbs * b.natAbs : Nat) : Int)) = a * b := by
 rw [← Int.natAbs_mul]
 by_cases h1 : a < 0 <;> by_cases h2 : b < 0
 ·have := Int.mul_pos_of_neg_of_neg h1 h2
  simp [h1, h2]; omega
 ·have : a * b ≤ 0 := Int.mul_nonpos_of_nonpos_of_nonneg (by omega) (by omega)
  simp [h1, h2]; omega
 ·have : a * b ≤ 0 := Int.mul_nonpos_of_nonneg_of_nonpos (by omega) (by omega)
  simp [h1, h2]; omega
 ·have : 0 ≤ a * b := Int.mul_nonneg (by omega) (by omega)
  simp [h1, h2]; omega
theorem magN_mul_len {M N : Nat} : (magN (M * N)).length ≤ (magN M).length + (magN N).length := by
 refine magN_len_le ?_
 have h1 := magN_lt M
 have h2 := magN_lt N
 rw [Nat.pow_add]
 rcases Nat.eq_zero_or_pos N with e | e
 ·subst e; rw [Nat.mul_zero]; exact Nat.mul_pos (Nat.pow_pos gB_pos) (Nat.pow_pos gB_pos)
 ·exact Nat.mul_lt_mul_of_lt_of_le h1 (Nat.le_of_lt h2) (by omega)
theorem mul_ok (a b : Str) (ha : a.length ≤ 4000) (hb : b.length ≤ 4000) : Fc Tryz.prog 305 [.str a, .str b] (.str (ofInt (val a * val b))) := by
 refine Fc.mk' [4] func305 rfl ntmps305 rfl rfl rfl (fun t w => results_tmp results305 t _ w) ?_
 have hla := magN_text_len a
 have hlb := magN_text_len b
 have hml := magN_mul_len (M := (val a).natAbs) (N := (val b).natAbs)
 refine go [] ?_
 refine oP (qCa call238 rfl (readN_ok _ (by omega))) ?_
 refine oP (qCa call238 rfl (readN_ok _ (by omega))) ?_
 refine oP (qCa call338 rfl (timesN_ok _ _ (by omega) (by omega))) ?_
 refine oP (qCa call239 rfl (textN_ok _ _ (by omega))) ?_
 refine ord ?_
 exact rx1 rfl (Sub.str (by rw [mul_sign]))
theorem plusN_ok (M : Nat) (h : (magN M).length ≤ 20000) : Fc Tryz.prog 280 [sMag (magN M), .snap 1 true (encMag [1])] (sMag (plusM (magN M) [1])) :=
 (plusAll_ok (magN M) [1] h (by simp) (magN_ok M) (fun x hx => by simp at hx; subst hx; unfold gB; omega)).sub
theorem minusN_ok (N r : Nat) (h : (magN N).length ≤ 20000) (hr : r < N) : Fc Tryz.prog 281 [sMag (magN N), sMag (magN r)] (sMag (magN (N - r))) := by
 have h1 : (magN N).length ≠ 0 := fun e => by have := magN_len0 e; omega
 have h2 := minusM_ok (magN N) (magN r) h1 h (Nat.le_trans (magN_mono (Nat.le_of_lt hr)) h) (magN_ok N) (magN_ok r)
 have h3 := subC_val (magN N) (magN r) 0 (magN_ok N) (magN_ok r) (by omega) (by rw [magN_val, magN_val]; omega)
 have h4 := subC_ok (magN N) (magN r) 0 (magN_ok N) (magN_ok r) (by omega)
 rw [cut_eq h4, h3, magN_val, magN_val, Nat.add_zero] at h2
 exact h2
theorem textP_ok (neg : Bool) (n : Nat) (h : (magN n).length ≤ 10000) : Fc Tryz.prog 239 [.agg (encNum neg (plusM (magN n) [1]))] (.str (ofInt (if neg then -((n + 1 : Nat) : Int) else (n + 1 : Nat)))) := by
 have h1 : magOK [1] := fun x hx => by simp at hx; subst hx; unfold gB; omega
 have h2 := plusM_len (magN n) [1]
 have := text_ok neg (plusM (magN n) [1]) (plusM_ok (magN_ok n) h1) (by simp at h2; omega)
 rw [textM_ofInt _ (plusM_ok (magN_ok n) h1), plusM_val, magN_val] at this
 simpa [mVa] using this
theorem div10_ok (a b : Str) (ha : a.length ≤ 4000) (hb : b.length ≤ 4000) (h0 : 0 < val b) : Fc Tryz.prog 313 [.str a, .str b] (.tup [.str (ofInt (val a / val b)), .str (ofInt (val a % val b)), .i 0]) := by
 refine Fc.mk' [4, 5, 6] func313 rfl ntmps313 rfl rfl rfl (fun t w => results_tmp3 results313 t _ w) ?_
 have hla := magN_text_len a
 have hlb := magN_text_len b
 have hn0 : (val b).natAbs ≠ 0 := by omega
 have hq := magN_mono (Nat.div_le_self (val a).natAbs (val b).natAbs)
 have hr := magN_mono (Nat.mod_le (val a).natAbs (val b).natAbs)
 have hrl := Nat.mod_lt (val a).natAbs (Nat.pos_of_ne_zero hn0)
 have hsl := magN_mono (Nat.sub_le (val b).natAbs ((val a).natAbs % (val b).natAbs))
 have hb0 : decide (val b < 0) = false := by simp; omega
 refine go [] ?_
 refine oP (qCa call238 rfl (readN_ok _ (by omega))) ?_
 refine oP (qCa call238 rfl (readN_ok _ (by omega))) ?_
 refine brF (by simp [encMag]; exact fun e => hn0 (magN_len0 (by rw [e]; rfl))) ?_
 refine oP (qCa call340 rfl (div_ok _ _ (by omega) (by omega) (by assumption))) ?_
 refine br (fun h1 => ?_) (fun h1 => ?_)
 ·have ph1 := h1; try simp only [bs] at ph1
  refine oP (qBu (n := 1) (rows := encMag [1]) underlying244 sizeOf184 rfl rfl rfl zeroValue184 rfl rfl rfl rfl rfl rfl rfl) ?_
  refine oP (qCa call280 rfl (plusN_ok _ (by omega))) ?_
  refine oP (qCa call281 rfl (minusN_ok _ _ (by omega) hrl)) ?_
  refine ord ?_
  refine oP (qCa call239 rfl (by exact textP_ok _ _ (by omega))) ?_
  refine oP (qCa call239 rfl (textN_ok _ _ (by omega))) ?_
  refine ord ?_
  exact rx3 rfl rfl rfl (Sub.str (by exact dq_T h0 ph1)) (Sub.str (by exact dr_T h0 ph1)) (Sub.refl _)
 ·have ph1 := h1; try simp only [bs] at ph1
  refine oP (qCa call239 rfl (by exact textN_ok _ _ (by omega))) ?_
  refine oP (qCa call239 rfl (textN_ok _ _ (by omega))) ?_
  refine ord ?_
  exact rx3 rfl rfl rfl (Sub.str (by exact dq_F h0 ph1)) (Sub.str (by exact dr_F h0 ph1)) (Sub.refl _)
end Go.T
namespace Go.T
open Go
def smallFr (f : Frac) : Prop := f.num.length ≤ 60 ∧ f.den.length ≤ 60
def smallInst (x : Inst) : Prop := smallFr x.face ∧ smallFr x.coupon ∧ smallFr x.strike
def sg (f : Frac) : Int := signI (val f.num - val [])
def partsF (f : Frac) : Str × Str := if decide (signI (val f.den - val []) = 0) then (f.num, [49]) else (f.num, f.den)
def redN (n d : Int) : Int × Int :=
 let n1 := if d < 0 then -n else n
 let d1 := if d < 0 then -d else d
 (n1 / (Int.gcd n1 d1 : Int), d1 / (Int.gcd n1 d1 : Int))
def madeN (n d : Int) : Frac := ⟨ofInt (redN n d).1, if ofInt (redN n d).2 = [49] then [] else ofInt (redN n d).2⟩
def checkFr (f : Frac) : Int := if f = madeN (val (partsF f).1) (val (partsF f).2) then 0 else 1
def digN (a : Str) : Int := if decide (a ≠ []) && decide (((a.headD 0).toNat : Int) = 45) then (a.length : Int) - 1 else a.length
theorem hd_get {a : Str} (h : a ≠ []) : a[(0 : Int).toNat]? = some (a.headD 0) := by cases a with
 | nil => exact absurd rfl h
 | cons c a => rfl
def numErr (f : Frac) : Int := if decide (checkFr f ≠ 0) then 1 else if decide (40 < max (digN f.num) (digN f.den)) then 4 else 0
def plainBad (i : Inst) : Bool := decide (sg i.face ≠ 0) || decide (sg i.coupon ≠ 0) || decide (i.months ≠ 0) || decide (i.count ≠ 0) || decide (sg i.strike ≠ 0) || decide (i.other ≠ [])
def bondBad (i : Inst) : Bool := decide (sg i.face ≤ 0) || decide (sg i.coupon < 0) || !([1, 2, 3, 4, 6, 12].any fun n => decide (i.months = n)) || decide (i.count < 1) || decide (5 < i.count)
def bondBad2 (i : Inst) : Bool := decide (i.other ≠ []) || decide (sg i.strike ≠ 0)
def fwdBad3 (i : Inst) : Bool := decide (sg i.face ≠ 0) || decide (sg i.coupon ≠ 0) || decide (i.months ≠ 0) || decide (i.count ≠ 0)
def plainErr (i : Inst) : Int := if plainBad i = true then 1 else 0
def bondErr (i : Inst) : Int := if bondBad i = true then 2 else if bondBad2 i = true then 1 else 0
def fwdErr (i : Inst) : Int := if (!isCode i.other || decide (i.other = i.cur)) = true then 12 else if decide (sg i.strike ≤ 0) = true then 2 else if fwdBad3 i = true then 1 else 0
theorem if_T {b : Bool} {x y : Int} (h : b = true) : x = if b = true then x else y := by rw [if_pos h]
theorem if_F {b : Bool} {x y z : Int} (h : b = false) (k : z = y) : z = if b = true then x else y := by rw [if_neg (by rw [h]; simp)]; exact k
theorem val_nil : val [] = 0 := by decide
theorem signI_lt {n : Int} : signI n < 0 ↔ n < 0 := by unfold signI; split <;> (try split) <;> omega
theorem signI_zero {n : Int} : signI n = 0 ↔ n = 0 := by unfold signI; split <;> (try split) <;> omega
theorem sgn_lt (d : Str) : signI (val d - val []) < 0 ↔ val d < 0 := by rw [val_nil, signI_lt]; omega
theorem red_T {n d : Str} (h : decide (signI (val d - val []) < 0) = true) :
  ofInt (val (ofInt (-val n)) / val (ofInt (Int.gcd (val (ofInt (-val n))) (val (ofInt (-val d))) : Int))) = ofInt (redN (val n) (val d)).1 ∧
  ofInt (val (ofInt (-val d)) / val (ofInt (Int.gcd (val (ofInt (-val n))) (val (ofInt (-val d))) : Int))) = ofInt (redN (val n) (val d)).2 := by
 have h' : val d < 0 := (sgn_lt d).1 (of_decide_eq_true h)
 simp only [val_ofInt, redN, if_pos h', and_self]
theorem red_F {n d : Str} (h : decide (signI (val d - val []) < 0) = false) :
  ofInt (val n / val (ofInt (Int.gcd (val n) (val d) : Int))) = ofInt (redN (val n) (val d)).1 ∧ ofInt (val d / val (ofInt (Int.gcd (val n) (val d) : Int))) = ofInt (redN (val n) (val d)).2 := by
 have h' : ¬ val d < 0 := fun e => of_decide_eq_false h ((sgn_lt d).2 e)
 simp only [val_ofInt, redN, if_neg h', and_self]
theorem neg_len (s : Str) : (ofInt (-val s)).length ≤ s.length + 1 := ofInt_len_le (by simp)
theorem gcd_len (n : Int) {d : Str} (h0 : val d ≠ 0) : (ofInt (Int.gcd n (val d) : Int)).length ≤ d.length + 1 := by
 refine ofInt_len_le ?_
 rw [Int.natAbs_natCast]
 exact Nat.gcd_le_right _ (by omega)
theorem gcd_pos (n : Int) {d : Int} (h0 : d ≠ 0) : 0 < val (ofInt (Int.gcd n d : Int)) := by
 rw [val_ofInt]
 have := Nat.gcd_pos_of_pos_right n.natAbs (n := d.natAbs) (by omega)
 have e : Int.gcd n d = Nat.gcd n.natAbs d.natAbs := rfl
 omega
theorem gcd_neg_len (n : Int) {d : Str} (h0 : val d ≠ 0) : (ofInt (Int.gcd n (val (ofInt (-val d))) : Int)).length ≤ d.length + 1 := by
 rw [val_ofInt, Int.gcd_neg]; exact gcd_len n h0
theorem gcd_neg_pos (n : Int) {d : Str} (h0 : val d ≠ 0) : 0 < val (ofInt (Int.gcd n (val (ofInt (-val d))) : Int)) := gcd_pos n (by rw [val_ofInt]; omega)
theorem made_den {n d : Int} (h : decide (ofInt (redN n d).2 = [49]) = true) : [] = (madeN n d).den := by simp only [madeN]; rw [if_pos (of_decide_eq_true h)]
theorem made_den' {n d : Int} (h : decide (ofInt (redN n d).2 = [49]) = false) : ofInt (redN n d).2 = (madeN n d).den := by simp only [madeN]; rw [if_neg (of_decide_eq_false h)]
theorem parts_num (f : Frac) : (partsF f).1 = f.num := by unfold partsF; split <;> rfl
theorem parts_ne (f : Frac) : val (partsF f).2 ≠ 0 := by
 unfold partsF
 split
 ·show val [49] ≠ 0
  decide
 ·rename_i h
  intro e
  apply h
  simp only [decide_eq_true_eq]
  rw [signI_zero]
  show val f.den - val [] = 0
  rw [val_nil]
  have : val f.den = 0 := e
  omega
theorem parts_len (f : Frac) {k : Nat} (hk : 1 ≤ k) (h : f.den.length ≤ k) : (partsF f).2.length ≤ k := by unfold partsF; split <;> simp <;> omega
theorem chk_T {f : Frac} {n d : Int} (h : (!decide ([f.num, f.den] = [(madeN n d).num, (madeN n d).den])) = true) : ¬ f = madeN n d := by
 rintro e
 rw [← e] at h; simp at h
theorem chk_F {f : Frac} {n d : Int} (h : (!decide ([f.num, f.den] = [(madeN n d).num, (madeN n d).den])) = false) : f = madeN n d := by
 have := of_decide_eq_true (by simpa using h : decide ([f.num, f.den] = [(madeN n d).num, (madeN n d).den]) = true)
 simp only [List.cons.injEq, and_true] at this
 cases f
 exact congr (congrArg Frac.mk this.1) this.2
theorem mul_len (s t : Str) : (ofInt (val s * val t)).length ≤ s.length + t.length + 1 := by
 refine ofIntA_len ?_
 rw [Int.natAbs_mul, Nat.pow_add]
 have h1 := val_abs s
 have h2 := val_abs t
 rcases Nat.eq_zero_or_pos (val t).natAbs with e | e
 ·rw [e, Nat.mul_zero]; exact Nat.mul_pos (Nat.pow_pos (by omega)) (Nat.pow_pos (by omega))
 ·exact Nat.mul_lt_mul_of_lt_of_le h1 (Nat.le_of_lt h2) (by omega)
def subF (f g : Frac) : Frac := madeN (val (partsF f).1 * val (partsF g).2 - val (partsF g).1 * val (partsF f).2) (val (partsF f).2 * val (partsF g).2)
def cmpFr (f g : Frac) : Int := signI (val (subF f g).num - val [])
def zFr : Frac := ⟨[], []⟩
def limErr (pos part : Bool) (f : Frac) (bad : Bool) (big : Bool) : Int := if decide (checkFr f ≠ 0) = true then 1 else if big = true then 4 else if bad = true then 2 else 0
def limBad (pos part : Bool) (f : Frac) : Bool := decide (cmpFr f zFr < 0) || (pos && decide (cmpFr f zFr = 0)) || (part && decide (0 < cmpFr f (madeN (val [49]) (val [49]))))
theorem sub_len {f g : Frac} {k : Nat} (hf : f.num.length ≤ k ∧ f.den.length ≤ k) (hg : g.num.length ≤ k ∧ g.den.length ≤ k) (hk : 1 ≤ k) :
  (partsF f).1.length ≤ k ∧ (partsF f).2.length ≤ k ∧ (partsF g).1.length ≤ k ∧ (partsF g).2.length ≤ k :=
 ⟨by rw [parts_num]; exact hf.1, parts_len f hk hf.2, by rw [parts_num]; exact hg.1, parts_len g hk hg.2⟩
theorem prod_ne {f g : Frac} : val (ofInt (val (partsF f).2 * val (partsF g).2)) ≠ 0 := by
 rw [val_ofInt]; exact Int.mul_ne_zero (parts_ne f) (parts_ne g)
theorem ofInt_sub_len {a b : Int} {k : Nat} (ha : a.natAbs < 10 ^ k) (hb : b.natAbs < 10 ^ k) : (ofInt (a - b)).length ≤ k + 2 := by
 refine ofIntA_len (k := k + 1) ?_
 rw [Nat.pow_succ]; omega
theorem mul_abs (s t : Str) : (val s * val t).natAbs < 10 ^ (s.length + t.length) := by
 rw [Int.natAbs_mul, Nat.pow_add]
 have h1 := val_abs s
 have h2 := val_abs t
 rcases Nat.eq_zero_or_pos (val t).natAbs with e | e
 ·rw [e, Nat.mul_zero]; exact Nat.mul_pos (Nat.pow_pos (by omega)) (Nat.pow_pos (by omega))
 ·exact Nat.mul_lt_mul_of_lt_of_le h1 (Nat.le_of_lt h2) (by omega)
theorem abs_mono {n : Int} {j k : Nat} (h : n.natAbs < 10 ^ j) (hk : j ≤ k) : n.natAbs < 10 ^ k := Nat.lt_of_lt_of_le h (Nat.pow_le_pow_right (by omega) hk)
theorem red_abs {n d : Int} (h : d ≠ 0) : (redN n d).1.natAbs ≤ n.natAbs ∧ (redN n d).2.natAbs ≤ d.natAbs := by
 have key : ∀ x y : Int, (x / (y : Int)).natAbs ≤ x.natAbs := fun x y => Int.natAbs_ediv_le_natAbs x y
 unfold redN
 by_cases g : d < 0
 ·simp only [if_pos g]
  exact ⟨Nat.le_trans (key _ _) (by omega), Nat.le_trans (key _ _) (by omega)⟩
 ·simp only [if_neg g]
  exact ⟨key _ _, key _ _⟩
theorem made_len {n d : Int} {k : Nat} (h : d ≠ 0) (hn : n.natAbs < 10 ^ k) (hd : d.natAbs < 10 ^ k) : (madeN n d).num.length ≤ k + 1 ∧ (madeN n d).den.length ≤ k + 1 := by
 have h1 := red_abs (n := n) h
 refine ⟨ofIntA_len (n := (redN n d).1) (by have := h1.1; omega), ?_⟩
 simp only [madeN]
 split
 ·simp
 ·exact ofIntA_len (by have := h1.2; omega)
theorem subF_len {f g : Frac} {k : Nat} (hk : 1 ≤ k) (hf : f.num.length ≤ k ∧ f.den.length ≤ k) (hg : g.num.length ≤ k ∧ g.den.length ≤ k) : (subF f g).num.length ≤ 2 * k + 2 ∧ (subF f g).den.length ≤ 2 * k + 2 := by
 obtain ⟨h1, h2, h3, h4⟩ := sub_len hf hg hk
 have a1 := abs_mono (mul_abs (partsF f).1 (partsF g).2) (k := 2 * k) (by omega)
 have a2 := abs_mono (mul_abs (partsF g).1 (partsF f).2) (k := 2 * k) (by omega)
 have a3 := abs_mono (mul_abs (partsF f).2 (partsF g).2) (k := 2 * k) (by omega)
 have h10 : 10 ^ (2 * k + 1) = 10 ^ (2 * k) * 10 := Nat.pow_succ ..
 exact made_len (k := 2 * k + 1) (Int.mul_ne_zero (parts_ne f) (parts_ne g)) (by omega) (by omega)
theorem cmp_nil (x : List Nat) : ¬ cmpM x [] < 0 := fun h => cmpM_ne2 h rfl
theorem addM_zero {n1 : Bool} {x : List Nat} (k1 : numOK n1 x) : magOK (addM n1 x true []).2 ∧ numV (addM n1 x true []).1 (addM n1 x true []).2 = numV n1 x ∧ (addM n1 x true []).2.length ≤ x.length + 1 := by
 have ho : magOK [] := fun _ h => by simp at h
 cases n1 with
 | true =>
  simp only [addM, beq_self_eq_true, if_true]
  have := plusM_len x []
  refine ⟨plusM_ok k1.ok ho, ?_, by simpa using this⟩
  simp [numV, plusM_val, mVa]
 | false =>
  have e : (false == true) = false := rfl
  simp only [addM, e, Bool.false_eq_true, if_false, if_neg (cmp_nil x)]
  have h1 := subC_ok x [] 0 k1.ok ho (by omega)
  have h2 := subC_val x [] 0 k1.ok ho (by omega) (by simp [mVa])
  have h3 := subC_len x [] 0
  refine ⟨cutM_ok h1, ?_, by have := cutM_len (subC x [] 0); omega⟩
  rw [cut_eq h1, h2]
  simp [numV, magN_val, mVa]
theorem numOK_flipD {s : Str} (h : val s ≠ 0) : numOK (!(digits s).2) (groupsOf (digits s).1) := by
 have h1 := numOK_digits s
 refine ⟨h1.ok, h1.cut, fun _ h0 => h ?_⟩
 rw [← numV_digits s, List.length_eq_zero_iff.1 h0]
 simp [numV, mVa]
theorem numV_flipD (s : Str) : numV (!(digits s).2) (groupsOf (digits s).1) = - val s := by
 rw [← numV_digits s]
 unfold numV
 cases (digits s).2 <;> simp
open Go.Proofs Go.Shelf Go.RowKit Go.Lib Go.Sort
@[reducible] def calm : Noise := ⟨False⟩
theorem grown_of_keep {w w' : World} (h : @Keep calm w w') : ∃ q os', w' = Sort.grow (w.drewN q) os' := by
  obtain ⟨h1, h2, h3, h4, h5⟩ := h
  have h6 : w'.tape = w.tape ∧ w.drawn ≤ w'.drawn := by
    rcases h5 with h | h
    · exact h
    · exact h.elim
  clear h5
  refine ⟨w'.drawn - w.drawn, w'.heap.extract w.heap.size w'.heap.size, ?_⟩
  have hh : w'.heap = w.heap ++ w'.heap.extract w.heap.size w'.heap.size := by
    apply Array.ext_getElem?
    intro i
    rcases Nat.lt_or_ge i w.heap.size with g | g
    · rw [Array.getElem?_append_left g, h2 i g]
    · rw [Array.getElem?_append_right g, Array.getElem?_extract]
      by_cases e : i < w'.heap.size
      · rw [if_pos (by omega)]; congr 1; omega
      · rw [if_neg (by omega), Array.getElem?_eq_none (by omega)]
  have hd : (w.drewN (w'.drawn - w.drawn)) = { w with drawn := w'.drawn } := by
    unfold World.drewN; congr 1; omega
  rw [hd]
  unfold Sort.grow
  cases w'
  simp only at *
  obtain ⟨h6, _⟩ := h6
  subst h3; subst h4; subst h6
  congr 1
section
variable {α : Type} [Inhabited α] {P : Program}
structure Elem (k : Nat) (encD : α → List D) (encV : α → List Value) : Prop where
  len : ∀ x, (encV x).length = k
  lenD : ∀ x, (encD x).length = k
  one : ∀ x, ∀ v ∈ encV x, v.oneCell' = true
  toV : ∀ x (w : World) (O : Nat → Prop) (ρ : Rho) vs, Vs w O ρ (encD x) vs → vs = encV x
  back : ∀ x (w : World) (O : Nat → Prop) (ρ : Rho), Vs w O ρ (encD x) (encV x)
variable {k : Nat} {encD : α → List D} {encV : α → List Value}
theorem heap_sortWorld {w : World} {blk off m : Nat} {dk : Array α} {os : Array Obj} {b : Nat} (hb : b < w.heap.size) (hne : b ≠ blk) : (sortWorldK encV k w blk off m dk os).heap[b]? = w.heap[b]? := by
  unfold sortWorldK putRowK putRow mapBlock Sort.grow Sort.ahead
  simp only
  rw [Array.getElem?_append_left (by simpa using hb), Array.getElem?_modify, if_neg (Ne.symm hne)]
theorem holds_of_Vr (hE : Elem k encD encV) {w : World} {O : Nat → Prop} {b off : Nat} {c : Array Value} {T : TypeId} {l : List α} (hb : w.heap[b]? = some (.cells c T (0, 0))) (h : Vr w O b off k (l.map encD)) : HoldsK encV k w b off l.toArray := by
  intro j hj
  rw [size_flatK] at hj
  simp only [List.size_toArray] at hj
  have k0 : 0 < k := by rcases Nat.eq_zero_or_pos k with e | e; · subst e; simp at hj
                        · exact e
  have hi : j / k < l.length := by rw [Nat.div_lt_iff_lt_mul k0]; exact hj
  have hc : j % k < k := Nat.mod_lt _ k0
  rw [get_flatK _ _ _ _ (by simpa using hj)]
  obtain ⟨_, h1⟩ := h.get _ _ (j / k) (encD l[j / k]) (by simp [hi])
  have hcl : j % k < (encD l[j / k]).length := by rw [hE.lenD]; exact hc
  obtain ⟨d, hd⟩ : ∃ d, (encD l[j / k])[j % k]? = some d := ⟨(encD l[j / k])[j % k], List.getElem?_eq_getElem hcl⟩
  have hvs := Vc.to_Vs hb _ _ h1
  have hv := hE.toV _ _ _ _ _ hvs.1
  obtain ⟨v, g1, g2⟩ := Vc.get _ _ h1 _ _ hd
  have e : off + j / k * k + j % k = off + j := by have := Nat.div_add_mod j k; rw [Nat.mul_comm] at this; omega
  rw [e] at g1
  have g3 : (encV l[j / k])[j % k]? = some v := by
    rw [← hv]
    have : c[off + j]? = some v := by simpa [World.cell?, hb] using g1
    rw [List.getElem?_take, if_pos (by rw [hE.lenD]; exact hc), List.getElem?_drop, e]
    simpa using this
  refine ⟨?_, by simp [World.frozen?, hb]⟩
  rw [g1]
  have e1 : (l.toArray)[j / k]! = l[j / k] := by simp [hi]
  have e2 : (encV l[j / k])[j % k]! = v := by rw [List.getElem!_eq_getElem?_getD, g3]; rfl
  rw [e1, e2]; rfl
theorem Vr_of_holds (hE : Elem k encD encV) {w : World} {O : Nat → Prop} {b off : Nat} {l : List α} (h : HoldsK encV k w b off l.toArray) : Vr w O b off k (l.map encD) := by
  have key : ∀ (r pre : List α), l = pre ++ r → Vr w O b (off + pre.length * k) k (r.map encD) := by
    intro r
    induction r with
    | nil => intro _ _; simp [Vr]
    | cons x r ih =>
      intro pre hp
      simp only [List.map_cons, Vr]
      have hi : pre.length < l.toArray.size := by subst hp; simp
      refine ⟨⟨hE.lenD x, ?_⟩, ?_⟩
      · have hx : (l.toArray)[pre.length]! = x := by subst hp; simp
        have cell : ∀ c, c < k → w.cell? ⟨b, off + pre.length * k + c, none⟩ = some (encV x)[c]! := fun c hc => by
          have := (h.cell hi hc).1
          rwa [hx] at this
        have gen : ∀ (ds : List D) (us : List Value) (n : Nat), Vs w O rho0 ds us → (∀ u ∈ us, u.oneCell' = true) → (∀ j u, us[j]? = some u → w.cell? ⟨b, n + j, none⟩ = some u) → Vc w O b n ds := by
          intro ds
          induction ds with
          | nil => intro us n _ _ _; simp [Vc]
          | cons d ds ih2 =>
            intro us n h1 h2 h3
            simp only [Vs] at h1
            obtain ⟨u, us', rfl, h4, h5⟩ := h1
            simp only [Vc]
            refine ⟨⟨u, ⟨by simpa using h3 0 u rfl, h2 u (by simp)⟩, h4⟩, ih2 us' (n + 1) h5 (fun v hv => h2 v (by simp [hv])) (fun j v hj => ?_)⟩
            have := h3 (j + 1) v (by simpa using hj)
            rwa [show n + (j + 1) = n + 1 + j by omega] at this
        refine gen _ (encV x) _ (hE.back x w O rho0) (hE.one x) (fun j u hj => ?_)
        have hjk : j < k := by rw [← hE.len x]; exact (List.getElem?_eq_some_iff.1 hj).1
        rw [cell j hjk, List.getElem!_eq_getElem?_getD, hj]; rfl
      · have := ih (pre ++ [x]) (by simp [hp])
        simp only [List.length_append, List.length_singleton, Nat.add_mul, Nat.one_mul] at this
        rwa [Nat.add_assoc]
  simpa using key l [] rfl
end
variable [Noise]
variable {α : Type} [Inhabited α] {P : Program} {k : Nat} {encD : α → List D} {encV : α → List Value}
theorem get_one {id : Nat} {x o : Ob} {i : Nat} (h : Obs.get [(id, x)] i = some o) : i = id ∧ o = x := by
 rw [Obs.get_cons] at h
 split at h
 ·rename_i e; cases h; exact ⟨e.symm, rfl⟩
 ·simp [Obs.get] at h
theorem get_none1 {id : Nat} {x y : Ob} {i : Nat} (h : Obs.get [(id, x)] i = none) : Obs.get [(id, y)] i = none := by
 rw [Obs.get_cons] at h ⊢
 split at h
 ·cases h
 ·rename_i e; rw [if_neg e]; rfl
end Go.T
namespace Go.T
open Go
open Go.ChangeMaps (setBlock)
variable [Noise]
variable {κ β : Type} [DecidableEq κ]
@[reducible] def imapG (kD : κ → D) (vD : β → D) (m : List (κ × β)) : D := .imap (m.map fun p => kD p.1) (m.map fun p => vD p.2)
section
variable {P : Program} {kt : TypeId} {kD : κ → D} {kV : κ → Value} {kOk : κ → Prop} {vD : β → D}
theorem esG_of (hK : KeyT P kt kD kV kOk) {w : World} {O : Nat → Prop} {b : Nat} {m : List (κ × β)} (h : IMap w O b (m.map fun p => kD p.1) (m.map fun p => vD p.2)) :
  ∃ es, w.heap[b]? = some (.map es m.length) ∧ EsG w O rho0 kV vD es m ∧ ∀ k ∈ m.map (·.1), kOk k := by
 obtain ⟨es, h1, ⟨h2, h3, h4⟩, h5, h6⟩ := h
 have hl := h5.length
 simp only [List.length_map, Array.length_toList] at hl h2
 have key : ∀ (i : Nat) (k : κ) (v : β), m[i]? = some (k, v) → ∃ e : MapEntry, es[i]? = some e ∧ e.born = i ∧ e.key = kV k ∧ V w O rho0 (vD v) e.val ∧ kOk k := by
  intro i k v hi
  have hlt : i < es.size := by rw [hl]; exact (List.getElem?_eq_some_iff.1 hi).1
  obtain ⟨u, g1, g2⟩ := h5.get i (kD k) (by simp [hi])
  obtain ⟨u', g3, g4⟩ := h6.get i (vD v) (by simp [hi])
  have he : es[i]? = some es[i] := by simp [hlt]
  simp only [List.getElem?_map, Array.getElem?_toList, he, Option.map_some, Option.some.injEq] at g1 g3
  subst g1; subst g3
  have := hK.val g2
  exact ⟨es[i], he, h4 i _ he, this.1, g4, this.2⟩
 refine ⟨es, h2, ⟨hl, fun i k v hi => ?_⟩, fun k hk => ?_⟩
 ·obtain ⟨e, g1, g2, g3, g4, _⟩ := key i k v hi; exact ⟨e, g1, g2, g3, g4⟩
 ·obtain ⟨p, hp, rfl⟩ := List.mem_map.1 hk
  obtain ⟨i, hi⟩ := List.getElem?_of_mem hp
  obtain ⟨_, _, _, _, _, g5⟩ := key i p.1 p.2 hi
  exact g5
theorem Le.freezeM {F : Fr} {env : Env} {obs : Obs} {m : List (κ × β)} (t id : Nat) (ht : env.get t = some (.mapr id)) (ho : obs.get id = some (.mp (encGM kD vD m))) (hk : ∀ k, (kD k).pureB = true) (hv0 : ∀ v, (vD v).pureB = true) :
  Le F env obs ((t, imapG kD vD m) :: env) (obs.set id .dead) := .step fun O ρ w f hok hv => by
 have htr := Tr.die id hok
 refine ⟨ρ, htr, fun s d h => ?_⟩
 rw [Env.get_cons] at h
 by_cases e : t = s
 ·rw [if_pos e] at h
  cases h
  subst e
  have hvt := hv t _ ht
  simp only [V] at hvt
  obtain ⟨l, e1, e⟩ := hvt
  obtain ⟨l', h3, h4, es, h5, h6, h7⟩ := hok.own id _ ho rfl
  rw [e1] at h3; cases h3
  have hkp := htr.kept
  refine V_imap.2 ⟨l.b, e, es, ⟨(Array.getElem?_eq_some_iff.1 h5).1, ?_⟩, ⟨by simpa [encGM] using h5, by simp, fun i x hx => ?_⟩, ?_, ?_⟩
  ·rintro (hb | ⟨i, x, l', g1, g2, g3, g4⟩)
   ·exact h4 hb
   ·have hx := dead_sub i x g1 g2
    have := hok.inj i id x _ l' l hx ho g2 rfl g3 e1 g4
    subst this
    rw [Obs.get_set] at g1
    simp only [if_true, Option.some.injEq] at g1
    subst g1; simp [Ob.live] at g2
  ·have hi : i < m.length := by
    have := (Array.getElem?_eq_some_iff.1 hx).1
    rw [h6] at this; simpa [encGM] using this
   obtain ⟨x', g1, g2, _⟩ := h7 i (kD m[i].1) (vD m[i].2) (by simp [encGM, hi])
   rw [hx] at g1; cases g1; exact g2
  ·refine Vs.of_get (by simpa [encGM] using h6) fun i d v hd hvv => ?_
   simp only [List.getElem?_map, Option.map_eq_some_iff] at hd
   obtain ⟨p, hp, rfl⟩ := hd
   obtain ⟨x', g1, _, g3, _⟩ := h7 i (kD p.1) (vD p.2) (by simp [encGM, hp])
   simp only [List.getElem?_map, Array.getElem?_toList, g1, Option.map_some, Option.some.injEq] at hvv
   subst hvv
   exact V.mono hkp (RhoLe.refl _) _ _ (V.pure _ _ (hk _) g3)
  ·refine Vs.of_get (by simpa [encGM] using h6) fun i d v hd hvv => ?_
   simp only [List.getElem?_map, Option.map_eq_some_iff] at hd
   obtain ⟨p, hp, rfl⟩ := hd
   obtain ⟨x', g1, _, _, g4⟩ := h7 i (kD p.1) (vD p.2) (by simp [encGM, hp])
   simp only [List.getElem?_map, Array.getElem?_toList, g1, Option.map_some, Option.some.injEq] at hvv
   subst hvv
   exact V.mono hkp (RhoLe.refl _) _ _ (V.pure _ _ (hv0 _) g4)
 ·rw [if_neg e] at h
  exact htr.V (hv s d h)
variable {env : Env} {dst : Option Tmp} {ty : TypeId} {pos : String} {aft : Array Edge} {g : Option (Nat × Bool)}
theorem q_lookupI (hK : KeyT P kt kD kV kOk) {t et : TypeId} {x y : Operand} {m : List (κ × β)} {k : κ} {d : β} {kd md : D} {obs : Obs} {zv : Value} (hu : P.underlying t = some (.map kt et)) (hz : ∀ w, (zeroValue et).run P w = .ok zv w) (hzv : ∀ (w : World) O ρ, V w O ρ (vD d) zv)
  (hx : env.op x = some md) (hmd : md = imapG kD vD m) (hy : env.op y = some kd) (hkd : kd = kD k) :
  QStep P ⟨dst, .lookup t x y false, ty, pos, aft, g⟩ env obs (vD (getG d m k)) obs :=
 .val fun O ρ a w hok hv => by
  subst hkd; subst hmd
  obtain ⟨b, e1, him⟩ := V_imap.1 (hv x (by simp [Op.operands]) _ hx)
  have hvy := hK.val (hv y (by simp [Op.operands]) _ hy)
  obtain ⟨es, h4, h5, h6⟩ := esG_of hK him
  have hck := fun b => hK.check b k w hvy.2
  have hfk := hK.find k es.toList (m.map (·.1)) w h5.keys h6 hvy.2
  rcases findK_cases d k m 0 with ⟨g1, g2, g3, _⟩ | ⟨j, gj, g1, g2, g3, _⟩
  ·refine ⟨zv, ?_, by rw [g3]; exact hzv _ _ _⟩
   rw [g1] at hfk
   simp [execOp, e1, hvy.1, Instr.lookup, run_und hu, MapKept.run_getObj_map h4, hck, hfk, hz]
  ·obtain ⟨e, k1, k2, k3, k4⟩ := h5.at_ j k _ g2
   refine ⟨e.val, ?_, V.mono (Kept.refl _ _) (rho0_le ρ) _ _ k4⟩
   rw [g1] at hfk
   simp only [Option.map_some, Nat.zero_add, Array.getElem?_toList, k1, Option.getD_some] at hfk
   simp [execOp, e1, hvy.1, Instr.lookup, run_und hu, MapKept.run_getObj_map h4, hck, hfk]
theorem q_rangeI {t kt' et : TypeId} {x : Operand} {ks vs : List D} {obs : Obs} (idI : Nat) (hu : P.underlying t = some (.map kt' et)) (hx : env.op x = some (.imap ks vs)) (hid : obs.get idI = none) :
  QStep P ⟨dst, .range t x, ty, pos, aft, g⟩ env obs (.box idI 0) ((idI, .mj ks vs []) :: obs) :=
 .step fun O ρ a w hok hv => by
  obtain ⟨b, e1, him⟩ := V_imap.1 (hv x (by simp [Op.operands]) _ hx)
  obtain ⟨es, h1, ⟨h2, _, _⟩, _⟩ := id him
  have hr := run_range_map (P := P) w t kt' et b es ks.length hu h2
  refine ⟨.pointer (some ⟨w.heap.size, 0, none⟩), _, T.upd ρ idI ⟨w.heap.size, 0, 0⟩, .inl ?_, Tr.born hok hid (.mapIter (some b) ks.length #[] ks.length) rfl (fun i x h _ => h) (fun i h => h) ?_, ?_⟩
  ·simp only [execOp, e1]
   rw [Sem.run_bind, hr]
   rfl
  ·intro hk
   exact ⟨b, him.mono hk, by simp⟩
  ·simp only [V]; exact ⟨⟨w.heap.size, 0, 0⟩, by simp [T.upd], rfl⟩
@[reducible] def nextIO (obs : Obs) (idI : Nat) (ks vs : List D) (seen : List Nat) : Option (Nat × κ × β) → Obs
 | none => obs
 | some (j, _, _) => obs.set idI (.mj ks vs (seen ++ [j]))
theorem q_nextI (hK : KeyT P kt kD kV kOk) {x : Operand} {idI : Nat} {m : List (κ × β)} {seen : List Nat} {obs : Obs} (hx : env.op x = some (.box idI 0)) (hi : obs.get idI = some (.mj (m.map fun p => kD p.1) (m.map fun p => vD p.2) seen)) :
  QStepN P ⟨dst, .next x false, ty, pos, aft, g⟩ env obs (nextGA m seen) (nextGD kD vD) (nextIO obs idI (m.map fun p => kD p.1) (m.map fun p => vD p.2) seen) := by
 intro O ρ a w hok hgl hv
 have hvx := hv x (by simp [Op.operands]) _ hx
 simp only [V] at hvx
 obtain ⟨r, hr1, e1⟩ := hvx
 obtain ⟨r', hr2, _, b, him, hit⟩ := hok.own idI _ hi rfl
 rw [hr1] at hr2; cases hr2
 obtain ⟨es, h4, h5, h6⟩ := esG_of hK him
 simp only [List.length_map] at hit
 have hold : ∀ x ∈ es.toList, x.born < m.length := fun x hx => by
  obtain ⟨_, _, q, _⟩ := h5.mem hx
  exact (List.getElem?_eq_some_iff.1 q).1
 unfold Oper.wp
 have hex : (execOp a.eval ⟨dst, .next x false, ty, pos, aft, g⟩).run P w = ((Instr.next (.pointer (some ⟨r.b, 0, none⟩)) false ty).bind fun v => Sem.pure (Next.value v)).run P w := by
  simp only [execOp, e1]; rfl
 rw [hex]
 rcases run_next_at (P := P) w ty r.b b m.length m.length seen.toArray es m.length hit h4 hold (Nat.le_refl _) with ⟨hz, hrun⟩ | ⟨e, he, w1, hw1, hrun⟩
 ·have : ((Instr.next (.pointer (some ⟨r.b, 0, none⟩)) false ty).bind fun v => Sem.pure (Next.value v)).run P w = .ok (.value (.tuple #[.bool false])) w := by
   show (Sem.bind _ _).run P w = _
   rw [Sem.run_bind', hrun]; rfl
  rw [this]
  refine ⟨none, ρ, _, ?_, rfl, Tr.refl hok, by simp [V, Vs, D.b]⟩
  intro j hj
  have hz' : leftOf es seen.toArray = #[] := Array.eq_empty_of_size_eq_zero hz
  obtain ⟨e, g1, g2, _⟩ := h5.at_ j (m[j]).1 (m[j]).2 (by simp [hj])
  unfold leftOf at hz'
  rw [Array.filter_eq_empty_iff] at hz'
  have hmem : e ∈ es := Array.mem_of_getElem? g1
  have := hz' e hmem
  simp at this
  rw [g2] at this
  exact this
 ·have hee : e ∈ es.toList ∧ e.born ∉ seen := by
   unfold leftOf at he
   simp at he
   exact ⟨by simpa using he.1, by simpa using he.2⟩
  obtain ⟨k, v, g1, g2, g3, g4⟩ := h5.mem hee.1
  have : ((Instr.next (.pointer (some ⟨r.b, 0, none⟩)) false ty).bind fun v => Sem.pure (Next.value v)).run P w = .ok (.value (.tuple #[.bool true, e.key, e.val])) (setBlock w1 r.b (.mapIter (some b) m.length (seen.toArray.push e.born) m.length)) := by
   show (Sem.bind _ _).run P w = _
   rw [Sem.run_bind', hrun]; rfl
  rw [this]
  have htr1 : Tr O w ρ obs w1 ρ obs := by
   rcases hw1 with rfl | rfl
   ·exact Tr.refl hok
   ·exact Tr.drawn hok _ (by first | exact Nat.le_succ _ | omega)
  have hit1 : w1.heap[r.b]? = some (.mapIter (some b) m.length seen.toArray m.length) := by rcases hw1 with rfl | rfl <;> exact hit
  have htr2 := Tr.upd (o' := .mj (m.map fun p => kD p.1) (m.map fun p => vD p.2) (seen ++ [e.born])) htr1.ok hi rfl hr1 (.mapIter (some b) m.length (seen.toArray.push e.born) m.length) (fun hkk => ⟨b, (him.mono htr1.kept).mono hkk, by simp [(Array.getElem?_eq_some_iff.1 hit1).1]⟩)
  refine ⟨some (e.born, k, v), ρ, _, ⟨g1, hee.2⟩, rfl, htr1.trans htr2, ?_⟩
  simp only [V, Vs, D.b]
  refine ⟨_, rfl, _, _, rfl, rfl, _, _, rfl, ?_, _, _, rfl, (htr1.trans htr2).V (V.mono (Kept.refl _ _) (rho0_le ρ) _ _ g4), rfl⟩
  rw [g3]
  exact hK.back (h6 k (List.mem_map.2 ⟨(k, v), List.mem_of_getElem? g1, rfl⟩))
theorem q_entryI (hK : KeyT P kt kD kV kOk) {x : Operand} {idI j : Nat} {k : κ} {v : β} {m : List (κ × β)} {seen : List Nat} {obs : Obs} (hx : env.op x = some (.box idI 0)) (hi : obs.get idI = some (.mj (m.map fun p => kD p.1) (m.map fun p => vD p.2) (seen ++ [j]))) (hj : m[j]? = some (k, v)) :
  QStep P ⟨dst, .entry x, ty, pos, aft, g⟩ env obs (.tup [kD k, vD v]) obs :=
 .val fun O ρ a w hok hv => by
  have hvx := hv x (by simp [Op.operands]) _ hx
  simp only [V] at hvx
  obtain ⟨r, hr1, e1⟩ := hvx
  obtain ⟨r', hr2, _, b, him, hit⟩ := hok.own idI _ hi rfl
  rw [hr1] at hr2; cases hr2
  obtain ⟨es, h4, h5, h6⟩ := esG_of hK him
  obtain ⟨e, g1, g2, g3, g4⟩ := h5.at_ j k v hj
  have hit' : w.heap[r.b]? = some (.mapIter (some b) m.length (seen.toArray.push e.born) m.length) := by rw [hit, g2]; simp
  have hnd : (es.toList.map (·.born)).Nodup := by rw [h5.borns]; exact List.nodup_range
  have hrun := run_entry_at (P := P) w r.b b m.length seen.toArray es m.length e hit' h4 (by simpa using Array.mem_of_getElem? g1) hnd
  refine ⟨.tuple #[e.key, e.val], ?_, ?_⟩
  ·simp only [execOp, e1]
   rw [Sem.run_bind, hrun]
   rfl
  ·simp only [V, Vs]
   refine ⟨_, rfl, _, _, rfl, ?_, _, _, rfl, V.mono (Kept.refl _ _) (rho0_le ρ) _ _ g4, rfl⟩
   rw [g3]
   exact hK.back (h6 k (List.mem_map.2 ⟨(k, v), List.mem_of_getElem? hj, rfl⟩))
end
structure FcE {ι : Type} (P : Program) (f : FuncId) (args : List D) (A : ι → Prop) (r : ι → D) : Prop where
 out : ∀ w O ρ vals, (∀ b, O b → b < w.heap.size) → Gl w O → Vs w O ρ args vals → Calls P f vals.toArray w (fun e w' => ∃ i v, A i ∧ e = .returned v ∧ V w' O ρ (r i) v ∧ Keep w w')
def retE {ι : Type} (ts : List Nat) (A : ι → Prop) (r : ι → D) : Exit → Env → Obs → Prop
 | .ret, env, _ | .normal, env, _ => ∃ i ds, A i ∧ getAll env ts = some ds ∧ Sub (mkRes ds) (r i)
 | _, _, _ => False
theorem FcE.mk' {ι : Type} {P : Program} {f : FuncId} {fn : Func} {c : Code} {args : List D} {A : ι → Prop} {r : ι → D} (ts : List Nat) (hf : P.funcs[f]? = some fn) (hb : fn.body = some c) {N : Nat} (hN : fn.ntmps = N) (hn : Nat.ble args.length N = true) (hp : D.pureB.pureL args = true) (hr : ∀ i, (r i).pureB = true)
  (hres : ∀ tmps w, (results fn tmps).run P w = .ok (resV ts tmps) w) (h : Run P ⟨N, [], false, none⟩ [c] (retE ts A r) (args0 args 0) []) : FcE P f args A r := ⟨fun w O ρ vals hO hgl hv0 => by
 have hno : ∀ b, ¬ Owned rho0 [] b := fun b ⟨i, o, l, h1, _⟩ => by simp [Obs.get] at h1
 have hok : ObsOK w O rho0 [] := ⟨hO, fun _ _ => rfl, fun i o h1 => by simp [Obs.get] at h1, fun i j o o' l l' h1 => by simp [Obs.get] at h1⟩
 have hv : Vs w (Ot O rho0 []) rho0 args vals := Vs.mono (Kept.subO fun b hb => hb.elim _root_.id (fun g => (hno b g).elim)) (RhoLe.refl _) _ _ (Vs.pure args vals hp hv0)
 refine calls_of_WP hf hb h.start (St.begin fn.ntmps hN (Nat.le_of_ble_eq_true hn) hok (hgl.mono (Kept.subO fun b hb => hb.elim _root_.id (fun g => (hno b g).elim))) hv [] none (fun _ _ e => by cases e)) ?_ ?_
 ·intro e env' obs' hq
  cases e <;> first | exact .inl rfl | exact .inr rfl | exact hq.elim
 ·intro e env' obs' tmps w' ρ' hq _ htr henv
  have : ∃ i ds, A i ∧ getAll env' ts = some ds ∧ Sub (mkRes ds) (r i) := by cases e <;> first | exact hq | exact hq.elim
  obtain ⟨i, ds, hA, h1, h2⟩ := this
  refine ⟨_, hres _ _, i, _, hA, rfl, ?_, htr.size, fun b hb => htr.same b hb (hno b), htr.os⟩
  have hvr := h2.out _ _ _ _ (Vs.res (getAll_V henv ts ds h1))
  exact V.pure _ _ (hr i) (V.mono (O' := O) (Kept.subO fun b hb => Or.inl hb) (RhoLe.refl _) _ _ hvr)⟩
theorem q_callE {ι : Type} {P : Program} {f : FuncId} {env : Env} {dst : Option Tmp} {ty : TypeId} {pos : String} {aft : Array Edge} {g : Option (Nat × Bool)} {xs : List Operand} {tys : Array TypeId} {ds : List D} {A : ι → Prop} {r : ι → D}
  (hcall : ∀ (args : Array Value) (w : World), (callFunc f args).run P w = .ok (.enter f args) w) (hx : env.opsD xs = some ds) (hf : FcE P f ds A r) (obs : Obs) :
  QStepN P ⟨dst, .call ⟨.value (.func f), xs.toArray, tys⟩, ty, pos, aft, g⟩ env obs A r (fun _ => obs) := by
 intro O ρ a w hok hgl hv
 have hvs := opsD_V xs ds hx (fun x hx d' h => hv x (by simp [Op.operands, Call.operands, hx]) d' h)
 have hrun : (execOp a.eval ⟨dst, .call ⟨.value (.func f), xs.toArray, tys⟩, ty, pos, aft, g⟩).run P w = .ok (.enter f (xs.map a.eval).toArray) w := by
  have h1 : execOp a.eval ⟨dst, .call ⟨.value (.func f), xs.toArray, tys⟩, ty, pos, aft, g⟩ = callFunc f (xs.map a.eval).toArray := by
   simp [execOp, resolve, Deferred.ofValue, Act.eval, invoke, Bind.bind, Sem.bind, Pure.pure]
  rw [h1, hcall]
 unfold Oper.wp
 rw [hrun]
 simp only [Oper.upon]
 refine Calls.mono (hf.out w (Ot O ρ obs) ρ _ ?_ hgl hvs) ?_
 ·rintro b (hb | ⟨i, o, l, h1, h2, h3, h4⟩)
  ·exact hok.lt b hb
  ·obtain ⟨l', h5, _, h6⟩ := hok.own i o h1 h2
   rw [h3] at h5; cases h5
   exact h4 ▸ h6.lt h2
 ·rintro e w' ⟨i, v, hA, rfl, h1, h2⟩
  exact ⟨i, ρ, v, hA, rfl, Tr.of_keep h2 hok, h1⟩
end Go.T
namespace Go.T
open Go
variable [Noise]
end Go.T
