/-
  Contracts of the functions that the statement reaches, and the logic in which they are proved (no condition): parts W64, Bal9, W65, Card1, Card2, Card3.
-/
import Derived.Test.YtlhemheagekhaaaGreatDoorA15
import Derived.ChangeArms
import Derived.SizedLaws
import Derived.ProofKit
import Derived.OpenShut
import Derived.ReadAgain
import Derived.LaidMore
import Derived.Test.YtlhemheagekhaaaGreatDoorCards
import Derived.Test.YtlhemheagekhaaaGreatDoorTie
import Derived.Lay
import Derived.SevenTiedAt
import Derived.Stop.Joined
set_option linter.all false
namespace Go.T
open Go Go.Proofs
set_option maxRecDepth 20000
theorem small0_ok  : Fc Tryz.prog 227 [.i 0] (.str [48]) := by
 refine Fc.mk' [2] Tryz.func227 rfl Tryz.ntmps227 rfl rfl rfl (fun t w => results_tmp Tryz.results227 t _ w) ?_
 refine Run.seq (Run.reg [.p] ?_)
 refine .ag rfl rfl <| .nil ?_
 refine Run.seq (Run.seq (Run.reg [.p, .p] ?_))
 refine .mv rfl rfl <| .P rfl (q_lss rfl rfl) <| .nil ?_
 refine Run.condT rfl (rfl) ?_
 refine Run.seq (Run.reg [.p, .p, .p, .p, .p] ?_)
 refine .mv rfl rfl <| .mv rfl rfl <| .P rfl (q_add rfl rfl (wrap64_ok (by omega) (by omega))) <| .P rfl (q_sliceS Tryz.underlying9 rfl (l := 0) (h := 1) (r := [48]) (.inr ⟨_, _, rfl, rfl⟩) (.inr ⟨_, _, rfl, rfl⟩) (by decide) (by decide) rfl) <| .ag rfl rfl <| .nil ?_
 refine Run.ret (?_)
 exact ret1 rfl (Sub.str (by rfl))
theorem formatInt0_ok  : Fc Tryz.prog 274 [.i 0, .i 10] (.str [48]) := by
 refine Fc.mk' [4] Tryz.func274 rfl Tryz.ntmps274 rfl rfl rfl (fun t w => results_tmp Tryz.results274 t _ w) ?_
 refine Run.seq (Run.reg [.p] ?_)
 refine .ag rfl rfl <| .nil ?_
 refine Run.seq (Run.seq (Run.reg [.p, .p] ?_))
 refine .mv rfl rfl <| .P rfl (q_eql rfl rfl) <| .nil ?_
 refine Run.condT rfl (rfl) ?_
 refine Run.seq (Run.seq (Run.reg [.p, .p, .p, .p, .p, .p] ?_))
 refine .mv rfl rfl <| .P rfl (q_leq rfl rfl) <| .mv rfl rfl <| .gT rfl (.inl rfl) rfl rfl rfl (fun hg => pk (fun _ => q_move rfl _)) <| .gT rfl (.inl rfl) rfl rfl rfl (fun hg => pk (fun _ => q_lss (opT rfl hg) rfl _)) <| .P rfl (q_and rfl rfl) <| .nil ?_
 refine Run.condT rfl (rfl) ?_
 refine Run.seq (Run.reg [.p, .p, .p] ?_)
 refine .mv rfl rfl <| .P rfl (q_call Tryz.call227 rfl small0_ok) <| .ag rfl rfl <| .nil ?_
 refine Run.ret (?_)
 exact ret1 rfl (Sub.str (by rfl))
theorem itoa0i_ok  : Fc Tryz.prog 235 [.i 0] (.str [48]) := by
 refine Fc.mk' [2] Tryz.func235 rfl Tryz.ntmps235 rfl rfl rfl (fun t w => results_tmp Tryz.results235 t _ w) ?_
 refine Run.seq (Run.reg [.p] ?_)
 refine .ag rfl rfl <| .nil ?_
 refine Run.seq (Run.reg [.p, .p, .p] ?_)
 refine .mv rfl rfl <| .P rfl (q_call Tryz.call274 rfl formatInt0_ok) <| .ag rfl rfl <| .nil ?_
 refine Run.ret (?_)
 exact ret1 rfl (Sub.str (by rfl))
theorem itoa0_ok  : Fc Tryz.prog 185 [.i 0] (.str [48]) := by
 refine Fc.mk' [2] Tryz.func185 rfl Tryz.ntmps185 rfl rfl rfl (fun t w => results_tmp Tryz.results185 t _ w) ?_
 refine Run.seq (Run.reg [.p] ?_)
 refine .ag rfl rfl <| .nil ?_
 refine Run.seq (Run.reg [.p, .p, .p] ?_)
 refine .mv rfl rfl <| .P rfl (q_call Tryz.call235 rfl itoa0i_ok) <| .ag rfl rfl <| .nil ?_
 refine Run.ret (?_)
 exact ret1 rfl (Sub.str (by rfl))
theorem of0_ok  : Fc Tryz.prog 137 [.i 0] (.str []) := by
 refine Fc.mk' [2] Tryz.func137 rfl Tryz.ntmps137 rfl rfl rfl (fun t w => results_tmp Tryz.results137 t _ w) ?_
 refine Run.seq (Run.reg [.p] ?_)
 refine .ag rfl rfl <| .nil ?_
 refine Run.seq (Run.reg [.p, .p, .p, .p] ?_)
 refine .mv rfl rfl <| .P rfl (q_call Tryz.call185 rfl itoa0_ok) <| .P rfl (q_call Tryz.call168 rfl (canonical_ok _)) <| .ag rfl rfl <| .nil ?_
 refine Run.ret (?_)
 exact ret1 rfl (Sub.str (by decide))
theorem sumK_snoc (k : Key) (l : List Line) (x : Line) : sumK k (l ++ [x]) = sumK k l + (if lkey x = k then val x.amount else 0) := by rw [sumK_append]; simp only [sumK]; omega
theorem lkey_iff {x : Line} {a c : Str} : lkey x = (a, c) ↔ x.account = a ∧ x.currency = c := by simp [lkey]
theorem tzKeyS : KeyT Tryz.prog 9 D.str vStr okStr := keyStr Tryz.underlying9
theorem okB_SG (f : Nat → Bool) (m : List (Str × Str)) : Ob.okB f (.mp (encGM D.str D.str m)) = true := by
 have h2 : ∀ l : List Str, D.okB.okL f (l.map .str) = true := by
  intro l
  induction l with
  | nil => rfl
  | cons a l ih => simp only [List.map_cons, D.okB.okL, D.okB, ih]; rfl
 have e1 : (encGM D.str D.str m).map (·.1) = (m.map (·.1)).map .str := by simp [encGM]
 have e2 : (encGM D.str D.str m).map (·.2) = (m.map (·.2)).map .str := by simp [encGM]
 simp only [Ob.okB]
 rw [e1, e2, h2, h2]; rfl
structure amount_ok_L0 (e : Entry) (a c : Str) where
 pre : List Line
 rest : List Line
 hx : e.lines = pre ++ rest
theorem amount_ok (e : Entry) (a c : Str) (hs : smallE e) : Fc Tryz.prog 84 [.agg (encEntry e), .str a, .str c] (.str (amtE (a, c) e)) := by
 refine Fc.mk' [6] Tryz.func84 rfl Tryz.ntmps84 rfl rfl rfl (fun t w => results_tmp Tryz.results84 t _ w) ?_
 have hs66 := hs.2.1
 refine Run.seq (Run.reg [.w, .p] ?_)
 refine .W rfl (q_boxA 0 rfl rfl) <| .ag rfl rfl <| .nil ?_
 refine Run.seq (Run.reg [.p, .p] ?_)
 refine .P rfl (q_call Tryz.call137 rfl of0_ok) <| .ag rfl rfl <| .nil ?_
 refine Run.seq (Run.seq (Run.reg [.p, .r, .p, .p] ?_))
 refine .P rfl (q_fieldB (n := 0) 35 2 Tryz.underlying37 Tryz.sizeOf35 rfl rfl) <| .R rfl (q_load1 Tryz.isAgg35 rfl rfl rfl) <| .P rfl (q_lenI Tryz.underlying35 rfl) <| .mv rfl rfl <| .nil ?_
 refine Run.block ?_
 refine Run.loop (ι := amount_ok_L0 e a c) (fun sx => [(1, .str a), (2, .str c), (7, .str (ofInt (sumK (a, c) sx.pre))), (12, sLines e.lines), (13, .i e.lines.length), (14, .i sx.pre.length)]) (fun sx => []) (fun sx => sx.rest.length) ⟨[], e.lines, rfl⟩ ?_ ?_
 ·exact Le.mk rfl (.cons rfl Sub.strA rfl (.cons rfl Sub.strA rfl (.cons rfl (Sub.str (by first | (simp [sumK, ofInt_zero]; done) | (rw [sumK_snoc, if_pos (lkey_iff.2 (by simpa using ph1)), addS_ofInt]; done) | (rw [sumK_snoc, if_neg (fun hh => by have := lkey_iff.1 hh; simp_all)]; simp))) rfl (.same rfl rfl (.cons rfl Sub.intA rfl (.cons rfl Sub.intA rfl .nil)))))) .nil
 ·rintro ⟨pre, rest, hx⟩
  show Run _ _ _ _ [(1, .str a), (2, .str c), (7, .str (ofInt (sumK (a, c) pre))), (12, sLines e.lines), (13, .i e.lines.length), (14, .i pre.length)] []
  have hl := congrArg List.length hx
  simp only [List.length_append] at hl
  rcases rest with _ | ⟨x, rest⟩
  ·skip
   refine Run.seq (Run.reg [.p] ?_)
   refine .P rfl (q_lss rfl rfl) <| .nil ?_
   refine Run.seq ?_
   refine Run.condF rfl (by simp at hl ⊢; omega) ?_
   refine Run.exit (tq_exit (bq_exit ?_))
   refine Run.seq (Run.reg [.p, .p] ?_)
   refine .mv rfl rfl <| .ag rfl rfl <| .nil ?_
   refine Run.ret (?_)
   exact ret1 rfl (Sub.str (by unfold amtE; rw [hx, List.append_nil]))
  ·simp only [List.length_cons] at hl
   have hxa := (hs.2.2 x (by rw [hx]; simp)).2.2
   have hbd := sumK_bound (k := (a, c)) (ls := pre) (fun y hy => (hs.2.2 y (by rw [hx]; simp [hy])).2.2)
   have hpl : pre.length ≤ 66 := by omega
   have hal := ofInt_len30 (n := sumK (a, c) pre) (by constructor <;> omega)
   refine Run.seq (Run.reg [.p] ?_)
   refine .P rfl (q_lss rfl rfl) <| .nil ?_
   refine Run.seq ?_
   refine Run.condT rfl (by simp; omega) ?_
   refine Run.skip ?_
   refine Run.seq ?_
   refine Run.block ?_
   refine Run.seq (Run.reg [.p, .p, .w, .w] ?_)
   refine .P rfl (q_indexI Tryz.underlying35 Tryz.sizeOf92 rfl rfl (by omega) (idx_mid encLine hx rfl)) <| .P rfl (q_loadIA Tryz.isAgg92 Tryz.sizeOf92 rfl rfl) <| .W rfl (q_alloc 1 Tryz.zeroValue92 rfl) <| .W rfl (q_storeW Tryz.sizeOf92 rfl rfl rfl rfl rfl rfl) <| .nil ?_
   refine Run.seq (Run.reg [.p, .r, .p, .p, .p, .p, .r, .p, .p, .p] ?_)
   refine .P rfl (q_fieldB (n := 0) 9 0 Tryz.underlying92 Tryz.sizeOf9 rfl rfl) <| .R rfl (q_load1 Tryz.isAgg9 rfl rfl rfl) <| .mv rfl rfl <| .P rfl (q_eqlS rfl rfl) <| .mv rfl rfl <| .gT rfl (.inl rfl) rfl rfl rfl (fun hg => pk (fun _ => q_fieldB (n := 0) 9 1 Tryz.underlying92 Tryz.sizeOf9 rfl rfl _)) <| .gT rfl (.inr rfl) rfl rfl rfl (fun hg => rk (q_load1 Tryz.isAgg9 (opT rfl hg) rfl rfl)) <| .gT rfl (.inl rfl) rfl rfl rfl (fun hg => pk (fun _ => q_move rfl _)) <| .gT rfl (.inl rfl) rfl rfl rfl (fun hg => pk (fun _ => q_eqlS (opT rfl hg) (opT rfl hg) _)) <| .P rfl (q_and rfl rfl) <| .nil ?_
   refine Run.cond rfl (fun h1 => ?_) (fun h1 => ?_)
   ·have ph1 := h1
    try simp only [bs, bne_iff_ne, ne_eq, List.length_map] at ph1
    refine Run.reg [.p, .p, .r, .p, .p] ?_
    refine .mv rfl rfl <| .P rfl (q_fieldB (n := 0) 54 2 Tryz.underlying92 Tryz.sizeOf54 rfl rfl) <| .R rfl (q_load1 Tryz.isAgg54 rfl rfl rfl) <| .P rfl (q_call Tryz.call27 rfl (add_ok _ _ (by omega) (by omega))) <| .ag rfl rfl <| .nil ?_
    refine Run.nil (bq_norm ?_)
    refine Run.reg [.p, .p] ?_
    refine .P rfl (q_add rfl rfl (wrap64_ok (by first | omega | (simp; done) | (simp; omega) | (simp at *; omega)) (by first | omega | (simp; done) | (simp; omega) | (simp at *; omega)))) <| .mv rfl rfl <| .nil ?_
    refine Run.nil (tq_norm ?_)
    exact ⟨⟨pre ++ [x], rest, by simp [hx]⟩, by simp, Le.mk rfl (.cons rfl Sub.strA rfl (.cons rfl Sub.strA rfl (.cons rfl (Sub.str (by first | (simp [sumK, ofInt_zero]; done) | (rw [sumK_snoc, if_pos (lkey_iff.2 (by simpa using ph1)), addS_ofInt]; done) | (rw [sumK_snoc, if_neg (fun hh => by have := lkey_iff.1 hh; simp_all)]; simp))) rfl (.same rfl rfl (.cons rfl Sub.intA rfl (.cons rfl Sub.intA rfl .nil)))))) .nil⟩
   ·have ph1 := h1
    try simp only [bs, bne_iff_ne, ne_eq, List.length_map] at ph1
    refine Run.skip ?_
    refine Run.nil (bq_norm ?_)
    refine Run.reg [.p, .p] ?_
    refine .P rfl (q_add rfl rfl (wrap64_ok (by first | omega | (simp; done) | (simp; omega) | (simp at *; omega)) (by first | omega | (simp; done) | (simp; omega) | (simp at *; omega)))) <| .mv rfl rfl <| .nil ?_
    refine Run.nil (tq_norm ?_)
    exact ⟨⟨pre ++ [x], rest, by simp [hx]⟩, by simp, Le.mk rfl (.cons rfl Sub.strA rfl (.cons rfl Sub.strA rfl (.cons rfl (Sub.str (by first | (simp [sumK, ofInt_zero]; done) | (rw [sumK_snoc, if_pos (lkey_iff.2 (by simpa using ph1)), addS_ofInt]; done) | (rw [sumK_snoc, if_neg (fun hh => by have := lkey_iff.1 hh; simp_all)]; simp))) rfl (.same rfl rfl (.cons rfl Sub.intA rfl (.cons rfl Sub.intA rfl .nil)))))) .nil⟩
abbrev SMp := List (Str × Str)
def keyAtS (m : SMp) (j : Nat) : Option Str := m[j]?.map (·.1)
theorem keyAtS_range (m : SMp) : (List.range m.length).filterMap (keyAtS m) = m.map (·.1) := by
 induction m with
 | nil => rfl
 | cons p m ih =>
  rw [List.length_cons, List.range_succ_eq_map, List.filterMap_cons]
  simp only [keyAtS, List.getElem?_cons_zero, Option.map_some, List.map_cons, List.filterMap_map]
  congr 1
theorem keysS_perm {m : SMp} {seen : List Nat} (hn : seen.Nodup) (hlt : ∀ j ∈ seen, j < m.length) (hall : ∀ j, j < m.length → j ∈ seen) : (seen.filterMap (keyAtS m)).Perm (m.map (·.1)) := by
 rw [← keyAtS_range]
 refine List.Perm.filterMap _ ((List.perm_ext_iff_of_nodup hn List.nodup_range).2 fun a => ?_)
 rw [List.mem_range]
 exact ⟨hlt a, hall a⟩
theorem keyAtS_snoc {m : SMp} {seen : List Nat} {j : Nat} {k v : Str} (h : m[j]? = some (k, v)) : (seen ++ [j]).filterMap (keyAtS m) = seen.filterMap (keyAtS m) ++ [k] := by
 rw [List.filterMap_append]; simp [keyAtS, h]
theorem ltS_snoc {m : SMp} {seen : List Nat} {j : Nat} {kv : Str × Str} (h : m[j]? = some kv) (hlt : ∀ j ∈ seen, j < m.length) : ∀ i ∈ seen ++ [j], i < m.length := by
 intro i hi
 rcases List.mem_append.1 hi with hi | hi
 ·exact hlt i hi
 ·simp at hi; subst hi; exact (List.getElem?_eq_some_iff.1 h).1
theorem fmS_len (m : SMp) (seen : List Nat) : (seen.filterMap (keyAtS m)).length ≤ seen.length := List.length_filterMap_le _ _
theorem mapsKeysS_ok (m : SMp) : Fc Tryz.prog 86 [imapG D.str D.str m] (.fn (.func 140) [] [.iptr [imapG D.str D.str m]]) := by
 refine Fc.mk' [2] Tryz.func86 rfl Tryz.ntmps86 rfl rfl rfl (fun t w => results_tmp Tryz.results86 t _ w) ?_
 refine Run.seq (Run.reg [.w, .p] ?_)
 refine .W rfl (q_box1 0 rfl rfl rfl) <| .ag rfl rfl <| .nil ?_
 refine Run.weak (Le.freezeB 1 0 rfl rfl rfl rfl) ?_
 refine Run.seq (Run.reg [.p, .p] ?_)
 refine .P rfl (q_makeFunc (xs := []) (ys := _) rfl rfl) <| .ag rfl rfl <| .nil ?_
 refine Run.ret (?_)
 exact ret1 rfl (by exact Sub.refl _)
structure keysSY_ok_L0 (m : SMp) where
 seen : List Nat
 acc : List Str
 hnd : seen.Nodup
 hlt : ∀ j ∈ seen, j < m.length
 hacc : acc = seen.filterMap (keyAtS m)
theorem keysSY_ok (m : SMp) : FcY (α := Str) Tryz.prog 140 8000 [.iptr [imapG D.str D.str m]] [] (fun p => [D.str p]) (fun p => p.length ≤ m.length) (fun p => p.Perm (m.map (·.1))) := by
 refine FcY.mk' Tryz.func140 rfl Tryz.ntmps140 rfl (fun t w => results_none Tryz.results140 t _ w) (fun idL lb ids B X Y => ?_)
 refine Run.seq (Run.reg [.p, .w] ?_)
 refine .P rfl (q_loadI Tryz.isAgg53 rfl) <| .W rfl (q_rangeI 8000 Tryz.underlying53 rfl (Y.free _ 8000 (by decide) (by decide))) <| .nil ?_
 refine Run.block ?_
 refine Run.loop (ι := keysSY_ok_L0 m) (fun sx => [(0, yv lb), (5, .box 8000 0)]) (fun sx => ([(8000, .mj (m.map fun p => D.str p.1) (m.map fun p => D.str p.2) sx.seen)] ++ B sx.acc)) (fun sx => unseen m.length sx.seen) ⟨[], [], List.nodup_nil, by simp, rfl⟩ ?_ ?_
 ·exact Le.mk (ps_ok (Y.has _) rfl) (.same rfl rfl (.same rfl rfl .nil)) (.eq rfl (by first | rfl | (simp; done)) rfl (.tail (tail_ok (own := [(8000, _)]) (own' := [(8000, _)]) rfl (Y.free _) (Y.okb _))))
 ·rintro ⟨seen, acc, hnd, hlt, hacc⟩
  show Run _ _ _ _ [(0, yv lb), (5, .box 8000 0)] ([(8000, .mj (m.map fun p => D.str p.1) (m.map fun p => D.str p.2) seen)] ++ B acc)
  refine Run.seq (Run.regT ?_)
  refine Tx.n rfl trivial (q_nextI tzKeyS (vD := D.str) rfl rfl) (fun nb hnb => ?_)
  rcases nb with _ | ⟨nj, nk, nv⟩
  ·dsimp only [nextGD, nextIO]
   refine Tx.q rfl trivial (q_extract rfl rfl _) ?_
   refine Tx.nil ?_
   refine Run.seq ?_
   refine Run.condF rfl rfl ?_
   refine Run.exit (tq_exit (bq_exit ?_))
   refine Run.nil ?_
   exact retY_fin (.inr rfl) (acc) (by rw [hacc]; exact keysS_perm hnd hlt hnb) (own_get (own := [(8000, _)]) rfl (Y.free _))
  ·dsimp only [nextGD, nextIO]
   refine Tx.q rfl trivial (q_extract rfl rfl _) ?_
   refine Tx.nil ?_
   refine Run.seq ?_
   refine Run.condT rfl rfl ?_
   refine Run.skip ?_
   refine Run.block ?_
   refine Run.seq (Run.reg [.r, .p, .p] ?_)
   refine .R rfl (q_entryI tzKeyS (vD := D.str) rfl rfl (And.left hnb)) <| .P rfl (q_extract rfl rfl) <| .ag rfl rfl <| .nil ?_
   refine Run.seq (Run.regT ?_)
   refine Tx.q rfl trivial (q_move rfl _) ?_
   refine Tx.q rfl trivial (q_move rfl _) ?_
   refine Tx.weak (Le.mk (obs' := [(8000, _)] ++ B (acc)) (ps_ok (Y.has _) rfl) (show EnvLe _ _ [(0, _), (5, _), (6, _), (7, _), (8, _), (9, _), (3, _), (10, _), (11, _)] from (.same rfl rfl (.same rfl rfl (.same rfl rfl (.same rfl rfl (.same rfl rfl (.same rfl rfl (.same rfl rfl (.same rfl rfl (.same rfl rfl .nil)))))))))) (.cons (i := 8000) rfl rfl (.tail (tail_ok (own := [(8000, _)]) (own' := [(8000, _)]) rfl (Y.free _) (Y.okb _))))) ?_
   refine Tx.y2 Y (own := [(8000, _)]) (pre := acc) (env' := [(0, _), (5, _), (6, _), (7, _), (8, _), (9, _), (3, _), (10, _), (11, _)]) nk rfl rfl rfl rfl trivial rfl rfl rfl (by have h1 := seen_len (nodup_snoc hnd (And.right hnb)) (ltS_snoc (And.left hnb) hlt); have h2 := fmS_len m seen; simp only [List.length_append, List.length_singleton] at *; rw [hacc]; omega) rfl rfl (.cons rfl rfl (.cons rfl rfl (.cons rfl rfl (.cons rfl rfl (.cons rfl rfl (.cons rfl rfl (.cons rfl rfl (.cons rfl rfl (.cons rfl rfl .nil))))))))) ?_ (fun o hX => ?_)
   ·skip
    refine Tx.q rfl trivial (q_not rfl _) ?_
    refine Tx.nil ?_
    refine Run.condF rfl rfl ?_
    refine Run.skip ?_
    refine Run.nil (bq_norm ?_)
    refine Run.nil (tq_norm ?_)
    exact ⟨⟨seen ++ [nj], acc ++ [nk], nodup_snoc hnd (And.right hnb), ltS_snoc (And.left hnb) hlt, by rw [hacc, keyAtS_snoc (And.left hnb)]⟩, by exact unseen_lt ((List.getElem?_eq_some_iff.1 (And.left hnb)).1) (And.right hnb), Le.mk (ps_ok (Y.has _) rfl) (.same rfl rfl (.same rfl rfl .nil)) (.eq rfl (by first | rfl | (simp; done)) rfl (.tail (tail_ok (own := [(8000, _)]) (own' := [(8000, _)]) rfl (Y.free _) (Y.okb _))))⟩
   ·skip
    refine Tx.q rfl trivial (q_not rfl _) ?_
    refine Tx.nil ?_
    refine Run.condT rfl rfl ?_
    refine Run.ret (bq_ret (tq_ret (bq_ret (?_))))
    exact retY_x (.inl rfl) o hX (own_get (own := [(8000, _)]) rfl (Y.freeX _ hX))
theorem appendStrs_ok (m : SMp) (hm : m.length ≤ 1000000) : FcOE (ι := List Str) Tryz.prog 186 [.raw (.slice none 0 0), .fn (.func 140) [] [.iptr [imapG D.str D.str m]]] [] (fun p => p.Perm (m.map (·.1))) (fun p => .gs 7800 p.length) (fun p => [(7800, .arr 1 (p.map (fun s => [D.str s])))]) := by
 refine FcOE.mk' [4] Tryz.func186 rfl Tryz.ntmps186 rfl (fun _ => rfl) (fun _ => rfl) (fun t w => results_tmp Tryz.results186 t _ w) ?_
 refine Run.seq (Run.reg [.w, .p] ?_)
 refine .W rfl (q_box1 0 rfl rfl rfl) <| .ag rfl rfl <| .nil ?_
 refine Run.seq (Run.seq (Run.reg [.p] ?_))
 refine .mv rfl rfl <| .nil ?_
 refine Run.block ?_
 refine Run.rangeF (α := Str) 7900 [0] [(0, _), (1, _), (2, _), (4, _), (6, _)] (fun (pre : List (Str)) => [(0, .cells [.gs 7800 pre.length]), (7800, .arr 1 (pre.map (fun s => [D.str s])))]) (fun _ _ => False) rfl Tryz.call140 (keysSY_ok m) (env1 := [(0, _), (1, _), (2, _), (4, _), (6, _)]) ((Le.own0 7800 1).trans <| (Le.subO 0 0 rfl rfl (Sub.gsNil 7800)).trans <| Le.mk (obs' := [] ++ (fun (pre : List (Str)) => [(0, .cells [.gs 7800 pre.length]), (7800, .arr 1 (pre.map (fun s => [D.str s])))]) []) rfl (show EnvLe _ _ [(0, _), (1, _), (2, _), (4, _), (6, _)] from (.same rfl rfl (.same rfl rfl (.same rfl rfl (.same rfl rfl (.same rfl rfl .nil)))))) (.eq rfl (by first | rfl | (simp; done)) rfl (.eq rfl (by first | rfl | (simp; done)) rfl .nil))) rfl rfl (fun _ => rfl) (.cons rfl rfl (.cons rfl rfl (.cons rfl rfl (.cons rfl rfl (.cons rfl rfl .nil))))) rfl (fun _ => rfl) (by rintro j o h; exact h.elim) (fun _ => Obs.okB_get rfl) (by rintro j o h; exact h.elim) (fun _ => freeB_get rfl) (by rintro j o h; exact h.elim) (by decide) rfl (fun pre x hok => ?_) (fun xs hfin => ?_) (fun _ _ h => h.elim)
 ·skip
  simp only [List.length_append, List.length_singleton] at hok
  refine Run.reg [.p] ?_
  refine .ag rfl rfl <| .nil ?_
  refine Run.nil ⟨rfl, ?_⟩
  refine Run.block ?_
  refine Run.reg [.r, .p, .p, .w, .w] ?_
  refine .R rfl (q_load1 Tryz.isAgg124 rfl rfl rfl) <| .mv rfl rfl <| .P rfl (q_buildSlice' (n := 1) (rows := [[D.str x]]) Tryz.underlying124 Tryz.sizeOf9 rfl rfl rfl Tryz.zeroValue9 rfl rfl rfl rfl rfl rfl rfl) <| .W rfl (q_append 1 Tryz.underlying124 Tryz.underlying124 Tryz.sizeOf9 Tryz.typeInfo9 Tryz.zeroValue9 rfl (bt := 16) rfl rfl rfl rfl (by simp) rfl rfl (by simp; omega)) <| .W rfl (q_store1 Tryz.sizeOf124 rfl rfl rfl rfl (by first | (simp; done) | decide)) <| .nil ?_
  refine Run.nil (bq_norm ?_)
  refine Run.nil ?_
  exact ⟨rfl, (Le.mk (env' := []) (obs' := [(7900, _), (0, _), (1, _)]) rfl .nil (.cons (i := 7900) rfl rfl (.cons (i := 0) rfl rfl (.cons (i := 1) rfl rfl .nil)))).trans <| (Le.renO 0 0 1 7800 rfl rfl rfl (by simp) rfl).trans <| Le.mk rfl .nil (.cons rfl rfl (.eq rfl (by first | rfl | (simp; done) | (simp; omega)) rfl (.eq rfl (by first | rfl | (simp; done) | (simp; omega)) rfl .nil)))⟩
 ·skip
  refine Run.nil (bq_norm ?_)
  refine Run.seq (Run.reg [.r, .p] ?_)
  refine .R rfl (q_load1 Tryz.isAgg124 rfl rfl rfl) <| .ag rfl rfl <| .nil ?_
  refine Run.ret (?_)
  exact retOE1 (xs) (hfin) rfl (by exact Sub.gs (by simp)) (.eq rfl (by rfl) rfl .nil)
theorem collectStrs_ok (m : SMp) (hm : m.length ≤ 1000000) : FcOE (ι := List Str) Tryz.prog 138 [.fn (.func 140) [] [.iptr [imapG D.str D.str m]]] [] (fun p => p.Perm (m.map (·.1))) (fun p => .gs 7800 p.length) (fun p => [(7800, .arr 1 (p.map (fun s => [D.str s])))]) := by
 refine FcOE.mk' [2] Tryz.func138 rfl Tryz.ntmps138 rfl (fun _ => rfl) (fun _ => rfl) (fun t w => results_tmp Tryz.results138 t _ w) ?_
 refine Run.seq (Run.reg [.p] ?_)
 refine .ag rfl rfl <| .nil ?_
 refine Run.seq (Run.regT ?_)
 refine Tx.q rfl trivial (q_move rfl _) ?_
 refine Tx.n rfl trivial (q_callOE Tryz.call186 rfl (appendStrs_ok m hm) .nil rfl (fun _ => rfl)) (fun nb hnb => ?_)
 dsimp only
 refine Tx.q rfl trivial (q_assign rfl _) ?_
 refine Tx.nil ?_
 refine Run.ret (?_)
 exact retOE1 (nb) (hnb) rfl (by exact Sub.gs (by simp)) (.eq rfl (by rfl) rfl .nil)
theorem sortStrs_ok (l : List Str) (h : ∀ s ∈ l, okStr s) (hl : l.length < 4611686018427387904) : FcO Tryz.prog 139 [.gs 7800 l.length] [(7800, .arr 1 (l.map fun s => [D.str s]))] (.tup []) [(7800, .arr 1 ((sortS l).map fun s => [D.str s]))] := by
 have h2 : ∀ s ∈ sortS l, okStr s := fun s hs => h s ((sortS_perm0 l).subset hs)
 have e1 : (l.attachWith okStr h).map (fun x => [D.str x.1]) = l.map fun s => [D.str s] := by conv => { rhs; rw [← attach_val h, List.map_map] }; rfl
 have e2 : ((sortS l).attachWith okStr h2).map (fun x => [D.str x.1]) = (sortS l).map fun s => [D.str s] := by conv => { rhs; rw [← attach_val h2, List.map_map] }; rfl
 have := sortStr_FcO (r := Tryz.sortStr_ren) Tryz.sortStr 7800 (l.attachWith okStr h) (by simpa using hl) ((sortS l).attachWith okStr h2) (by rw [attach_val, attach_val]; rfl)
 rw [e1, e2, List.length_attachWith] at this
 exact this
theorem sortedStrs_ok (m : SMp) (hm : m.length ≤ 1000000) (hk : ∀ k ∈ m.map (·.1), okStr k) (hn : (m.map (·.1)).Nodup) : Fc Tryz.prog 85 [.fn (.func 140) [] [.iptr [imapG D.str D.str m]]] (sStrs (sortS (m.map (·.1)))) := by
 refine Fc.mk' [2] Tryz.func85 rfl Tryz.ntmps85 rfl rfl rfl (fun t w => results_tmp Tryz.results85 t _ w) ?_
 refine Run.seq (Run.reg [.p] ?_)
 refine .ag rfl rfl <| .nil ?_
 refine Run.seq (Run.regT ?_)
 refine Tx.q rfl trivial (q_move rfl _) ?_
 refine Tx.n rfl trivial (q_callOE Tryz.call138 rfl (collectStrs_ok m hm) .nil rfl (fun _ => rfl)) (fun nb hnb => ?_)
 dsimp only
 refine Tx.q rfl trivial (q_assign rfl _) ?_
 refine Tx.nil ?_
 refine Run.seq (Run.reg [.p, .w] ?_)
 refine .mv rfl rfl <| .W rfl (q_callO Tryz.call139 rfl (sortStrs_ok nb (fun k hk' => hk k (hnb.subset hk')) (by have := hnb.length_eq; simp at this; omega)) (.cons rfl rfl .nil) rfl rfl) <| .nil ?_
 refine Run.seq (Run.reg [.p, .p] ?_)
 refine .mv rfl rfl <| .ag rfl rfl <| .nil ?_
 refine Run.weak (Le.freeze 2 7800 rfl rfl (by have := (sortS_perm0 nb).length_eq; simp [this])) ?_
 refine Run.ret (?_)
 exact ret1 rfl (Sub.snap (by rw [sortS_perm hnb hn]))
structure explain_ok_L0 (l : List Posted) (a c : Str) where
 pre : List Posted
 rest : List Posted
 hx : l = pre ++ rest
structure explain_ok_L1 (l : List Posted) (a c : Str) (pre : List Posted) where
 preq : List Str
 restq : List Str
 hxq : sortS ((exM (a, c) pre).map (·.1)) = preq ++ restq
theorem explain_ok (l : List Posted) (a c : Str) (hs : smallPs l) : Fc Tryz.prog 31 [sPosteds l, .str a, .str c] (.tup [sTerms (if okPs l then explainT (a, c) l else []), .i (if okPs l then 0 else 1)]) := by
 refine Fc.mk' [6, 7] Tryz.func31 rfl Tryz.ntmps31 rfl rfl rfl (fun t w => results_tmp2 Tryz.results31 t _ w) ?_
 refine Run.seq (Run.reg [.p, .p] ?_)
 refine .ag rfl rfl <| .ag rfl rfl <| .nil ?_
 refine Run.seq (Run.seq (Run.reg [.p, .p, .p] ?_))
 refine .mv rfl rfl <| .P rfl (q_call Tryz.call67 rfl (postList_ok _ (by first | assumption | omega | (simp at *; omega)))) <| .P rfl (q_not rfl) <| .nil ?_
 refine Run.cond rfl (fun h1 => ?_) (fun h1 => ?_)
 ·have ph1 := h1
  try simp only [bs, bne_iff_ne, ne_eq, List.length_map] at ph1
  refine Run.seq (Run.reg [.p, .p] ?_)
  refine .ag rfl rfl <| .ag rfl rfl <| .nil ?_
  refine Run.ret (?_)
  exact ret2 rfl rfl (by exact (Sub.nil _ false).trans (Sub.snap (by simp_all))) (Sub.int (by first | (rw [show okPs l = false from by simpa using ph1]; rfl) | (rw [hok]; rfl) | (rw [hok, if_pos rfl, ← hpre]; unfold explainT termsM; rw [hxq, List.append_nil])))
 ·have ph1 := h1
  try simp only [bs, bne_iff_ne, ne_eq, List.length_map] at ph1
  have hok : okPs l = true := by simpa using ph1
  have hl1 : l.length ≤ 10000 := by have := hok; simp only [okPs, Bool.and_eq_true, decide_eq_true_eq] at this; exact this.1.1
  refine Run.skip ?_
  refine Run.seq (Run.reg [.w, .p] ?_)
  refine .W rfl (q_makeMapG 0 D.str (D.str) rfl) <| .ag rfl rfl <| .nil ?_
  refine Run.seq (Run.seq (Run.reg [.p, .p, .p] ?_))
  refine .mv rfl rfl <| .P rfl (q_lenI Tryz.underlying27 rfl) <| .mv rfl rfl <| .nil ?_
  refine Run.block ?_
  refine Run.loop (ι := explain_ok_L0 l a c) (fun sx => [(1, .str a), (2, .str c), (8, .mapr 0), (19, sPosteds l), (20, .i l.length), (21, .i sx.pre.length)]) (fun sx => [(0, .mp (encGM D.str D.str (exM (a, c) sx.pre)))]) (fun sx => sx.rest.length) ⟨[], l, rfl⟩ ?_ ?_
  ·exact Le.mk rfl (.cons rfl Sub.strA rfl (.cons rfl Sub.strA rfl (.same rfl rfl (.same rfl rfl (.cons rfl Sub.intA rfl (.cons rfl Sub.intA rfl .nil)))))) (.eq rfl (by first | rfl | (rw [exM_snoc]; rfl)) (okB_SG _ _) .nil)
  ·rintro ⟨pre, rest, hx⟩
   show Run _ _ _ _ [(1, .str a), (2, .str c), (8, .mapr 0), (19, sPosteds l), (20, .i l.length), (21, .i pre.length)] [(0, .mp (encGM D.str D.str (exM (a, c) pre)))]
   have hl := congrArg List.length hx
   simp only [List.length_append] at hl
   rcases rest with _ | ⟨x, rest⟩
   ·have hpre : pre = l := by simp [hx]
    have hml := exM_len (a, c) pre
    have hmv := exM_val (a, c) pre
    have hmk : ∀ s ∈ (exM (a, c) pre).map (·.1), okStr s := fun s h => by obtain ⟨p, hp, rfl⟩ := exM_keys h; have := (okP_parts (okPs_mem hok p (hpre ▸ hp))).2.2.2.2; simp only [isName, Bool.and_eq_true, decide_eq_true_eq] at this; simp only [okStr, big]; omega
    refine Run.seq (Run.reg [.p] ?_)
    refine .P rfl (q_lss rfl rfl) <| .nil ?_
    refine Run.seq ?_
    refine Run.condF rfl (by simp at hl ⊢; omega) ?_
    refine Run.exit (tq_exit (bq_exit ?_))
    refine Run.seq (Run.reg [.p] ?_)
    refine .ag rfl rfl <| .nil ?_
    refine Run.weak (Le.freezeM (kD := D.str) (vD := D.str) (m := (exM (a, c) pre)) 8 0 rfl rfl (fun _ => rfl) (fun _ => rfl)) ?_
    refine Run.seq (Run.seq (Run.reg [.p, .p, .p, .p, .p] ?_))
    refine .mv rfl rfl <| .P rfl (q_call Tryz.call86 rfl (mapsKeysS_ok _)) <| .P rfl (q_call Tryz.call85 rfl (sortedStrs_ok (exM (a, c) pre) (by omega) hmk hmv.nodup)) <| .P rfl (q_lenI Tryz.underlying124 rfl) <| .mv rfl rfl <| .nil ?_
    refine Run.block ?_
    refine Run.loop (ι := explain_ok_L1 l a c pre) (fun sx => [(8, imapG D.str D.str (exM (a, c) pre)), (11, .gs 1 (termK sx.preq (getG [] (exM (a, c) pre))).length), (41, sStrs (sortS ((exM (a, c) pre).map (·.1)))), (42, .i (sortS ((exM (a, c) pre).map (·.1))).length), (43, .i sx.preq.length)]) (fun sx => [(1, .arr 2 ((termK sx.preq (getG [] (exM (a, c) pre))).map encTerm))]) (fun sx => sx.restq.length) ⟨[], _, rfl⟩ ?_ ?_
    ·exact (Le.own0 1 2).trans <| Le.mk rfl (.same rfl rfl (.cons rfl (Sub.gsNil _) rfl (.same rfl rfl (.cons rfl Sub.intA rfl (.cons rfl Sub.intA rfl .nil))))) (.arr rfl (by first | rfl | (rw [termK_snoc, if_pos (by simpa using ph2)]; simp; done) | (rw [termK_snoc, if_neg (by simpa using ph2)]; simp)) .nil)
    ·rintro ⟨preq, restq, hxq⟩
     show Run _ _ _ _ [(8, imapG D.str D.str (exM (a, c) pre)), (11, .gs 1 (termK preq (getG [] (exM (a, c) pre))).length), (41, sStrs (sortS ((exM (a, c) pre).map (·.1)))), (42, .i (sortS ((exM (a, c) pre).map (·.1))).length), (43, .i preq.length)] [(1, .arr 2 ((termK preq (getG [] (exM (a, c) pre))).map encTerm))]
     have hlq := congrArg List.length hxq
     simp only [List.length_append] at hlq
     have htl := termK_len preq (getG [] (exM (a, c) pre))
     have hksl : (sortS ((exM (a, c) pre).map (·.1))).length = (exM (a, c) pre).length := by rw [(sortS_perm0 _).length_eq]; simp
     rcases restq with _ | ⟨xq, restq⟩
     ·skip
      refine Run.seq (Run.reg [.p] ?_)
      refine .P rfl (q_lss rfl rfl) <| .nil ?_
      refine Run.seq ?_
      refine Run.condF rfl (by simp at hlq ⊢; omega) ?_
      refine Run.exit (tq_exit (bq_exit ?_))
      refine Run.seq (Run.reg [.p, .p, .p] ?_)
      refine .mv rfl rfl <| .ag rfl rfl <| .ag rfl rfl <| .nil ?_
      refine Run.weak (Le.freeze 6 1 rfl rfl (by simp)) ?_
      refine Run.ret (?_)
      exact ret2 rfl rfl (Sub.snap (by first | (rw [show okPs l = false from by simpa using ph1]; rfl) | (rw [hok]; rfl) | (rw [hok, if_pos rfl, ← hpre]; unfold explainT termsM; rw [hxq, List.append_nil]))) (Sub.int (by first | (rw [show okPs l = false from by simpa using ph1]; rfl) | (rw [hok]; rfl) | (rw [hok, if_pos rfl, ← hpre]; unfold explainT termsM; rw [hxq, List.append_nil])))
     ·simp only [List.length_cons] at hlq
      refine Run.seq (Run.reg [.p] ?_)
      refine .P rfl (q_lss rfl rfl) <| .nil ?_
      refine Run.seq ?_
      refine Run.condT rfl (by simp; omega) ?_
      refine Run.skip ?_
      refine Run.seq ?_
      refine Run.block ?_
      refine Run.seq (Run.reg [.p, .p, .p] ?_)
      refine .P rfl (q_indexI Tryz.underlying124 Tryz.sizeOf9 rfl rfl (by omega) (idx_mid (fun s => [D.str s]) hxq rfl)) <| .P rfl (q_loadI Tryz.isAgg9 rfl) <| .ag rfl rfl <| .nil ?_
      refine Run.seq (Run.reg [.p, .p, .p, .p] ?_)
      refine .mv rfl rfl <| .mv rfl rfl <| .P rfl (fun _ => q_lookupI tzKeyS (vD := D.str) (m := (exM (a, c) pre)) (k := xq) (d := []) Tryz.underlying53 Tryz.zeroValue54 vstr0 rfl rfl rfl rfl) <| .ag rfl rfl <| .nil ?_
      refine Run.seq (Run.reg [.p, .p] ?_)
      refine .mv rfl rfl <| .P rfl (q_neqS rfl rfl) <| .nil ?_
      refine Run.cond rfl (fun h2 => ?_) (fun h2 => ?_)
      ·have ph2 := h2
       try simp only [bs, bne_iff_ne, ne_eq, List.length_map] at ph2
       refine Run.reg [.p, .p, .p, .p, .p, .w, .p] ?_
       refine .mv rfl rfl <| .mv rfl rfl <| .mv rfl rfl <| .P rfl (q_build (pl := #[(0, 1), (1, 1)]) Tryz.underlying67 Tryz.zeroValue67 (fun w => by kernel_rfl) rfl rfl) <| .P rfl (q_buildSlice' (n := 1) (rows := [encTerm ⟨xq, getG [] (exM (a, c) pre) xq⟩]) Tryz.underlying63 Tryz.sizeOf67 rfl rfl rfl Tryz.zeroValue67 rfl rfl rfl rfl rfl rfl rfl) <| .W rfl (q_append 2 Tryz.underlying63 Tryz.underlying63 Tryz.sizeOf67 Tryz.typeInfo67 Tryz.zeroValue67 rfl (bt := 32) rfl rfl rfl rfl (by simp) rfl rfl (by simp; omega)) <| .ag rfl rfl <| .nil ?_
       refine Run.nil (bq_norm ?_)
       refine Run.reg [.p, .p] ?_
       refine .P rfl (q_add rfl rfl (wrap64_ok (by first | omega | (simp; done) | (simp; omega) | (simp at *; omega)) (by first | omega | (simp; done) | (simp; omega) | (simp at *; omega)))) <| .mv rfl rfl <| .nil ?_
       refine Run.nil (tq_norm ?_)
       exact ⟨⟨preq ++ [xq], restq, by simp [hxq]⟩, by simp, (Le.mk (obs' := [(2, _)]) rfl (show EnvLe _ _ [(8, _), (11, _), (41, _), (42, _), (43, _)] from (.same rfl rfl (.same rfl rfl (.same rfl rfl (.same rfl rfl (.same rfl rfl .nil)))))) (.cons (i := 2) rfl rfl .nil)).trans <| (Le.ren 11 2 1 rfl rfl (by simp) rfl).trans <| Le.mk rfl (.same rfl rfl (.cons rfl (Sub.gs (by first | rfl | (rw [termK_snoc, if_pos (by simpa using ph2)]; simp; done) | (rw [termK_snoc, if_neg (by simpa using ph2)]; simp))) rfl (.same rfl rfl (.cons rfl Sub.intA rfl (.cons rfl Sub.intA rfl .nil))))) (.arr rfl (by first | rfl | (rw [termK_snoc, if_pos (by simpa using ph2)]; simp; done) | (rw [termK_snoc, if_neg (by simpa using ph2)]; simp)) .nil)⟩
      ·have ph2 := h2
       try simp only [bs, bne_iff_ne, ne_eq, List.length_map] at ph2
       refine Run.skip ?_
       refine Run.nil (bq_norm ?_)
       refine Run.reg [.p, .p] ?_
       refine .P rfl (q_add rfl rfl (wrap64_ok (by first | omega | (simp; done) | (simp; omega) | (simp at *; omega)) (by first | omega | (simp; done) | (simp; omega) | (simp at *; omega)))) <| .mv rfl rfl <| .nil ?_
       refine Run.nil (tq_norm ?_)
       exact ⟨⟨preq ++ [xq], restq, by simp [hxq]⟩, by simp, Le.mk rfl (.same rfl rfl (.cons rfl (Sub.gs (by first | rfl | (rw [termK_snoc, if_pos (by simpa using ph2)]; simp; done) | (rw [termK_snoc, if_neg (by simpa using ph2)]; simp))) rfl (.same rfl rfl (.cons rfl Sub.intA rfl (.cons rfl Sub.intA rfl .nil))))) (.arr rfl (by first | rfl | (rw [termK_snoc, if_pos (by simpa using ph2)]; simp; done) | (rw [termK_snoc, if_neg (by simpa using ph2)]; simp)) .nil)⟩
   ·simp only [List.length_cons] at hl
    have hxs := hs x (by rw [hx]; simp)
    have hgl := exM_get (k := (a, c)) (s := x.by_) (l := pre) (fun p hp => hs p (by rw [hx]; simp [hp])) (by omega)
    have hal := amtE_len (k := (a, c)) hxs
    refine Run.seq (Run.reg [.p] ?_)
    refine .P rfl (q_lss rfl rfl) <| .nil ?_
    refine Run.seq ?_
    refine Run.condT rfl (by simp; omega) ?_
    refine Run.skip ?_
    refine Run.seq ?_
    refine Run.block ?_
    refine Run.seq (Run.reg [.p, .p, .w, .w] ?_)
    refine .P rfl (q_indexI Tryz.underlying27 Tryz.sizeOf39 rfl rfl (by omega) (idx_mid encPosted hx rfl)) <| .P rfl (q_loadIA Tryz.isAgg39 Tryz.sizeOf39 rfl rfl) <| .W rfl (q_alloc 1 Tryz.zeroValue39 rfl) <| .W rfl (q_storeW Tryz.sizeOf39 rfl rfl rfl rfl rfl rfl) <| .nil ?_
    refine Run.regD [.p, .p, .r, .p, .p, .r, .r, .p, .r, .p, .p, .p, .p, .w] Tryz_mixed (by decide +kernel) ?_
    refine .mv rfl rfl <| .P rfl (q_fieldB (n := 0) 9 2 Tryz.underlying39 Tryz.sizeOf9 rfl rfl) <| .R rfl (q_load1 Tryz.isAgg9 rfl rfl rfl) <| .mv rfl rfl <| .P rfl (q_fieldB (n := 0) 9 2 Tryz.underlying39 Tryz.sizeOf9 rfl rfl) <| .R rfl (q_load1 Tryz.isAgg9 rfl rfl rfl) <| .R rfl (q_lookupG tzKeyS (vD := D.str) (k := x.by_) (d := []) Tryz.underlying53 Tryz.zeroValue54 vstr0 rfl rfl rfl rfl) <| .P rfl (q_fieldB (n := 2) 37 3 Tryz.underlying39 Tryz.sizeOf37 rfl rfl) <| .R rfl (q_loadA Tryz.isAgg37 Tryz.sizeOf37 rfl rfl (by simp) rfl) <| .mv rfl rfl <| .mv rfl rfl <| .P rfl (q_call Tryz.call84 rfl (amount_ok x.entry a c hxs)) <| .P rfl (q_call Tryz.call27 rfl (add_ok _ _ (by omega) (by omega))) <| .W rfl (q_mapUpdateG tzKeyS (vD := D.str) (k := x.by_) (v := addS (getG [] (exM (a, c) pre) x.by_) (amtE (a, c) x.entry)) Tryz.underlying53 rfl rfl rfl rfl rfl rfl) <| .nil ?_
    refine Run.nil (bq_norm ?_)
    refine Run.reg [.p, .p] ?_
    refine .P rfl (q_add rfl rfl (wrap64_ok (by first | omega | (simp; done) | (simp; omega) | (simp at *; omega)) (by first | omega | (simp; done) | (simp; omega) | (simp at *; omega)))) <| .mv rfl rfl <| .nil ?_
    refine Run.nil (tq_norm ?_)
    exact ⟨⟨pre ++ [x], rest, by simp [hx]⟩, by simp, Le.mk rfl (.cons rfl Sub.strA rfl (.cons rfl Sub.strA rfl (.same rfl rfl (.same rfl rfl (.cons rfl Sub.intA rfl (.cons rfl Sub.intA rfl .nil)))))) (.eq rfl (by first | rfl | (rw [exM_snoc]; rfl)) (okB_SG _ _) .nil)⟩
end Go.T
namespace Go.T
open Go Go.Proofs
theorem explain_zero {l : List Posted} (k : Key) (h : okPs l = true) : sumT (explainT k l) - balK k (trialP 84005 l) = 0 := by
  rw [explainT_sum, (trialP_bal 84005 h).2, upTo_max h]; omega
theorem ofInt_len40 {n : Int} (h : -10000000000000000000000000000000000000000 < n ∧ n < 10000000000000000000000000000000000000000) : (ofInt n).length ≤ 41 := by
  have h3 := natDig_len 40 n.natAbs (by omega)
  unfold ofInt
  split <;> simp <;> omega
theorem sumT_snoc (l : List Term) (x : Term) : sumT (l ++ [x]) = sumT l + val x.amount := by rw [sumT_append]; simp [sumT]
theorem balK_snoc (k : Key) (l : List Balance) (x : Balance) : balK k (l ++ [x]) = balK k l + (if bkey x = k then val x.amount else 0) := by rw [balK_append]; simp [balK]
theorem bkey_iff {x : Balance} {a c : Str} : bkey x = (a, c) ↔ x.account = a ∧ x.currency = c := by simp [bkey]
theorem bal_step_T {x : Balance} {a c : Str} {n : Int} {l : List Balance} (h : x.account = a ∧ x.currency = c) : ofInt (val (ofInt (n - balK (a, c) l)) - val x.amount) = ofInt (n - balK (a, c) (l ++ [x])) := by
  rw [balK_snoc, if_pos (bkey_iff.2 h), val_ofInt]; congr 1; omega
theorem bal_step_F {x : Balance} {a c : Str} {n : Int} {l : List Balance} (h : ¬ (x.account = a ∧ x.currency = c)) : ofInt (n - balK (a, c) l) = ofInt (n - balK (a, c) (l ++ [x])) := by
  rw [balK_snoc, if_neg (fun hh => h (bkey_iff.1 hh))]; simp
theorem terms_last {l pre rest : List Term} {x : Term} (h : l.Pairwise fun a b => Str.lt a.name b.name = true) (hx : l = pre ++ x :: rest) (h0 : 0 < pre.length) : Str.lt (pre.getLastD default).name x.name = true := by
  subst hx
  have h1 := (List.pairwise_append.1 h).2.2
  refine h1 _ ?_ x (by simp)
  cases pre with
  | nil => simp at h0
  | cons a l => rw [List.getLastD_cons]; exact List.getLastD_mem_cons
theorem terms_dec {l pre rest : List Term} {x : Term} (h : l.Pairwise fun a b => Str.lt a.name b.name = true) (hx : l = pre ++ x :: rest) : (decide (0 < (pre.length : Int)) && !Str.lt (pre.getLastD default).name x.name) = false := by
  by_cases h0 : 0 < pre.length
  · rw [terms_last h hx h0]; simp
  · rw [show decide (0 < (pre.length : Int)) = false from decide_eq_false (by omega)]; rfl
theorem numOK_flip {s : Str} (h : val s ≠ 0) : numOK (!(digits s).2) (groupsOf (digits s).1) := by
  have h1 := numOK_digits s
  refine ⟨h1.ok, h1.cut, fun _ h0 => h ?_⟩
  rw [← numV_digits s, List.length_eq_zero_iff.1 h0]
  simp [numV, magVal]
theorem numV_flip (s : Str) : numV (!(digits s).2) (groupsOf (digits s).1) = - val s := by
  rw [← numV_digits s]
  unfold numV
  cases (digits s).2 <;> simp
theorem any_by {l : List Posted} {s : Str} (h : ∃ p ∈ l, p.by_ = s) : l.any (fun p => decide (p.by_ = s)) = true := by
  obtain ⟨p, hp, rfl⟩ := h
  exact List.any_eq_true.2 ⟨p, hp, by simp⟩
end Go.T
namespace Go.T
open Go Go.Proofs
set_option maxRecDepth 20000
theorem sub_ok (s t : Str) (hs : s.length ≤ 4000) (ht : t.length ≤ 4000) (hv : val t ≠ 0) : Fc Tryz.prog 34 [.str s, .str t] (.str (ofInt (val s - val t))) := by
 refine Fc.mk' [4] Tryz.func34 rfl Tryz.ntmps34 rfl rfl rfl (fun t w => results_tmp Tryz.results34 t _ w) ?_
 have hdl := digits_len s
 have hgl := groupsOf_len (digits s).1
 have hdl2 := digits_len t
 have hgl2 := groupsOf_len (digits t).1
 have h1 := numOK_digits s
 have h2 := numOK_flip hv
 have h3 := addM_ok h1 h2
 have h4 := addM_len (digits s).2 (!(digits t).2) (groupsOf (digits s).1) (groupsOf (digits t).1)
 have h5 := addM_val h1 h2
 refine Run.seq (Run.reg [.p] ?_)
 refine .ag rfl rfl <| .nil ?_
 refine Run.seq (Run.reg [.p, .p, .w, .w] ?_)
 refine .mv rfl rfl <| .P rfl (q_call Tryz.call79 rfl (read_ok _ (by first | assumption | omega | (simp at *; omega)))) <| .W rfl (q_alloc 0 Tryz.zeroValue116 rfl) <| .W rfl (q_storeW Tryz.sizeOf116 rfl rfl rfl rfl rfl rfl) <| .nil ?_
 refine Run.seq (Run.reg [.p, .r, .p, .p, .w] ?_)
 refine .P rfl (q_fieldB (n := 0) 4 0 Tryz.underlying116 Tryz.sizeOf4 rfl rfl) <| .R rfl (q_load1 Tryz.isAgg4 rfl rfl rfl) <| .P rfl (q_not rfl) <| .P rfl (q_fieldB (n := 0) 4 0 Tryz.underlying116 Tryz.sizeOf4 rfl rfl) <| .W rfl (q_store1 Tryz.sizeOf4 rfl rfl rfl rfl (by first | (simp; done) | decide)) <| .nil ?_
 refine Run.seq (Run.regD [.p, .p, .r, .p, .p, .p] Tryz_mixed (by decide +kernel) ?_)
 refine .mv rfl rfl <| .P rfl (q_call Tryz.call79 rfl (read_ok _ (by first | assumption | omega | (simp at *; omega)))) <| .R rfl (q_loadW Tryz.isAgg116 Tryz.sizeOf116 rfl rfl rfl) <| .P rfl (q_call Tryz.call78 rfl (addNum_ok (digits s).2 (groupsOf (digits s).1) (!(digits t).2) (groupsOf (digits t).1) h1 h2 (by omega) (by omega))) <| .P rfl (q_call Tryz.call80 rfl (text_ok _ _ (by first | assumption | omega | (simp at *; omega)) (by first | assumption | omega | (simp at *; omega)))) <| .ag rfl rfl <| .nil ?_
 refine Run.ret (?_)
 exact ret1 rfl (Sub.str (by rw [textM_ofInt _ h3]; have h6 := numV_flip t; rw [h6, numV_digits s] at h5; rw [show val s - val t = val s + -val t by omega, ← h5]; rfl))
theorem isBy_ok (p : Posted) (n m : Str) : Fc Tryz.prog 33 [.agg (encPosted p), .iptr [.str n, .str m]] (.b (decide (p.by_ = n))) := by
 refine Fc.mk' [3] Tryz.func33 rfl Tryz.ntmps33 rfl rfl rfl (fun t w => results_tmp Tryz.results33 t _ w) ?_
 refine Run.seq (Run.reg [.w, .p] ?_)
 refine .W rfl (q_boxA 0 rfl rfl) <| .ag rfl rfl <| .nil ?_
 refine Run.seq (Run.reg [.p, .r, .p, .p, .p, .p] ?_)
 refine .P rfl (q_fieldB (n := 0) 9 2 Tryz.underlying39 Tryz.sizeOf9 rfl rfl) <| .R rfl (q_load1 Tryz.isAgg9 rfl rfl rfl) <| .P rfl (q_fieldI (n := 0) 9 0 Tryz.underlying67 Tryz.sizeOf9 rfl rfl rfl) <| .P rfl (q_loadI Tryz.isAgg9 rfl) <| .P rfl (q_eqlS rfl rfl) <| .ag rfl rfl <| .nil ?_
 refine Run.ret (?_)
 exact ret1 rfl (Sub.bool (by rfl))
structure indexBy_ok_L0 (l : List Posted) (n m : Str) where
 pre : List Posted
 rest : List Posted
 hx : l = pre ++ rest
 hp : pre.any (fun p : Posted => decide (p.by_ = n)) = false
theorem indexBy_ok (l : List Posted) (n m : Str) : Fc Tryz.prog 87 [sPosteds l, .fn (.func 33) [] [.iptr [.str n, .str m]]] (.i (if l.any (fun p : Posted => decide (p.by_ = n)) then (l.findIdx (fun p : Posted => decide (p.by_ = n)) : Int) else -1)) := by
 refine Fc.mk' [4] Tryz.func87 rfl Tryz.ntmps87 rfl rfl rfl (fun t w => results_tmp Tryz.results87 t _ w) ?_
 refine Run.bSnap 0 rfl (fun hb => ?_)
 simp only [List.length_map, big] at hb
 refine Run.seq (Run.reg [.p] ?_)
 refine .ag rfl rfl <| .nil ?_
 refine Run.seq (Run.seq (Run.reg [.p, .p, .p] ?_))
 refine .mv rfl rfl <| .P rfl (q_lenI Tryz.underlying27 rfl) <| .mv rfl rfl <| .nil ?_
 refine Run.block ?_
 refine Run.loop (ι := indexBy_ok_L0 l n m) (fun sx => [(0, sPosteds l), (1, .fn (.func 33) [] [.iptr [.str n, .str m]]), (6, sPosteds l), (7, .i l.length), (8, .i sx.pre.length)]) (fun sx => []) (fun sx => sx.rest.length) ⟨[], l, rfl, rfl⟩ ?_ ?_
 ·exact Le.mk rfl (.same rfl rfl (.same rfl rfl (.same rfl rfl (.cons rfl Sub.intA rfl (.cons rfl Sub.intA rfl .nil))))) .nil
 ·rintro ⟨pre, rest, hx, hp⟩
  show Run _ _ _ _ [(0, sPosteds l), (1, .fn (.func 33) [] [.iptr [.str n, .str m]]), (6, sPosteds l), (7, .i l.length), (8, .i pre.length)] []
  have hl := congrArg List.length hx
  simp only [List.length_append] at hl
  rcases rest with _ | ⟨x, rest⟩
  ·skip
   refine Run.seq (Run.reg [.p] ?_)
   refine .P rfl (q_lss rfl rfl) <| .nil ?_
   refine Run.seq ?_
   refine Run.condF rfl (by simp at hl ⊢; omega) ?_
   refine Run.exit (tq_exit (bq_exit ?_))
   refine Run.seq (Run.reg [.p] ?_)
   refine .ag rfl rfl <| .nil ?_
   refine Run.ret (?_)
   exact ret1 rfl (Sub.int (by first | exact find_T (p := (fun p : Posted => decide (p.by_ = n))) hx hp (by assumption) | exact find_F hx hp))
  ·simp only [List.length_cons] at hl
   refine Run.seq (Run.reg [.p] ?_)
   refine .P rfl (q_lss rfl rfl) <| .nil ?_
   refine Run.seq ?_
   refine Run.condT rfl (by simp; omega) ?_
   refine Run.skip ?_
   refine Run.seq ?_
   refine Run.block ?_
   refine Run.seq (Run.reg [.p, .p] ?_)
   refine .mv rfl rfl <| .ag rfl rfl <| .nil ?_
   refine Run.seq (Run.reg [.p, .p, .p, .p, .p, .p] ?_)
   refine .mv rfl rfl <| .mv rfl rfl <| .mv rfl rfl <| .P rfl (q_indexI Tryz.underlying27 Tryz.sizeOf39 rfl rfl (by omega) (idx_mid encPosted hx rfl)) <| .P rfl (q_loadIA Tryz.isAgg39 Tryz.sizeOf39 rfl rfl) <| .P rfl (q_callF Tryz.call33 rfl rfl (isBy_ok _ _ _)) <| .nil ?_
   refine Run.cond rfl (fun h1 => ?_) (fun h1 => ?_)
   ·have ph1 := h1
    try simp only [bs, bne_iff_ne, ne_eq, List.length_map] at ph1
    refine Run.seq (Run.reg [.p, .p] ?_)
    refine .mv rfl rfl <| .ag rfl rfl <| .nil ?_
    refine Run.ret (bq_ret (tq_ret (bq_ret (?_))))
    exact ret1 rfl (Sub.int (by first | exact find_T (p := (fun p : Posted => decide (p.by_ = n))) hx hp (by assumption) | exact find_F hx hp))
   ·have ph1 := h1
    try simp only [bs, bne_iff_ne, ne_eq, List.length_map] at ph1
    refine Run.skip ?_
    refine Run.nil (bq_norm ?_)
    refine Run.reg [.p, .p] ?_
    refine .P rfl (q_add rfl rfl (wrap64_ok (by first | omega | (simp; done) | (simp; omega) | (simp at *; omega)) (by first | omega | (simp; done) | (simp; omega) | (simp at *; omega)))) <| .mv rfl rfl <| .nil ?_
    refine Run.nil (tq_norm ?_)
    exact ⟨⟨pre ++ [x], rest, by simp [hx], by simp at *; grind⟩, by simp, Le.mk rfl (.same rfl rfl (.same rfl rfl (.same rfl rfl (.cons rfl Sub.intA rfl (.cons rfl Sub.intA rfl .nil))))) .nil⟩
theorem containsBy_ok (l : List Posted) (n m : Str) : Fc Tryz.prog 32 [sPosteds l, .fn (.func 33) [] [.iptr [.str n, .str m]]] (.b (l.any (fun p : Posted => decide (p.by_ = n)))) := by
 refine Fc.mk' [4] Tryz.func32 rfl Tryz.ntmps32 rfl rfl rfl (fun t w => results_tmp Tryz.results32 t _ w) ?_
 refine Run.seq (Run.reg [.p] ?_)
 refine .ag rfl rfl <| .nil ?_
 refine Run.seq (Run.reg [.p, .p, .p, .p, .p] ?_)
 refine .mv rfl rfl <| .mv rfl rfl <| .P rfl (q_call Tryz.call87 rfl (indexBy_ok _ _ _)) <| .P rfl (q_geq rfl rfl) <| .ag rfl rfl <| .nil ?_
 refine Run.ret (?_)
 exact ret1 rfl (Sub.bool (by cases h : l.any (fun p : Posted => decide (p.by_ = n)) <;> simp))
theorem explainD_ok (l : List Posted) (a c : Str) (hs : smallPs l) (hok : okPs l = true) : Fc Tryz.prog 31 [sPosteds l, .str a, .str c] (.tup [sTerms (explainT (a, c) l), .i 0]) := by
 have := explain_ok l a c hs
 rw [hok] at this
 exact this
structure lawExplains_ok_L0 (l : List Posted) (a c : Str) where
 pre : List Term
 rest : List Term
 hx : explainT (a, c) l = pre ++ rest
structure lawExplains_ok_L1 (l : List Posted) (a c : Str) (pre : List Term) where
 preq : List Balance
 restq : List Balance
 hxq : trialP 84005 l = preq ++ restq
theorem lawExplains_ok (l : List Posted) (a c : Str) : Fc Tryz.prog 8 [sPosteds l, .str a, .str c] (.b true) := by
 refine Fc.mk' [6] Tryz.func8 rfl Tryz.ntmps8 rfl rfl rfl (fun t w => results_tmp Tryz.results8 t _ w) ?_
 refine Run.seq (Run.reg [.p] ?_)
 refine .ag rfl rfl <| .nil ?_
 refine Run.seq (Run.seq (Run.reg [.p, .p, .p, .p, .p, .p, .p, .p, .p, .p, .p, .p, .p, .p, .p, .p, .p] ?_))
 refine .mv rfl rfl <| .P rfl (q_call Tryz.call25 rfl (great50_ok _)) <| .mv rfl rfl <| .gF rfl (.inl rfl) rfl rfl rfl (fun hg => pk (fun _ => q_move rfl _)) <| .gF rfl (.inl rfl) rfl rfl rfl (fun hg => pk (fun _ => q_call Tryz.call26 (opsC (opT rfl (nt hg)) (rfl)) (check50_ok l (great50_small (by simpa using hg)).1) _)) <| .gF rfl (.inl rfl) rfl rfl rfl (fun hg => pk (fun _ => q_neq (opT rfl (nt hg)) rfl _)) <| .P rfl (q_or rfl rfl) <| .mv rfl rfl <| .gF rfl (.inl rfl) rfl rfl rfl (fun hg => pk (fun _ => q_move rfl _)) <| .gF rfl (.inl rfl) rfl rfl rfl (fun hg => pk (fun _ => q_lenS Tryz.underlying9 (opT rfl (nt hg)) _)) <| .gF rfl (.inl rfl) rfl rfl rfl (fun hg => pk (fun _ => q_gtr (opT rfl (nt hg)) rfl _)) <| .P rfl (q_or rfl rfl) <| .mv rfl rfl <| .gF rfl (.inl rfl) rfl rfl rfl (fun hg => pk (fun _ => q_move rfl _)) <| .gF rfl (.inl rfl) rfl rfl rfl (fun hg => pk (fun _ => q_lenS Tryz.underlying9 (opT rfl (nt hg)) _)) <| .gF rfl (.inl rfl) rfl rfl rfl (fun hg => pk (fun _ => q_gtr (opT rfl (nt hg)) rfl _)) <| .P rfl (q_or rfl rfl) <| .nil ?_
 refine Run.cond rfl (fun h1 => ?_) (fun h1 => ?_)
 ·have ph1 := h1
  try simp only [bs, bne_iff_ne, ne_eq, List.length_map] at ph1
  refine Run.seq (Run.reg [.p, .p] ?_)
  refine .P rfl (q_call Tryz.call12 rfl awake_ok) <| .ag rfl rfl <| .nil ?_
  refine Run.ret (?_)
  exact ret1 rfl (Sub.bool (by first | rfl | (rw [hz, val_ofInt]; rfl) | (rw [hz, val_ofInt]; decide)))
 ·have ph1 := h1
  try simp only [bs, bne_iff_ne, ne_eq, List.length_map] at ph1
  simp only [Bool.or_eq_false_iff] at h1
  have hgr : great50 l = false := by cases hg : great50 l <;> simp_all
  obtain ⟨hs, hl16⟩ := great50_small hgr
  have hok : okPs l = true := by cases ho : okPs l <;> simp_all
  have hT := explainT_mem (k := (a, c)) hs (by omega)
  have hTs := explainT_sorted (a, c) l
  have hTl := explainT_len (a, c) l
  have hY := trialP_ok 84005 hok hs (by omega)
  refine Run.skip ?_
  refine Run.seq (Run.reg [.p, .p, .p, .p, .p, .p, .p, .p, .p] ?_)
  refine .mv rfl rfl <| .mv rfl rfl <| .mv rfl rfl <| .P rfl (q_call Tryz.call31 rfl (explainD_ok l a c hs hok)) <| .mv rfl rfl <| .P rfl (q_extract rfl rfl) <| .P rfl (q_extract rfl rfl) <| .ag rfl rfl <| .ag rfl rfl <| .nil ?_
  refine Run.seq (Run.reg [.p, .p, .p, .p, .p, .p, .p] ?_)
  refine .mv rfl rfl <| .P rfl (q_call Tryz.call20 rfl (trialD_ok l hs hok)) <| .mv rfl rfl <| .P rfl (q_extract rfl rfl) <| .P rfl (q_extract rfl rfl) <| .ag rfl rfl <| .ag rfl rfl <| .nil ?_
  refine Run.seq (Run.seq (Run.reg [.p, .p, .p, .p, .p, .p] ?_))
  refine .mv rfl rfl <| .P rfl (q_neq rfl rfl) <| .mv rfl rfl <| .gF rfl (.inl rfl) rfl rfl rfl (fun hg => pk (fun _ => q_move rfl _)) <| .gF rfl (.inl rfl) rfl rfl rfl (fun hg => pk (fun _ => q_neq (opT rfl (nt hg)) rfl _)) <| .P rfl (q_or rfl rfl) <| .nil ?_
  refine Run.condF rfl (rfl) ?_
  refine Run.skip ?_
  refine Run.seq (Run.reg [.p] ?_)
  refine .ag rfl rfl <| .nil ?_
  refine Run.seq (Run.seq (Run.reg [.p, .p, .p] ?_))
  refine .mv rfl rfl <| .P rfl (q_lenI Tryz.underlying63 rfl) <| .mv rfl rfl <| .nil ?_
  refine Run.block ?_
  refine Run.loop (ι := lawExplains_ok_L0 l a c) (fun sx => [(0, sPosteds l), (1, .str a), (2, .str c), (7, sTerms (explainT (a, c) l)), (9, sBals (trialP 84005 l)), (11, .str (ofInt (sumT sx.pre))), (52, sTerms (explainT (a, c) l)), (53, .i (explainT (a, c) l).length), (54, .i sx.pre.length)]) (fun sx => []) (fun sx => sx.rest.length) ⟨[], _, rfl⟩ ?_ ?_
  ·exact Le.mk rfl (.same rfl rfl (.cons rfl Sub.strA rfl (.cons rfl Sub.strA rfl (.same rfl rfl (.same rfl rfl (.cons rfl (Sub.str (by first | (simp [sumT, ofInt_zero]; done) | (rw [sumT_snoc, addS_ofInt]; done))) rfl (.same rfl rfl (.cons rfl Sub.intA rfl (.cons rfl Sub.intA rfl .nil))))))))) .nil
  ·rintro ⟨pre, rest, hx⟩
   show Run _ _ _ _ [(0, sPosteds l), (1, .str a), (2, .str c), (7, sTerms (explainT (a, c) l)), (9, sBals (trialP 84005 l)), (11, .str (ofInt (sumT pre))), (52, sTerms (explainT (a, c) l)), (53, .i (explainT (a, c) l).length), (54, .i pre.length)] []
   have hl := congrArg List.length hx
   simp only [List.length_append] at hl
   rcases rest with _ | ⟨x, rest⟩
   ·have hpre : pre = explainT (a, c) l := by simp [hx]
    have hsb := sumT_bound (l := pre) (fun t ht => (hT t (hpre ▸ ht)).len)
    refine Run.seq (Run.reg [.p] ?_)
    refine .P rfl (q_lss rfl rfl) <| .nil ?_
    refine Run.seq ?_
    refine Run.condF rfl (by simp at hl ⊢; omega) ?_
    refine Run.exit (tq_exit (bq_exit ?_))
    refine Run.seq (Run.seq (Run.reg [.p, .p, .p] ?_))
    refine .mv rfl rfl <| .P rfl (q_lenI Tryz.underlying45 rfl) <| .mv rfl rfl <| .nil ?_
    refine Run.block ?_
    refine Run.loop (ι := lawExplains_ok_L1 l a c pre) (fun sx => [(1, .str a), (2, .str c), (11, .str (ofInt (sumT pre - balK (a, c) sx.preq))), (88, sBals (trialP 84005 l)), (89, .i (trialP 84005 l).length), (90, .i sx.preq.length)]) (fun sx => []) (fun sx => sx.restq.length) ⟨[], _, rfl⟩ ?_ ?_
    ·exact Le.mk rfl (.cons rfl Sub.strA rfl (.cons rfl Sub.strA rfl (.cons rfl (Sub.str (by first | (simp [balK]; done) | exact bal_step_T ph2 | exact bal_step_F (by grind))) rfl (.same rfl rfl (.cons rfl Sub.intA rfl (.cons rfl Sub.intA rfl .nil)))))) .nil
    ·rintro ⟨preq, restq, hxq⟩
     show Run _ _ _ _ [(1, .str a), (2, .str c), (11, .str (ofInt (sumT pre - balK (a, c) preq))), (88, sBals (trialP 84005 l)), (89, .i (trialP 84005 l).length), (90, .i preq.length)] []
     have hlq := congrArg List.length hxq
     simp only [List.length_append] at hlq
     have hbb := balK_bound (k := (a, c)) (l := preq) (fun b hb => hY.fld b (by rw [hxq]; simp [hb]))
     have hYl := hY.len
     have hsl := ofInt_len40 (n := sumT pre - balK (a, c) preq) (by constructor <;> omega)
     rcases restq with _ | ⟨xq, restq⟩
     ·have hpreq : preq = trialP 84005 l := by simp [hxq]
      have hz := explain_zero (a, c) hok
      rw [← hpre, ← hpreq] at hz
      refine Run.seq (Run.reg [.p] ?_)
      refine .P rfl (q_lss rfl rfl) <| .nil ?_
      refine Run.seq ?_
      refine Run.condF rfl (by simp at hlq ⊢; omega) ?_
      refine Run.exit (tq_exit (bq_exit ?_))
      refine Run.seq (Run.reg [.p, .p, .p, .p, .p, .p, .p] ?_)
      refine .mv rfl rfl <| .P rfl (q_call Tryz.call28 rfl (compare_ok _ _ (by omega) (by simp))) <| .P rfl (q_eql rfl rfl) <| .mv rfl rfl <| .gT rfl (.inl rfl) rfl rfl rfl (fun hg => pk (fun _ => q_call Tryz.call12 rfl awake_ok _)) <| .P rfl (q_and rfl rfl) <| .ag rfl rfl <| .nil ?_
      refine Run.ret (?_)
      exact ret1 rfl (Sub.bool (by first | rfl | (rw [hz, val_ofInt]; rfl) | (rw [hz, val_ofInt]; decide)))
     ·simp only [List.length_cons] at hlq
      have hxb := hY.fld xq (by rw [hxq]; simp)
      have hxa := hY.bal.amt xq (by rw [hxq]; simp)
      have hxl := hxb.len
      refine Run.seq (Run.reg [.p] ?_)
      refine .P rfl (q_lss rfl rfl) <| .nil ?_
      refine Run.seq ?_
      refine Run.condT rfl (by simp; omega) ?_
      refine Run.skip ?_
      refine Run.seq ?_
      refine Run.block ?_
      refine Run.seq (Run.reg [.p, .p, .w, .w] ?_)
      refine .P rfl (q_indexI Tryz.underlying45 Tryz.sizeOf56 rfl rfl (by omega) (idx_mid encBalance hxq rfl)) <| .P rfl (q_loadIA Tryz.isAgg56 Tryz.sizeOf56 rfl rfl) <| .W rfl (q_alloc 0 Tryz.zeroValue56 rfl) <| .W rfl (q_storeW Tryz.sizeOf56 rfl rfl rfl rfl rfl rfl) <| .nil ?_
      refine Run.seq (Run.reg [.p, .r, .p, .p, .p, .p, .r, .p, .p, .p] ?_)
      refine .P rfl (q_fieldB (n := 0) 9 0 Tryz.underlying56 Tryz.sizeOf9 rfl rfl) <| .R rfl (q_load1 Tryz.isAgg9 rfl rfl rfl) <| .mv rfl rfl <| .P rfl (q_eqlS rfl rfl) <| .mv rfl rfl <| .gT rfl (.inl rfl) rfl rfl rfl (fun hg => pk (fun _ => q_fieldB (n := 0) 9 1 Tryz.underlying56 Tryz.sizeOf9 rfl rfl _)) <| .gT rfl (.inr rfl) rfl rfl rfl (fun hg => rk (q_load1 Tryz.isAgg9 (opT rfl hg) rfl rfl)) <| .gT rfl (.inl rfl) rfl rfl rfl (fun hg => pk (fun _ => q_move rfl _)) <| .gT rfl (.inl rfl) rfl rfl rfl (fun hg => pk (fun _ => q_eqlS (opT rfl hg) (opT rfl hg) _)) <| .P rfl (q_and rfl rfl) <| .nil ?_
      refine Run.cond rfl (fun h2 => ?_) (fun h2 => ?_)
      ·have ph2 := h2
       try simp only [bs, bne_iff_ne, ne_eq, List.length_map] at ph2
       refine Run.reg [.p, .p, .r, .p, .p] ?_
       refine .mv rfl rfl <| .P rfl (q_fieldB (n := 0) 54 2 Tryz.underlying56 Tryz.sizeOf54 rfl rfl) <| .R rfl (q_load1 Tryz.isAgg54 rfl rfl rfl) <| .P rfl (q_call Tryz.call34 rfl (sub_ok _ _ (by omega) (by omega) hxa.2)) <| .ag rfl rfl <| .nil ?_
       refine Run.nil (bq_norm ?_)
       refine Run.reg [.p, .p] ?_
       refine .P rfl (q_add rfl rfl (wrap64_ok (by first | omega | (simp; done) | (simp; omega) | (simp at *; omega)) (by first | omega | (simp; done) | (simp; omega) | (simp at *; omega)))) <| .mv rfl rfl <| .nil ?_
       refine Run.nil (tq_norm ?_)
       exact ⟨⟨preq ++ [xq], restq, by simp [hxq]⟩, by simp, Le.mk rfl (.cons rfl Sub.strA rfl (.cons rfl Sub.strA rfl (.cons rfl (Sub.str (by first | (simp [balK]; done) | exact bal_step_T ph2 | exact bal_step_F (by grind))) rfl (.same rfl rfl (.cons rfl Sub.intA rfl (.cons rfl Sub.intA rfl .nil)))))) .nil⟩
      ·have ph2 := h2
       try simp only [bs, bne_iff_ne, ne_eq, List.length_map] at ph2
       refine Run.skip ?_
       refine Run.nil (bq_norm ?_)
       refine Run.reg [.p, .p] ?_
       refine .P rfl (q_add rfl rfl (wrap64_ok (by first | omega | (simp; done) | (simp; omega) | (simp at *; omega)) (by first | omega | (simp; done) | (simp; omega) | (simp at *; omega)))) <| .mv rfl rfl <| .nil ?_
       refine Run.nil (tq_norm ?_)
       exact ⟨⟨preq ++ [xq], restq, by simp [hxq]⟩, by simp, Le.mk rfl (.cons rfl Sub.strA rfl (.cons rfl Sub.strA rfl (.cons rfl (Sub.str (by first | (simp [balK]; done) | exact bal_step_T ph2 | exact bal_step_F (by grind))) rfl (.same rfl rfl (.cons rfl Sub.intA rfl (.cons rfl Sub.intA rfl .nil)))))) .nil⟩
   ·simp only [List.length_cons] at hl
    have hxt := hT x (by rw [hx]; simp)
    have hne := hxt.ne
    have hxl := hxt.len
    have hsb := sumT_bound (l := pre) (fun t ht => (hT t (by rw [hx]; simp [ht])).len)
    have hsl := ofInt_len40 (n := sumT pre) (by constructor <;> omega)
    refine Run.seq (Run.reg [.p] ?_)
    refine .P rfl (q_lss rfl rfl) <| .nil ?_
    refine Run.seq ?_
    refine Run.condT rfl (by simp; omega) ?_
    refine Run.skip ?_
    refine Run.seq ?_
    refine Run.block ?_
    refine Run.seq (Run.reg [.p, .p, .p, .w, .p, .w] ?_)
    refine .mv rfl rfl <| .P rfl (q_indexI Tryz.underlying63 Tryz.sizeOf67 rfl rfl (by omega) (idx_mid encTerm hx rfl)) <| .P rfl (q_loadIA Tryz.isAgg67 Tryz.sizeOf67 rfl rfl) <| .W rfl (q_alloc 0 Tryz.zeroValue67 rfl) <| .ag rfl rfl <| .W rfl (q_storeW Tryz.sizeOf67 rfl rfl rfl rfl rfl rfl) <| .nil ?_
    refine Run.weak (Le.freezeB 13 0 rfl rfl rfl rfl) ?_
    refine Run.seq (Run.seq (Run.regD [.p, .p, .p, .p, .p, .p, .p, .p, .p, .p, .p, .p, .p, .p, .p, .p, .p, .p, .p, .p, .p, .p, .p, .p] Tryz_mixed (by decide +kernel) ?_))
    refine .P rfl (q_fieldI (n := 0) 54 1 Tryz.underlying67 Tryz.sizeOf54 rfl rfl rfl) <| .P rfl (q_loadI Tryz.isAgg54 rfl) <| .P rfl (q_eqlS rfl rfl) <| .mv rfl rfl <| .p rfl (on_of rfl rfl rfl (by simpa using hne)) (fun _ => q_move rfl _) <| .p rfl (on_of rfl rfl rfl (by simpa using hne)) (fun _ => q_gtr rfl rfl _) <| .p rfl (on_of rfl rfl rfl (by simpa using hne)) (fun _ => q_move rfl _) <| .gT rfl (.inl rfl) rfl rfl rfl (fun hg => pk (fun _ => q_move rfl _)) <| .gT rfl (.inl rfl) rfl rfl rfl (fun hg => pk (fun _ => q_move rfl _)) <| .gT rfl (.inl rfl) rfl rfl rfl (fun hg => pk (fun _ => q_sub (opT rfl hg) rfl (wrap64_ok (by first | omega | (simp; done) | (simp; omega) | (simp at *; omega)) (by first | omega | (simp; done) | (simp; omega) | (simp at *; omega))) _)) <| .gT rfl (.inl rfl) rfl rfl rfl (fun hg => pk (fun _ => q_indexI Tryz.underlying63 Tryz.sizeOf67 (opT rfl hg) (opT rfl hg) (by simp at hg; omega) (idx_last encTerm hx (by simp at hg; omega) (by omega)) _)) <| .gT rfl (.inl rfl) rfl rfl rfl (fun hg => pk (fun _ => q_fieldI (n := 0) 9 0 Tryz.underlying67 Tryz.sizeOf9 rfl (opT rfl hg) rfl _)) <| .gT rfl (.inl rfl) rfl rfl rfl (fun hg => pk (fun _ => q_loadI Tryz.isAgg9 (opT rfl hg) _)) <| .gT rfl (.inl rfl) rfl rfl rfl (fun hg => pk (fun _ => q_fieldI (n := 0) 9 0 Tryz.underlying67 Tryz.sizeOf9 rfl rfl rfl _)) <| .gT rfl (.inl rfl) rfl rfl rfl (fun hg => pk (fun _ => q_loadI Tryz.isAgg9 (opT rfl hg) _)) <| .gT rfl (.inl rfl) rfl rfl rfl (fun hg => pk (fun _ => q_geqS (opT rfl hg) (opT rfl hg) _)) ?_
    refine .p rfl (on_of rfl rfl rfl (by simpa using hne)) (fun _ => q_and rfl rfl _) <| .P rfl (q_pickF rfl (by simpa using hne) rfl) <| .mv rfl rfl <| .p rfl (on_of rfl rfl rfl (terms_dec hTs hx)) (fun _ => q_move rfl _) <| .p rfl (on_of rfl rfl rfl (terms_dec hTs hx)) (fun _ => q_makeFunc (xs := []) (ys := _) rfl rfl _) <| .p rfl (on_of rfl rfl rfl (terms_dec hTs hx)) (fun _ => q_call Tryz.call32 rfl (containsBy_ok _ _ _) _) <| .p rfl (on_of rfl rfl rfl (terms_dec hTs hx)) (fun _ => q_not rfl _) <| .P rfl (q_pickF rfl (terms_dec hTs hx) rfl) <| .nil ?_
    refine Run.condF rfl (by rw [any_by hxt.nm]; rfl) ?_
    refine Run.skip ?_
    refine Run.reg [.p, .p, .p, .p, .p] ?_
    refine .mv rfl rfl <| .P rfl (q_fieldI (n := 0) 54 1 Tryz.underlying67 Tryz.sizeOf54 rfl rfl rfl) <| .P rfl (q_loadI Tryz.isAgg54 rfl) <| .P rfl (q_call Tryz.call27 rfl (add_ok _ _ (by omega) (by omega))) <| .ag rfl rfl <| .nil ?_
    refine Run.nil (bq_norm ?_)
    refine Run.reg [.p, .p] ?_
    refine .P rfl (q_add rfl rfl (wrap64_ok (by first | omega | (simp; done) | (simp; omega) | (simp at *; omega)) (by first | omega | (simp; done) | (simp; omega) | (simp at *; omega)))) <| .mv rfl rfl <| .nil ?_
    refine Run.nil (tq_norm ?_)
    exact ⟨⟨pre ++ [x], rest, by simp [hx]⟩, by simp, Le.mk rfl (.same rfl rfl (.cons rfl Sub.strA rfl (.cons rfl Sub.strA rfl (.same rfl rfl (.same rfl rfl (.cons rfl (Sub.str (by first | (simp [sumT, ofInt_zero]; done) | (rw [sumT_snoc, addS_ofInt]; done))) rfl (.same rfl rfl (.cons rfl Sub.intA rfl (.cons rfl Sub.intA rfl .nil))))))))) .nil⟩
end Go.T
namespace Go.T
open Go
def noO : Nat → Prop := fun _ => False
/-- What is read as data of the type is described by typed data. -/
structure Dec (P : Program) (t : TypeId) (α : Type) (enc : α → List D) : Prop where
  out : ∀ {H : Type} {eH : TypeId × Value → H} {w : World} {fuel : Nat} {cs : List Value} {x : DataW H × List MemPlace}, DataW.trod eH P w 0 (fun _ => true) true fuel t cs = some x → (∀ n ∈ x.1.weights P t, n ≤ reachBytes) →
    ∃ a : α, (∀ u ∈ cs, u.oneCell' = true) ∧ Vs w noO rho0 (enc a) cs
theorem Dec.int {P : Program} {t : TypeId} (ht : P.underlying t = some (.int .i64)) : Dec P t Int (fun n => [.i n]) := ⟨fun h _ => by
  obtain ⟨n, rfl, _, _⟩ := DataW.trod_int ht h
  exact ⟨n, by simp [Value.oneCell'], by simp [Vs, V]⟩⟩
theorem Dec.bool {P : Program} {t : TypeId} (ht : P.underlying t = some .bool) : Dec P t Bool (fun n => [.b n]) := ⟨fun h _ => by
  obtain ⟨n, rfl, _⟩ := DataW.trod_bool ht h
  exact ⟨n, by simp [Value.oneCell'], by simp [Vs, V]⟩⟩
theorem Dec.str {P : Program} {t : TypeId} (ht : P.underlying t = some .string) : Dec P t Str (fun n => [.str n]) := ⟨fun h hw => by
  obtain ⟨s, rfl, rfl, _⟩ := DataW.trod_string ht h
  have := hw s.data.toList.length (by simp [DataW.weights])
  refine ⟨s.data.toList, by simp [Value.oneCell'], ?_⟩
  simp only [Vs, V]
  refine ⟨_, _, rfl, ⟨by simp, ?_⟩, rfl⟩
  have := reachBytes_lt
  unfold big
  omega⟩
/-- The fields of a struct, from an offset on. -/
structure DecF (P : Program) (fs : List Field) (off : Nat) (α : Type) (enc : α → List D) : Prop where
  out : ∀ {H : Type} {eH : TypeId × Value → H} {w : World} {fuel : Nat} {cs : List Value} {xs : List (DataW H × List MemPlace)}, xs.length = fs.length →
    (∀ (i : Nat) (f : Field), fs[i]? = some f → DataW.trod eH P w 0 (fun _ => true) true fuel f.type ((cs.drop f.offset).take (P.cellsOf f.type)) = xs[i]?) → (∀ n ∈ DataW.weightsEach P (fs.map (·.type)) (xs.map (·.1)), n ≤ reachBytes) →
    ∃ a : α, (∀ u ∈ (cs.drop off).take ((fs.map fun f => P.cellsOf f.type).sum), u.oneCell' = true) ∧ Vs w noO rho0 (enc a) ((cs.drop off).take ((fs.map fun f => P.cellsOf f.type).sum))
theorem DecF.nil {P : Program} {off : Nat} : DecF P [] off Unit (fun _ => []) := ⟨fun _ _ _ => ⟨(), by simp, by simp [Vs]⟩⟩
theorem Vs.app {w : World} {O : Nat → Prop} {ρ : Rho} : ∀ {ds es : List D} {us vs : List Value}, Vs w O ρ ds us → Vs w O ρ es vs → Vs w O ρ (ds ++ es) (us ++ vs)
  | [], es, us, vs, h, h' => by simp only [Vs] at h; subst h; simpa using h'
  | d :: ds, es, us, vs, h, h' => by
    simp only [Vs] at h
    obtain ⟨u, us, rfl, h1, h2⟩ := h
    simp only [List.cons_append, Vs]
    exact ⟨_, _, rfl, h1, Vs.app h2 h'⟩
theorem DecF.cons {P : Program} {f : Field} {fs : List Field} {off n : Nat} {α β : Type} {enc : α → List D} {enc' : β → List D} (h1 : Dec P f.type α enc) (ho : f.offset = off) (hn : P.cellsOf f.type = n) (h2 : DecF P fs (off + n) β enc') : DecF P (f :: fs) off (α × β) (fun x => enc x.1 ++ enc' x.2) := ⟨fun {H eH w fuel cs xs} hl hr hw => by
  match xs, hl with
  | x :: xs, hl =>
    have hx := hr 0 f rfl
    simp only [List.map_cons, DataW.weightsEach, List.mem_append] at hw
    obtain ⟨a, ha, hva⟩ := h1.out (by simpa using hx) (fun n hn => hw n (.inl hn))
    obtain ⟨b, hb, hvb⟩ := h2.out (xs := xs) (by simpa using hl) (fun i g hg => by simpa using hr (i + 1) g (by simpa using hg)) (fun n hn => hw n (.inr hn))
    rw [ho, hn] at ha hva
    have e : (cs.drop off).take (((f :: fs).map fun f => P.cellsOf f.type).sum) = (cs.drop off).take n ++ (cs.drop (off + n)).take ((fs.map fun f => P.cellsOf f.type).sum) := by
      rw [List.map_cons, List.sum_cons, hn, List.take_add, List.drop_drop]
    rw [e]
    exact ⟨(a, b), fun u hu => (List.mem_append.1 hu).elim (ha u) (hb u), Vs.app hva hvb⟩⟩
theorem Dec.struct {P : Program} {t : TypeId} {fs : List Field} {α : Type} {enc : α → List D} (ht : P.underlying t = some (.struct fs.toArray)) (hc : P.cellsOf t = (fs.map fun f => P.cellsOf f.type).sum) (h : DecF P fs 0 α enc) : Dec P t α enc := ⟨fun {H eH w fuel cs x} hr hw => by
  obtain ⟨xs, n, _, rfl, hl, hlen, hf⟩ := DataW.trod_struct ht hr
  simp only [DataW.weights, ht, List.map_map] at hw
  obtain ⟨a, h1, h2⟩ := h.out (by simpa using hlen) (fun i f hi => hf i f (by simpa using hi)) (fun n hn => hw n (by simpa [Function.comp_def] using hn))
  have e : (cs.drop 0).take ((fs.map fun f => P.cellsOf f.type).sum) = cs := by
    rw [List.drop_zero, ← hc, ← hl, List.take_length]
  rw [e] at h1 h2
  exact ⟨a, h1, h2⟩⟩
theorem Dec.map {P : Program} {t : TypeId} {α β : Type} {enc : α → List D} {enc' : β → List D} (h : Dec P t α enc) (f : α → β) (he : ∀ a, enc' (f a) = enc a) : Dec P t β enc' := ⟨fun hr hw => by
  obtain ⟨a, h1, h2⟩ := h.out hr hw
  exact ⟨f a, h1, by rw [he]; exact h2⟩⟩
theorem Vs.toVc {w : World} {O : Nat → Prop} {b : Nat} : ∀ {ds : List D} {cs : List Value} {off : Nat}, Vs w O rho0 ds cs → (∀ u ∈ cs, u.oneCell' = true) → (∀ j u, cs[j]? = some u → w.cell? ⟨b, off + j, none⟩ = some u) → Vc w O b off ds
  | [], _, _, _, _, _ => by simp [Vc]
  | d :: ds, cs, off, h, h1, hc => by
    simp only [Vs] at h
    obtain ⟨u, us, rfl, h2, h3⟩ := h
    simp only [Vc]
    refine ⟨⟨u, ⟨by simpa using hc 0 u rfl, h1 u List.mem_cons_self⟩, h2⟩, Vs.toVc h3 (fun v hv => h1 v (List.mem_cons_of_mem _ hv)) (fun j v hj => ?_)⟩
    have := hc (j + 1) v (by simpa using hj)
    rwa [show off + (j + 1) = off + 1 + j by omega] at this
theorem cells_get {w : World} {a : Addr} {n : Nat} {cs : List Value} (h : w.cells? 0 a n = some cs) : cs.length = n ∧ ∀ j, j < n → w.cell? (a.add j) = cs[j]? := by
  unfold World.cells? at h
  rw [if_pos (Nat.zero_le _)] at h
  exact ⟨by simpa using mapM_some_length h, fun j hj => by simpa using mapM_some_get h j j (by simp [hj])⟩
theorem spot_none {w : World} {a : Addr} {u : Value} (h : w.cell? a = some u) : a.spot = none := by
  cases hsp : a.spot with
  | none => rfl
  | some s =>
    simp only [World.cell?] at h
    split at h
    · simp [hsp] at h
    · cases h
theorem Vr_of {w : World} {b sz : Nat} {α : Type} {enc : α → List D} : ∀ {l : List α} {off : Nat}, (∀ i a, l[i]? = some a → (enc a).length = sz ∧ Vc w noO b (off + i * sz) (enc a)) → Vr w noO b off sz (l.map enc)
  | [], _, _ => by simp [Vr]
  | a :: l, off, h => by
    simp only [List.map_cons, Vr]
    refine ⟨by simpa using h 0 a rfl, Vr_of fun i a' hi => ?_⟩
    have := h (i + 1) a' (by simpa using hi)
    rwa [show off + (i + 1) * sz = off + sz + i * sz by rw [Nat.add_mul]; omega] at this
theorem exists_list {α : Type} {p : Nat → α → Prop} : ∀ (n : Nat), (∀ i, i < n → ∃ a, p i a) → ∃ l : List α, l.length = n ∧ ∀ i a, l[i]? = some a → p i a
  | 0, _ => ⟨[], rfl, by simp⟩
  | n + 1, h => by
    obtain ⟨l, h1, h2⟩ := exists_list n (fun i hi => h i (by omega))
    obtain ⟨a, ha⟩ := h n (by omega)
    refine ⟨l ++ [a], by simp [h1], fun i a' hi => ?_⟩
    by_cases e : i < l.length
    · rw [List.getElem?_append_left e] at hi; exact h2 i a' hi
    · rw [List.getElem?_append_right (by omega)] at hi
      have : i = n := by
        by_cases e2 : i - l.length = 0
        · omega
        · simp [List.getElem?_cons, e2] at hi
      subst this
      simp [h1] at hi
      subst hi
      exact ha
theorem weightsAll_mem {H : Type} {P : Program} {e : TypeId} : ∀ {ds : List (DataW H)} {i : Nat} {d : DataW H}, ds[i]? = some d → ∀ n ∈ d.weights P e, n ∈ DataW.weightsAll P e ds
  | d0 :: ds, 0, d, h, n, hn => by
    simp only [List.getElem?_cons_zero, Option.some.injEq] at h
    subst h
    simp only [DataW.weightsAll, List.mem_append]
    exact .inl hn
  | d0 :: ds, i + 1, d, h, n, hn => by
    simp only [DataW.weightsAll, List.mem_append]
    exact .inr (weightsAll_mem (by simpa using h) n hn)
  | [], _, _, h, _, _ => by simp at h
theorem Dec.slice {P : Program} {t e : TypeId} {α : Type} {enc : α → List D} {sz k : Nat} (ht : P.underlying t = some (.slice e)) (hc : P.cellsOf e = sz) (hz : sz ≠ 0) (hb : P.bytesOf e = k + 1) (h : Dec P e α enc) (hl : ∀ a, (enc a).length = sz) : Dec P t (List α) (fun l => [.snap sz false (l.map enc)]) := ⟨fun {H eH w fuel cs x} hr hw => by
  rcases DataW.trod_slice ht hr with ⟨rfl, rfl⟩ | ⟨a, len, cap, elems, rest, n, rfl, rfl, rfl, _, hlc, hcap, hel, hget, hsp, _⟩
  · refine ⟨[], by simp [Value.oneCell'], ?_⟩
    simp only [Vs, V, List.map_nil]
    exact ⟨_, _, rfl, ⟨none, 0, rfl, ⟨Nat.le_refl _, by simp⟩, by simp, by simp⟩, rfl⟩
  · simp only [DataW.weights, ht, List.mem_cons, List.mem_append, hb] at hw
    have hlen : len ≤ big := by
      have h1 := hw _ (.inl rfl)
      simp only [List.length_map, hel] at h1
      have h2 := reachBytes_lt
      have h3 : len + rest.length ≤ (len + rest.length) * (k + 1) := Nat.le_mul_of_pos_right _ (by omega)
      unfold big
      omega
    have hq : ∀ i, i < len → ∃ y : α, (enc y).length = sz ∧ ∃ cs : List Value, cs.length = sz ∧ (∀ u ∈ cs, u.oneCell' = true) ∧ Vs w noO rho0 (enc y) cs ∧ ∀ j, j < sz → w.cell? ((a.add (i * sz)).add j) = cs[j]? := by
      intro i hi
      have hg := hget i hi
      rw [hc] at hg
      have hi' : i < elems.length := by omega
      rw [List.getElem?_eq_getElem hi'] at hg
      obtain ⟨cs, hcs, hg⟩ := Option.bind_eq_some_iff.1 hg
      obtain ⟨y, h1, h2⟩ := h.out hg (fun n hn => hw n (.inr (.inl (weightsAll_mem (i := i) (d := elems[i].1) (by simp [hi']) n hn))))
      obtain ⟨h3, h4⟩ := cells_get hcs
      exact ⟨y, hl y, cs, h3, h1, h2, h4⟩
    obtain ⟨l, hll, hp⟩ := exists_list len hq
    refine ⟨l, by simp [Value.oneCell'], ?_⟩
    simp only [Vs, V, List.length_map]
    refine ⟨_, _, rfl, ⟨some a, cap, by rw [hll], ⟨by omega, by omega⟩, by simp, fun hne => ?_⟩, rfl⟩
    have hpos : 0 < len := by
      cases l with
      | nil => simp at hne
      | cons _ _ => simp at hll; omega
    have h0 : ∃ u, w.cell? a = some u := by
      obtain ⟨y, _, cs, h1, _, _, h4⟩ := hq 0 hpos
      have h5 := h4 0 (by omega)
      have h6 : 0 < cs.length := by omega
      rw [List.getElem?_eq_getElem h6] at h5
      exact ⟨cs[0], by simpa [Addr.add] using h5⟩
    obtain ⟨u, hu⟩ := h0
    have hs := spot_none hu
    obtain ⟨b, off, sp⟩ := a
    simp only at hs
    subst hs
    refine ⟨b, off, rfl, ⟨cell_lt hu, fun h => h⟩, Vr_of fun i y hi => ?_⟩
    obtain ⟨g1, cs, g2, g3, g4, g5⟩ := hp i y hi
    refine ⟨g1, Vs.toVc g4 g3 fun j v hj => ?_⟩
    have hj' : j < sz := by
      have := (List.getElem?_eq_some_iff.1 hj).1
      omega
    rw [← hj, ← g5 j hj']
    congr 1
    unfold Addr.add
    by_cases e1 : i * sz = 0 <;> by_cases e2 : j = 0 <;> simp [e1, e2]⟩
end Go.T
namespace Go.T
open Go Go.ChangeShapes Go.WideShapes Go.RowKit Go.ChangeAt
structure DecL (P : Program) (ts : List TypeId) (α : Type) (enc : α → List D) : Prop where
  out : ∀ {H : Type} {eH : TypeId × Value → H} {w : World} {base : Nat} {vs : List Value} {ds : List (DataW H)} {p : List MemPlace}, DataW.TrodAll eH P w 0 (fun _ => true) true ts vs ds p →
    (∀ (j : Nat) t v, ts[j]? = some t → vs[j]? = some v → Value.okWide P w .any base t v) → (∀ n ∈ DataW.weightsEach P ts ds, n ≤ reachBytes) → ∃ a : α, Vs w noO rho0 (enc a) vs
def OneTy (P : Program) (t : TypeId) : Prop := ∀ w base v, Value.okWide P w .any base t v → v.cells.toList = [v]
theorem OneTy.slice {P : Program} {t e : TypeId} (ht : P.underlying t = some (.slice e)) : OneTy P t := fun w base v h => by
  obtain ⟨a, l, c, rfl⟩ := okWide_slice ht h; rfl
theorem OneTy.str {P : Program} {t : TypeId} (ht : P.underlying t = some .string) : OneTy P t := fun w base v h => by
  obtain ⟨a, rfl⟩ := okWide_string ht h; rfl
theorem OneTy.int {P : Program} {t : TypeId} {k : IntKind} (ht : P.underlying t = some (.int k)) : OneTy P t := fun w base v h => by
  obtain ⟨a, rfl⟩ := okWide_int ht h; rfl
theorem DecL.nil {P : Program} : DecL P [] Unit (fun _ => []) := ⟨fun {H eH w base vs ds p} h _ _ => by
  match vs, ds, h with
  | [], [], _ => exact ⟨(), by simp [Vs]⟩⟩
theorem DecL.cons {P : Program} {t : TypeId} {ts : List TypeId} {α β : Type} {e : α → D} {enc : β → List D} (h1 : Dec P t α (fun a => [e a])) (ho : OneTy P t) (h2 : DecL P ts β enc) : DecL P (t :: ts) (α × β) (fun x => e x.1 :: enc x.2) := ⟨fun {H eH w base vs ds p} h hv hw => by
  match vs, ds, h with
  | v :: vs, d :: ds, ⟨p1, q1, ⟨fuel, hf⟩, h4, _⟩ =>
    simp only [DataW.weightsEach, List.mem_append] at hw
    obtain ⟨b, hb⟩ := h2.out h4 (fun j t v ht hv' => hv (j + 1) t v (by simpa using ht) (by simpa using hv')) (fun n hn => hw n (.inr hn))
    rw [ho w base v (hv 0 t v rfl rfl)] at hf
    obtain ⟨a, _, ha⟩ := h1.out hf (fun n hn => hw n (.inl hn))
    simp only [Vs] at ha
    obtain ⟨u, us, e1, ha, rfl⟩ := ha
    cases e1
    exact ⟨(a, b), v, vs, rfl, ha, hb⟩⟩
theorem Keep.keptBut {w w' : World} (h : Keep w w') (may : MemPlace → Prop) : w.keptBut w' may := by
  refine ⟨h.os.1, h.os.2.1, fun i hi => ?_⟩
  rw [h.same i hi]
  split <;> simp_all
theorem Keep.sameAt {w w' : World} (h : Keep w w') {p : MemPlace} (hp : p.block < w.heap.size) : w.sameAt w' p := by
  cases p with
  | cell b off =>
    simp only [MemPlace.block] at hp
    simp [World.sameAt, World.cell?, h.same b hp]
  | map b => exact h.same b hp
theorem trodAll_keep {H : Type} {eH : TypeId × Value → H} {P : Program} {w w' : World} {sp : Nat → Bool} (hk : Keep w w') : ∀ {ts : List TypeId} {vs : List Value} {ds : List (DataW H)} {p : List MemPlace}, DataW.TrodAll eH P w 0 sp true ts vs ds p → (∀ x ∈ p, x.block < w.heap.size) → DataW.TrodAll eH P w' 0 sp true ts vs ds p
  | [], vs, ds, p, h, _ => by
    match vs, ds, h with
    | [], [], h => exact h
  | t :: ts, vs, ds, p, h, hp => by
    match vs, ds, h with
    | v :: vs, d :: ds, ⟨p1, q1, ⟨fuel, hf⟩, h4, e⟩ =>
      subst e
      exact ⟨p1, q1, ⟨fuel, DataW.trod_carry _ _ _ _ hf fun x hx => hk.sameAt (hp x (List.mem_append_left _ hx))⟩, trodAll_keep hk h4 (fun x hx => hp x (List.mem_append_right _ hx)), rfl⟩
theorem trodAll_len {H : Type} {eH : TypeId × Value → H} {P : Program} {w : World} {sp : Nat → Bool} : ∀ {ts : List TypeId} {vs : List Value} {ds : List (DataW H)} {p : List MemPlace}, DataW.TrodAll eH P w 0 sp true ts vs ds p → ds.length = ts.length
  | [], vs, ds, p, h => by
    match vs, ds, h with
    | [], [], h => rfl
  | t :: ts, vs, ds, p, h => by
    match vs, ds, h with
    | v :: vs, d :: ds, ⟨p1, q1, _, h4, e⟩ => simp [trodAll_len h4]
theorem law_contract {P : Program} {f : FuncId} {fn : Func} {s : ChangeSpec} {α : Type} {encs : α → List D} {tb : TypeId}
    (hkids : Kids P (· < P.types.size)) (hfull : ∀ t e, t < P.types.size → P.underlying t = some (.slice e) → 0 < P.cellsOf e)
    (hts : ∀ t ∈ fn.params.toList, t < P.types.size) (hvars : s.vars = []) (hres : fn.resultTypes = #[tb]) (hb : P.underlying tb = some .bool)
    (hsp : ∀ (H : Type) (ds : List (DataW H)), ds.length = fn.params.size → s.fn H ds = { results := [.lit (.bool true)], args := ds })
    (hdec : DecL P fn.params.toList α encs) (hlaw : ∀ a, Fc P f (encs a) (.b true))
    {H : Type} {enc : TypeId × Value → H} {W : World} {base : Nat} {args : Array Value} {ds gs : List (DataW H)} {before : List MemPlace}
    (hval : ∀ (j : Nat) t v, fn.params[j]? = some t → args[j]? = some v → Value.okWide P W .any base t v)
    (hW : DataW.Whole enc P fn.params.toList s.vars false W args.toList ds gs before)
    (hsz : (DataW.weightsEach P (fn.params.toList ++ s.plain.varTypes P) (ds ++ gs)).all (· ≤ reachBytes) = true) (hgl : Gl W noO) :
    Calls P f args W fun e W' => ∃ v, e = .returned v ∧ s.post enc P fn false true false false W args v W' := by
  have hW' := hW
  obtain ⟨p, q, hA, hV, rfl, _, _⟩ := hW
  rw [hvars] at hV
  obtain ⟨rfl, rfl⟩ := trodVars_none hV
  have hvt : s.plain.varTypes P = [] := by simp [ChangeSpec.plain, DataSpec.varTypes, hvars]
  rw [hvt, List.append_nil, List.append_nil] at hsz
  obtain ⟨a, ha⟩ := hdec.out hA (fun j t v ht hv => hval j t v (by simpa using ht) (by simpa using hv)) (fun n hn => by simpa using List.all_eq_true.1 hsz n hn)
  have hlen := trodAll_len hA
  have hlt : ∀ x ∈ p, x.block < W.heap.size := fun x hx => hA.lt x hx
  refine ((hlaw a).out W noO rho0 args.toList (fun b h => h.elim) hgl ha).mono ?_
  rintro e W' ⟨v, rfl, hv, hk⟩
  simp only [V] at hv
  subst hv
  have hf : s.fn H (ds ++ []) = { results := [.lit (.bool true)], args := ds } := by rw [List.append_nil]; exact hsp H ds (by simpa using hlen)
  refine ⟨_, rfl, ds, [], p ++ [], [], p, [], hW', ?_, ?_, ?_, hk.keptBut _, fun h => by cases h⟩
  · rw [hf, hres]
    exact trodAll_mk1 (shut_bool hb _)
  · rw [hf]
    exact DataW.TrodAll.respare hkids hfull hts (trodAll_keep hk hA hlt) (fun x hx => by simpa using hlt x hx)
  · rw [hf, hvars]
    rfl
/-- A table of integers that is listed: its block. -/
theorem laid_cells {P : Program} {W : World} {n : String} {k : IntKind} {zs : List Int} {rest : List (String × DataW Unit)} {g t e : Nat} (hg : P.globalNamed n = some g) (ht : (P.globals[g]?).map (·.type) = some t) (hu : P.underlying t = some (.array zs.length e)) (he : P.underlying e = some (.int k)) (hce : P.cellsOf e = 1) (hct : P.cellsOf t = zs.length)
    (pre : List (String × DataW Unit)) (hL : laidMet P (pre ++ (n, .agg (zs.map fun z => .lit (.int k z))) :: rest) W) : ∃ T fr, W.heap[g]? = some (.cells (zs.map fun z => Value.int k z).toArray T fr) := by
  obtain ⟨ps, h, hx⟩ := hL
  clear hx
  induction pre generalizing ps with
  | cons x pre ih =>
    obtain ⟨_, _, _, _, _, q, _, _, _, _, h, _⟩ := h
    exact ih q h
  | nil =>
    obtain ⟨g', t', cs, fuel, p, q, hg', ht', hv, hd, _⟩ := h
    obtain rfl := Option.some.inj (hg.symm.trans hg')
    obtain rfl := Option.some.inj (ht.symm.trans ht')
    obtain ⟨xs, m, _, ex, hcl, hl, hel⟩ := DataW.trod_array hu hd
    have e3 : xs.map (·.1) = zs.map fun z => .lit (.int k z) := (DataW.agg.inj (Prod.mk.inj ex).1).symm
    have key : cs = (zs.map fun z => Value.int k z).toArray := by
      apply Array.ext'
      apply List.ext_getElem?
      intro r
      by_cases hr : r < zs.length
      · have hE := hel r hr
        rw [hce, Nat.mul_one, List.getElem?_eq_getElem (by omega)] at hE
        obtain ⟨z, e1, e2, _⟩ := DataW.trod_int he hE
        have e4 : (xs.map (·.1))[r]? = (zs.map fun n => (DataW.lit (.int k n) : DataW Unit))[r]? := by rw [e3]
        rw [List.getElem?_map, List.getElem?_map, List.getElem?_eq_getElem (by omega : r < xs.length), List.getElem?_eq_getElem hr, e2] at e4
        simp only [Option.map_some, Option.some.injEq, DataW.lit.injEq, Lit.int.injEq, true_and] at e4
        have h0 : ((cs.toList.drop r).take 1)[0]? = some (.int k z) := by rw [e1]; rfl
        have h1 : cs.toList[r]? = some (.int k z) := by simpa using h0
        rw [h1, List.toList_toArray, List.getElem?_map, List.getElem?_eq_getElem hr, e4]; rfl
      · have : cs.toList.length = zs.length := by rw [hcl, hct]
        rw [List.getElem?_eq_none (by omega), List.getElem?_eq_none (by simp; omega)]
    simp only [World.var?, hg, Option.bind_some] at hv
    split at hv
    · rename_i c T fr hb
      cases hv
      exact ⟨T, fr, by rw [hb, key]⟩
    · cases hv
end Go.T
namespace Go.T
open Go Go.Proofs Go.ChangeShapes Go.WideShapes Go.RowKit Go.ChangeAt
set_option maxRecDepth 100000
theorem tz_kids : Kids Tryz.prog (· < Tryz.prog.types.size) := kids_rows (by kernel_rfl) (by kernel_rfl)
theorem tz_full : ∀ t e, t < Tryz.prog.types.size → Tryz.prog.underlying t = some (.slice e) → 0 < Tryz.prog.cellsOf e := slices_full_of Tryz.prog (by kernel_rfl)
theorem tz_own : ownKnob Tryz.prog.godebug = none := by kernel_rfl
theorem tz_size : Tryz.prog.types.size = 337 := by kernel_rfl
theorem d_day : Dec Tryz.prog 34 Int (fun n => [.i n]) := .int Tryz.underlying34
theorem d_int : Dec Tryz.prog 3 Int (fun n => [.i n]) := .int Tryz.underlying3
theorem d_str : Dec Tryz.prog 9 Str (fun n => [.str n]) := .str Tryz.underlying9
theorem c3 : Tryz.prog.cellsOf 3 = 1 := by kernel_rfl
theorem c9 : Tryz.prog.cellsOf 9 = 1 := by kernel_rfl
theorem c54 : Tryz.prog.cellsOf 54 = 1 := by kernel_rfl
theorem c35 : Tryz.prog.cellsOf 35 = 1 := by kernel_rfl
theorem c37 : Tryz.prog.cellsOf 37 = 3 := by kernel_rfl
theorem c34 : Tryz.prog.cellsOf 34 = 1 := by kernel_rfl
theorem d_line : Dec Tryz.prog 92 Line encLine :=
  (Dec.struct Tryz.underlying92 (by kernel_rfl) (.cons d_str rfl c9 (.cons d_str rfl c9 (.cons (.str Tryz.underlying54) rfl c54 .nil)))).map (fun x => ⟨x.1, x.2.1, x.2.2.1⟩) (fun a => rfl)
theorem d_lines : Dec Tryz.prog 35 (List Line) (fun l => [sLines l]) := .slice (sz := 3) (k := 47) Tryz.underlying35 (by kernel_rfl) (by decide) (by kernel_rfl) d_line (fun _ => rfl)
theorem d_entry : Dec Tryz.prog 37 Entry encEntry :=
  (Dec.struct Tryz.underlying37 (by kernel_rfl) (.cons d_day rfl c34 (.cons d_str rfl c9 (.cons d_lines rfl c35 .nil)))).map (fun x => ⟨x.1, x.2.1, x.2.2.1⟩) (fun a => rfl)
theorem d_posted : Dec Tryz.prog 39 Posted encPosted :=
  (Dec.struct Tryz.underlying39 (by kernel_rfl) (.cons d_day rfl c34 (.cons d_int rfl c3 (.cons d_str rfl c9 (.cons d_entry rfl c37 .nil))))).map (fun x => ⟨x.1, x.2.1, x.2.2.1, x.2.2.2.1⟩) (fun a => rfl)
theorem d_posteds : Dec Tryz.prog 27 (List Posted) (fun l => [sPosteds l]) := .slice (sz := 6) (k := 79) Tryz.underlying27 (by kernel_rfl) (by decide) (by kernel_rfl) d_posted (fun _ => rfl)
def laidL : List (String × DataW Unit) := Go.Proofs.YtlhemheagekhaaaGreatDoor.Rows.restateStepRow.laid
theorem gl_of {W : World} (h : laidMetH Tryz.prog laidL W) : Gl W noO := by
  rw [MakeChecks.laidMetH_plain _ _ _ (by kernel_rfl)] at h
  intro g vs hm
  simp only [gtab, List.mem_singleton, Prod.mk.injEq] at hm
  obtain ⟨rfl, rfl⟩ := hm
  refine ⟨?_, fun h => h⟩
  have := laid_cells (P := Tryz.prog) (W := W) (n := "internal/strconv.uint64pow10") (k := .u64) (zs := pow10s.map fun (n : Nat) => (n : Int)) (g := 2) (t := 298) (e := 171) (by kernel_rfl) (by kernel_rfl) Tryz.underlying298 Tryz.underlying171 (by kernel_rfl) (by kernel_rfl) (laidL.take 2) (rest := laidL.drop 3) h
  simpa [Function.comp_def] using this
end Go.T
