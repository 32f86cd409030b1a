/-
  Contracts of the functions that the statement reaches, and the logic in which they are proved (no condition): parts W112, Spec18, Spec19, Spec20, Spec21, Card1, Card2, CardB, CardC.
-/
import Derived.Test.YtapflgppmigcdaaGreatDoorA17
import Derived.ChangeArms
import Derived.SizedLaws
import Derived.ProofKit
import Derived.OpenShut
import Derived.ReadAgain
import Derived.LaidMore
import Derived.Test.YtapflgppmigcdaaGreatDoorCards
import Derived.Test.YtapflgppmigcdaaGreatDoorTie
import Derived.Lay
import Derived.SevenTiedAt
import Derived.Stop.Joined
set_option linter.all false
namespace Go.T
open Go Go.Proofs Go.Proofs.Tryz
set_option maxRecDepth 20000
theorem small_in {s : Setup} {l : List Fact} {f : Fact} {b : Bool} (h : (((greatSetup s || [l].any greatView) || b) || greatFact f) = false) : greatSetup s = false ∧ greatView l = false ∧ greatFact f = false := by
 simp only [Bool.or_eq_false_iff, List.any_cons, List.any_nil] at h
 exact ⟨h.1.1.1, h.1.1.2.1, h.2⟩
theorem app_row (l : List Fact) (f : Fact) : l.map encFact ++ [encFact f] = (l ++ [f]).map encFact := by simp
theorem goodA_ok {s : Setup} {l : List Fact} {f : Fact} (id : Nat) (h : okG s (l ++ [f])) (hb : wrongG s (l ++ [f]) = false) : FcO Tryz.prog 10 [.agg (encSetup s), .gs id (l.length + 1)] [(id, .arr 21 (l.map encFact ++ [encFact f]))] (.tup [encGrp (grpOf s (l ++ [f])), .i 0]) [(id, .dead)] :=
 FcO.freeze (by rw [app_row]; exact goodG_ok h hb) (by simp)
theorem badA_ok {s : Setup} {l : List Fact} {f : Fact} (id : Nat) (h : okG s (l ++ [f])) (hb : wrongG s (l ++ [f]) = true) : FcO Tryz.prog 10 [.agg (encSetup s), .gs id (l.length + 1)] [(id, .arr 21 (l.map encFact ++ [encFact f]))] (.tup [.raw (.slice none 0 0), .i 1]) [(id, .dead)] :=
 FcO.freeze (by rw [app_row]; exact bad_ok h hb) (by simp)
theorem turnEq_ok (s : Setup) (l : List Fact) (n : Nat) : Fc Tryz.prog 18 [encGrp (grpOf s l), encGrp (grpOf s (l.drop n ++ l.take n)), .fn (.func 19) [] []] (.b true) := by
 rw [turn_same]; exact (eqGroups_ok _ _).res (Sub.bool (by simp [eqL]))
theorem inside_ok {s : Setup} {l : List Fact} {f : Fact} {x : List Str} (hx : x ∈ grpOf s l) : Fc Tryz.prog 16 [encGrp (grpOf s (l ++ [f])), .fn (.func 12) [] [.iptr [sStrs x]]] (.b true) :=
 (containsGr_ok _ _ [.iptr [sStrs x]] rfl (fun h => !x.any (lackS h)) call12 (fun h _ => holdsAll_ok x h)).res (Sub.bool (more_inside hx))
theorem lawMoreA_ok (s : Setup) (l : List Fact) (f : Fact) (n : Nat) (hn : n ≤ 255) (hw1 : wrongG s l = true) (hw2 : wrongG s (l ++ [f]) = true) : Fc Tryz.prog 3 [.agg (encSetup s), sFacts l, .agg (encFact f), .raw (.int .u8 n)] (.b true) := by
 refine Fc.mk' [8] func3 rfl ntmps3 rfl rfl rfl (fun t w => results_tmp results3 t _ w) ?_
 refine go [1, 10] ?_
 refine Run.weak (Le.freezeB 4 0 rfl rfl rfl rfl) ?_
 refine Run.weak (Le.freezeB 6 1 rfl rfl rfl rfl) ?_
 refine go [10] ?_
 refine oP (qBu (n := 1) (rows := [[sFacts l]]) underlying78 sizeOf31 rfl rfl rfl zeroValue31 rfl rfl rfl rfl rfl rfl rfl) ?_
 refine oP (qCa call7 rfl (great52_ok s [l]).sub) ?_
 refine gP (fun hg => qCa call8 rfl (greatFact_ok f)) ?_
 refine br (fun h1 => ?_) (fun h1 => ?_)
 ·refine oP (qCa call9 rfl awake_ok) ?_
  exact rx1 rfl (Sub.refl _)
 ·obtain ⟨hg1, hg2, hg3⟩ := small_in (s := s) (l := l) h1
  have hl8 : l.length ≤ 8 := (view_small hg2).1
  have ho : okG s l := okG_of hg1 hg2
  have ho2 : okG s (l ++ [f]) := ho.app hl8 hg3
  refine oP (qCa call10 rfl (bad_ok ho hw1)) ?_
  refine oW (q_callO call11 rfl (cloneF7600_ok l (by omega)) .nil rfl rfl) ?_
  refine oP (q_buildRow (ds := encFact f) underlying31 sizeOf39 rfl rfl zeroValue39 rfl rfl rfl rfl) ?_
  refine oW (q_append 2 underlying31 underlying31 sizeOf39 typeInfo39 zeroValue39 rfl (bt := 312) rfl rfl rfl rfl (by simp) rfl rfl (by simp; omega)) ?_
  refine oW (q_callO call10 rfl (badA_ok 2 ho2 hw2) (.cons rfl rfl .nil) rfl rfl) ?_
  refine ord ?_
  refine brT (by rfl) ?_
  refine gP (fun hg => qCa call9 rfl awake_ok) ?_
  exact rx1 rfl (Sub.refl _)
theorem lawMoreB_ok (s : Setup) (l : List Fact) (f : Fact) (n : Nat) (hn : n ≤ 255) (hw1 : wrongG s l = false) (hw2 : wrongG s (l ++ [f]) = true) : Fc Tryz.prog 3 [.agg (encSetup s), sFacts l, .agg (encFact f), .raw (.int .u8 n)] (.b true) := by
 refine Fc.mk' [8] func3 rfl ntmps3 rfl rfl rfl (fun t w => results_tmp results3 t _ w) ?_
 refine go [1, 10] ?_
 refine Run.weak (Le.freezeB 4 0 rfl rfl rfl rfl) ?_
 refine Run.weak (Le.freezeB 6 1 rfl rfl rfl rfl) ?_
 refine go [10] ?_
 refine oP (qBu (n := 1) (rows := [[sFacts l]]) underlying78 sizeOf31 rfl rfl rfl zeroValue31 rfl rfl rfl rfl rfl rfl rfl) ?_
 refine oP (qCa call7 rfl (great52_ok s [l]).sub) ?_
 refine gP (fun hg => qCa call8 rfl (greatFact_ok f)) ?_
 refine br (fun h1 => ?_) (fun h1 => ?_)
 ·refine oP (qCa call9 rfl awake_ok) ?_
  exact rx1 rfl (Sub.refl _)
 ·obtain ⟨hg1, hg2, hg3⟩ := small_in (s := s) (l := l) h1
  have hl8 : l.length ≤ 8 := (view_small hg2).1
  have ho : okG s l := okG_of hg1 hg2
  have ho2 : okG s (l ++ [f]) := ho.app hl8 hg3
  refine oP (qCa call10 rfl (goodG_ok ho hw1)) ?_
  refine oW (q_callO call11 rfl (cloneF7600_ok l (by omega)) .nil rfl rfl) ?_
  refine oP (q_buildRow (ds := encFact f) underlying31 sizeOf39 rfl rfl zeroValue39 rfl rfl rfl rfl) ?_
  refine oW (q_append 2 underlying31 underlying31 sizeOf39 typeInfo39 zeroValue39 rfl (bt := 312) rfl rfl rfl rfl (by simp) rfl rfl (by simp; omega)) ?_
  refine oW (q_callO call10 rfl (badA_ok 2 ho2 hw2) (.cons rfl rfl .nil) rfl rfl) ?_
  refine ord ?_
  refine brT (by rfl) ?_
  refine gP (fun hg => qCa call9 rfl awake_ok) ?_
  exact rx1 rfl (Sub.refl _)
structure lawMoreC_ok_L0 (s : Setup) (l : List Fact) (f : Fact) (n : Nat) where
 pre : List (List Str)
 rest : List (List Str)
 hx : grpOf s l = pre ++ rest
theorem lawMoreC_ok (s : Setup) (l : List Fact) (f : Fact) (n : Nat) (hn : n ≤ 255) (hw1 : wrongG s l = false) (hw2 : wrongG s (l ++ [f]) = false) : Fc Tryz.prog 3 [.agg (encSetup s), sFacts l, .agg (encFact f), .raw (.int .u8 n)] (.b true) := by
 refine Fc.mk' [8] func3 rfl ntmps3 rfl rfl rfl (fun t w => results_tmp results3 t _ w) ?_
 refine Run.seq (Run.reg [.w, .w, .p] ?_)
 refine .W rfl (q_boxA 0 rfl rfl) <| .W rfl (q_boxA 1 rfl rfl) <| .ag rfl rfl <| .nil ?_
 refine Run.weak (Le.freezeB 4 0 rfl rfl rfl rfl) ?_
 refine Run.weak (Le.freezeB 6 1 rfl rfl rfl rfl) ?_
 refine Run.seq (Run.seq (Run.reg [.p, .p, .p, .p, .p, .p, .p, .p, .p, .p, .p, .p, .p] ?_))
 refine .P rfl (q_loadIA isAgg30 sizeOf30 rfl rfl) <| .mv rfl rfl <| .P rfl (qBu (n := 1) (rows := [[sFacts l]]) underlying78 sizeOf31 rfl rfl rfl zeroValue31 rfl rfl rfl rfl rfl rfl rfl) <| .P rfl (qCa call7 rfl (great52_ok s [l]).sub) <| .mv rfl rfl <| .gF rfl (.inl rfl) rfl rfl rfl (fun hg => pk (fun _ => qMv rfl _)) <| .gF rfl (.inl rfl) rfl rfl rfl (fun hg => pk (fun _ => qLe underlying31 (opT rfl (nt hg)) _)) <| .gF rfl (.inl rfl) rfl rfl rfl (fun hg => pk (fun _ => q_gtr (opT rfl (nt hg)) rfl _)) <| .P rfl (q_or rfl rfl) <| .mv rfl rfl <| .gF rfl (.inl rfl) rfl rfl rfl (fun hg => pk (fun _ => q_loadIA isAgg39 sizeOf39 rfl rfl _)) <| .gF rfl (.inl rfl) rfl rfl rfl (fun hg => pk (fun _ => qCa call8 (opsC (opT rfl (nt hg)) (rfl)) (greatFact_ok f) _)) <| .P rfl (q_or rfl rfl) <| .nil ?_
 refine Run.cond rfl (fun h1 => ?_) (fun h1 => ?_)
 ·refine Run.seq (Run.reg [.p, .p] ?_)
  refine .P rfl (qCa call9 rfl awake_ok) <| .ag rfl rfl <| .nil ?_
  refine Run.ret (?_)
  exact ret1 rfl (Sub.refl _)
 ·obtain ⟨hg1, hg2, hg3⟩ := small_in (s := s) (l := l) h1
  have hl8 : l.length ≤ 8 := (view_small hg2).1
  have ho : okG s l := okG_of hg1 hg2
  have ho2 : okG s (l ++ [f]) := ho.app hl8 hg3
  refine Run.skip ?_
  refine Run.seq (Run.reg [.p, .p, .p, .p, .p, .p, .p, .p] ?_)
  refine .P rfl (q_loadIA isAgg30 sizeOf30 rfl rfl) <| .mv rfl rfl <| .P rfl (qCa call10 rfl (goodG_ok ho hw1)) <| .mv rfl rfl <| .P rfl (qEx rfl rfl) <| .P rfl (qEx rfl rfl) <| .ag rfl rfl <| .ag rfl rfl <| .nil ?_
  refine Run.seq (Run.regD [.p, .p, .w, .p, .p, .w, .w, .p, .p, .p, .p, .p] Tryz_mixed (by decide +kernel) ?_)
  refine .P rfl (q_loadIA isAgg30 sizeOf30 rfl rfl) <| .mv rfl rfl <| .W rfl (q_callO call11 rfl (cloneF7600_ok l (by omega)) .nil rfl rfl) <| .P rfl (q_loadIA isAgg39 sizeOf39 rfl rfl) <| .P rfl (q_buildRow (ds := encFact f) underlying31 sizeOf39 rfl rfl zeroValue39 rfl rfl rfl rfl) <| .W rfl (q_append 2 underlying31 underlying31 sizeOf39 typeInfo39 zeroValue39 rfl (bt := 312) rfl rfl rfl rfl (by simp) rfl rfl (by simp; omega)) <| .W rfl (q_callO call10 rfl (goodA_ok 2 ho2 hw2) (.cons rfl rfl .nil) rfl rfl) <| .mv rfl rfl <| .P rfl (qEx rfl rfl) <| .P rfl (qEx rfl rfl) <| .ag rfl rfl <| .ag rfl rfl <| .nil ?_
  refine Run.seq (Run.seq (Run.reg [.p, .p, .p, .p, .p, .p] ?_))
  refine .mv rfl rfl <| .P rfl (q_neq rfl rfl) <| .mv rfl rfl <| .gF rfl (.inl rfl) rfl rfl rfl (fun hg => pk (fun _ => qMv rfl _)) <| .gF rfl (.inl rfl) rfl rfl rfl (fun hg => pk (fun _ => q_neq (opT rfl (nt hg)) rfl _)) <| .P rfl (q_or rfl rfl) <| .nil ?_
  refine Run.condF rfl (by rfl) ?_
  refine Run.skip ?_
  refine Run.seq (Run.seq (Run.reg [.p, .p, .p] ?_))
  refine .mv rfl rfl <| .P rfl (qLe underlying43 rfl) <| .mv rfl rfl <| .nil ?_
  refine Run.block ?_
  refine Run.loop (ι := lawMoreC_ok_L0 s l f n) (fun sx => [(1, sFacts l), (3, .raw (.int .u8 n)), (4, .iptr (encSetup s)), (9, encGrp (grpOf s l)), (11, encGrp (grpOf s (l ++ [f]))), (70, encGrp (grpOf s l)), (71, .i (grpOf s l).length), (72, .i sx.pre.length)]) (fun sx => []) (fun sx => sx.rest.length) ⟨[], grpOf s l, rfl⟩ ?_ ?_
  ·exact Le.mk rfl (.s rfl rfl (.s rfl rfl (.s rfl rfl (.s rfl rfl (.s rfl rfl (.s rfl rfl (.cons rfl (Sub.int (by simp)) rfl (.s rfl rfl .nil)))))))) .nil
  ·rintro ⟨pre, rest, hx⟩
   show Run _ _ _ _ [(1, sFacts l), (3, .raw (.int .u8 n)), (4, .iptr (encSetup s)), (9, encGrp (grpOf s l)), (11, encGrp (grpOf s (l ++ [f]))), (70, encGrp (grpOf s l)), (71, .i (grpOf s l).length), (72, .i pre.length)] []
   have hl := congrArg List.length hx
   simp only [List.length_append] at hl
   refine Run.bSnap 70 rfl (fun hb => ?_)
   simp only [List.length_map, big] at hb
   rcases rest with _ | ⟨x, rest⟩
   ·skip
    refine Run.seq (Run.reg [.p] ?_)
    refine .P rfl (q_lss rfl rfl) <| .nil ?_
    refine Run.seq ?_
    refine Run.condF rfl (by simp at hl ⊢; omega) ?_
    refine Run.exit (tX0 (bX0 ?_))
    refine Run.seq (Run.seq (Run.reg [.p, .p, .p] ?_))
    refine .mv rfl rfl <| .P rfl (qLe underlying31 rfl) <| .P rfl (q_eql rfl rfl) <| .nil ?_
    refine Run.cond rfl (fun h2 => ?_) (fun h2 => ?_)
    ·refine Run.seq (Run.reg [.p, .p] ?_)
     refine .P rfl (qCa call9 rfl awake_ok) <| .ag rfl rfl <| .nil ?_
     refine Run.ret (?_)
     exact ret1 rfl (Sub.refl _)
    ·have ph2 := h2; try simp only [bs] at ph2
     refine Run.skip ?_
     refine Run.seq (Run.reg [.p, .p, .p, .p, .p, .p] ?_)
     refine .mv rfl rfl <| .P rfl (q_conv underlying5 underlying3 rfl (w64 (by omega))) <| .mv rfl rfl <| .P rfl (qLe underlying31 rfl) <| .P rfl (q_rem rfl rfl (by simp at *; omega) (show (n : Int).tmod ((l.map encFact).length : Int) = ((n % l.length : Nat) : Int) by rw [List.length_map]; exact (Int.ofNat_tmod n l.length).symm)) <| .ag rfl rfl <| .nil ?_
     refine Run.seq (Run.regD [.p, .p, .p, .p, .p, .p, .p, .p, .p, .p, .p, .p, .p, .p, .p] Tryz_mixed (by decide +kernel) ?_)
     refine .P rfl (q_loadIA isAgg30 sizeOf30 rfl rfl) <| .mv rfl rfl <| .mv rfl rfl <| .P rfl (q_sliceI underlying31 sizeOf39 rfl (l := n % l.length) (h := l.length) (r := (l.drop (n % l.length)).map encFact) (.inr ⟨_, _, rfl, rfl⟩) (.inl ⟨rfl, (List.length_map _).symm⟩) (Nat.le_of_lt (Nat.mod_lt _ (by omega))) (by simp) (by rw [← List.map_drop]; exact List.take_of_length_le (by simp))) <| .mv rfl rfl <| .mv rfl rfl <| .P rfl (q_sliceI underlying31 sizeOf39 rfl (l := 0) (h := n % l.length) (r := (l.take (n % l.length)).map encFact) (.inl ⟨rfl, rfl⟩) (.inr ⟨_, _, rfl, rfl⟩) (Nat.zero_le _) (by simp; exact Nat.le_of_lt (Nat.mod_lt _ (by omega))) (by simp [List.map_take])) <| .P rfl (qBu (n := 2) (rows := [[sFacts (l.drop (n % l.length))], [sFacts (l.take (n % l.length))]]) underlying78 sizeOf31 rfl rfl rfl zeroValue31 rfl rfl rfl rfl rfl rfl rfl) <| .P rfl (qCa call17 rfl (concatF_ok (l.drop (n % l.length)) (l.take (n % l.length)) (by simp; omega) (by simp; omega))) <| .P rfl (qCa call10 rfl (goodG_ok (ho.turn (n % l.length)) (wrong_turn (n % l.length) hw1))) <| .mv rfl rfl <| .P rfl (qEx rfl rfl) <| .P rfl (qEx rfl rfl) <| .ag rfl rfl <| .ag rfl rfl <| .nil ?_
     refine Run.seq (Run.reg [.p, .p, .p, .p, .p, .p, .p, .p, .p, .p, .p] ?_)
     refine .mv rfl rfl <| .P rfl (q_eql rfl rfl) <| .mv rfl rfl <| .gT rfl (.inl rfl) rfl rfl rfl (fun hg => pk (fun _ => qMv rfl _)) <| .gT rfl (.inl rfl) rfl rfl rfl (fun hg => pk (fun _ => qMv rfl _)) <| .gT rfl (.inl rfl) rfl rfl rfl (fun hg => pk (fun _ => qCa call18 (opsC (opT rfl hg) (opsC (opT rfl hg) (opsC rfl (rfl)))) (turnEq_ok s l (n % l.length)) _)) <| .P rfl (q_and rfl rfl) <| .mv rfl rfl <| .gT rfl (.inl rfl) rfl rfl rfl (fun hg => pk (fun _ => qCa call9 rfl awake_ok _)) <| .P rfl (q_and rfl rfl) <| .ag rfl rfl <| .nil ?_
     refine Run.ret (?_)
     exact ret1 rfl (Sub.refl _)
   ·simp only [List.length_cons] at hl
    refine Run.seq (Run.reg [.p] ?_)
    refine .P rfl (q_lss rfl rfl) <| .nil ?_
    refine Run.seq ?_
    refine Run.condT rfl (by simp; omega) ?_
    refine Run.skip ?_
    refine Run.seq ?_
    refine Run.block ?_
    refine Run.seq (Run.reg [.p, .p, .w, .w] ?_)
    refine .P rfl (qIi underlying43 sizeOf48 rfl rfl (by omega) (iMd (fun v : List Str => [sStrs v]) hx rfl)) <| .P rfl (qLo isAgg48 rfl) <| .W rfl (q_alloc 3 zeroValue48 rfl) <| .W rfl (q_store1 sizeOf48 rfl rfl rfl rfl (by decide)) <| .nil ?_
    refine Run.weak (Le.freezeB 14 3 rfl rfl rfl rfl) ?_
    refine Run.seq (Run.reg [.p, .p] ?_)
    refine .P rfl (q_makeFunc (xs := []) (ys := _) rfl rfl) <| .ag rfl rfl <| .nil ?_
    refine Run.seq (Run.reg [.p, .p, .p, .p] ?_)
    refine .mv rfl rfl <| .mv rfl rfl <| .P rfl (qCa call16 rfl (inside_ok (by rw [hx]; simp))) <| .P rfl (q_not rfl) <| .nil ?_
    refine Run.condF rfl (by rfl) ?_
    refine Run.skip ?_
    refine Run.nil (bN0 ?_)
    refine Run.reg [.p, .p] ?_
    refine .P rfl (q_add rfl rfl (wrap64_ok (by omega) (by simp at *; omega))) <| .mv rfl rfl <| .nil ?_
    refine Run.nil (tN0 ?_)
    exact ⟨⟨pre ++ [x], rest, by simp [hx]⟩, by simp, Le.mk rfl (.s rfl rfl (.s rfl rfl (.s rfl rfl (.s rfl rfl (.s rfl rfl (.s rfl rfl (.s rfl rfl (.cons rfl (Sub.int (by simp)) rfl .nil)))))))) .nil⟩
theorem lawMore_ok (s : Setup) (l : List Fact) (f : Fact) (n : Nat) (hn : n ≤ 255) : Fc Tryz.prog 3 [.agg (encSetup s), sFacts l, .agg (encFact f), .raw (.int .u8 n)] (.b true) := by
 by_cases h1 : wrongG s l = true
 ·by_cases h2 : wrongG s (l ++ [f]) = true
  ·exact lawMoreA_ok s l f n hn h1 h2
  ·rw [wrong_less (by simpa using h2)] at h1; cases h1
 ·by_cases h2 : wrongG s (l ++ [f]) = true
  ·exact lawMoreB_ok s l f n hn (by simpa using h1) h2
  ·exact lawMoreC_ok s l f n hn (by simpa using h1) (by simpa using h2)
end Go.T
namespace Go.T
open Go
def noO : Nat → Prop := fun _ => False
structure Dec (P : Program) (t : TypeId) (α : Type) (enc : α → List D) : Prop where
 out : ∀ {H : Type} {eH : TypeId × Value → H} {w : World} {fuel : Nat} {cs : List Value} {x : DataW H × List MemPlace}, DataW.trod eH P w 0 (fun _ => true) true fuel t cs = some x → (∀ n ∈ x.1.weights P t, n ≤ reachBytes) →
  ∃ a : α, (∀ u ∈ cs, u.oneCell' = true) ∧ Vs w noO rho0 (enc a) cs
theorem Dec.int {P : Program} {t : TypeId} (ht : P.underlying t = some (.int .i64)) : Dec P t Int (fun n => [.i n]) := ⟨fun h _ => by
 obtain ⟨n, rfl, _, _⟩ := DataW.trod_int ht h
 exact ⟨n, by simp [Value.oneCell'], by simp [Vs, V]⟩⟩
theorem Dec.bool {P : Program} {t : TypeId} (ht : P.underlying t = some .bool) : Dec P t Bool (fun n => [.b n]) := ⟨fun h _ => by
 obtain ⟨n, rfl, _⟩ := DataW.trod_bool ht h
 exact ⟨n, by simp [Value.oneCell'], by simp [Vs, V]⟩⟩
theorem Dec.str {P : Program} {t : TypeId} (ht : P.underlying t = some .string) : Dec P t Str (fun n => [.str n]) := ⟨fun h hw => by
 obtain ⟨s, rfl, rfl, _⟩ := DataW.trod_string ht h
 have := hw s.data.toList.length (by simp [DataW.weights])
 refine ⟨s.data.toList, by simp [Value.oneCell'], ?_⟩
 simp only [Vs, V]
 refine ⟨_, _, rfl, ⟨by simp, ?_⟩, rfl⟩
 have := reachBytes_lt
 unfold big
 omega⟩
structure DecF (P : Program) (fs : List Field) (off : Nat) (α : Type) (enc : α → List D) : Prop where
 out : ∀ {H : Type} {eH : TypeId × Value → H} {w : World} {fuel : Nat} {cs : List Value} {xs : List (DataW H × List MemPlace)}, xs.length = fs.length →
  (∀ (i : Nat) (f : Field), fs[i]? = some f → DataW.trod eH P w 0 (fun _ => true) true fuel f.type ((cs.drop f.offset).take (P.cellsOf f.type)) = xs[i]?) → (∀ n ∈ DataW.weightsEach P (fs.map (·.type)) (xs.map (·.1)), n ≤ reachBytes) →
  ∃ a : α, (∀ u ∈ (cs.drop off).take ((fs.map fun f => P.cellsOf f.type).sum), u.oneCell' = true) ∧ Vs w noO rho0 (enc a) ((cs.drop off).take ((fs.map fun f => P.cellsOf f.type).sum))
theorem DecF.nil {P : Program} {off : Nat} : DecF P [] off Unit (fun _ => []) := ⟨fun _ _ _ => ⟨(), by simp, by simp [Vs]⟩⟩
theorem Vs.app {w : World} {O : Nat → Prop} {ρ : Rho} : ∀ {ds es : List D} {us vs : List Value}, Vs w O ρ ds us → Vs w O ρ es vs → Vs w O ρ (ds ++ es) (us ++ vs)
 | [], es, us, vs, h, h' => by simp only [Vs] at h; subst h; simpa using h'
 | d :: ds, es, us, vs, h, h' => by
  simp only [Vs] at h
  obtain ⟨u, us, rfl, h1, h2⟩ := h
  simp only [List.cons_append, Vs]
  exact ⟨_, _, rfl, h1, Vs.app h2 h'⟩
theorem DecF.cons {P : Program} {f : Field} {fs : List Field} {off n : Nat} {α β : Type} {enc : α → List D} {enc' : β → List D} (h1 : Dec P f.type α enc) (ho : f.offset = off) (hn : P.cellsOf f.type = n) (h2 : DecF P fs (off + n) β enc') : DecF P (f :: fs) off (α × β) (fun x => enc x.1 ++ enc' x.2) := ⟨fun {H eH w fuel cs xs} hl hr hw => by
 match xs, hl with
 | x :: xs, hl =>
  have hx := hr 0 f rfl
  simp only [List.map_cons, DataW.weightsEach, List.mem_append] at hw
  obtain ⟨a, ha, hva⟩ := h1.out (by simpa using hx) (fun n hn => hw n (.inl hn))
  obtain ⟨b, hb, hvb⟩ := h2.out (xs := xs) (by simpa using hl) (fun i g hg => by simpa using hr (i + 1) g (by simpa using hg)) (fun n hn => hw n (.inr hn))
  rw [ho, hn] at ha hva
  have e : (cs.drop off).take (((f :: fs).map fun f => P.cellsOf f.type).sum) = (cs.drop off).take n ++ (cs.drop (off + n)).take ((fs.map fun f => P.cellsOf f.type).sum) := by
   rw [List.map_cons, List.sum_cons, hn, List.take_add, List.drop_drop]
  rw [e]
  exact ⟨(a, b), fun u hu => (List.mem_append.1 hu).elim (ha u) (hb u), Vs.app hva hvb⟩⟩
theorem Dec.struct {P : Program} {t : TypeId} {fs : List Field} {α : Type} {enc : α → List D} (ht : P.underlying t = some (.struct fs.toArray)) (hc : P.cellsOf t = (fs.map fun f => P.cellsOf f.type).sum) (h : DecF P fs 0 α enc) : Dec P t α enc := ⟨fun {H eH w fuel cs x} hr hw => by
 obtain ⟨xs, n, _, rfl, hl, hlen, hf⟩ := DataW.trod_struct ht hr
 simp only [DataW.weights, ht, List.map_map] at hw
 obtain ⟨a, h1, h2⟩ := h.out (by simpa using hlen) (fun i f hi => hf i f (by simpa using hi)) (fun n hn => hw n (by simpa [Function.comp_def] using hn))
 have e : (cs.drop 0).take ((fs.map fun f => P.cellsOf f.type).sum) = cs := by
  rw [List.drop_zero, ← hc, ← hl, List.take_length]
 rw [e] at h1 h2
 exact ⟨a, h1, h2⟩⟩
theorem Dec.map {P : Program} {t : TypeId} {α β : Type} {enc : α → List D} {enc' : β → List D} (h : Dec P t α enc) (f : α → β) (he : ∀ a, enc' (f a) = enc a) : Dec P t β enc' := ⟨fun hr hw => by
 obtain ⟨a, h1, h2⟩ := h.out hr hw
 exact ⟨f a, h1, by rw [he]; exact h2⟩⟩
theorem Vs.toVc {w : World} {O : Nat → Prop} {b : Nat} : ∀ {ds : List D} {cs : List Value} {off : Nat}, Vs w O rho0 ds cs → (∀ u ∈ cs, u.oneCell' = true) → (∀ j u, cs[j]? = some u → w.cell? ⟨b, off + j, none⟩ = some u) → Vc w O b off ds
 | [], _, _, _, _, _ => by simp [Vc]
 | d :: ds, cs, off, h, h1, hc => by
  simp only [Vs] at h
  obtain ⟨u, us, rfl, h2, h3⟩ := h
  simp only [Vc]
  refine ⟨⟨u, ⟨by simpa using hc 0 u rfl, h1 u List.mem_cons_self⟩, h2⟩, Vs.toVc h3 (fun v hv => h1 v (List.mem_cons_of_mem _ hv)) (fun j v hj => ?_)⟩
  have := hc (j + 1) v (by simpa using hj)
  rwa [show off + (j + 1) = off + 1 + j by omega] at this
theorem cells_get {w : World} {a : Addr} {n : Nat} {cs : List Value} (h : w.cells? 0 a n = some cs) : cs.length = n ∧ ∀ j, j < n → w.cell? (a.add j) = cs[j]? := by
 unfold World.cells? at h
 rw [if_pos (Nat.zero_le _)] at h
 exact ⟨by simpa using mapM_some_length h, fun j hj => by simpa using mapM_some_get h j j (by simp [hj])⟩
theorem spot_none {w : World} {a : Addr} {u : Value} (h : w.cell? a = some u) : a.spot = none := by
 cases hsp : a.spot with
 | none => rfl
 | some s =>
  simp only [World.cell?] at h
  split at h
  ·simp [hsp] at h
  ·cases h
theorem Vr_of {w : World} {b sz : Nat} {α : Type} {enc : α → List D} : ∀ {l : List α} {off : Nat}, (∀ i a, l[i]? = some a → (enc a).length = sz ∧ Vc w noO b (off + i * sz) (enc a)) → Vr w noO b off sz (l.map enc)
 | [], _, _ => by simp [Vr]
 | a :: l, off, h => by
  simp only [List.map_cons, Vr]
  refine ⟨by simpa using h 0 a rfl, Vr_of fun i a' hi => ?_⟩
  have := h (i + 1) a' (by simpa using hi)
  rwa [show off + (i + 1) * sz = off + sz + i * sz by rw [Nat.add_mul]; omega] at this
theorem exists_list {α : Type} {p : Nat → α → Prop} : ∀ (n : Nat), (∀ i, i < n → ∃ a, p i a) → ∃ l : List α, l.length = n ∧ ∀ i a, l[i]? = some a → p i a
 | 0, _ => ⟨[], rfl, by simp⟩
 | n + 1, h => by
  obtain ⟨l, h1, h2⟩ := exists_list n (fun i hi => h i (by omega))
  obtain ⟨a, ha⟩ := h n (by omega)
  refine ⟨l ++ [a], by simp [h1], fun i a' hi => ?_⟩
  by_cases e : i < l.length
  ·rw [List.getElem?_append_left e] at hi; exact h2 i a' hi
  ·rw [List.getElem?_append_right (by omega)] at hi
   have : i = n := by
    by_cases e2 : i - l.length = 0
    ·omega
    ·simp [List.getElem?_cons, e2] at hi
   subst this
   simp [h1] at hi
   subst hi
   exact ha
theorem weightsAll_mem {H : Type} {P : Program} {e : TypeId} : ∀ {ds : List (DataW H)} {i : Nat} {d : DataW H}, ds[i]? = some d → ∀ n ∈ d.weights P e, n ∈ DataW.weightsAll P e ds
 | d0 :: ds, 0, d, h, n, hn => by
  simp only [List.getElem?_cons_zero, Option.some.injEq] at h
  subst h
  simp only [DataW.weightsAll, List.mem_append]
  exact .inl hn
 | d0 :: ds, i + 1, d, h, n, hn => by
  simp only [DataW.weightsAll, List.mem_append]
  exact .inr (weightsAll_mem (by simpa using h) n hn)
 | [], _, _, h, _, _ => by simp at h
theorem Dec.slice {P : Program} {t e : TypeId} {α : Type} {enc : α → List D} {sz k : Nat} (ht : P.underlying t = some (.slice e)) (hc : P.cellsOf e = sz) (hz : sz ≠ 0) (hb : P.bytesOf e = k + 1) (h : Dec P e α enc) (hl : ∀ a, (enc a).length = sz) : Dec P t (List α) (fun l => [.snap sz false (l.map enc)]) := ⟨fun {H eH w fuel cs x} hr hw => by
 rcases DataW.trod_slice ht hr with ⟨rfl, rfl⟩ | ⟨a, len, cap, elems, rest, n, rfl, rfl, rfl, _, hlc, hcap, hel, hget, hsp, _⟩
 ·refine ⟨[], by simp [Value.oneCell'], ?_⟩
  simp only [Vs, V, List.map_nil]
  exact ⟨_, _, rfl, ⟨none, 0, rfl, ⟨Nat.le_refl _, by simp⟩, by simp, by simp⟩, rfl⟩
 ·simp only [DataW.weights, ht, List.mem_cons, List.mem_append, hb] at hw
  have hlen : len ≤ big := by
   have h1 := hw _ (.inl rfl)
   simp only [List.length_map, hel] at h1
   have h2 := reachBytes_lt
   have h3 : len + rest.length ≤ (len + rest.length) * (k + 1) := Nat.le_mul_of_pos_right _ (by omega)
   unfold big
   omega
  have hq : ∀ i, i < len → ∃ y : α, (enc y).length = sz ∧ ∃ cs : List Value, cs.length = sz ∧ (∀ u ∈ cs, u.oneCell' = true) ∧ Vs w noO rho0 (enc y) cs ∧ ∀ j, j < sz → w.cell? ((a.add (i * sz)).add j) = cs[j]? := by
   intro i hi
   have hg := hget i hi
   rw [hc] at hg
   have hi' : i < elems.length := by omega
   rw [List.getElem?_eq_getElem hi'] at hg
   obtain ⟨cs, hcs, hg⟩ := Option.bind_eq_some_iff.1 hg
   obtain ⟨y, h1, h2⟩ := h.out hg (fun n hn => hw n (.inr (.inl (weightsAll_mem (i := i) (d := elems[i].1) (by simp [hi']) n hn))))
   obtain ⟨h3, h4⟩ := cells_get hcs
   exact ⟨y, hl y, cs, h3, h1, h2, h4⟩
  obtain ⟨l, hll, hp⟩ := exists_list len hq
  refine ⟨l, by simp [Value.oneCell'], ?_⟩
  simp only [Vs, V, List.length_map]
  refine ⟨_, _, rfl, ⟨some a, cap, by rw [hll], ⟨by omega, by omega⟩, by simp, fun hne => ?_⟩, rfl⟩
  have hpos : 0 < len := by
   cases l with
   | nil => simp at hne
   | cons _ _ => simp at hll; omega
  have h0 : ∃ u, w.cell? a = some u := by
   obtain ⟨y, _, cs, h1, _, _, h4⟩ := hq 0 hpos
   have h5 := h4 0 (by omega)
   have h6 : 0 < cs.length := by omega
   rw [List.getElem?_eq_getElem h6] at h5
   exact ⟨cs[0], by simpa [Addr.add] using h5⟩
  obtain ⟨u, hu⟩ := h0
  have hs := spot_none hu
  obtain ⟨b, off, sp⟩ := a
  simp only at hs
  subst hs
  refine ⟨b, off, rfl, ⟨cell_lt hu, fun h => h⟩, Vr_of fun i y hi => ?_⟩
  obtain ⟨g1, cs, g2, g3, g4, g5⟩ := hp i y hi
  refine ⟨g1, Vs.toVc g4 g3 fun j v hj => ?_⟩
  have hj' : j < sz := by
   have := (List.getElem?_eq_some_iff.1 hj).1
   omega
  rw [← hj, ← g5 j hj']
  congr 1
  unfold Addr.add
  by_cases e1 : i * sz = 0 <;> by_cases e2 : j = 0 <;> simp [e1, e2]⟩
open Go.ChangeShapes Go.WideShapes Go.RowKit Go.ChangeAt
structure DecL (P : Program) (ts : List TypeId) (α : Type) (enc : α → List D) : Prop where
 out : ∀ {H : Type} {eH : TypeId × Value → H} {w : World} {base : Nat} {vs : List Value} {ds : List (DataW H)} {p : List MemPlace}, DataW.TrodAll eH P w 0 (fun _ => true) true ts vs ds p →
  (∀ (j : Nat) t v, ts[j]? = some t → vs[j]? = some v → Value.okWide P w .any base t v) → (∀ n ∈ DataW.weightsEach P ts ds, n ≤ reachBytes) → ∃ a : α, Vs w noO rho0 (enc a) vs
def OneTy (P : Program) (t : TypeId) : Prop := ∀ w base v, Value.okWide P w .any base t v → v.cells.toList = [v]
theorem OneTy.slice {P : Program} {t e : TypeId} (ht : P.underlying t = some (.slice e)) : OneTy P t := fun w base v h => by
 obtain ⟨a, l, c, rfl⟩ := okWide_slice ht h; rfl
theorem OneTy.int {P : Program} {t : TypeId} {k : IntKind} (ht : P.underlying t = some (.int k)) : OneTy P t := fun w base v h => by
 obtain ⟨a, rfl⟩ := okWide_int ht h; rfl
theorem DecL.nil {P : Program} : DecL P [] Unit (fun _ => []) := ⟨fun {H eH w base vs ds p} h _ _ => by
 match vs, ds, h with
 | [], [], _ => exact ⟨(), by simp [Vs]⟩⟩
theorem DecL.cons {P : Program} {t : TypeId} {ts : List TypeId} {α β : Type} {e : α → D} {enc : β → List D} (h1 : Dec P t α (fun a => [e a])) (ho : OneTy P t) (h2 : DecL P ts β enc) : DecL P (t :: ts) (α × β) (fun x => e x.1 :: enc x.2) := ⟨fun {H eH w base vs ds p} h hv hw => by
 match vs, ds, h with
 | v :: vs, d :: ds, ⟨p1, q1, ⟨fuel, hf⟩, h4, _⟩ =>
  simp only [DataW.weightsEach, List.mem_append] at hw
  obtain ⟨b, hb⟩ := h2.out h4 (fun j t v ht hv' => hv (j + 1) t v (by simpa using ht) (by simpa using hv')) (fun n hn => hw n (.inr hn))
  rw [ho w base v (hv 0 t v rfl rfl)] at hf
  obtain ⟨a, _, ha⟩ := h1.out hf (fun n hn => hw n (.inl hn))
  simp only [Vs] at ha
  obtain ⟨u, us, e1, ha, rfl⟩ := ha
  cases e1
  exact ⟨(a, b), v, vs, rfl, ha, hb⟩⟩
theorem Keep.keptBut {w w' : World} (h : Keep w w') (may : MemPlace → Prop) : w.keptBut w' may := by
 refine ⟨h.os.1, h.os.2.1, fun i hi => ?_⟩
 rw [h.same i hi]
 split <;> simp_all
theorem Keep.sameAt {w w' : World} (h : Keep w w') {p : MemPlace} (hp : p.block < w.heap.size) : w.sameAt w' p := by
 cases p with
 | cell b off =>
  simp only [MemPlace.block] at hp
  simp [World.sameAt, World.cell?, h.same b hp]
 | map b => exact h.same b hp
theorem trodAll_keep {H : Type} {eH : TypeId × Value → H} {P : Program} {w w' : World} {sp : Nat → Bool} (hk : Keep w w') : ∀ {ts : List TypeId} {vs : List Value} {ds : List (DataW H)} {p : List MemPlace}, DataW.TrodAll eH P w 0 sp true ts vs ds p → (∀ x ∈ p, x.block < w.heap.size) → DataW.TrodAll eH P w' 0 sp true ts vs ds p
 | [], vs, ds, p, h, _ => by
  match vs, ds, h with
  | [], [], h => exact h
 | t :: ts, vs, ds, p, h, hp => by
  match vs, ds, h with
  | v :: vs, d :: ds, ⟨p1, q1, ⟨fuel, hf⟩, h4, e⟩ =>
   subst e
   exact ⟨p1, q1, ⟨fuel, DataW.trod_carry _ _ _ _ hf fun x hx => hk.sameAt (hp x (List.mem_append_left _ hx))⟩, trodAll_keep hk h4 (fun x hx => hp x (List.mem_append_right _ hx)), rfl⟩
theorem trodAll_len {H : Type} {eH : TypeId × Value → H} {P : Program} {w : World} {sp : Nat → Bool} : ∀ {ts : List TypeId} {vs : List Value} {ds : List (DataW H)} {p : List MemPlace}, DataW.TrodAll eH P w 0 sp true ts vs ds p → ds.length = ts.length
 | [], vs, ds, p, h => by
  match vs, ds, h with
  | [], [], h => rfl
 | t :: ts, vs, ds, p, h => by
  match vs, ds, h with
  | v :: vs, d :: ds, ⟨p1, q1, _, h4, e⟩ => simp [trodAll_len h4]
theorem law_contract {P : Program} {f : FuncId} {fn : Func} {s : ChangeSpec} {α : Type} {encs : α → List D} {tb : TypeId}
  (hkids : Kids P (· < P.types.size)) (hfull : ∀ t e, t < P.types.size → P.underlying t = some (.slice e) → 0 < P.cellsOf e)
  (hts : ∀ t ∈ fn.params.toList, t < P.types.size) (hvars : s.vars = []) (hres : fn.resultTypes = #[tb]) (hb : P.underlying tb = some .bool)
  (hsp : ∀ (H : Type) (ds : List (DataW H)), ds.length = fn.params.size → s.fn H ds = { results := [.lit (.bool true)], args := ds })
  (hdec : DecL P fn.params.toList α encs) (hlaw : ∀ a, Fc P f (encs a) (.b true))
  {H : Type} {enc : TypeId × Value → H} {W : World} {base : Nat} {args : Array Value} {ds gs : List (DataW H)} {before : List MemPlace}
  (hval : ∀ (j : Nat) t v, fn.params[j]? = some t → args[j]? = some v → Value.okWide P W .any base t v)
  (hW : DataW.Whole enc P fn.params.toList s.vars false W args.toList ds gs before)
  (hsz : (DataW.weightsEach P (fn.params.toList ++ s.plain.varTypes P) (ds ++ gs)).all (· ≤ reachBytes) = true) (hgl : Gl W noO) :
  Calls P f args W fun e W' => ∃ v, e = .returned v ∧ s.post enc P fn false true false false W args v W' := by
 have hW' := hW
 obtain ⟨p, q, hA, hV, rfl, _, _⟩ := hW
 rw [hvars] at hV
 obtain ⟨rfl, rfl⟩ := trodVars_none hV
 have hvt : s.plain.varTypes P = [] := by simp [ChangeSpec.plain, DataSpec.varTypes, hvars]
 rw [hvt, List.append_nil, List.append_nil] at hsz
 obtain ⟨a, ha⟩ := hdec.out hA (fun j t v ht hv => hval j t v (by simpa using ht) (by simpa using hv)) (fun n hn => by simpa using List.all_eq_true.1 hsz n hn)
 have hlen := trodAll_len hA
 have hlt : ∀ x ∈ p, x.block < W.heap.size := fun x hx => hA.lt x hx
 refine ((hlaw a).out W noO rho0 args.toList (fun b h => h.elim) hgl ha).mono ?_
 rintro e W' ⟨v, rfl, hv, hk⟩
 simp only [V] at hv
 subst hv
 have hf : s.fn H (ds ++ []) = { results := [.lit (.bool true)], args := ds } := by rw [List.append_nil]; exact hsp H ds (by simpa using hlen)
 refine ⟨_, rfl, ds, [], p ++ [], [], p, [], hW', ?_, ?_, ?_, hk.keptBut _, fun h => by cases h⟩
 ·rw [hf, hres]
  exact trodAll_mk1 (shut_bool hb _)
 ·rw [hf]
  exact DataW.TrodAll.respare hkids hfull hts (trodAll_keep hk hA hlt) (fun x hx => by simpa using hlt x hx)
 ·rw [hf, hvars]
  rfl
theorem laid_cells {P : Program} {W : World} {n : String} {k : IntKind} {zs : List Int} {rest : List (String × DataW Unit)} {g t e : Nat} (hg : P.globalNamed n = some g) (ht : (P.globals[g]?).map (·.type) = some t) (hu : P.underlying t = some (.array zs.length e)) (he : P.underlying e = some (.int k)) (hce : P.cellsOf e = 1) (hct : P.cellsOf t = zs.length)
  (pre : List (String × DataW Unit)) (hL : laidMet P (pre ++ (n, .agg (zs.map fun z => .lit (.int k z))) :: rest) W) : ∃ T fr, W.heap[g]? = some (.cells (zs.map fun z => Value.int k z).toArray T fr) := by
 obtain ⟨ps, h, hx⟩ := hL
 clear hx
 induction pre generalizing ps with
 | cons x pre ih =>
  obtain ⟨_, _, _, _, _, q, _, _, _, _, h, _⟩ := h
  exact ih q h
 | nil =>
  obtain ⟨g', t', cs, fuel, p, q, hg', ht', hv, hd, _⟩ := h
  obtain rfl := Option.some.inj (hg.symm.trans hg')
  obtain rfl := Option.some.inj (ht.symm.trans ht')
  obtain ⟨xs, m, _, ex, hcl, hl, hel⟩ := DataW.trod_array hu hd
  have e3 : xs.map (·.1) = zs.map fun z => .lit (.int k z) := (DataW.agg.inj (Prod.mk.inj ex).1).symm
  have key : cs = (zs.map fun z => Value.int k z).toArray := by
   apply Array.ext'
   apply List.ext_getElem?
   intro r
   by_cases hr : r < zs.length
   ·have hE := hel r hr
    rw [hce, Nat.mul_one, List.getElem?_eq_getElem (by omega)] at hE
    obtain ⟨z, e1, e2, _⟩ := DataW.trod_int he hE
    have e4 : (xs.map (·.1))[r]? = (zs.map fun n => (DataW.lit (.int k n) : DataW Unit))[r]? := by rw [e3]
    rw [List.getElem?_map, List.getElem?_map, List.getElem?_eq_getElem (by omega : r < xs.length), List.getElem?_eq_getElem hr, e2] at e4
    simp only [Option.map_some, Option.some.injEq, DataW.lit.injEq, Lit.int.injEq, true_and] at e4
    have h0 : ((cs.toList.drop r).take 1)[0]? = some (.int k z) := by rw [e1]; rfl
    have h1 : cs.toList[r]? = some (.int k z) := by simpa using h0
    rw [h1, List.toList_toArray, List.getElem?_map, List.getElem?_eq_getElem hr, e4]; rfl
   ·have : cs.toList.length = zs.length := by rw [hcl, hct]
    rw [List.getElem?_eq_none (by omega), List.getElem?_eq_none (by simp; omega)]
  simp only [World.var?, hg, Option.bind_some] at hv
  split at hv
  ·rename_i c T fr hb
   cases hv
   exact ⟨T, fr, by rw [hb, key]⟩
  ·cases hv
theorem DecL.consA {P : Program} {t : TypeId} {fs : Array Field} {ts : List TypeId} {α β : Type} {e : α → List D} {enc : β → List D} (ht : P.underlying t = some (.struct fs)) (h1 : Dec P t α e) (h2 : DecL P ts β enc) : DecL P (t :: ts) (α × β) (fun x => .agg (e x.1) :: enc x.2) := ⟨fun {H eH w base vs ds p} h hv hw => by
 match vs, ds, h with
 | v :: vs, d :: ds, ⟨p1, q1, ⟨fuel, hf⟩, h4, _⟩ =>
  simp only [DataW.weightsEach, List.mem_append] at hw
  obtain ⟨b, hb⟩ := h2.out h4 (fun j t v ht hv' => hv (j + 1) t v (by simpa using ht) (by simpa using hv')) (fun n hn => hw n (.inr hn))
  obtain ⟨cs, rfl, _⟩ := okWide_struct ht (hv 0 t v rfl rfl)
  obtain ⟨a, _, ha⟩ := h1.out (cs := cs.toList) hf (fun n hn => hw n (.inl hn))
  exact ⟨(a, b), _, vs, rfl, by simp only [V]; exact ⟨cs, rfl, ha⟩, hb⟩⟩
theorem laid_iface {P : Program} {W : World} {n nm : String} {d : DataW Unit} {rest : List (String × DataW Unit)} {g t : Nat} {ms : Array (String × TypeId)} (hg : P.globalNamed n = some g) (ht : (P.globals[g]?).map (·.type) = some t) (hu : P.underlying t = some (.interface ms))
  (pre : List (String × DataW Unit)) (hL : laidMet P (pre ++ (n, .iface nm d) :: rest) W) : ∃ te pe T fr, W.heap[g]? = some (.cells #[.iface te pe] T fr) := by
 obtain ⟨ps, h, hx⟩ := hL
 clear hx
 induction pre generalizing ps with
 | cons x pre ih =>
  obtain ⟨_, _, _, _, _, q, _, _, _, _, h, _⟩ := h
  exact ih q h
 | nil =>
  obtain ⟨g', t', cs, fuel, p, q, hg', ht', hv, hd, _⟩ := h
  obtain rfl := Option.some.inj (hg.symm.trans hg')
  obtain rfl := Option.some.inj (ht.symm.trans ht')
  have key : ∃ te pe, cs.toList = [.iface te pe] := by
   cases fuel with
   | zero => simp [DataW.trod] at hd
   | succ m =>
    rw [DataW.trod_step] at hd
    unfold DataW.trodStep at hd
    rw [hu] at hd
    split at hd <;> simp_all
  obtain ⟨te, pe, e⟩ := key
  have e2 : cs = #[.iface te pe] := by
   apply Array.ext'
   rw [e]
  subst e2
  simp only [World.var?, hg, Option.bind_some] at hv
  split at hv
  ·rename_i c T fr hb
   cases hv
   exact ⟨te, pe, T, fr, hb⟩
  ·cases hv
open Go.Proofs
set_option maxRecDepth 100000
theorem tz_kids : Kids Tryz.prog (· < Tryz.prog.types.size) := kids_rows (by kernel_rfl) (by kernel_rfl)
theorem tz_full : ∀ t e, t < Tryz.prog.types.size → Tryz.prog.underlying t = some (.slice e) → 0 < Tryz.prog.cellsOf e := slices_full_of Tryz.prog (by kernel_rfl)
theorem tz_own : ownKnob Tryz.prog.godebug = none := by kernel_rfl
theorem tz_size : Tryz.prog.types.size = 369 := by kernel_rfl
theorem cc9 : Tryz.prog.cellsOf 9 = 1 := by kernel_rfl
theorem cc3 : Tryz.prog.cellsOf 3 = 1 := by kernel_rfl
theorem dd89 : Dec Tryz.prog 89 Cur (encCur) :=
 (Dec.struct Tryz.underlying89 (by kernel_rfl) (.cons (Dec.str Tryz.underlying9) rfl cc9 (.cons (Dec.int Tryz.underlying3) rfl cc3 .nil))).map (fun x => ⟨x.1, x.2.1⟩) (fun a => rfl)
theorem dd22 : Dec Tryz.prog 22 (List Cur) (fun l => [.snap 2 false (l.map (encCur))]) := .slice (sz := 2) (k := 23) Tryz.underlying22 (by kernel_rfl) (by decide) (by kernel_rfl) dd89 (fun _ => rfl)
theorem cc33 : Tryz.prog.cellsOf 33 = 1 := by kernel_rfl
theorem dd35 : Dec Tryz.prog 35 Frac (encFrac) :=
 (Dec.struct Tryz.underlying35 (by kernel_rfl) (.cons (Dec.str Tryz.underlying33) rfl cc33 (.cons (Dec.str Tryz.underlying33) rfl cc33 .nil))).map (fun x => ⟨x.1, x.2.1⟩) (fun a => rfl)
theorem cc32 : Tryz.prog.cellsOf 32 = 1 := by kernel_rfl
theorem cc35 : Tryz.prog.cellsOf 35 = 2 := by kernel_rfl
theorem dd65 : Dec Tryz.prog 65 Inst (encInst) :=
 (Dec.struct Tryz.underlying65 (by kernel_rfl) (.cons (Dec.str Tryz.underlying9) rfl cc9 (.cons (Dec.int Tryz.underlying3) rfl cc3 (.cons (Dec.str Tryz.underlying9) rfl cc9 (.cons (Dec.int Tryz.underlying3) rfl cc3 (.cons (Dec.int Tryz.underlying32) rfl cc32 (.cons (Dec.int Tryz.underlying32) rfl cc32 (.cons dd35 rfl cc35 (.cons dd35 rfl cc35 (.cons (Dec.int Tryz.underlying3) rfl cc3 (.cons (Dec.int Tryz.underlying3) rfl cc3 (.cons (Dec.str Tryz.underlying9) rfl cc9 (.cons dd35 rfl cc35 .nil))))))))))))).map (fun x => ⟨x.1, x.2.1, x.2.2.1, x.2.2.2.1, x.2.2.2.2.1, x.2.2.2.2.2.1, x.2.2.2.2.2.2.1, x.2.2.2.2.2.2.2.1, x.2.2.2.2.2.2.2.2.1, x.2.2.2.2.2.2.2.2.2.1, x.2.2.2.2.2.2.2.2.2.2.1, x.2.2.2.2.2.2.2.2.2.2.2.1⟩) (fun a => rfl)
theorem dd23 : Dec Tryz.prog 23 (List Inst) (fun l => [.snap 15 false (l.map (encInst))]) := .slice (sz := 15) (k := 191) Tryz.underlying23 (by kernel_rfl) (by decide) (by kernel_rfl) dd65 (fun _ => rfl)
theorem dd110 : Dec Tryz.prog 110 Acct (encAcct) :=
 (Dec.struct Tryz.underlying110 (by kernel_rfl) (.cons (Dec.str Tryz.underlying9) rfl cc9 (.cons (Dec.int Tryz.underlying3) rfl cc3 .nil))).map (fun x => ⟨x.1, x.2.1⟩) (fun a => rfl)
theorem dd24 : Dec Tryz.prog 24 (List Acct) (fun l => [.snap 2 false (l.map (encAcct))]) := .slice (sz := 2) (k := 23) Tryz.underlying24 (by kernel_rfl) (by decide) (by kernel_rfl) dd110 (fun _ => rfl)
theorem dd25 : Dec Tryz.prog 25 (List Int) (fun l => [.snap 1 false (l.map (fun n => [.i n]))]) := .slice (sz := 1) (k := 7) Tryz.underlying25 (by kernel_rfl) (by decide) (by kernel_rfl) (Dec.int Tryz.underlying3) (fun _ => rfl)
theorem dd26 : Dec Tryz.prog 26 (List Int) (fun l => [.snap 1 false (l.map (fun n => [.i n]))]) := .slice (sz := 1) (k := 7) Tryz.underlying26 (by kernel_rfl) (by decide) (by kernel_rfl) (Dec.int Tryz.underlying32) (fun _ => rfl)
theorem cc25 : Tryz.prog.cellsOf 25 = 1 := by kernel_rfl
theorem cc26 : Tryz.prog.cellsOf 26 = 1 := by kernel_rfl
theorem dd28 : Dec Tryz.prog 28 (List Int × List Int) (fun x => [sInts x.1, sInts x.2]) :=
 (Dec.struct Tryz.underlying28 (by kernel_rfl) (.cons dd25 rfl cc25 (.cons dd26 rfl cc26 .nil))).map (fun x => (x.1, x.2.1)) (fun a => rfl)
theorem cc22 : Tryz.prog.cellsOf 22 = 1 := by kernel_rfl
theorem cc23 : Tryz.prog.cellsOf 23 = 1 := by kernel_rfl
theorem cc24 : Tryz.prog.cellsOf 24 = 1 := by kernel_rfl
theorem cc28 : Tryz.prog.cellsOf 28 = 2 := by kernel_rfl
theorem dd30 : Dec Tryz.prog 30 Setup (encSetup) :=
 (Dec.struct Tryz.underlying30 (by kernel_rfl) (.cons dd22 rfl cc22 (.cons dd23 rfl cc23 (.cons dd24 rfl cc24 (.cons dd28 rfl cc28 (.cons dd26 rfl cc26 (.cons (Dec.int Tryz.underlying3) rfl cc3 .nil))))))).map (fun x => ⟨x.1, x.2.1, x.2.2.1, x.2.2.2.1.1, x.2.2.2.1.2, x.2.2.2.2.1, x.2.2.2.2.2.1⟩) (fun a => rfl)
theorem dd85 : Dec Tryz.prog 85 Pick (encPick) :=
 (Dec.struct Tryz.underlying85 (by kernel_rfl) (.cons (Dec.str Tryz.underlying9) rfl cc9 (.cons (Dec.str Tryz.underlying33) rfl cc33 .nil))).map (fun x => ⟨x.1, x.2.1⟩) (fun a => rfl)
theorem dd36 : Dec Tryz.prog 36 (List Pick) (fun l => [.snap 2 false (l.map (encPick))]) := .slice (sz := 2) (k := 31) Tryz.underlying36 (by kernel_rfl) (by decide) (by kernel_rfl) dd85 (fun _ => rfl)
theorem dd87 : Dec Tryz.prog 87 Opt (encOpt) :=
 (Dec.struct Tryz.underlying87 (by kernel_rfl) (.cons (Dec.str Tryz.underlying9) rfl cc9 (.cons dd35 rfl cc35 (.cons dd35 rfl cc35 (.cons dd35 rfl cc35 .nil))))).map (fun x => ⟨x.1, x.2.1, x.2.2.1, x.2.2.2.1⟩) (fun a => rfl)
theorem dd37 : Dec Tryz.prog 37 (List Opt) (fun l => [.snap 7 false (l.map (encOpt))]) := .slice (sz := 7) (k := 111) Tryz.underlying37 (by kernel_rfl) (by decide) (by kernel_rfl) dd87 (fun _ => rfl)
theorem cc4 : Tryz.prog.cellsOf 4 = 1 := by kernel_rfl
theorem cc36 : Tryz.prog.cellsOf 36 = 1 := by kernel_rfl
theorem cc37 : Tryz.prog.cellsOf 37 = 1 := by kernel_rfl
theorem dd39 : Dec Tryz.prog 39 Fact (encFact) :=
 (Dec.struct Tryz.underlying39 (by kernel_rfl) (.cons (Dec.str Tryz.underlying9) rfl cc9 (.cons (Dec.int Tryz.underlying3) rfl cc3 (.cons (Dec.bool Tryz.underlying4) rfl cc4 (.cons (Dec.int Tryz.underlying32) rfl cc32 (.cons (Dec.int Tryz.underlying3) rfl cc3 (.cons (Dec.str Tryz.underlying9) rfl cc9 (.cons (Dec.str Tryz.underlying9) rfl cc9 (.cons (Dec.str Tryz.underlying9) rfl cc9 (.cons (Dec.str Tryz.underlying9) rfl cc9 (.cons (Dec.str Tryz.underlying33) rfl cc33 (.cons (Dec.str Tryz.underlying33) rfl cc33 (.cons (Dec.str Tryz.underlying33) rfl cc33 (.cons dd35 rfl cc35 (.cons dd35 rfl cc35 (.cons dd35 rfl cc35 (.cons dd36 rfl cc36 (.cons dd37 rfl cc37 (.cons (Dec.int Tryz.underlying3) rfl cc3 .nil))))))))))))))))))).map (fun x => ⟨x.1, x.2.1, x.2.2.1, x.2.2.2.1, x.2.2.2.2.1, x.2.2.2.2.2.1, x.2.2.2.2.2.2.1, x.2.2.2.2.2.2.2.1, x.2.2.2.2.2.2.2.2.1, x.2.2.2.2.2.2.2.2.2.1, x.2.2.2.2.2.2.2.2.2.2.1, x.2.2.2.2.2.2.2.2.2.2.2.1, x.2.2.2.2.2.2.2.2.2.2.2.2.1, x.2.2.2.2.2.2.2.2.2.2.2.2.2.1, x.2.2.2.2.2.2.2.2.2.2.2.2.2.2.1, x.2.2.2.2.2.2.2.2.2.2.2.2.2.2.2.1, x.2.2.2.2.2.2.2.2.2.2.2.2.2.2.2.2.1, x.2.2.2.2.2.2.2.2.2.2.2.2.2.2.2.2.2.1⟩) (fun a => rfl)
theorem dd31 : Dec Tryz.prog 31 (List Fact) (fun l => [.snap 21 false (l.map (encFact))]) := .slice (sz := 21) (k := 311) Tryz.underlying31 (by kernel_rfl) (by decide) (by kernel_rfl) dd39 (fun _ => rfl)
theorem d_u8 : Dec Tryz.prog 5 {n : Nat // n ≤ 255} (fun n => [.raw (.int .u8 (n.1 : Int))]) := ⟨fun h _ => by
 obtain ⟨n, rfl, _, hn⟩ := DataW.trod_int Tryz.underlying5 h
 have h2 : 0 ≤ n ∧ n ≤ 255 := by have := hn; simp [Lit.wf, IntKind.min, IntKind.max, IntKind.bits, IntKind.signed] at this; omega
 exact ⟨⟨n.toNat, by omega⟩, by simp [Value.oneCell'], by simp [Vs, V]; omega⟩⟩
def laidL : List (String × DataW Unit) := Go.Proofs.YtapflgppmigcdaaGreatDoor.Rows.dependMoreRow.laid
theorem gl_of {W : World} (h : laidMetH Tryz.prog laidL W) : Gl W noO := by
 rw [MakeChecks.laidMetH_plain _ _ _ (by kernel_rfl)] at h
 refine ⟨fun g vs hm => ⟨?_, fun h => h⟩, fun g hm => ⟨?_, fun h => h⟩⟩
 ·simp only [gtab, List.mem_singleton, Prod.mk.injEq] at hm
  obtain ⟨rfl, rfl⟩ := hm
  have := laid_cells (P := Tryz.prog) (W := W) (n := "internal/strconv.uint64pow10") (k := .u64) (zs := pow10s.map fun (n : Nat) => (n : Int)) (g := 5) (t := 350) (e := 184) (by kernel_rfl) (by kernel_rfl) Tryz.underlying350 Tryz.underlying184 (by kernel_rfl) (by kernel_rfl) (laidL.take 2) (rest := laidL.drop 3) h
  simpa [Function.comp_def] using this
 ·simp only [etab, List.mem_cons, List.not_mem_nil, or_false] at hm
  rcases hm with rfl | rfl
  ·exact laid_iface (P := Tryz.prog) (W := W) (n := "strconv.ErrSyntax") (g := 3) (t := 239) (by kernel_rfl) (by kernel_rfl) Tryz.underlying239 (laidL.take 5) (rest := laidL.drop 6) h
  ·exact laid_iface (P := Tryz.prog) (W := W) (n := "strconv.ErrRange") (g := 4) (t := 239) (by kernel_rfl) (by kernel_rfl) Tryz.underlying239 (laidL.take 4) (rest := laidL.drop 5) h
end Go.T
