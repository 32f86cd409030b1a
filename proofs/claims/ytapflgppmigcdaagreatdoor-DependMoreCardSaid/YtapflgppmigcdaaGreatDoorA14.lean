/-
  Contracts of the functions that the statement reaches, and the logic in which they are proved (no condition): parts W91, SpecD10, W92, Core51, SpecD11, W93.
-/
import Derived.Test.YtapflgppmigcdaaGreatDoorA13
set_option linter.all false
namespace Go.T
open Go Go.Proofs Go.Proofs.Tryz
set_option maxRecDepth 20000
theorem NumOK.rng {E m : NumM} (h : NumOK E m) (hE : ∀ p ∈ E, 0 ≤ p.1 ∧ p.1 < 13) : ∀ p ∈ m, 0 ≤ p.1 ∧ p.1 < 13 := fun p hp => hE p (h.2 p hp)
def kindsA (m : List (Int × KindV)) : Prop := (m.map (·.1)).Perm (kIns.map (·.2)) ∧ ∀ p ∈ m, KOk p.1 p.2
theorem lsd_rep (n i : Nat) : lsd (Array.replicate n false) i = false := by
 unfold lsd
 rw [Array.getD_eq_getD_getElem?, Array.getElem?_replicate]
 split <;> rfl
theorem doneK_rep (n : Nat) (l : List (Nat × Int)) : doneK (Array.replicate n false) l = [] := by
 unfold doneK
 rw [List.filter_eq_nil_iff.2 (fun e _ => by rw [lsd_rep]; simp)]; rfl
theorem invK0 {n : Nat} {env : Env} {obs : Obs} (h1 : env.get 1 = some (.iptr [limD lP])) (h2 : env.get 2 = some (limD lL)) (h3 : env.get 3 = some (.iptr [.fn (.func 121) [] []])) (h4 : env.get 4 = some (.fn (.func 122) [] [.iptr [.fn (.func 121) [] []], .iptr [limD (some (true, false))]])) (h5 : env.get 5 = some (.fn (.func 123) [] [])) (h6 : env.get 6 = some (imapN eT)) (hno0 : (List.range 10).all (fun i => (Obs.get obs (50 + i)).isNone) = true) (hid : kMaps.all (fun q => Nat.ble 50 q.id && Nat.blt q.id 60) = true) : InvK (Array.replicate n false) env obs := by
 have hno : ∀ i, i < 10 → Obs.get obs (50 + i) = none := fun i hi => by simpa using List.all_eq_true.1 hno0 i (List.mem_range.2 hi)
 refine ⟨fun j t h => ?_, ⟨h1, h2, h3, h4, h5, h6⟩, ⟨fun _ => ⟨hno 0 (by decide), doneK_rep _ _⟩, fun h => ?_⟩, fun q hq => ⟨fun _ => ⟨?_, doneK_rep _ _⟩, fun h => ?_⟩, fun q hq h => ?_⟩
 ·rw [lsd_rep] at h; cases h
 ·rw [lsd_rep] at h; cases h
 ·have h0 := List.all_eq_true.1 hid q hq
  rw [Bool.and_eq_true] at h0
  have h1 := Nat.le_of_ble_eq_true h0.1
  have h2 : q.id < 60 := by simpa [Nat.blt_eq] using h0.2
  have := hno (q.id - 50) (by omega)
  rwa [show 50 + (q.id - 50) = q.id by omega] at this
 ·rw [lsd_rep] at h; cases h
 ·rw [lsd_rep] at h; cases h
theorem endK {listed : Array Bool} {env : Env} {obs : Obs} (hs : listed.size = 124) (hall : ∀ i, i < 124 → lsd listed i = true) (hI : InvK listed env obs) : ∃ m, kindsA m ∧ Le KF env obs [(0, imapG kInt kindD m)] [] := by
 have hfz : lsd listed 1000 = false := by unfold lsd; rw [Array.getD_eq_getD_getElem?, Array.getElem?_eq_none (by omega)]; rfl
 obtain ⟨m, g1, g2, g3⟩ := hI.maini.yes (hall 0 (by decide)) hfz
 have hd : doneK listed kIns = kIns.map (·.2) := doneK_all (fun e he => hall e.1 (by
  have h1 : kIns.all (fun e => Nat.blt e.1 124) = true := by decide +kernel
  simpa [Nat.blt_eq] using List.all_eq_true.1 h1 e he))
 rw [hd] at g2
 obtain ⟨d, e1, e2⟩ := hI.envi 123 0 (hall 123 (by decide)) rfl
 have e2 : d = .mapr 50 := e2
 subst e2
 exact ⟨m, ⟨g2, g3⟩, (Le.freezeM (kD := kInt) (vD := kindD) (m := m) 0 50 e1 g1 (fun _ => rfl) kindD_pure).trans (Le.mk rfl (.s rfl rfl .nil) .nil)⟩
set_option maxHeartbeats 6400000 in
theorem kinds_ok : FcE Tryz.prog 87 [] kindsA (fun m => imapG kInt kindD m) := by
 refine FcE.mk' [0] func87 rfl ntmps87 rfl rfl (fun _ => rfl) (fun t w => results_tmp results87 t _ w) ?_
 refine Run.seq (Run.reg [.p] ?_)
 refine .ag rfl rfl <| .nil ?_
 refine Run.seq (Run.reg [.p, .p, .w, .w, .p] ?_)
 refine .P rfl (qCa call120 rfl (between_ok _ _)) <| .P rfl (qCa call120 rfl (between_ok _ _)) <| .W rfl (q_alloc 0 zeroValue154 rfl) <| .W rfl (q_store1 sizeOf154 rfl rfl rfl rfl (by decide)) <| .ag rfl rfl <| .nil ?_
 refine Run.seq (Run.reg [.w, .w] ?_)
 refine .W rfl (q_alloc 1 zeroValue156 rfl) <| .W rfl (q_store1 sizeOf156 rfl rfl rfl rfl (by decide)) <| .nil ?_
 refine Run.weak (Le.freezeB 3 1 rfl rfl rfl rfl) ?_
 refine Run.weak (Le.freezeB 1 0 rfl rfl rfl rfl) ?_
 refine Run.seq (Run.reg [.p, .p] ?_)
 refine .P rfl (q_makeFunc (xs := []) (ys := _) rfl rfl) <| .ag rfl rfl <| .nil ?_
 refine Run.seq (Run.reg [.p] ?_)
 refine .ag rfl rfl <| .nil ?_
 refine Run.seq (Run.reg [.w, .p, .w, .p, .w, .p, .w, .p, .p] ?_)
 refine .W rfl (q_makeMapG 2 (fun n : Int => D.raw (.int .i64 n)) (limD) rfl) <| .P rfl (qLo isAgg154 rfl) <| .W rfl (QStep.insert (qMu kindKey (vD := limD) (k := (4 : Int)) (v := lP) underlying119 rfl rfl rfl rfl rfl rfl)) <| .mv rfl rfl <| .W rfl (QStep.insert (qMu kindKey (vD := limD) (k := (5 : Int)) (v := lL) underlying119 rfl rfl rfl rfl rfl rfl)) <| .mv rfl rfl <| .W rfl (QStep.insert (qMu kindKey (vD := limD) (k := (6 : Int)) (v := lL) underlying119 rfl rfl rfl rfl rfl rfl)) <| .mv rfl rfl <| .ag rfl rfl <| .nil ?_
 refine Run.weak (Le.freezeM (kD := (fun n : Int => D.raw (.int .i64 n))) (vD := limD) (m := eT) 6 2 rfl rfl (fun _ => rfl) limD_pure) ?_
 refine Run.seq (Run.regI (A := kindsA) (env1 := fun m => [(0, imapG kInt kindD m)]) (obs1 := fun _ => []) InvK Tryz_mixed (by decide +kernel) ?_ ?_ ?_ ?_)
 ·exact invK0 rfl rfl rfl rfl rfl rfl rfl (by decide +kernel)
 ·exact ⟨(fun _ _ _ hs hI hl hd => makeM hs (by decide +kernel) hI hl rfl rfl rfl rfl rfl rfl (by decide +kernel) (by decide +kernel) (fun hno => q_makeMapG 50 kInt kindD hno)),
   (fun _ _ _ hs hI hl hd => pureI hs (by decide +kernel) hI rfl rfl rfl rfl rfl rfl (by decide +kernel) (by decide +kernel) (qMv (by exact hI.basei.b4) _)),
   (fun _ _ _ hs hI hl hd => by
    obtain ⟨_, e16, rfl⟩ := hI.envi 1 16 (dp hd 1 (by decide +kernel)) rfl
    exact pureI hs (by decide +kernel) hI rfl rfl rfl rfl rfl ⟨eA, NumOK.refl _, rfl⟩ (by decide +kernel) (by decide +kernel) (qCf call122 (by exact e16) rfl (amount_ok _) _)),
   (fun _ _ _ hs hI hl hd => by
    obtain ⟨_, e15, rfl⟩ := hI.envi 0 15 (dp hd 0 (by decide +kernel)) rfl
    obtain ⟨_, e17, m17, n17, rfl⟩ := hI.envi 2 17 (dp hd 2 (by decide +kernel)) rfl
    exact insertM (k := 1) (v := ⟨[100, 101, 112, 111, 115, 105, 116], 2, hasF m17 [2], some m17, false⟩) hs (by decide +kernel) rfl hI hl rfl rfl rfl (dp hd 0 (by decide +kernel)) (by decide +kernel) (by decide +kernel) (by decide +kernel) (by decide +kernel) ⟨_, rfl, rfl, rfl, rfl, m17, n17, rfl, rfl⟩ (by decide +kernel) (fun M hM => QStep.insert (qMu kindKey (vD := kindD) (k := (1 : Int)) (v := ⟨[100, 101, 112, 111, 115, 105, 116], 2, hasF m17 [2], some m17, false⟩) underlying123 (by exact e15) rfl (by exact e17) rfl rfl hM))),
   (fun _ _ _ hs hI hl hd => pureI hs (by decide +kernel) hI rfl rfl rfl rfl rfl rfl (by decide +kernel) (by decide +kernel) (qMv (by exact hI.basei.b4) _)),
   (fun _ _ _ hs hI hl hd => by
    obtain ⟨_, e18, rfl⟩ := hI.envi 4 18 (dp hd 4 (by decide +kernel)) rfl
    exact pureI hs (by decide +kernel) hI rfl rfl rfl rfl rfl ⟨eA, NumOK.refl _, rfl⟩ (by decide +kernel) (by decide +kernel) (qCf call122 (by exact e18) rfl (amount_ok _) _)),
   (fun _ _ _ hs hI hl hd => by
    obtain ⟨_, e15, rfl⟩ := hI.envi 0 15 (dp hd 0 (by decide +kernel)) rfl
    obtain ⟨_, e19, m19, n19, rfl⟩ := hI.envi 5 19 (dp hd 5 (by decide +kernel)) rfl
    exact insertM (k := 2) (v := ⟨[119, 105, 116, 104, 100, 114, 97, 119], 2, hasF m19 [2], some m19, false⟩) hs (by decide +kernel) rfl hI hl rfl rfl rfl (dp hd 0 (by decide +kernel)) (by decide +kernel) (by decide +kernel) (by decide +kernel) (by decide +kernel) ⟨_, rfl, rfl, rfl, rfl, m19, n19, rfl, rfl⟩ (by decide +kernel) (fun M hM => QStep.insert (qMu kindKey (vD := kindD) (k := (2 : Int)) (v := ⟨[119, 105, 116, 104, 100, 114, 97, 119], 2, hasF m19 [2], some m19, false⟩) underlying123 (by exact e15) rfl (by exact e19) rfl rfl hM))),
   (fun _ _ _ hs hI hl hd => pureI hs (by decide +kernel) hI rfl rfl rfl rfl rfl rfl (by decide +kernel) (by decide +kernel) (qLo isAgg156 (by exact hI.basei.b3) _)),
   (fun _ _ _ hs hI hl hd => pureI hs (by decide +kernel) hI rfl rfl rfl rfl rfl rfl (by decide +kernel) (by decide +kernel) (qMv (by exact hI.basei.b6) _)),
   (fun _ _ _ hs hI hl hd => pureI hs (by decide +kernel) hI rfl rfl rfl rfl rfl rfl (by decide +kernel) (by decide +kernel) (qBu (n := 1) (rows := [[D.i 0]]) underlying25 sizeOf3 rfl rfl rfl zeroValue3 rfl rfl rfl rfl rfl rfl rfl _)),
   (fun _ _ _ hs hI hl hd => by
    obtain ⟨_, e20, rfl⟩ := hI.envi 7 20 (dp hd 7 (by decide +kernel)) rfl
    obtain ⟨_, e21, rfl⟩ := hI.envi 8 21 (dp hd 8 (by decide +kernel)) rfl
    obtain ⟨_, e22, rfl⟩ := hI.envi 9 22 (dp hd 9 (by decide +kernel)) rfl
    exact pureI hs (by decide +kernel) hI rfl rfl rfl rfl rfl ⟨eT, NumOK.refl _, rfl⟩ (by decide +kernel) (by decide +kernel) (qCf call121 (by exact e20) (opsC rfl (opsC rfl (opsC (by exact e21) (opsC (by exact e22) rfl)))) (kindOf_ok _ _ eT [0] (by decide) (by decide) (by decide)).sub _)),
   (fun _ _ _ hs hI hl hd => by
    obtain ⟨_, e15, rfl⟩ := hI.envi 0 15 (dp hd 0 (by decide +kernel)) rfl
    obtain ⟨_, e23, m23, n23, rfl⟩ := hI.envi 10 23 (dp hd 10 (by decide +kernel)) rfl
    exact insertM (k := 3) (v := ⟨[98, 117, 121], 3, hasF m23 [0], some m23, false⟩) hs (by decide +kernel) rfl hI hl rfl rfl rfl (dp hd 0 (by decide +kernel)) (by decide +kernel) (by decide +kernel) (by decide +kernel) (by decide +kernel) ⟨_, rfl, rfl, rfl, rfl, m23, n23, rfl, rfl⟩ (by decide +kernel) (fun M hM => QStep.insert (qMu kindKey (vD := kindD) (k := (3 : Int)) (v := ⟨[98, 117, 121], 3, hasF m23 [0], some m23, false⟩) underlying123 (by exact e15) rfl (by exact e23) rfl rfl hM))),
   (fun _ _ _ hs hI hl hd => pureI hs (by decide +kernel) hI rfl rfl rfl rfl rfl rfl (by decide +kernel) (by decide +kernel) (qLo isAgg156 (by exact hI.basei.b3) _)),
   (fun _ _ _ hs hI hl hd => pureI hs (by decide +kernel) hI rfl rfl rfl rfl rfl rfl (by decide +kernel) (by decide +kernel) (qMv (by exact hI.basei.b6) _)),
   (fun _ _ _ hs hI hl hd => pureI hs (by decide +kernel) hI rfl rfl rfl rfl rfl rfl (by decide +kernel) (by decide +kernel) (qBu (n := 2) (rows := [[D.i 0], [D.i 10]]) underlying25 sizeOf3 rfl rfl rfl zeroValue3 rfl rfl rfl rfl rfl rfl rfl _)),
   (fun _ _ _ hs hI hl hd => by
    obtain ⟨_, e24, rfl⟩ := hI.envi 12 24 (dp hd 12 (by decide +kernel)) rfl
    obtain ⟨_, e25, rfl⟩ := hI.envi 13 25 (dp hd 13 (by decide +kernel)) rfl
    obtain ⟨_, e26, rfl⟩ := hI.envi 14 26 (dp hd 14 (by decide +kernel)) rfl
    exact pureI hs (by decide +kernel) hI rfl rfl rfl rfl rfl ⟨eT, NumOK.refl _, rfl⟩ (by decide +kernel) (by decide +kernel) (qCf call121 (by exact e24) (opsC rfl (opsC rfl (opsC (by exact e25) (opsC (by exact e26) rfl)))) (kindOf_ok _ _ eT [0, 10] (by decide) (by decide) (by decide)).sub _)),
   (fun _ _ _ hs hI hl hd => by
    obtain ⟨_, e15, rfl⟩ := hI.envi 0 15 (dp hd 0 (by decide +kernel)) rfl
    obtain ⟨_, e27, m27, n27, rfl⟩ := hI.envi 15 27 (dp hd 15 (by decide +kernel)) rfl
    exact insertM (k := 4) (v := ⟨[115, 101, 108, 108], 3, hasF m27 [0, 10], some m27, false⟩) hs (by decide +kernel) rfl hI hl rfl rfl rfl (dp hd 0 (by decide +kernel)) (by decide +kernel) (by decide +kernel) (by decide +kernel) (by decide +kernel) ⟨_, rfl, rfl, rfl, rfl, m27, n27, rfl, rfl⟩ (by decide +kernel) (fun M hM => QStep.insert (qMu kindKey (vD := kindD) (k := (4 : Int)) (v := ⟨[115, 101, 108, 108], 3, hasF m27 [0, 10], some m27, false⟩) underlying123 (by exact e15) rfl (by exact e27) rfl rfl hM))),
   (fun _ _ _ hs hI hl hd => pureI hs (by decide +kernel) hI rfl rfl rfl rfl rfl rfl (by decide +kernel) (by decide +kernel) (qLo isAgg156 (by exact hI.basei.b3) _)),
   (fun _ _ _ hs hI hl hd => makeI (q := kQ 0) hs (by decide +kernel) hI hl rfl rfl rfl rfl rfl rfl (kQ_mem (by decide +kernel)) (by decide +kernel) rfl (by decide +kernel) (by decide +kernel) (fun hno => q_makeMapG 51 kInt limD hno)),
   (fun _ _ _ hs hI hl hd => pureI hs (by decide +kernel) hI rfl rfl rfl rfl rfl rfl (by decide +kernel) (by decide +kernel) (qLo isAgg154 (by exact hI.basei.b1) _)),
   (fun _ _ _ hs hI hl hd => by
    obtain ⟨_, e29, rfl⟩ := hI.envi 18 29 (dp hd 18 (by decide +kernel)) rfl
    obtain ⟨_, e30, rfl⟩ := hI.envi 19 30 (dp hd 19 (by decide +kernel)) rfl
    exact insertI (q := kQ 0) (k := 7) (v := lP) hs (by decide +kernel) hI hl rfl rfl rfl (kQ_mem (by decide +kernel)) (by decide +kernel) (dp hd 18 (by decide +kernel)) (by decide +kernel) (by decide +kernel) (by decide +kernel) (by decide +kernel) (by decide +kernel) (by decide +kernel) (fun M hM => QStep.insert (qMu kindKey (vD := limD) (k := (7 : Int)) (v := lP) underlying119 (by exact e29) rfl (by exact e30) rfl rfl hM))),
   (fun _ _ _ hs hI hl hd => by
    obtain ⟨_, e29, rfl⟩ := hI.envi 18 29 (dp hd 18 (by decide +kernel)) rfl
    exact freezeI (q := kQ 0) hs (by decide +kernel) hI hl rfl rfl rfl rfl rfl (kQ_mem (by decide +kernel)) (by decide +kernel) rfl (dp hd 18 (by decide +kernel)) ⟨dp hd 20 (by decide +kernel), trivial⟩ (by decide +kernel) (fun m hm => ⟨m, hm, rfl⟩) (qMv (by exact e29) _)),
   (fun _ _ _ hs hI hl hd => pureI hs (by decide +kernel) hI rfl rfl rfl rfl rfl rfl (by decide +kernel) (by decide +kernel) (qBu (n := 1) (rows := [[D.i 0]]) underlying25 sizeOf3 rfl rfl rfl zeroValue3 rfl rfl rfl rfl rfl rfl rfl _)),
   (fun _ _ _ hs hI hl hd => by
    obtain ⟨_, e28, rfl⟩ := hI.envi 17 28 (dp hd 17 (by decide +kernel)) rfl
    obtain ⟨_, e31, m31, n31, rfl⟩ := hI.envi 21 31 (dp hd 21 (by decide +kernel)) rfl
    obtain ⟨_, e32, rfl⟩ := hI.envi 22 32 (dp hd 22 (by decide +kernel)) rfl
    exact pureI hs (by decide +kernel) hI rfl rfl rfl rfl rfl ⟨m31, n31, rfl⟩ (by decide +kernel) (by decide +kernel) (qCf call121 (by exact e28) (opsC rfl (opsC rfl (opsC (by exact e31) (opsC (by exact e32) rfl)))) (kindOf_ok _ _ m31 [0] (by decide) (by decide) (NumOK.rng n31 (by decide))).sub _)),
   (fun _ _ _ hs hI hl hd => by
    obtain ⟨_, e15, rfl⟩ := hI.envi 0 15 (dp hd 0 (by decide +kernel)) rfl
    obtain ⟨_, e33, m33, n33, rfl⟩ := hI.envi 23 33 (dp hd 23 (by decide +kernel)) rfl
    exact insertM (k := 5) (v := ⟨[105, 110, 99, 111, 109, 101], 1, hasF m33 [0], some m33, false⟩) hs (by decide +kernel) rfl hI hl rfl rfl rfl (dp hd 0 (by decide +kernel)) (by decide +kernel) (by decide +kernel) (by decide +kernel) (by decide +kernel) ⟨_, rfl, rfl, rfl, rfl, m33, n33, rfl, rfl⟩ (by decide +kernel) (fun M hM => QStep.insert (qMu kindKey (vD := kindD) (k := (5 : Int)) (v := ⟨[105, 110, 99, 111, 109, 101], 1, hasF m33 [0], some m33, false⟩) underlying123 (by exact e15) rfl (by exact e33) rfl rfl hM))),
   (fun _ _ _ hs hI hl hd => pureI hs (by decide +kernel) hI rfl rfl rfl rfl rfl rfl (by decide +kernel) (by decide +kernel) (qMv (by exact hI.basei.b4) _)),
   (fun _ _ _ hs hI hl hd => by
    obtain ⟨_, e34, rfl⟩ := hI.envi 25 34 (dp hd 25 (by decide +kernel)) rfl
    exact pureI hs (by decide +kernel) hI rfl rfl rfl rfl rfl ⟨eA, NumOK.refl _, rfl⟩ (by decide +kernel) (by decide +kernel) (qCf call122 (by exact e34) rfl (amount_ok _) _)),
   (fun _ _ _ hs hI hl hd => by
    obtain ⟨_, e15, rfl⟩ := hI.envi 0 15 (dp hd 0 (by decide +kernel)) rfl
    obtain ⟨_, e35, m35, n35, rfl⟩ := hI.envi 26 35 (dp hd 26 (by decide +kernel)) rfl
    exact insertM (k := 6) (v := ⟨[101, 120, 112, 101, 110, 115, 101], 2, hasF m35 [2], some m35, false⟩) hs (by decide +kernel) rfl hI hl rfl rfl rfl (dp hd 0 (by decide +kernel)) (by decide +kernel) (by decide +kernel) (by decide +kernel) (by decide +kernel) ⟨_, rfl, rfl, rfl, rfl, m35, n35, rfl, rfl⟩ (by decide +kernel) (fun M hM => QStep.insert (qMu kindKey (vD := kindD) (k := (6 : Int)) (v := ⟨[101, 120, 112, 101, 110, 115, 101], 2, hasF m35 [2], some m35, false⟩) underlying123 (by exact e15) rfl (by exact e35) rfl rfl hM))),
   (fun _ _ _ hs hI hl hd => pureI hs (by decide +kernel) hI rfl rfl rfl rfl rfl rfl (by decide +kernel) (by decide +kernel) (qMv (by exact hI.basei.b5) _)),
   (fun _ _ _ hs hI hl hd => pureI hs (by decide +kernel) hI rfl rfl rfl rfl rfl rfl (by decide +kernel) (by decide +kernel) (qLo isAgg156 (by exact hI.basei.b3) _)),
   (fun _ _ _ hs hI hl hd => makeI (q := kQ 1) hs (by decide +kernel) hI hl rfl rfl rfl rfl rfl rfl (kQ_mem (by decide +kernel)) (by decide +kernel) rfl (by decide +kernel) (by decide +kernel) (fun hno => q_makeMapG 52 kInt limD hno)),
   (fun _ _ _ hs hI hl hd => pureI hs (by decide +kernel) hI rfl rfl rfl rfl rfl rfl (by decide +kernel) (by decide +kernel) (qLo isAgg154 (by exact hI.basei.b1) _)),
   (fun _ _ _ hs hI hl hd => by
    obtain ⟨_, e38, rfl⟩ := hI.envi 30 38 (dp hd 30 (by decide +kernel)) rfl
    obtain ⟨_, e39, rfl⟩ := hI.envi 31 39 (dp hd 31 (by decide +kernel)) rfl
    exact insertI (q := kQ 1) (k := 4) (v := lP) hs (by decide +kernel) hI hl rfl rfl rfl (kQ_mem (by decide +kernel)) (by decide +kernel) (dp hd 30 (by decide +kernel)) (by decide +kernel) (by decide +kernel) (by decide +kernel) (by decide +kernel) (by decide +kernel) (by decide +kernel) (fun M hM => QStep.insert (qMu kindKey (vD := limD) (k := (4 : Int)) (v := lP) underlying119 (by exact e38) rfl (by exact e39) rfl rfl hM))),
   (fun _ _ _ hs hI hl hd => pureI hs (by decide +kernel) hI rfl rfl rfl rfl rfl rfl (by decide +kernel) (by decide +kernel) (qLo isAgg154 (by exact hI.basei.b1) _)),
   (fun _ _ _ hs hI hl hd => by
    obtain ⟨_, e38, rfl⟩ := hI.envi 30 38 (dp hd 30 (by decide +kernel)) rfl
    obtain ⟨_, e40, rfl⟩ := hI.envi 33 40 (dp hd 33 (by decide +kernel)) rfl
    exact insertI (q := kQ 1) (k := 5) (v := lP) hs (by decide +kernel) hI hl rfl rfl rfl (kQ_mem (by decide +kernel)) (by decide +kernel) (dp hd 30 (by decide +kernel)) (by decide +kernel) (by decide +kernel) (by decide +kernel) (by decide +kernel) (by decide +kernel) (by decide +kernel) (fun M hM => QStep.insert (qMu kindKey (vD := limD) (k := (5 : Int)) (v := lP) underlying119 (by exact e38) rfl (by exact e40) rfl rfl hM))),
   (fun _ _ _ hs hI hl hd => by
    obtain ⟨_, e38, rfl⟩ := hI.envi 30 38 (dp hd 30 (by decide +kernel)) rfl
    exact freezeI (q := kQ 1) hs (by decide +kernel) hI hl rfl rfl rfl rfl rfl (kQ_mem (by decide +kernel)) (by decide +kernel) rfl (dp hd 30 (by decide +kernel)) ⟨dp hd 32 (by decide +kernel), dp hd 34 (by decide +kernel), trivial⟩ (by decide +kernel) (fun m hm => ⟨m, hm, rfl⟩) (qMv (by exact e38) _)),
   (fun _ _ _ hs hI hl hd => pureI hs (by decide +kernel) hI rfl rfl rfl rfl rfl rfl (by decide +kernel) (by decide +kernel) (qBu (n := 2) (rows := [[D.i 1], [D.i 2]]) underlying25 sizeOf3 rfl rfl rfl zeroValue3 rfl rfl rfl rfl rfl rfl rfl _)),
   (fun _ _ _ hs hI hl hd => by
    obtain ⟨_, e37, rfl⟩ := hI.envi 29 37 (dp hd 29 (by decide +kernel)) rfl
    obtain ⟨_, e41, m41, n41, rfl⟩ := hI.envi 35 41 (dp hd 35 (by decide +kernel)) rfl
    obtain ⟨_, e42, rfl⟩ := hI.envi 36 42 (dp hd 36 (by decide +kernel)) rfl
    exact pureI hs (by decide +kernel) hI rfl rfl rfl rfl rfl ⟨m41, n41, rfl⟩ (by decide +kernel) (by decide +kernel) (qCf call121 (by exact e37) (opsC rfl (opsC rfl (opsC (by exact e41) (opsC (by exact e42) rfl)))) (kindOf_ok _ _ m41 [1, 2] (by decide) (by decide) (NumOK.rng n41 (by decide))).sub _)),
   (fun _ _ _ hs hI hl hd => by
    obtain ⟨_, e36, rfl⟩ := hI.envi 28 36 (dp hd 28 (by decide +kernel)) rfl
    obtain ⟨_, e43, m43, n43, rfl⟩ := hI.envi 37 43 (dp hd 37 (by decide +kernel)) rfl
    exact pureI hs (by decide +kernel) hI rfl rfl rfl rfl rfl ⟨m43, n43, rfl⟩ (by decide +kernel) (by decide +kernel) (qCf call123 (by exact e36) (opsC (by exact e43) rfl) (withCode_ok _ _ _ m43) _)),
   (fun _ _ _ hs hI hl hd => by
    obtain ⟨_, e15, rfl⟩ := hI.envi 0 15 (dp hd 0 (by decide +kernel)) rfl
    obtain ⟨_, e44, m44, n44, rfl⟩ := hI.envi 38 44 (dp hd 38 (by decide +kernel)) rfl
    exact insertM (k := 7) (v := ⟨[99, 111, 110, 118, 101, 114, 116], 2, hasF m44 [1, 2], some m44, true⟩) hs (by decide +kernel) rfl hI hl rfl rfl rfl (dp hd 0 (by decide +kernel)) (by decide +kernel) (by decide +kernel) (by decide +kernel) (by decide +kernel) ⟨_, rfl, rfl, rfl, rfl, m44, n44, rfl, rfl⟩ (by decide +kernel) (fun M hM => QStep.insert (qMu kindKey (vD := kindD) (k := (7 : Int)) (v := ⟨[99, 111, 110, 118, 101, 114, 116], 2, hasF m44 [1, 2], some m44, true⟩) underlying123 (by exact e15) rfl (by exact e44) rfl rfl hM))),
   (fun _ _ _ hs hI hl hd => pureI hs (by decide +kernel) hI rfl rfl rfl rfl rfl rfl (by decide +kernel) (by decide +kernel) (qLo isAgg156 (by exact hI.basei.b3) _)),
   (fun _ _ _ hs hI hl hd => makeI (q := kQ 2) hs (by decide +kernel) hI hl rfl rfl rfl rfl rfl rfl (kQ_mem (by decide +kernel)) (by decide +kernel) rfl (by decide +kernel) (by decide +kernel) (fun hno => q_makeMapG 53 kInt limD hno)),
   (fun _ _ _ hs hI hl hd => pureI hs (by decide +kernel) hI rfl rfl rfl rfl rfl rfl (by decide +kernel) (by decide +kernel) (qMv (by exact hI.basei.b2) _)),
   (fun _ _ _ hs hI hl hd => by
    obtain ⟨_, e46, rfl⟩ := hI.envi 41 46 (dp hd 41 (by decide +kernel)) rfl
    obtain ⟨_, e47, rfl⟩ := hI.envi 42 47 (dp hd 42 (by decide +kernel)) rfl
    exact insertI (q := kQ 2) (k := 7) (v := lL) hs (by decide +kernel) hI hl rfl rfl rfl (kQ_mem (by decide +kernel)) (by decide +kernel) (dp hd 41 (by decide +kernel)) (by decide +kernel) (by decide +kernel) (by decide +kernel) (by decide +kernel) (by decide +kernel) (by decide +kernel) (fun M hM => QStep.insert (qMu kindKey (vD := limD) (k := (7 : Int)) (v := lL) underlying119 (by exact e46) rfl (by exact e47) rfl rfl hM))),
   (fun _ _ _ hs hI hl hd => pureI hs (by decide +kernel) hI rfl rfl rfl rfl rfl rfl (by decide +kernel) (by decide +kernel) (qLo isAgg154 (by exact hI.basei.b1) _)),
   (fun _ _ _ hs hI hl hd => by
    obtain ⟨_, e46, rfl⟩ := hI.envi 41 46 (dp hd 41 (by decide +kernel)) rfl
    obtain ⟨_, e48, rfl⟩ := hI.envi 44 48 (dp hd 44 (by decide +kernel)) rfl
    exact insertI (q := kQ 2) (k := 8) (v := lP) hs (by decide +kernel) hI hl rfl rfl rfl (kQ_mem (by decide +kernel)) (by decide +kernel) (dp hd 41 (by decide +kernel)) (by decide +kernel) (by decide +kernel) (by decide +kernel) (by decide +kernel) (by decide +kernel) (by decide +kernel) (fun M hM => QStep.insert (qMu kindKey (vD := limD) (k := (8 : Int)) (v := lP) underlying119 (by exact e46) rfl (by exact e48) rfl rfl hM))),
   (fun _ _ _ hs hI hl hd => by
    obtain ⟨_, e46, rfl⟩ := hI.envi 41 46 (dp hd 41 (by decide +kernel)) rfl
    exact freezeI (q := kQ 2) hs (by decide +kernel) hI hl rfl rfl rfl rfl rfl (kQ_mem (by decide +kernel)) (by decide +kernel) rfl (dp hd 41 (by decide +kernel)) ⟨dp hd 43 (by decide +kernel), dp hd 45 (by decide +kernel), trivial⟩ (by decide +kernel) (fun m hm => ⟨m, hm, rfl⟩) (qMv (by exact e46) _)),
   (fun _ _ _ hs hI hl hd => pureI hs (by decide +kernel) hI rfl rfl rfl rfl rfl rfl (by decide +kernel) (by decide +kernel) (qBu (n := 1) (rows := [[D.i 0]]) underlying25 sizeOf3 rfl rfl rfl zeroValue3 rfl rfl rfl rfl rfl rfl rfl _)),
   (fun _ _ _ hs hI hl hd => by
    obtain ⟨_, e45, rfl⟩ := hI.envi 40 45 (dp hd 40 (by decide +kernel)) rfl
    obtain ⟨_, e49, m49, n49, rfl⟩ := hI.envi 46 49 (dp hd 46 (by decide +kernel)) rfl
    obtain ⟨_, e50, rfl⟩ := hI.envi 47 50 (dp hd 47 (by decide +kernel)) rfl
    exact pureI hs (by decide +kernel) hI rfl rfl rfl rfl rfl ⟨m49, n49, rfl⟩ (by decide +kernel) (by decide +kernel) (qCf call121 (by exact e45) (opsC rfl (opsC rfl (opsC (by exact e49) (opsC (by exact e50) rfl)))) (kindOf_ok _ _ m49 [0] (by decide) (by decide) (NumOK.rng n49 (by decide))).sub _)),
   (fun _ _ _ hs hI hl hd => by
    obtain ⟨_, e15, rfl⟩ := hI.envi 0 15 (dp hd 0 (by decide +kernel)) rfl
    obtain ⟨_, e51, m51, n51, rfl⟩ := hI.envi 48 51 (dp hd 48 (by decide +kernel)) rfl
    exact insertM (k := 8) (v := ⟨[115, 112, 108, 105, 116], 1, hasF m51 [0], some m51, false⟩) hs (by decide +kernel) rfl hI hl rfl rfl rfl (dp hd 0 (by decide +kernel)) (by decide +kernel) (by decide +kernel) (by decide +kernel) (by decide +kernel) ⟨_, rfl, rfl, rfl, rfl, m51, n51, rfl, rfl⟩ (by decide +kernel) (fun M hM => QStep.insert (qMu kindKey (vD := kindD) (k := (8 : Int)) (v := ⟨[115, 112, 108, 105, 116], 1, hasF m51 [0], some m51, false⟩) underlying123 (by exact e15) rfl (by exact e51) rfl rfl hM))),
   (fun _ _ _ hs hI hl hd => pureI hs (by decide +kernel) hI rfl rfl rfl rfl rfl rfl (by decide +kernel) (by decide +kernel) (qLo isAgg156 (by exact hI.basei.b3) _)),
   (fun _ _ _ hs hI hl hd => makeI (q := kQ 3) hs (by decide +kernel) hI hl rfl rfl rfl rfl rfl rfl (kQ_mem (by decide +kernel)) (by decide +kernel) rfl (by decide +kernel) (by decide +kernel) (fun hno => q_makeMapG 54 kInt limD hno)),
   (fun _ _ _ hs hI hl hd => pureI hs (by decide +kernel) hI rfl rfl rfl rfl rfl rfl (by decide +kernel) (by decide +kernel) (qMv (by exact hI.basei.b2) _)),
   (fun _ _ _ hs hI hl hd => by
    obtain ⟨_, e53, rfl⟩ := hI.envi 51 53 (dp hd 51 (by decide +kernel)) rfl
    obtain ⟨_, e54, rfl⟩ := hI.envi 52 54 (dp hd 52 (by decide +kernel)) rfl
    exact insertI (q := kQ 3) (k := 7) (v := lL) hs (by decide +kernel) hI hl rfl rfl rfl (kQ_mem (by decide +kernel)) (by decide +kernel) (dp hd 51 (by decide +kernel)) (by decide +kernel) (by decide +kernel) (by decide +kernel) (by decide +kernel) (by decide +kernel) (by decide +kernel) (fun M hM => QStep.insert (qMu kindKey (vD := limD) (k := (7 : Int)) (v := lL) underlying119 (by exact e53) rfl (by exact e54) rfl rfl hM))),
   (fun _ _ _ hs hI hl hd => pureI hs (by decide +kernel) hI rfl rfl rfl rfl rfl rfl (by decide +kernel) (by decide +kernel) (qLo isAgg154 (by exact hI.basei.b1) _)),
   (fun _ _ _ hs hI hl hd => by
    obtain ⟨_, e53, rfl⟩ := hI.envi 51 53 (dp hd 51 (by decide +kernel)) rfl
    obtain ⟨_, e55, rfl⟩ := hI.envi 54 55 (dp hd 54 (by decide +kernel)) rfl
    exact insertI (q := kQ 3) (k := 8) (v := lP) hs (by decide +kernel) hI hl rfl rfl rfl (kQ_mem (by decide +kernel)) (by decide +kernel) (dp hd 51 (by decide +kernel)) (by decide +kernel) (by decide +kernel) (by decide +kernel) (by decide +kernel) (by decide +kernel) (by decide +kernel) (fun M hM => QStep.insert (qMu kindKey (vD := limD) (k := (8 : Int)) (v := lP) underlying119 (by exact e53) rfl (by exact e55) rfl rfl hM))),
   (fun _ _ _ hs hI hl hd => pureI hs (by decide +kernel) hI rfl rfl rfl rfl rfl rfl (by decide +kernel) (by decide +kernel) (qCa call120 rfl (between_ok false true) _)),
   (fun _ _ _ hs hI hl hd => by
    obtain ⟨_, e53, rfl⟩ := hI.envi 51 53 (dp hd 51 (by decide +kernel)) rfl
    obtain ⟨_, e56, rfl⟩ := hI.envi 56 56 (dp hd 56 (by decide +kernel)) rfl
    exact insertI (q := kQ 3) (k := 9) (v := lQ) hs (by decide +kernel) hI hl rfl rfl rfl (kQ_mem (by decide +kernel)) (by decide +kernel) (dp hd 51 (by decide +kernel)) (by decide +kernel) (by decide +kernel) (by decide +kernel) (by decide +kernel) (by decide +kernel) (by decide +kernel) (fun M hM => QStep.insert (qMu kindKey (vD := limD) (k := (9 : Int)) (v := lQ) underlying119 (by exact e53) rfl (by exact e56) rfl rfl hM))),
   (fun _ _ _ hs hI hl hd => by
    obtain ⟨_, e53, rfl⟩ := hI.envi 51 53 (dp hd 51 (by decide +kernel)) rfl
    exact freezeI (q := kQ 3) hs (by decide +kernel) hI hl rfl rfl rfl rfl rfl (kQ_mem (by decide +kernel)) (by decide +kernel) rfl (dp hd 51 (by decide +kernel)) ⟨dp hd 53 (by decide +kernel), dp hd 55 (by decide +kernel), dp hd 57 (by decide +kernel), trivial⟩ (by decide +kernel) (fun m hm => ⟨m, hm, rfl⟩) (qMv (by exact e53) _)),
   (fun _ _ _ hs hI hl hd => pureI hs (by decide +kernel) hI rfl rfl rfl rfl rfl rfl (by decide +kernel) (by decide +kernel) (qBu (n := 2) (rows := [[D.i 0], [D.i 1]]) underlying25 sizeOf3 rfl rfl rfl zeroValue3 rfl rfl rfl rfl rfl rfl rfl _)),
   (fun _ _ _ hs hI hl hd => by
    obtain ⟨_, e52, rfl⟩ := hI.envi 50 52 (dp hd 50 (by decide +kernel)) rfl
    obtain ⟨_, e57, m57, n57, rfl⟩ := hI.envi 58 57 (dp hd 58 (by decide +kernel)) rfl
    obtain ⟨_, e58, rfl⟩ := hI.envi 59 58 (dp hd 59 (by decide +kernel)) rfl
    exact pureI hs (by decide +kernel) hI rfl rfl rfl rfl rfl ⟨m57, n57, rfl⟩ (by decide +kernel) (by decide +kernel) (qCf call121 (by exact e52) (opsC rfl (opsC rfl (opsC (by exact e57) (opsC (by exact e58) rfl)))) (kindOf_ok _ _ m57 [0, 1] (by decide) (by decide) (NumOK.rng n57 (by decide))).sub _)),
   (fun _ _ _ hs hI hl hd => by
    obtain ⟨_, e15, rfl⟩ := hI.envi 0 15 (dp hd 0 (by decide +kernel)) rfl
    obtain ⟨_, e59, m59, n59, rfl⟩ := hI.envi 60 59 (dp hd 60 (by decide +kernel)) rfl
    exact insertM (k := 9) (v := ⟨[115, 112, 105, 110, 111, 102, 102], 1, hasF m59 [0, 1], some m59, false⟩) hs (by decide +kernel) rfl hI hl rfl rfl rfl (dp hd 0 (by decide +kernel)) (by decide +kernel) (by decide +kernel) (by decide +kernel) (by decide +kernel) ⟨_, rfl, rfl, rfl, rfl, m59, n59, rfl, rfl⟩ (by decide +kernel) (fun M hM => QStep.insert (qMu kindKey (vD := kindD) (k := (9 : Int)) (v := ⟨[115, 112, 105, 110, 111, 102, 102], 1, hasF m59 [0, 1], some m59, false⟩) underlying123 (by exact e15) rfl (by exact e59) rfl rfl hM))),
   (fun _ _ _ hs hI hl hd => pureI hs (by decide +kernel) hI rfl rfl rfl rfl rfl rfl (by decide +kernel) (by decide +kernel) (qLo isAgg156 (by exact hI.basei.b3) _)),
   (fun _ _ _ hs hI hl hd => pureI hs (by decide +kernel) hI rfl rfl rfl rfl rfl rfl (by decide +kernel) (by decide +kernel) (qBu (n := 2) (rows := [[D.i 0], [D.i 11]]) underlying25 sizeOf3 rfl rfl rfl zeroValue3 rfl rfl rfl rfl rfl rfl rfl _)),
   (fun _ _ _ hs hI hl hd => by
    obtain ⟨_, e60, rfl⟩ := hI.envi 62 60 (dp hd 62 (by decide +kernel)) rfl
    obtain ⟨_, e61, rfl⟩ := hI.envi 63 61 (dp hd 63 (by decide +kernel)) rfl
    exact pureI hs (by decide +kernel) hI rfl rfl rfl rfl rfl rfl (by decide +kernel) (by decide +kernel) (qCf call121 (by exact e60) (opsC rfl (opsC rfl (opsC rfl (opsC (by exact e61) rfl)))) (kindNil_ok _ _ [0, 11] (by decide) (by decide)).sub _)),
   (fun _ _ _ hs hI hl hd => by
    obtain ⟨_, e15, rfl⟩ := hI.envi 0 15 (dp hd 0 (by decide +kernel)) rfl
    obtain ⟨_, e62, rfl⟩ := hI.envi 64 62 (dp hd 64 (by decide +kernel)) rfl
    exact insertM (k := 10) (v := ⟨[101, 120, 99, 104, 97, 110, 103, 101], 1, hasF [] [0, 11], none, false⟩) hs (by decide +kernel) rfl hI hl rfl rfl rfl (dp hd 0 (by decide +kernel)) (by decide +kernel) (by decide +kernel) (by decide +kernel) (by decide +kernel) ⟨_, rfl, rfl, rfl, rfl, rfl, rfl⟩ (by decide +kernel) (fun M hM => QStep.insert (qMu kindKey (vD := kindD) (k := (10 : Int)) (v := ⟨[101, 120, 99, 104, 97, 110, 103, 101], 1, hasF [] [0, 11], none, false⟩) underlying123 (by exact e15) rfl (by exact e62) rfl rfl hM))),
   (fun _ _ _ hs hI hl hd => pureI hs (by decide +kernel) hI rfl rfl rfl rfl rfl rfl (by decide +kernel) (by decide +kernel) (qLo isAgg156 (by exact hI.basei.b3) _)),
   (fun _ _ _ hs hI hl hd => pureI hs (by decide +kernel) hI rfl rfl rfl rfl rfl rfl (by decide +kernel) (by decide +kernel) (qBu (n := 3) (rows := [[D.i 0], [D.i 3], [D.i 12]]) underlying25 sizeOf3 rfl rfl rfl zeroValue3 rfl rfl rfl rfl rfl rfl rfl _)),
   (fun _ _ _ hs hI hl hd => by
    obtain ⟨_, e63, rfl⟩ := hI.envi 66 63 (dp hd 66 (by decide +kernel)) rfl
    obtain ⟨_, e64, rfl⟩ := hI.envi 67 64 (dp hd 67 (by decide +kernel)) rfl
    exact pureI hs (by decide +kernel) hI rfl rfl rfl rfl rfl rfl (by decide +kernel) (by decide +kernel) (qCf call121 (by exact e63) (opsC rfl (opsC rfl (opsC rfl (opsC (by exact e64) rfl)))) (kindNil_ok _ _ [0, 3, 12] (by decide) (by decide)).sub _)),
   (fun _ _ _ hs hI hl hd => by
    obtain ⟨_, e15, rfl⟩ := hI.envi 0 15 (dp hd 0 (by decide +kernel)) rfl
    obtain ⟨_, e65, rfl⟩ := hI.envi 68 65 (dp hd 68 (by decide +kernel)) rfl
    exact insertM (k := 11) (v := ⟨[101, 108, 101, 99, 116], 4, hasF [] [0, 3, 12], none, false⟩) hs (by decide +kernel) rfl hI hl rfl rfl rfl (dp hd 0 (by decide +kernel)) (by decide +kernel) (by decide +kernel) (by decide +kernel) (by decide +kernel) ⟨_, rfl, rfl, rfl, rfl, rfl, rfl⟩ (by decide +kernel) (fun M hM => QStep.insert (qMu kindKey (vD := kindD) (k := (11 : Int)) (v := ⟨[101, 108, 101, 99, 116], 4, hasF [] [0, 3, 12], none, false⟩) underlying123 (by exact e15) rfl (by exact e65) rfl rfl hM))),
   (fun _ _ _ hs hI hl hd => pureI hs (by decide +kernel) hI rfl rfl rfl rfl rfl rfl (by decide +kernel) (by decide +kernel) (qLo isAgg156 (by exact hI.basei.b3) _)),
   (fun _ _ _ hs hI hl hd => makeI (q := kQ 4) hs (by decide +kernel) hI hl rfl rfl rfl rfl rfl rfl (kQ_mem (by decide +kernel)) (by decide +kernel) rfl (by decide +kernel) (by decide +kernel) (fun hno => q_makeMapG 55 kInt limD hno)),
   (fun _ _ _ hs hI hl hd => pureI hs (by decide +kernel) hI rfl rfl rfl rfl rfl rfl (by decide +kernel) (by decide +kernel) (qLo isAgg154 (by exact hI.basei.b1) _)),
   (fun _ _ _ hs hI hl hd => by
    obtain ⟨_, e67, rfl⟩ := hI.envi 71 67 (dp hd 71 (by decide +kernel)) rfl
    obtain ⟨_, e68, rfl⟩ := hI.envi 72 68 (dp hd 72 (by decide +kernel)) rfl
    exact insertI (q := kQ 4) (k := 4) (v := lP) hs (by decide +kernel) hI hl rfl rfl rfl (kQ_mem (by decide +kernel)) (by decide +kernel) (dp hd 71 (by decide +kernel)) (by decide +kernel) (by decide +kernel) (by decide +kernel) (by decide +kernel) (by decide +kernel) (by decide +kernel) (fun M hM => QStep.insert (qMu kindKey (vD := limD) (k := (4 : Int)) (v := lP) underlying119 (by exact e67) rfl (by exact e68) rfl rfl hM))),
   (fun _ _ _ hs hI hl hd => pureI hs (by decide +kernel) hI rfl rfl rfl rfl rfl rfl (by decide +kernel) (by decide +kernel) (qMv (by exact hI.basei.b2) _)),
   (fun _ _ _ hs hI hl hd => by
    obtain ⟨_, e67, rfl⟩ := hI.envi 71 67 (dp hd 71 (by decide +kernel)) rfl
    obtain ⟨_, e69, rfl⟩ := hI.envi 74 69 (dp hd 74 (by decide +kernel)) rfl
    exact insertI (q := kQ 4) (k := 7) (v := lL) hs (by decide +kernel) hI hl rfl rfl rfl (kQ_mem (by decide +kernel)) (by decide +kernel) (dp hd 71 (by decide +kernel)) (by decide +kernel) (by decide +kernel) (by decide +kernel) (by decide +kernel) (by decide +kernel) (by decide +kernel) (fun M hM => QStep.insert (qMu kindKey (vD := limD) (k := (7 : Int)) (v := lL) underlying119 (by exact e67) rfl (by exact e69) rfl rfl hM))),
   (fun _ _ _ hs hI hl hd => pureI hs (by decide +kernel) hI rfl rfl rfl rfl rfl rfl (by decide +kernel) (by decide +kernel) (qLo isAgg154 (by exact hI.basei.b1) _)),
   (fun _ _ _ hs hI hl hd => by
    obtain ⟨_, e67, rfl⟩ := hI.envi 71 67 (dp hd 71 (by decide +kernel)) rfl
    obtain ⟨_, e70, rfl⟩ := hI.envi 76 70 (dp hd 76 (by decide +kernel)) rfl
    exact insertI (q := kQ 4) (k := 8) (v := lP) hs (by decide +kernel) hI hl rfl rfl rfl (kQ_mem (by decide +kernel)) (by decide +kernel) (dp hd 71 (by decide +kernel)) (by decide +kernel) (by decide +kernel) (by decide +kernel) (by decide +kernel) (by decide +kernel) (by decide +kernel) (fun M hM => QStep.insert (qMu kindKey (vD := limD) (k := (8 : Int)) (v := lP) underlying119 (by exact e67) rfl (by exact e70) rfl rfl hM))),
   (fun _ _ _ hs hI hl hd => by
    obtain ⟨_, e67, rfl⟩ := hI.envi 71 67 (dp hd 71 (by decide +kernel)) rfl
    exact freezeI (q := kQ 4) hs (by decide +kernel) hI hl rfl rfl rfl rfl rfl (kQ_mem (by decide +kernel)) (by decide +kernel) rfl (dp hd 71 (by decide +kernel)) ⟨dp hd 73 (by decide +kernel), dp hd 75 (by decide +kernel), dp hd 77 (by decide +kernel), trivial⟩ (by decide +kernel) (fun m hm => ⟨m, hm, rfl⟩) (qMv (by exact e67) _)),
   (fun _ _ _ hs hI hl hd => pureI hs (by decide +kernel) hI rfl rfl rfl rfl rfl rfl (by decide +kernel) (by decide +kernel) (qBu (n := 2) (rows := [[D.i 0], [D.i 1]]) underlying25 sizeOf3 rfl rfl rfl zeroValue3 rfl rfl rfl rfl rfl rfl rfl _)),
   (fun _ _ _ hs hI hl hd => by
    obtain ⟨_, e66, rfl⟩ := hI.envi 70 66 (dp hd 70 (by decide +kernel)) rfl
    obtain ⟨_, e71, m71, n71, rfl⟩ := hI.envi 78 71 (dp hd 78 (by decide +kernel)) rfl
    obtain ⟨_, e72, rfl⟩ := hI.envi 79 72 (dp hd 79 (by decide +kernel)) rfl
    exact pureI hs (by decide +kernel) hI rfl rfl rfl rfl rfl ⟨m71, n71, rfl⟩ (by decide +kernel) (by decide +kernel) (qCf call121 (by exact e66) (opsC rfl (opsC rfl (opsC (by exact e71) (opsC (by exact e72) rfl)))) (kindOf_ok _ _ m71 [0, 1] (by decide) (by decide) (NumOK.rng n71 (by decide))).sub _)),
   (fun _ _ _ hs hI hl hd => by
    obtain ⟨_, e15, rfl⟩ := hI.envi 0 15 (dp hd 0 (by decide +kernel)) rfl
    obtain ⟨_, e73, m73, n73, rfl⟩ := hI.envi 80 73 (dp hd 80 (by decide +kernel)) rfl
    exact insertM (k := 12) (v := ⟨[101, 120, 101, 114, 99, 105, 115, 101], 3, hasF m73 [0, 1], some m73, false⟩) hs (by decide +kernel) rfl hI hl rfl rfl rfl (dp hd 0 (by decide +kernel)) (by decide +kernel) (by decide +kernel) (by decide +kernel) (by decide +kernel) ⟨_, rfl, rfl, rfl, rfl, m73, n73, rfl, rfl⟩ (by decide +kernel) (fun M hM => QStep.insert (qMu kindKey (vD := kindD) (k := (12 : Int)) (v := ⟨[101, 120, 101, 114, 99, 105, 115, 101], 3, hasF m73 [0, 1], some m73, false⟩) underlying123 (by exact e15) rfl (by exact e73) rfl rfl hM))),
   (fun _ _ _ hs hI hl hd => pureI hs (by decide +kernel) hI rfl rfl rfl rfl rfl rfl (by decide +kernel) (by decide +kernel) (qLo isAgg156 (by exact hI.basei.b3) _)),
   (fun _ _ _ hs hI hl hd => makeI (q := kQ 5) hs (by decide +kernel) hI hl rfl rfl rfl rfl rfl rfl (kQ_mem (by decide +kernel)) (by decide +kernel) rfl (by decide +kernel) (by decide +kernel) (fun hno => q_makeMapG 56 kInt limD hno)),
   (fun _ _ _ hs hI hl hd => pureI hs (by decide +kernel) hI rfl rfl rfl rfl rfl rfl (by decide +kernel) (by decide +kernel) (qLo isAgg154 (by exact hI.basei.b1) _)),
   (fun _ _ _ hs hI hl hd => by
    obtain ⟨_, e75, rfl⟩ := hI.envi 83 75 (dp hd 83 (by decide +kernel)) rfl
    obtain ⟨_, e76, rfl⟩ := hI.envi 84 76 (dp hd 84 (by decide +kernel)) rfl
    exact insertI (q := kQ 5) (k := 7) (v := lP) hs (by decide +kernel) hI hl rfl rfl rfl (kQ_mem (by decide +kernel)) (by decide +kernel) (dp hd 83 (by decide +kernel)) (by decide +kernel) (by decide +kernel) (by decide +kernel) (by decide +kernel) (by decide +kernel) (by decide +kernel) (fun M hM => QStep.insert (qMu kindKey (vD := limD) (k := (7 : Int)) (v := lP) underlying119 (by exact e75) rfl (by exact e76) rfl rfl hM))),
   (fun _ _ _ hs hI hl hd => by
    obtain ⟨_, e75, rfl⟩ := hI.envi 83 75 (dp hd 83 (by decide +kernel)) rfl
    exact freezeI (q := kQ 5) hs (by decide +kernel) hI hl rfl rfl rfl rfl rfl (kQ_mem (by decide +kernel)) (by decide +kernel) rfl (dp hd 83 (by decide +kernel)) ⟨dp hd 85 (by decide +kernel), trivial⟩ (by decide +kernel) (fun m hm => ⟨m, hm, rfl⟩) (qMv (by exact e75) _)),
   (fun _ _ _ hs hI hl hd => pureI hs (by decide +kernel) hI rfl rfl rfl rfl rfl rfl (by decide +kernel) (by decide +kernel) (qBu (n := 1) (rows := [[D.i 0]]) underlying25 sizeOf3 rfl rfl rfl zeroValue3 rfl rfl rfl rfl rfl rfl rfl _)),
   (fun _ _ _ hs hI hl hd => by
    obtain ⟨_, e74, rfl⟩ := hI.envi 82 74 (dp hd 82 (by decide +kernel)) rfl
    obtain ⟨_, e77, m77, n77, rfl⟩ := hI.envi 86 77 (dp hd 86 (by decide +kernel)) rfl
    obtain ⟨_, e78, rfl⟩ := hI.envi 87 78 (dp hd 87 (by decide +kernel)) rfl
    exact pureI hs (by decide +kernel) hI rfl rfl rfl rfl rfl ⟨m77, n77, rfl⟩ (by decide +kernel) (by decide +kernel) (qCf call121 (by exact e74) (opsC rfl (opsC rfl (opsC (by exact e77) (opsC (by exact e78) rfl)))) (kindOf_ok _ _ m77 [0] (by decide) (by decide) (NumOK.rng n77 (by decide))).sub _)),
   (fun _ _ _ hs hI hl hd => by
    obtain ⟨_, e15, rfl⟩ := hI.envi 0 15 (dp hd 0 (by decide +kernel)) rfl
    obtain ⟨_, e79, m79, n79, rfl⟩ := hI.envi 88 79 (dp hd 88 (by decide +kernel)) rfl
    exact insertM (k := 13) (v := ⟨[99, 97, 112, 105, 116, 97, 108], 1, hasF m79 [0], some m79, false⟩) hs (by decide +kernel) rfl hI hl rfl rfl rfl (dp hd 0 (by decide +kernel)) (by decide +kernel) (by decide +kernel) (by decide +kernel) (by decide +kernel) ⟨_, rfl, rfl, rfl, rfl, m79, n79, rfl, rfl⟩ (by decide +kernel) (fun M hM => QStep.insert (qMu kindKey (vD := kindD) (k := (13 : Int)) (v := ⟨[99, 97, 112, 105, 116, 97, 108], 1, hasF m79 [0], some m79, false⟩) underlying123 (by exact e15) rfl (by exact e79) rfl rfl hM))),
   (fun _ _ _ hs hI hl hd => pureI hs (by decide +kernel) hI rfl rfl rfl rfl rfl rfl (by decide +kernel) (by decide +kernel) (qLo isAgg156 (by exact hI.basei.b3) _)),
   (fun _ _ _ hs hI hl hd => makeI (q := kQ 6) hs (by decide +kernel) hI hl rfl rfl rfl rfl rfl rfl (kQ_mem (by decide +kernel)) (by decide +kernel) rfl (by decide +kernel) (by decide +kernel) (fun hno => q_makeMapG 57 kInt limD hno)),
   (fun _ _ _ hs hI hl hd => pureI hs (by decide +kernel) hI rfl rfl rfl rfl rfl rfl (by decide +kernel) (by decide +kernel) (qMv (by exact hI.basei.b2) _)),
   (fun _ _ _ hs hI hl hd => by
    obtain ⟨_, e81, rfl⟩ := hI.envi 91 81 (dp hd 91 (by decide +kernel)) rfl
    obtain ⟨_, e82, rfl⟩ := hI.envi 92 82 (dp hd 92 (by decide +kernel)) rfl
    exact insertI (q := kQ 6) (k := 7) (v := lL) hs (by decide +kernel) hI hl rfl rfl rfl (kQ_mem (by decide +kernel)) (by decide +kernel) (dp hd 91 (by decide +kernel)) (by decide +kernel) (by decide +kernel) (by decide +kernel) (by decide +kernel) (by decide +kernel) (by decide +kernel) (fun M hM => QStep.insert (qMu kindKey (vD := limD) (k := (7 : Int)) (v := lL) underlying119 (by exact e81) rfl (by exact e82) rfl rfl hM))),
   (fun _ _ _ hs hI hl hd => by
    obtain ⟨_, e81, rfl⟩ := hI.envi 91 81 (dp hd 91 (by decide +kernel)) rfl
    exact freezeI (q := kQ 6) hs (by decide +kernel) hI hl rfl rfl rfl rfl rfl (kQ_mem (by decide +kernel)) (by decide +kernel) rfl (dp hd 91 (by decide +kernel)) ⟨dp hd 93 (by decide +kernel), trivial⟩ (by decide +kernel) (fun m hm => ⟨m, hm, rfl⟩) (qMv (by exact e81) _)),
   (fun _ _ _ hs hI hl hd => pureI hs (by decide +kernel) hI rfl rfl rfl rfl rfl rfl (by decide +kernel) (by decide +kernel) (qBu (n := 1) (rows := [[D.i 0]]) underlying25 sizeOf3 rfl rfl rfl zeroValue3 rfl rfl rfl rfl rfl rfl rfl _)),
   (fun _ _ _ hs hI hl hd => by
    obtain ⟨_, e80, rfl⟩ := hI.envi 90 80 (dp hd 90 (by decide +kernel)) rfl
    obtain ⟨_, e83, m83, n83, rfl⟩ := hI.envi 94 83 (dp hd 94 (by decide +kernel)) rfl
    obtain ⟨_, e84, rfl⟩ := hI.envi 95 84 (dp hd 95 (by decide +kernel)) rfl
    exact pureI hs (by decide +kernel) hI rfl rfl rfl rfl rfl ⟨m83, n83, rfl⟩ (by decide +kernel) (by decide +kernel) (qCf call121 (by exact e80) (opsC rfl (opsC rfl (opsC (by exact e83) (opsC (by exact e84) rfl)))) (kindOf_ok _ _ m83 [0] (by decide) (by decide) (NumOK.rng n83 (by decide))).sub _)),
   (fun _ _ _ hs hI hl hd => by
    obtain ⟨_, e15, rfl⟩ := hI.envi 0 15 (dp hd 0 (by decide +kernel)) rfl
    obtain ⟨_, e85, m85, n85, rfl⟩ := hI.envi 96 85 (dp hd 96 (by decide +kernel)) rfl
    exact insertM (k := 14) (v := ⟨[99, 97, 108, 108], 1, hasF m85 [0], some m85, false⟩) hs (by decide +kernel) rfl hI hl rfl rfl rfl (dp hd 0 (by decide +kernel)) (by decide +kernel) (by decide +kernel) (by decide +kernel) (by decide +kernel) ⟨_, rfl, rfl, rfl, rfl, m85, n85, rfl, rfl⟩ (by decide +kernel) (fun M hM => QStep.insert (qMu kindKey (vD := kindD) (k := (14 : Int)) (v := ⟨[99, 97, 108, 108], 1, hasF m85 [0], some m85, false⟩) underlying123 (by exact e15) rfl (by exact e85) rfl rfl hM))),
   (fun _ _ _ hs hI hl hd => pureI hs (by decide +kernel) hI rfl rfl rfl rfl rfl rfl (by decide +kernel) (by decide +kernel) (qLo isAgg156 (by exact hI.basei.b3) _)),
   (fun _ _ _ hs hI hl hd => makeI (q := kQ 7) hs (by decide +kernel) hI hl rfl rfl rfl rfl rfl rfl (kQ_mem (by decide +kernel)) (by decide +kernel) rfl (by decide +kernel) (by decide +kernel) (fun hno => q_makeMapG 58 kInt limD hno)),
   (fun _ _ _ hs hI hl hd => pureI hs (by decide +kernel) hI rfl rfl rfl rfl rfl rfl (by decide +kernel) (by decide +kernel) (qMv (by exact hI.basei.b2) _)),
   (fun _ _ _ hs hI hl hd => by
    obtain ⟨_, e87, rfl⟩ := hI.envi 99 87 (dp hd 99 (by decide +kernel)) rfl
    obtain ⟨_, e88, rfl⟩ := hI.envi 100 88 (dp hd 100 (by decide +kernel)) rfl
    exact insertI (q := kQ 7) (k := 7) (v := lL) hs (by decide +kernel) hI hl rfl rfl rfl (kQ_mem (by decide +kernel)) (by decide +kernel) (dp hd 99 (by decide +kernel)) (by decide +kernel) (by decide +kernel) (by decide +kernel) (by decide +kernel) (by decide +kernel) (by decide +kernel) (fun M hM => QStep.insert (qMu kindKey (vD := limD) (k := (7 : Int)) (v := lL) underlying119 (by exact e87) rfl (by exact e88) rfl rfl hM))),
   (fun _ _ _ hs hI hl hd => by
    obtain ⟨_, e87, rfl⟩ := hI.envi 99 87 (dp hd 99 (by decide +kernel)) rfl
    exact freezeI (q := kQ 7) hs (by decide +kernel) hI hl rfl rfl rfl rfl rfl (kQ_mem (by decide +kernel)) (by decide +kernel) rfl (dp hd 99 (by decide +kernel)) ⟨dp hd 101 (by decide +kernel), trivial⟩ (by decide +kernel) (fun m hm => ⟨m, hm, rfl⟩) (qMv (by exact e87) _)),
   (fun _ _ _ hs hI hl hd => pureI hs (by decide +kernel) hI rfl rfl rfl rfl rfl rfl (by decide +kernel) (by decide +kernel) (qBu (n := 1) (rows := [[D.i 0]]) underlying25 sizeOf3 rfl rfl rfl zeroValue3 rfl rfl rfl rfl rfl rfl rfl _)),
   (fun _ _ _ hs hI hl hd => by
    obtain ⟨_, e86, rfl⟩ := hI.envi 98 86 (dp hd 98 (by decide +kernel)) rfl
    obtain ⟨_, e89, m89, n89, rfl⟩ := hI.envi 102 89 (dp hd 102 (by decide +kernel)) rfl
    obtain ⟨_, e90, rfl⟩ := hI.envi 103 90 (dp hd 103 (by decide +kernel)) rfl
    exact pureI hs (by decide +kernel) hI rfl rfl rfl rfl rfl ⟨m89, n89, rfl⟩ (by decide +kernel) (by decide +kernel) (qCf call121 (by exact e86) (opsC rfl (opsC rfl (opsC (by exact e89) (opsC (by exact e90) rfl)))) (kindOf_ok _ _ m89 [0] (by decide) (by decide) (NumOK.rng n89 (by decide))).sub _)),
   (fun _ _ _ hs hI hl hd => by
    obtain ⟨_, e15, rfl⟩ := hI.envi 0 15 (dp hd 0 (by decide +kernel)) rfl
    obtain ⟨_, e91, m91, n91, rfl⟩ := hI.envi 104 91 (dp hd 104 (by decide +kernel)) rfl
    exact insertM (k := 15) (v := ⟨[112, 114, 105, 99, 101], 4, hasF m91 [0], some m91, false⟩) hs (by decide +kernel) rfl hI hl rfl rfl rfl (dp hd 0 (by decide +kernel)) (by decide +kernel) (by decide +kernel) (by decide +kernel) (by decide +kernel) ⟨_, rfl, rfl, rfl, rfl, m91, n91, rfl, rfl⟩ (by decide +kernel) (fun M hM => QStep.insert (qMu kindKey (vD := kindD) (k := (15 : Int)) (v := ⟨[112, 114, 105, 99, 101], 4, hasF m91 [0], some m91, false⟩) underlying123 (by exact e15) rfl (by exact e91) rfl rfl hM))),
   (fun _ _ _ hs hI hl hd => pureI hs (by decide +kernel) hI rfl rfl rfl rfl rfl rfl (by decide +kernel) (by decide +kernel) (qMv (by exact hI.basei.b5) _)),
   (fun _ _ _ hs hI hl hd => pureI hs (by decide +kernel) hI rfl rfl rfl rfl rfl rfl (by decide +kernel) (by decide +kernel) (qLo isAgg156 (by exact hI.basei.b3) _)),
   (fun _ _ _ hs hI hl hd => makeI (q := kQ 8) hs (by decide +kernel) hI hl rfl rfl rfl rfl rfl rfl (kQ_mem (by decide +kernel)) (by decide +kernel) rfl (by decide +kernel) (by decide +kernel) (fun hno => q_makeMapG 59 kInt limD hno)),
   (fun _ _ _ hs hI hl hd => pureI hs (by decide +kernel) hI rfl rfl rfl rfl rfl rfl (by decide +kernel) (by decide +kernel) (qLo isAgg154 (by exact hI.basei.b1) _)),
   (fun _ _ _ hs hI hl hd => by
    obtain ⟨_, e94, rfl⟩ := hI.envi 108 94 (dp hd 108 (by decide +kernel)) rfl
    obtain ⟨_, e95, rfl⟩ := hI.envi 109 95 (dp hd 109 (by decide +kernel)) rfl
    exact insertI (q := kQ 8) (k := 8) (v := lP) hs (by decide +kernel) hI hl rfl rfl rfl (kQ_mem (by decide +kernel)) (by decide +kernel) (dp hd 108 (by decide +kernel)) (by decide +kernel) (by decide +kernel) (by decide +kernel) (by decide +kernel) (by decide +kernel) (by decide +kernel) (fun M hM => QStep.insert (qMu kindKey (vD := limD) (k := (8 : Int)) (v := lP) underlying119 (by exact e94) rfl (by exact e95) rfl rfl hM))),
   (fun _ _ _ hs hI hl hd => by
    obtain ⟨_, e94, rfl⟩ := hI.envi 108 94 (dp hd 108 (by decide +kernel)) rfl
    exact freezeI (q := kQ 8) hs (by decide +kernel) hI hl rfl rfl rfl rfl rfl (kQ_mem (by decide +kernel)) (by decide +kernel) rfl (dp hd 108 (by decide +kernel)) ⟨dp hd 110 (by decide +kernel), trivial⟩ (by decide +kernel) (fun m hm => ⟨m, hm, rfl⟩) (qMv (by exact e94) _)),
   (fun _ _ _ hs hI hl hd => pureI hs (by decide +kernel) hI rfl rfl rfl rfl rfl rfl (by decide +kernel) (by decide +kernel) (qBu (n := 2) (rows := [[D.i 1], [D.i 2]]) underlying25 sizeOf3 rfl rfl rfl zeroValue3 rfl rfl rfl rfl rfl rfl rfl _)),
   (fun _ _ _ hs hI hl hd => by
    obtain ⟨_, e93, rfl⟩ := hI.envi 107 93 (dp hd 107 (by decide +kernel)) rfl
    obtain ⟨_, e96, m96, n96, rfl⟩ := hI.envi 111 96 (dp hd 111 (by decide +kernel)) rfl
    obtain ⟨_, e97, rfl⟩ := hI.envi 112 97 (dp hd 112 (by decide +kernel)) rfl
    exact pureI hs (by decide +kernel) hI rfl rfl rfl rfl rfl ⟨m96, n96, rfl⟩ (by decide +kernel) (by decide +kernel) (qCf call121 (by exact e93) (opsC rfl (opsC rfl (opsC (by exact e96) (opsC (by exact e97) rfl)))) (kindOf_ok _ _ m96 [1, 2] (by decide) (by decide) (NumOK.rng n96 (by decide))).sub _)),
   (fun _ _ _ hs hI hl hd => by
    obtain ⟨_, e92, rfl⟩ := hI.envi 106 92 (dp hd 106 (by decide +kernel)) rfl
    obtain ⟨_, e98, m98, n98, rfl⟩ := hI.envi 113 98 (dp hd 113 (by decide +kernel)) rfl
    exact pureI hs (by decide +kernel) hI rfl rfl rfl rfl rfl ⟨m98, n98, rfl⟩ (by decide +kernel) (by decide +kernel) (qCf call123 (by exact e92) (opsC (by exact e98) rfl) (withCode_ok _ _ _ m98) _)),
   (fun _ _ _ hs hI hl hd => by
    obtain ⟨_, e15, rfl⟩ := hI.envi 0 15 (dp hd 0 (by decide +kernel)) rfl
    obtain ⟨_, e99, m99, n99, rfl⟩ := hI.envi 114 99 (dp hd 114 (by decide +kernel)) rfl
    exact insertM (k := 16) (v := ⟨[114, 97, 116, 101], 4, hasF m99 [1, 2], some m99, true⟩) hs (by decide +kernel) rfl hI hl rfl rfl rfl (dp hd 0 (by decide +kernel)) (by decide +kernel) (by decide +kernel) (by decide +kernel) (by decide +kernel) ⟨_, rfl, rfl, rfl, rfl, m99, n99, rfl, rfl⟩ (by decide +kernel) (fun M hM => QStep.insert (qMu kindKey (vD := kindD) (k := (16 : Int)) (v := ⟨[114, 97, 116, 101], 4, hasF m99 [1, 2], some m99, true⟩) underlying123 (by exact e15) rfl (by exact e99) rfl rfl hM))),
   (fun _ _ _ hs hI hl hd => pureI hs (by decide +kernel) hI rfl rfl rfl rfl rfl rfl (by decide +kernel) (by decide +kernel) (qMv (by exact hI.basei.b4) _)),
   (fun _ _ _ hs hI hl hd => by
    obtain ⟨_, e100, rfl⟩ := hI.envi 116 100 (dp hd 116 (by decide +kernel)) rfl
    exact pureI hs (by decide +kernel) hI rfl rfl rfl rfl rfl ⟨eA, NumOK.refl _, rfl⟩ (by decide +kernel) (by decide +kernel) (qCf call122 (by exact e100) rfl (amount_ok _) _)),
   (fun _ _ _ hs hI hl hd => by
    obtain ⟨_, e15, rfl⟩ := hI.envi 0 15 (dp hd 0 (by decide +kernel)) rfl
    obtain ⟨_, e101, m101, n101, rfl⟩ := hI.envi 117 101 (dp hd 117 (by decide +kernel)) rfl
    exact insertM (k := 17) (v := ⟨[105, 115, 115, 117, 101], 2, hasF m101 [2], some m101, false⟩) hs (by decide +kernel) rfl hI hl rfl rfl rfl (dp hd 0 (by decide +kernel)) (by decide +kernel) (by decide +kernel) (by decide +kernel) (by decide +kernel) ⟨_, rfl, rfl, rfl, rfl, m101, n101, rfl, rfl⟩ (by decide +kernel) (fun M hM => QStep.insert (qMu kindKey (vD := kindD) (k := (17 : Int)) (v := ⟨[105, 115, 115, 117, 101], 2, hasF m101 [2], some m101, false⟩) underlying123 (by exact e15) rfl (by exact e101) rfl rfl hM))),
   (fun _ _ _ hs hI hl hd => pureI hs (by decide +kernel) hI rfl rfl rfl rfl rfl rfl (by decide +kernel) (by decide +kernel) (qMv (by exact hI.basei.b4) _)),
   (fun _ _ _ hs hI hl hd => by
    obtain ⟨_, e102, rfl⟩ := hI.envi 119 102 (dp hd 119 (by decide +kernel)) rfl
    exact pureI hs (by decide +kernel) hI rfl rfl rfl rfl rfl ⟨eA, NumOK.refl _, rfl⟩ (by decide +kernel) (by decide +kernel) (qCf call122 (by exact e102) rfl (amount_ok _) _)),
   (fun _ _ _ hs hI hl hd => by
    obtain ⟨_, e15, rfl⟩ := hI.envi 0 15 (dp hd 0 (by decide +kernel)) rfl
    obtain ⟨_, e103, m103, n103, rfl⟩ := hI.envi 120 103 (dp hd 120 (by decide +kernel)) rfl
    exact insertM (k := 18) (v := ⟨[99, 97, 110, 99, 101, 108], 2, hasF m103 [2], some m103, false⟩) hs (by decide +kernel) rfl hI hl rfl rfl rfl (dp hd 0 (by decide +kernel)) (by decide +kernel) (by decide +kernel) (by decide +kernel) (by decide +kernel) ⟨_, rfl, rfl, rfl, rfl, m103, n103, rfl, rfl⟩ (by decide +kernel) (fun M hM => QStep.insert (qMu kindKey (vD := kindD) (k := (18 : Int)) (v := ⟨[99, 97, 110, 99, 101, 108], 2, hasF m103 [2], some m103, false⟩) underlying123 (by exact e15) rfl (by exact e103) rfl rfl hM))),
   (fun _ _ _ hs hI hl hd => by
    obtain ⟨_, e15, rfl⟩ := hI.envi 0 15 (dp hd 0 (by decide +kernel)) rfl
    exact pureI hs (by decide +kernel) hI rfl rfl rfl rfl rfl rfl (by decide +kernel) (by decide +kernel) (qMv (by exact e15) _)),
   (fun _ _ _ hs hI hl hd => by
    obtain ⟨_, e104, rfl⟩ := hI.envi 122 104 (dp hd 122 (by decide +kernel)) rfl
    exact pureI hs (by decide +kernel) hI rfl rfl rfl rfl rfl rfl (by decide +kernel) (by decide +kernel) (q_assign (by exact e104) _)), trivial⟩
 ·intro listed e ob hs hall hI
  exact endK hs hall hI
 ·intro m hA
  refine Run.ret ?_
  exact ⟨m, [_], hA, rfl, Sub.refl _⟩
end Go.T
namespace Go.T
open Go
def nameE (s : Str) : Int := if (!isName s) = true then 23 else 0
def otherErr (f : Fact) (code : Bool) : Int :=
 if code = true then (if (!isCode f.other) = true then 12 else if decide (f.other = f.cur) = true then 18 else 0)
 else if decide (nameE f.other ≠ 0) = true then nameE f.other else if decide (f.other = f.instr) = true then 18 else 0
def fieldErr (f : Fact) (code : Bool) (n : Int) (L : Bool × Bool) : Int :=
 if decide (n = 0) = true then nameE f.instr else if decide (n = 3) = true then nameE f.target else if decide (n = 1) = true then otherErr f code
 else if decide (n = 2) = true then (if (!isCode f.cur) = true then 12 else 0) else if decide (n = 10) = true then picksErr f else if decide (n = 11) = true then optsErr f
 else if decide (n = 12) = true then (if decide (f.choice < 0) = true then 2 else 0) else numLim L.1 L.2 (valueF f n)
theorem value_small {f : Fact} (h : factOK f) (n : Int) : smallFr (valueF f n) := by
 have e : ([] : Str).length ≤ 60 := by simp
 unfold valueF
 split
 ·exact ⟨h.qty, e⟩
 ·split
  ·exact ⟨h.amt, e⟩
  ·split
   ·exact ⟨h.fee, e⟩
   ·split
    ·exact h.price
    ·split
     ·exact h.ratio
     ·split
      ·exact h.share
      ·exact ⟨e, e⟩
theorem other_1 {f : Fact} {code : Bool} (h : code = true) (h2 : (!isCode f.other) = true) : 12 = otherErr f code := by rw [otherErr, if_pos h, if_pos h2]
theorem other_2 {f : Fact} {code : Bool} (h : code = true) (h2 : (!isCode f.other) = false) (h3 : decide (f.other = f.cur) = true) : 18 = otherErr f code := by rw [otherErr, if_pos h, if_neg (by rw [h2]; simp), if_pos h3]
theorem other_3 {f : Fact} {code : Bool} (h : code = true) (h2 : (!isCode f.other) = false) (h3 : decide (f.other = f.cur) = false) : 0 = otherErr f code := by rw [otherErr, if_pos h, if_neg (by rw [h2]; simp), if_neg (by rw [h3]; simp)]
theorem other_4 {f : Fact} {code : Bool} (h : code = false) (h2 : decide (nameE f.other ≠ 0) = true) : nameE f.other = otherErr f code := by rw [otherErr, if_neg (by rw [h]; simp), if_pos h2]
theorem other_5 {f : Fact} {code : Bool} (h : code = false) (h2 : decide (nameE f.other ≠ 0) = false) (h3 : decide (f.other = f.instr) = true) : 18 = otherErr f code := by rw [otherErr, if_neg (by rw [h]; simp), if_neg (by rw [h2]; simp), if_pos h3]
theorem other_6 {f : Fact} {code : Bool} (h : code = false) (h2 : decide (nameE f.other ≠ 0) = false) (h3 : decide (f.other = f.instr) = false) : 0 = otherErr f code := by rw [otherErr, if_neg (by rw [h]; simp), if_neg (by rw [h2]; simp), if_neg (by rw [h3]; simp)]
theorem iT2 {α : Type} {b : Bool} {x y z : α} (h : b = true) (k : z = x) : z = if b = true then x else y := by rw [if_pos h]; exact k
theorem fieldB {f : Fact} {code : Bool} {n : Int} {L : Bool × Bool} (h4 : 4 ≤ n) (h9 : n ≤ 9) : numLim L.1 L.2 (valueF f n) = fieldErr f code n L := by
 have key : ∀ k : Int, (k < 4 ∨ 9 < k) → ¬ decide (n = k) = true := fun k hk e => by have := of_decide_eq_true e; omega
 unfold fieldErr
 rw [if_neg (key 0 (by omega)), if_neg (key 3 (by omega)), if_neg (key 1 (by omega)), if_neg (key 2 (by omega)), if_neg (key 10 (by omega)), if_neg (key 11 (by omega)), if_neg (key 12 (by omega))]
open Go.Proofs Go.Proofs.Tryz
set_option maxRecDepth 20000
theorem limD0 (w : World) (O : Nat → Prop) (ρ : Rho) : V w O ρ (limD none) .nilFunc := by simp [V]
theorem nameE_ok (s : Str) : Fc Tryz.prog 124 [.str s] (.i (nameE s)) := nameErr_ok s
theorem fieldA_ok (f : Fact) (hf : factOK f) (w : Str) (c : Int) (h : Nat → Bool) (m : NumM) (code : Bool) (n : Int) (L : Bool × Bool) (hs : n = 0 ∨ n = 3 ∨ n = 1 ∨ n = 2 ∨ n = 10 ∨ n = 11 ∨ n = 12) : Fc Tryz.prog 88 [.agg (encFact f), .agg (encKind w c h (imapN m) code), .i n] (.i (fieldErr f code n L)) := by
 refine Fc.mk' [6] func88 rfl ntmps88 rfl rfl rfl (fun t w => results_tmp results88 t _ w) ?_
 refine go [] ?_
 refine br (fun h1 => ?_) (fun h1 => ?_)
 ·refine oP (qCf call124 rfl rfl (nameE_ok _)) ?_
  exact rx1 rfl (Sub.int (by unfold fieldErr; exact iT h1))
 ·refine br (fun h2 => ?_) (fun h2 => ?_)
  ·refine oP (qCf call124 rfl rfl (nameE_ok _)) ?_
   exact rx1 rfl (Sub.int (by unfold fieldErr; exact iF h1 (iT h2)))
  ·refine br (fun h3 => ?_) (fun h3 => ?_)
   ·refine br (fun h4 => ?_) (fun h4 => ?_)
    ·refine oP (qCa call125 rfl (isCodeF_ok _)) ?_
     refine br (fun h5 => ?_) (fun h5 => ?_)
     ·exact rx1 rfl (Sub.int (by unfold fieldErr; exact iF h1 (iF h2 (iT2 h3 (other_1 h4 h5)))))
     ·refine br (fun h6 => ?_) (fun h6 => ?_)
      ·exact rx1 rfl (Sub.int (by unfold fieldErr; exact iF h1 (iF h2 (iT2 h3 (other_2 h4 h5 h6)))))
      ·exact rx1 rfl (Sub.int (by unfold fieldErr; exact iF h1 (iF h2 (iT2 h3 (other_3 h4 h5 h6)))))
    ·refine oP (qCf call124 rfl rfl (nameE_ok _)) ?_
     refine br (fun h7 => ?_) (fun h7 => ?_)
     ·exact rx1 rfl (Sub.int (by unfold fieldErr; exact iF h1 (iF h2 (iT2 h3 (other_4 h4 h7)))))
     ·refine br (fun h8 => ?_) (fun h8 => ?_)
      ·exact rx1 rfl (Sub.int (by unfold fieldErr; exact iF h1 (iF h2 (iT2 h3 (other_5 h4 h7 h8)))))
      ·exact rx1 rfl (Sub.int (by unfold fieldErr; exact iF h1 (iF h2 (iT2 h3 (other_6 h4 h7 h8)))))
   ·refine br (fun h9 => ?_) (fun h9 => ?_)
    ·refine oP (qCa call125 rfl (isCodeF_ok _)) ?_
     refine br (fun h10 => ?_) (fun h10 => ?_)
     ·exact rx1 rfl (Sub.int (by unfold fieldErr; exact iF h1 (iF h2 (iF h3 (iT2 h9 (iT h10))))))
     ·exact rx1 rfl (Sub.int (by unfold fieldErr; exact iF h1 (iF h2 (iF h3 (iT2 h9 (iF h10 rfl))))))
    ·refine br (fun h11 => ?_) (fun h11 => ?_)
     ·refine oP (qCa call126 rfl (checkPicks_ok f hf)) ?_
      exact rx1 rfl (Sub.int (by unfold fieldErr; exact iF h1 (iF h2 (iF h3 (iF h9 (iT h11))))))
     ·refine br (fun h12 => ?_) (fun h12 => ?_)
      ·refine oP (qCa call127 rfl (checkOpts_ok f hf)) ?_
       exact rx1 rfl (Sub.int (by unfold fieldErr; exact iF h1 (iF h2 (iF h3 (iF h9 (iF h11 (iT h12)))))))
      ·refine brT (decide_eq_true (by simp at h1 h2 h3 h9 h11 h12; omega)) ?_
       refine br (fun h13 => ?_) (fun h13 => ?_)
       ·exact rx1 rfl (Sub.int (by unfold fieldErr; exact iF h1 (iF h2 (iF h3 (iF h9 (iF h11 (iF h12 (iT2 (decide_eq_true (by simp at h1 h2 h3 h9 h11 h12; omega)) (iT h13)))))))))
       ·exact rx1 rfl (Sub.int (by unfold fieldErr; exact iF h1 (iF h2 (iF h3 (iF h9 (iF h11 (iF h12 (iT2 (decide_eq_true (by simp at h1 h2 h3 h9 h11 h12; omega)) (iF h13 rfl)))))))))
theorem fieldN_ok (f : Fact) (hf : factOK f) (w : Str) (c : Int) (h : Nat → Bool) (code : Bool) (n : Int) (L : Bool × Bool) (hs : n = 0 ∨ n = 3 ∨ n = 1 ∨ n = 2 ∨ n = 10 ∨ n = 11 ∨ n = 12) : Fc Tryz.prog 88 [.agg (encFact f), .agg (encKind w c h (D.raw (.map none)) code), .i n] (.i (fieldErr f code n L)) := by
 refine Fc.mk' [6] func88 rfl ntmps88 rfl rfl rfl (fun t w => results_tmp results88 t _ w) ?_
 refine go [] ?_
 refine br (fun h1 => ?_) (fun h1 => ?_)
 ·refine oP (qCf call124 rfl rfl (nameE_ok _)) ?_
  exact rx1 rfl (Sub.int (by unfold fieldErr; exact iT h1))
 ·refine br (fun h2 => ?_) (fun h2 => ?_)
  ·refine oP (qCf call124 rfl rfl (nameE_ok _)) ?_
   exact rx1 rfl (Sub.int (by unfold fieldErr; exact iF h1 (iT h2)))
  ·refine br (fun h3 => ?_) (fun h3 => ?_)
   ·refine br (fun h4 => ?_) (fun h4 => ?_)
    ·refine oP (qCa call125 rfl (isCodeF_ok _)) ?_
     refine br (fun h5 => ?_) (fun h5 => ?_)
     ·exact rx1 rfl (Sub.int (by unfold fieldErr; exact iF h1 (iF h2 (iT2 h3 (other_1 h4 h5)))))
     ·refine br (fun h6 => ?_) (fun h6 => ?_)
      ·exact rx1 rfl (Sub.int (by unfold fieldErr; exact iF h1 (iF h2 (iT2 h3 (other_2 h4 h5 h6)))))
      ·exact rx1 rfl (Sub.int (by unfold fieldErr; exact iF h1 (iF h2 (iT2 h3 (other_3 h4 h5 h6)))))
    ·refine oP (qCf call124 rfl rfl (nameE_ok _)) ?_
     refine br (fun h7 => ?_) (fun h7 => ?_)
     ·exact rx1 rfl (Sub.int (by unfold fieldErr; exact iF h1 (iF h2 (iT2 h3 (other_4 h4 h7)))))
     ·refine br (fun h8 => ?_) (fun h8 => ?_)
      ·exact rx1 rfl (Sub.int (by unfold fieldErr; exact iF h1 (iF h2 (iT2 h3 (other_5 h4 h7 h8)))))
      ·exact rx1 rfl (Sub.int (by unfold fieldErr; exact iF h1 (iF h2 (iT2 h3 (other_6 h4 h7 h8)))))
   ·refine br (fun h9 => ?_) (fun h9 => ?_)
    ·refine oP (qCa call125 rfl (isCodeF_ok _)) ?_
     refine br (fun h10 => ?_) (fun h10 => ?_)
     ·exact rx1 rfl (Sub.int (by unfold fieldErr; exact iF h1 (iF h2 (iF h3 (iT2 h9 (iT h10))))))
     ·exact rx1 rfl (Sub.int (by unfold fieldErr; exact iF h1 (iF h2 (iF h3 (iT2 h9 (iF h10 rfl))))))
    ·refine br (fun h11 => ?_) (fun h11 => ?_)
     ·refine oP (qCa call126 rfl (checkPicks_ok f hf)) ?_
      exact rx1 rfl (Sub.int (by unfold fieldErr; exact iF h1 (iF h2 (iF h3 (iF h9 (iT h11))))))
     ·refine br (fun h12 => ?_) (fun h12 => ?_)
      ·refine oP (qCa call127 rfl (checkOpts_ok f hf)) ?_
       exact rx1 rfl (Sub.int (by unfold fieldErr; exact iF h1 (iF h2 (iF h3 (iF h9 (iF h11 (iT h12)))))))
      ·refine brT (decide_eq_true (by simp at h1 h2 h3 h9 h11 h12; omega)) ?_
       refine br (fun h13 => ?_) (fun h13 => ?_)
       ·exact rx1 rfl (Sub.int (by unfold fieldErr; exact iF h1 (iF h2 (iF h3 (iF h9 (iF h11 (iF h12 (iT2 (decide_eq_true (by simp at h1 h2 h3 h9 h11 h12; omega)) (iT h13)))))))))
       ·exact rx1 rfl (Sub.int (by unfold fieldErr; exact iF h1 (iF h2 (iF h3 (iF h9 (iF h11 (iF h12 (iT2 (decide_eq_true (by simp at h1 h2 h3 h9 h11 h12; omega)) (iF h13 rfl)))))))))
theorem fieldB_ok (f : Fact) (hf : factOK f) (w : Str) (c : Int) (h : Nat → Bool) (m : NumM) (code : Bool) (n : Int) (L : Bool × Bool) (h4 : 4 ≤ n) (h9 : n ≤ 9) (hB : getG none m n = some L) : Fc Tryz.prog 88 [.agg (encFact f), .agg (encKind w c h (imapN m) code), .i n] (.i (fieldErr f code n L)) := by
 refine Fc.mk' [6] func88 rfl ntmps88 rfl rfl rfl (fun t w => results_tmp results88 t _ w) ?_
 refine go [] ?_
 refine brF (by simp; omega) ?_
 refine brF (by simp; omega) ?_
 refine brF (by simp; omega) ?_
 refine brF (by simp; omega) ?_
 refine brF (by simp; omega) ?_
 refine brF (by simp; omega) ?_
 refine brF (by simp; omega) ?_
 refine oP (fun _ => q_lookupI kindKey (vD := limD) (m := m) (k := n) (d := none) underlying119 zeroValue154 limD0 rfl rfl rfl rfl) ?_
 refine oP (qCa call128 rfl (value_ok f n (by omega) (by omega))) ?_
 refine oP (qCf call175 (by exact congrArg (fun z => some (limD z)) hB) rfl (numLim_ok (valueF f n) L.1 L.2 (value_small hf n))) ?_
 refine ord ?_
 exact rx1 rfl (Sub.int (by exact fieldB (by omega) (by omega)))
end Go.T
namespace Go.T
open Go
variable [Noise]
section
variable {P : Program} {F : Fr} {ops : Array Oper} {K : Env → Obs → Prop}
theorem QStep.toN {o : Oper} {env : Env} {obs : Obs} {d : D} {obs' : Obs} (h : QStep P o env obs d obs') : QStepN P o env obs (fun _ : Unit => True) (fun _ => d) (fun _ => obs') := fun O ρ a w hok hg hv =>
 Oper.wp_mono (by rintro a' w' ⟨ρ', v, h⟩; exact ⟨(), ρ', v, trivial, h⟩) (h O ρ a w hok hg hv)
def StepN (P : Program) (F : Fr) (ops : Array Oper) (I : Array Bool → Env → Obs → Prop) (i : Nat) (o : Oper) : Prop :=
 ∀ listed env obs, listed.size = ops.size → I listed env obs → lsd listed i = false → (∀ e ∈ o.after, Region.binds .any e = true → lsd listed e.on = true) →
  ∃ (ι : Type) (A : ι → Prop) (d : ι → D) (obs' : ι → Obs), dstB F.N o.dst = true ∧ On ops env o ∧ QStepN P o env obs A d obs' ∧ ∀ j, A j → ∃ env1 obs1, Le F (env.put o.dst (d j)) (obs' j) env1 obs1 ∧ I (listed.setIfInBounds i true) env1 obs1
def StepsN (P : Program) (F : Fr) (ops : Array Oper) (I : Array Bool → Env → Obs → Prop) : Nat → List Oper → Prop
 | _, [] => True
 | i, o :: l => StepN P F ops I i o ∧ StepsN P F ops I (i + 1) l
theorem StepsN.get {I : Array Bool → Env → Obs → Prop} : ∀ {l : List Oper} {k i : Nat} {o : Oper}, StepsN P F ops I k l → l[i]? = some o → StepN P F ops I (k + i) o
 | [], k, i, o, _, h => by simp at h
 | x :: l, k, 0, o, hs, h => by simp at h; subst h; exact hs.1
 | x :: l, k, i + 1, o, hs, h => by
  have := StepsN.get hs.2 (i := i) (o := o) (by simpa using h)
  rwa [Nat.add_right_comm, Nat.add_assoc] at this
theorem TxA.invN {I : Array Bool → Env → Obs → Prop} (hb : backB ops = true) (hend : ∀ listed env obs, listed.size = ops.size → (∀ i, i < ops.size → lsd listed i = true) → I listed env obs → K env obs)
  (hst : StepsN P F ops I 0 ops.toList) : ∀ (fuel : Nat) (listed : Array Bool) (env : Env) (obs : Obs), listed.size = ops.size → unl listed ops.size ≤ fuel → I listed env obs → TxA P F ops K fuel listed env obs := by
 intro fuel
 induction fuel with
 | zero =>
  intro listed env obs hs hf hI
  have hall : ∀ i, i < ops.size → lsd listed i = true := fun i hi => by
   cases e : lsd listed i with
   | true => rfl
   | false => have := unl_pos hi e; omega
  refine TxA.nil ?_ (hend listed env obs hs hall hI)
  rw [List.eq_nil_iff_forall_not_mem]
  intro i hi
  have := ready_mem hs hi
  rw [hall i this.1] at this
  cases this.2.1
 | succ fuel ih =>
  intro listed env obs hs hf hI
  refine ⟨fun C Q hQ a w hstt => ⟨fun hr => hQ a w env obs (hend listed env obs hs (ready_nil hs hb hr) hI) hstt, fun i hi => ?_⟩⟩
  obtain ⟨h1, h2, h3⟩ := ready_mem hs hi
  have ho : ops[i]? = some ops[i] := Array.getElem?_eq_getElem h1
  have h4 : StepN P F ops I (0 + i) ops[i] := StepsN.get hst (by simpa using ho)
  rw [Nat.zero_add] at h4
  obtain ⟨ι, A, d, obs', q1, q2, q3, q4⟩ := h4 listed env obs hs hI h2 (h3 _ ho)
  obtain ⟨ρ, hst'⟩ := hstt
  unfold wpOpIn
  simp only [ho]
  rw [if_pos (wanted_on q2 fun g b t _ _ d hd => hst'.env t d hd)]
  have := q3 C.O ρ a w hst'.tr.ok hst'.glob (fun x _ d' h => op_of_env hst'.env x d' h)
  refine Oper.wpIn_mono ?_ (wp_toIn C.ro this (by rintro a' w' ⟨j, ρ', v, _, rfl, _⟩; exact Act.put_def ..))
  rintro a' w' ⟨j, ρ', v, hA, rfl, htr', hv⟩
  obtain ⟨env1, obs1, q5, q6⟩ := q4 j hA
  exact (TxA.weak q5 (ih _ _ _ (by simpa using hs) (by have := unl_set h1 hs.symm h2; omega) q6)).out C Q hQ _ _ ⟨ρ', hst'.step htr' (env_put hst'.size q1 (fun t d h => htr'.V (hst'.env t d h)) hv) (Act.size_put _ _ _) (Act.put_def ..)⟩
theorem Run.regN {ι : Type} {A : ι → Prop} {env1 : ι → Env} {obs1 : ι → Obs} {env : Env} {obs : Obs} {Q : Exit → Env → Obs → Prop} {cs : List Code} {id : Nat} {l : List Oper} {c : Code} (I : Array Bool → Env → Obs → Prop) (hm : P.follows .mixedOrders = true) (hb : backB l.toArray = true)
  (h0 : I (Array.replicate l.length false) env obs) (hst : StepsN P F l.toArray I 0 l) (hend : ∀ listed e o, listed.size = l.length → (∀ i, i < l.length → lsd listed i = true) → I listed e o → ∃ i, A i ∧ Le F e o (env1 i) (obs1 i))
  (k : ∀ i, A i → Run P F (c :: cs) Q (env1 i) (obs1 i)) : Run P F (.region id l.toArray true :: c :: cs) Q env obs := ⟨⟨fun C a w hs => by
 refine wpIn_region_any hm ?_
 have hT : TxA P F l.toArray (fun e o => ∃ i, A i ∧ Le F e o (env1 i) (obs1 i)) l.length (Array.replicate l.length false) env obs :=
  TxA.invN (I := I) hb (by simpa using hend) (by simpa using hst) l.length _ env obs (by simp) (by
   have : unl (Array.replicate l.length false) l.toArray.size ≤ (List.range l.toArray.size).length := List.countP_le_length
   simpa using this) h0
 have := hT.out C (fun e a' w' => ∃ env' obs', thenQ (WPd P F (c :: cs) Q) Q e env' obs' ∧ St F C env' obs' a' w') (fun a w env' obs' hk hs => by
  obtain ⟨i, hA, hle⟩ := hk
  exact ⟨env1 i, obs1 i, (k i hA).out, hle.out C a w hs⟩) a _ hs.drew
 simpa using this⟩⟩
end
end Go.T
namespace Go.T
open Go
def zKind : KindV := ⟨[], 0, fun _ => false, none, false⟩
def KZ (k : Int) (v : KindV) : Prop := KOk k v ∨ (kindRow k = none ∧ v = zKind)
theorem row_some {k : Int} {r : KindRow} (h : kindRow k = some r) : 1 ≤ k ∧ k ≤ 18 := by
 rcases Decidable.em (1 ≤ k ∧ k ≤ 18) with g | g
 ·exact g
 ·unfold kindRow at h
  rw [if_neg (by omega), if_neg (by omega), if_neg (by omega), if_neg (by omega), if_neg (by omega), if_neg (by omega), if_neg (by omega), if_neg (by omega), if_neg (by omega), if_neg (by omega), if_neg (by omega), if_neg (by omega), if_neg (by omega), if_neg (by omega), if_neg (by omega), if_neg (by omega), if_neg (by omega), if_neg (by omega)] at h
  cases h
theorem row_none {k : Int} (h : ∀ j : Int, 1 ≤ j → j ≤ 18 → k ≠ j) : kindRow k = none := by
 cases e : kindRow k with
 | none => rfl
 | some r => have := row_some e; exact absurd rfl (h k this.1 this.2)
def k18 : List Int := [1, 2, 3, 4, 5, 6, 7, 8, 9, 10, 11, 12, 13, 14, 15, 16, 17, 18]
theorem mem18 {k : Int} : k ∈ k18 ↔ 1 ≤ k ∧ k ≤ 18 := by
 constructor
 ·intro h
  simp only [k18, List.mem_cons, List.not_mem_nil, or_false] at h
  omega
 ·intro h
  simp only [k18, List.mem_cons, List.not_mem_nil, or_false]
  omega
theorem getG_mem {β : Type} (d : β) : ∀ (m : List (Int × β)) (k : Int), k ∈ m.map (·.1) → (k, getG d m k) ∈ m
 | [], k, h => by cases h
 | (a, v) :: r, k, h => by
  by_cases e : k = a
  ·subst e; simp [getG]
  ·simp only [getG, if_neg e]
   exact List.mem_cons_of_mem _ (getG_mem d r k (by simpa [e] using h))
theorem getG_none {β : Type} (d : β) : ∀ (m : List (Int × β)) (k : Int), k ∉ m.map (·.1) → getG d m k = d
 | [], k, _ => rfl
 | (a, v) :: r, k, h => by
  simp only [List.map_cons, List.mem_cons, not_or] at h
  simp only [getG, if_neg h.1]
  exact getG_none d r k h.2
theorem hasG_iff {β : Type} (m : List (Int × β)) (k : Int) : hasG m k = true ↔ k ∈ m.map (·.1) := by
 unfold hasG
 rw [List.any_eq_true, List.mem_map]
 constructor
 ·rintro ⟨p, hp, h⟩; exact ⟨p, hp, (of_decide_eq_true h).symm⟩
 ·rintro ⟨p, hp, rfl⟩; exact ⟨p, hp, by simp⟩
theorem kind_look {m : List (Int × KindV)} (h1 : (m.map (·.1)).Perm k18) (h2 : ∀ p ∈ m, KOk p.1 p.2) (k : Int) : KZ k (getG zKind m k) ∧ hasG m k = (kindRow k).isSome := by
 by_cases hk : k ∈ m.map (·.1)
 ·have h3 := h2 _ (getG_mem zKind m k hk)
  refine ⟨.inl h3, ?_⟩
  obtain ⟨r, hr, _⟩ := h3
  rw [show hasG m k = true from (hasG_iff m k).2 hk]
  simp only at hr
  rw [hr]; rfl
 ·have h3 : kindRow k = none := row_none fun j hj hj' e => hk (h1.mem_iff.2 (mem18.2 ⟨by omega, by omega⟩))
  refine ⟨.inr ⟨h3, getG_none _ _ _ hk⟩, ?_⟩
  rw [h3]
  cases e : hasG m k with
  | false => rfl
  | true => exact absurd ((hasG_iff m k).1 e) hk
def limAt (r : KindRow) (n : Int) : Bool × Bool := (getG none (r.num.getD []) n).getD (false, false)
def spB (n : Int) : Bool := decide (n = 0) || decide (n = 3) || decide (n = 1) || decide (n = 2) || decide (n = 10) || decide (n = 11) || decide (n = 12)
def rowGood (r : KindRow) : Bool := r.more.all spB && (match r.num with | none => true | some E => E.all (fun p => decide (4 ≤ p.1) && decide (p.1 ≤ 9) && p.2.isSome) && decide ((E.map (·.1)).Nodup))
theorem row_good {k : Int} {r : KindRow} (h : kindRow k = some r) : rowGood r = true := by
 have h1 := row_some h
 have h2 : k = 1 ∨ k = 2 ∨ k = 3 ∨ k = 4 ∨ k = 5 ∨ k = 6 ∨ k = 7 ∨ k = 8 ∨ k = 9 ∨ k = 10 ∨ k = 11 ∨ k = 12 ∨ k = 13 ∨ k = 14 ∨ k = 15 ∨ k = 16 ∨ k = 17 ∨ k = 18 := by omega
 rcases h2 with rfl | rfl | rfl | rfl | rfl | rfl | rfl | rfl | rfl | rfl | rfl | rfl | rfl | rfl | rfl | rfl | rfl | rfl <;> (have h' := Option.some.inj h; rw [← h']; decide)
def hasR (r : KindRow) (n : Nat) : Bool := hasF (r.num.getD []) r.more n
theorem hasF_ok {E m : NumM} (h : NumOK E m) (more : List Int) (j : Nat) : hasF m more j = hasF E more j := by
 have key : ∀ a : NumM, (a.any fun p => decide (p.1 = (j : Int))) = true ↔ (j : Int) ∈ a.map (·.1) := by
  intro a
  rw [List.any_eq_true, List.mem_map]
  constructor
  ·rintro ⟨p, hp, h⟩; exact ⟨p, hp, of_decide_eq_true h⟩
  ·rintro ⟨p, hp, h⟩; exact ⟨p, hp, decide_eq_true h⟩
 unfold hasF
 congr 1
 rw [Bool.eq_iff_iff, key, key]
 exact h.1.mem_iff
theorem nodup_val {E : NumM} (hn : (E.map (·.1)).Nodup) {k : Int} {a b : LimP} (ha : (k, a) ∈ E) (hb : (k, b) ∈ E) : a = b := by
 induction E with
 | nil => cases ha
 | cons p E ih =>
  rw [List.map_cons, List.nodup_cons] at hn
  rcases List.mem_cons.1 ha with e1 | h1 <;> rcases List.mem_cons.1 hb with e2 | h2
  ·rw [← e1] at e2; exact (Prod.mk.inj e2).2.symm
  ·exact absurd (by have := List.mem_map_of_mem (f := Prod.fst) h2; rw [← e1]; exact this) hn.1
  ·exact absurd (by have := List.mem_map_of_mem (f := Prod.fst) h1; rw [← e2]; exact this) hn.1
  ·exact ih hn.2 h1 h2
theorem num_look {E m : NumM} {n : Int} (h : NumOK E m) (hn : (E.map (·.1)).Nodup) (hs : ∀ p ∈ E, p.2.isSome = true) (hk : n ∈ m.map (·.1)) : getG none m n = some ((getG none E n).getD (false, false)) := by
 have h1 := h.2 _ (getG_mem none m n hk)
 have h2 := getG_mem none E n (h.1.mem_iff.1 hk)
 have h3 := nodup_val hn h1 h2
 rw [h3]
 have h4 := hs _ h2
 simp only at h4
 cases e : getG none E n with
 | none => rw [e] at h4; cases h4
 | some L => rfl
def fieldsFrom (f : Fact) (r : KindRow) : List Int → Int
 | [] => 0
 | n :: l => if hasR r n.toNat = true then (if decide (fieldErr f r.code n (limAt r n) ≠ 0) = true then fieldErr f r.code n (limAt r n) else fieldsFrom f r l) else if (!emptyF f n) = true then 1 else fieldsFrom f r l
@[reducible] def fldL : List Int := [0, 1, 2, 3, 4, 5, 6, 7, 8, 9, 10, 11, 12]
theorem fld_at {pre rest : List Int} {x : Int} (h : fldL = pre ++ x :: rest) : x = (pre.length : Int) ∧ x < 13 := by
 have h1 : fldL[pre.length]? = some x := by rw [h]; simp
 have hl : pre.length < 13 := by
  have := congrArg List.length h
  simp at this; omega
 have key : ∀ i : Nat, i < 13 → fldL[i]? = some (i : Int) := by decide
 rw [key _ hl] at h1
 cases h1
 exact ⟨rfl, by omega⟩
def voidF (f : Fact) : Fact := ⟨f.key, f.stamp, true, 0, 0, [], [], [], [], [], [], [], ⟨[], []⟩, ⟨[], []⟩, ⟨[], []⟩, [], [], 0⟩
def kindErr (f : Fact) : Int :=
 match kindRow f.kind with
 | none => 7
 | some r => fieldsFrom f r fldL
def chkFact (f : Fact) : Int :=
 if (!isName f.key) = true then 23 else if decide (f.stamp < 0) = true then 2 else if f.cancelled = true then (if (!sameF f (voidF f)) = true then 1 else 0)
 else if (decide (f.day < -25567) || decide (84005 < f.day)) = true then 13 else kindErr f
theorem fields_1 {e : Int} {f : Fact} {r : KindRow} {n : Int} {l : List Int} (hp : e = fieldsFrom f r (n :: l)) (h : hasR r n.toNat = true) (h2 : decide (fieldErr f r.code n (limAt r n) ≠ 0) = true) : fieldErr f r.code n (limAt r n) = e := by rw [hp, fieldsFrom, if_pos h, if_pos h2]
theorem fields_2 {e : Int} {f : Fact} {r : KindRow} {n : Int} {l : List Int} (hp : e = fieldsFrom f r (n :: l)) (h : hasR r n.toNat = true) (h2 : decide (fieldErr f r.code n (limAt r n) ≠ 0) = false) : e = fieldsFrom f r l := by rw [hp, fieldsFrom, if_pos h, if_neg (by rw [h2]; simp)]
theorem fields_3 {e : Int} {f : Fact} {r : KindRow} {n : Int} {l : List Int} (hp : e = fieldsFrom f r (n :: l)) (h : hasR r n.toNat = false) (h2 : (!emptyF f n) = true) : 1 = e := by rw [hp, fieldsFrom, if_neg (by rw [h]; simp), if_pos h2]
theorem fields_4 {e : Int} {f : Fact} {r : KindRow} {n : Int} {l : List Int} (hp : e = fieldsFrom f r (n :: l)) (h : hasR r n.toNat = false) (h2 : (!emptyF f n) = false) : e = fieldsFrom f r l := by rw [hp, fieldsFrom, if_neg (by rw [h]; simp), if_neg (by rw [h2]; simp)]
theorem encKind_getN {w : Str} {c : Int} {h : Nat → Bool} {num : D} {code : Bool} {j : Nat} (hj : j < 13) : (encKind w c h num code)[2 + j]? = some (.b (h j)) := by
 have := encKind_get (w := w) (c := c) (h := h) (num := num) (code := code) (i := (j : Int)) (by omega) (by omega)
 simpa using this
theorem kok_h {k : Int} {v : KindV} {r : KindRow} (hv : KOk k v) (hr : kindRow k = some r) (j : Nat) : v.h j = hasR r j := by
 obtain ⟨r', hr', _, _, _, h4⟩ := hv
 rw [hr] at hr'; cases hr'
 unfold rowNum at h4
 unfold hasR
 cases e : r.num with
 | none => rw [e] at h4; rw [h4.2]; rfl
 | some E =>
  rw [e] at h4
  obtain ⟨m, hm, _, h5⟩ := h4
  rw [h5]
  exact hasF_ok hm r.more j
theorem kz_ok {k : Int} {v : KindV} {r : KindRow} (hv : KZ k v) (hr : kindRow k = some r) : KOk k v := by
 rcases hv with hv | ⟨hn, _⟩
 ·exact hv
 ·rw [hr] at hn; cases hn
theorem row_of {k : Int} (h : (!(kindRow k).isSome) = false) : ∃ r, kindRow k = some r := by
 cases e : kindRow k with
 | none => rw [e] at h; cases h
 | some r => exact ⟨r, rfl⟩
theorem chk_7 {f : Fact} (h : (!(kindRow f.kind).isSome) = true) : 7 = kindErr f := by
 unfold kindErr
 cases e : kindRow f.kind with
 | none => rfl
 | some r => rw [e] at h; cases h
theorem chk_r {f : Fact} {r : KindRow} (h : kindRow f.kind = some r) : kindErr f = fieldsFrom f r fldL := by unfold kindErr; rw [h]
theorem chk_5 {f : Fact} (h1 : (!isName f.key) = false) (h2 : decide (f.stamp < 0) = false) (h3 : f.cancelled = false) (h4 : (decide (f.day < -25567) || decide (84005 < f.day)) = false) : chkFact f = kindErr f := by
 unfold chkFact
 rw [if_neg (by rw [h1]; simp), if_neg (by rw [h2]; simp), if_neg (by rw [h3]; simp), if_neg (by rw [h4]; simp)]
theorem voidSub (f : Fact) : Subs [.agg (encFact f), .agg [.str f.key, .i f.stamp, .b true, .raw (.int .i64 0), .raw (.int .i64 0), .str [], .str [], .str [], .str [], .str [], .str [], .str [], .str [], .str [], .str [], .str [], .str [], .str [], .raw (.slice none 0 0), .raw (.slice none 0 0), .raw (.int .i64 0)]] [.agg (encFact f), .agg (encFact (voidF f))] := by
 refine .cons (Sub.refl _) (.cons (Sub.agg ?_) .nil)
 repeat (first | exact .nil | refine .cons (Sub.refl _) ?_ | refine .cons (Sub.nil _ _) ?_)
open Go.Proofs Go.Proofs.Tryz
set_option maxRecDepth 20000
theorem field_ok {f : Fact} (hf : factOK f) {k : Int} {v : KindV} {r : KindRow} (hv : KOk k v) (hr : kindRow k = some r) {n : Int} (h0 : 0 ≤ n) (h13 : n < 13) (hh : hasR r n.toNat = true) : Fc Tryz.prog 88 [.agg (encFact f), kindD v, .i n] (.i (fieldErr f r.code n (limAt r n))) := by
 obtain ⟨r', hr', e1, e2, e3, h4⟩ := hv
 rw [hr] at hr'; cases hr'
 have hg := row_good hr
 unfold rowGood at hg
 rw [Bool.and_eq_true] at hg
 have hsp : ∀ x ∈ r.more, x = 0 ∨ x = 3 ∨ x = 1 ∨ x = 2 ∨ x = 10 ∨ x = 11 ∨ x = 12 := fun x hx => by
  have := List.all_eq_true.1 hg.1 x hx
  simp only [spB, Bool.or_eq_true, decide_eq_true_eq] at this
  omega
 obtain ⟨vw, vc, vh, vn, vcode⟩ := v
 simp only at e1 e2 e3
 subst e3
 have hnt : ((n.toNat : Nat) : Int) = n := by omega
 unfold hasR hasF at hh
 rw [Bool.or_eq_true, hnt] at hh
 have hmore : (r.more.any fun x => decide (x = n)) = true → n = 0 ∨ n = 3 ∨ n = 1 ∨ n = 2 ∨ n = 10 ∨ n = 11 ∨ n = 12 := fun h => by
  obtain ⟨x, hx, e⟩ := List.any_eq_true.1 h
  obtain rfl : x = n := of_decide_eq_true e
  exact hsp x hx
 unfold rowNum at h4
 cases e : r.num with
 | none =>
  rw [e] at h4 hh
  simp only at h4
  obtain ⟨rfl, _⟩ := h4
  refine fieldN_ok f hf vw vc vh r.code n _ (hmore ?_)
  rcases hh with hh | hh
  ·simp at hh
  ·exact hh
 | some E =>
  rw [e] at h4 hh hg
  simp only at h4 hg
  obtain ⟨m, hm, rfl, _⟩ := h4
  rw [Bool.and_eq_true] at hg
  have hnd := of_decide_eq_true hg.2.2
  have hE : ∀ p ∈ E, (4 ≤ p.1 ∧ p.1 ≤ 9) ∧ p.2.isSome = true := fun p hp => by
   have := List.all_eq_true.1 hg.2.1 p hp
   rw [Bool.and_eq_true, Bool.and_eq_true] at this
   exact ⟨⟨of_decide_eq_true this.1.1, of_decide_eq_true this.1.2⟩, this.2⟩
  rcases hh with hh | hh
  ·simp only [Option.getD_some] at hh
   obtain ⟨p, hp, e2⟩ := List.any_eq_true.1 hh
   have e2 := of_decide_eq_true e2
   have h49 := (hE p hp).1
   have hkm : n ∈ m.map (·.1) := hm.1.mem_iff.2 (e2 ▸ List.mem_map_of_mem (f := Prod.fst) hp)
   have hB := num_look hm hnd (fun p hp => (hE p hp).2) hkm
   refine fieldB_ok f hf vw vc vh m r.code n _ (by omega) (by omega) ?_
   rw [hB]; unfold limAt; rw [e]; rfl
  ·exact fieldA_ok f hf vw vc vh m r.code n _ (hmore hh)
def cDst : List (Option Nat) := [some 33, some 34, some 35, some 36, some 32, some 37, some 38, some 3, none, some 4]
def cVT (f : Fact) : List (D → Prop) := [fun d => ∃ m, kindsA m ∧ d = imapG kInt kindD m, fun d => d = .iptr ((encFact f).drop 4), fun d => d = .i f.kind, fun d => ∃ v, KZ f.kind v ∧ d = .tup [kindD v, .b (kindRow f.kind).isSome], fun d => ∃ v, KZ f.kind v ∧ d = .tup [kindD v, .b (kindRow f.kind).isSome],
 fun d => ∃ v, KZ f.kind v ∧ d = kindD v, fun d => d = .b (kindRow f.kind).isSome, fun d => d = .box 1 0, fun _ => True, fun d => d = .b (kindRow f.kind).isSome]
def cVK (f : Fact) (i : Nat) : D → Prop := ((cVT f)[i]?).getD fun _ => True
theorem cDist : distB cDst = true := by decide +kernel
abbrev CF : Fr := ⟨60, [], false, none⟩
structure InvC (f : Fact) (listed : Array Bool) (env : Env) (obs : Obs) : Prop where
 envi : EnvI cDst (cVK f) listed env
 b1 : env.get 1 = some (.iptr (encFact f))
 bo : lsd listed 7 = false → obs.get 1 = none
 al : lsd listed 7 = true → lsd listed 8 = false → ∃ ds : List D, ds.length = 17 ∧ obs.get 1 = some (.cells ds)
 c8 : lsd listed 8 = true → lsd listed 7 = true
 st : lsd listed 8 = true → ∃ v, KZ f.kind v ∧ obs.get 1 = some (.cells (encKind v.w v.c v.h (numD v.num) v.code))
abbrev GoalC (f : Fact) (listed : Array Bool) (env : Env) (obs : Obs) (i : Nat) (o : Oper) (ops : Array Oper) : Prop :=
 ∃ (ι : Type) (A : ι → Prop) (d : ι → D) (obs' : ι → Obs), dstB CF.N o.dst = true ∧ On ops env o ∧ QStepN Tryz.prog o env obs A d obs' ∧ ∀ j, A j → ∃ env1 obs1, Le CF (env.put o.dst (d j)) (obs' j) env1 obs1 ∧ InvC f (listed.setIfInBounds i true) env1 obs1
section
variable {f : Fact} {ops : Array Oper} {listed : Array Bool} {env : Env} {obs : Obs} {i t : Nat} {o : Oper}
theorem pureC {ι : Type} {A : ι → Prop} {d : ι → D} (hs : listed.size = ops.size) (hn : Nat.blt i ops.size = true) (hI : InvC f listed env obs) (hi : cDst[i]? = some (some t)) (ht : (!(t == 1)) = true) (h78 : (!(i == 7) && !(i == 8)) = true) (hN : dstB CF.N (some t) = true) (ho : o.dst = some t) (hg : o.guard = none) (hV : ∀ j, A j → cVK f i (d j)) (hq : QStepN Tryz.prog o env obs A d (fun _ => obs)) : GoalC f listed env obs i o ops := by
 have hsz : i < listed.size := by rw [hs]; simpa [Nat.blt_eq] using hn
 rw [Bool.and_eq_true] at h78
 have h7 : i ≠ 7 := by simpa using h78.1
 have h8 : i ≠ 8 := by simpa using h78.2
 have ht1 : t ≠ 1 := by simpa using ht
 refine ⟨ι, A, d, _, by rw [ho]; exact hN, onK hg, hq, fun j hj => ⟨(t, d j) :: env, obs, by rw [ho]; exact Le.refl _ _ _, hI.envi.put cDist hsz hi (hV j hj), by rw [Env.get_cons, if_neg ht1]; exact hI.b1, fun e => hI.bo ?_, fun e e' => hI.al ?_ ?_, fun e => lsd_mono hsz (hI.c8 ?_), fun e => hI.st ?_⟩⟩
 all_goals first | (rwa [lsd_set hsz, if_neg h7] at e; done) | (rwa [lsd_set hsz, if_neg h8] at e'; done) | (rwa [lsd_set hsz, if_neg h8] at e; done)
theorem allocC {z : Value} (hs : listed.size = ops.size) (hn : Nat.blt 8 ops.size = true) (hI : InvC f listed env obs) (hl : lsd listed 7 = false) (hi : cDst[7]? = some (some t)) (ht : (!(t == 1)) = true) (hN : dstB CF.N (some t) = true) (ho : o.dst = some t) (hg : o.guard = none) (hV : cVK f 7 (.box 1 0)) (hz : (z.cells.toList.map rawD).length = 17)
  (hq : obs.get 1 = none → QStep Tryz.prog o env obs (.box 1 0) ((1, .cells (z.cells.toList.map rawD)) :: obs)) : GoalC f listed env obs 7 o ops := by
 have hn' : 8 < listed.size := by rw [hs]; simpa [Nat.blt_eq] using hn
 have hsz : 7 < listed.size := by omega
 have h8 : lsd listed 8 = false := by
  cases e : lsd listed 8 with
  | false => rfl
  | true => have := hI.c8 e; rw [hl] at this; cases this
 have ht1 : t ≠ 1 := by simpa using ht
 refine ⟨_, _, _, _, by rw [ho]; exact hN, onK hg, (hq (hI.bo hl)).toN, fun j hj => ⟨(t, .box 1 0) :: env, _, by rw [ho]; exact Le.refl _ _ _, hI.envi.put cDist hsz hi hV, by rw [Env.get_cons, if_neg ht1]; exact hI.b1, fun e => ?_, fun _ _ => ⟨_, hz, by rw [Obs.get_cons, if_pos rfl]⟩, fun _ => by rw [lsd_set hsz, if_pos rfl], fun e => ?_⟩⟩
 ·rw [lsd_set hsz, if_pos rfl] at e; cases e
 ·rw [lsd_set hsz, if_neg (by decide), h8] at e; cases e
theorem storeC {v : KindV} (hs : listed.size = ops.size) (hn : Nat.blt 8 ops.size = true) (hI : InvC f listed env obs) (hl : lsd listed 8 = false) (h7 : lsd listed 7 = true) (hi : cDst[8]? = some none) (ho : o.dst = none) (hg : o.guard = none) (hv : KZ f.kind v)
  (hq : ∀ ds : List D, ds.length = 17 → obs.get 1 = some (.cells ds) → QStep Tryz.prog o env obs (.raw undef) (obs.set 1 (.cells (encKind v.w v.c v.h (numD v.num) v.code)))) : GoalC f listed env obs 8 o ops := by
 have hsz : 8 < listed.size := by rw [hs]; simpa [Nat.blt_eq] using hn
 obtain ⟨ds, g1, g2⟩ := hI.al h7 hl
 refine ⟨_, _, _, _, by rw [ho]; rfl, onK hg, (hq ds g1 g2).toN, fun j hj => ⟨env, _, by rw [ho]; exact Le.refl _ _ _, hI.envi.none hsz hi, hI.b1, fun e => ?_, fun _ e => ?_, fun _ => lsd_mono hsz h7, fun _ => ⟨v, hv, by rw [Obs.get_set, if_pos rfl]⟩⟩⟩
 ·rw [lsd_set hsz, if_neg (by decide), h7] at e; cases e
 ·rw [lsd_set hsz, if_pos rfl] at e; cases e
end
theorem invC0 {f : Fact} {n : Nat} {env : Env} {obs : Obs} (h1 : env.get 1 = some (.iptr (encFact f))) (hno : obs.get 1 = none) : InvC f (Array.replicate n false) env obs := by
 refine ⟨fun j t h => ?_, h1, fun _ => hno, fun h => ?_, fun h => ?_, fun h => ?_⟩ <;> (rw [lsd_rep] at h; cases h)
theorem endC {f : Fact} {listed : Array Bool} {env : Env} {obs : Obs} (hall : ∀ i, i < 10 → lsd listed i = true) (hI : InvC f listed env obs) : ∃ v, KZ f.kind v ∧ Le CF env obs [(1, .iptr (encFact f)), (3, .box 1 0), (4, .b (kindRow f.kind).isSome)] [(1, .cells (encKind v.w v.c v.h (numD v.num) v.code))] := by
 obtain ⟨v, hv, ho⟩ := hI.st (hall 8 (by decide))
 obtain ⟨d3, e3, q3⟩ := hI.envi 7 3 (hall 7 (by decide)) rfl
 obtain ⟨d4, e4, q4⟩ := hI.envi 9 4 (hall 9 (by decide)) rfl
 have q3 : d3 = .box 1 0 := q3
 have q4 : d4 = .b (kindRow f.kind).isSome := q4
 subst q3; subst q4
 refine ⟨v, hv, Le.mk rfl (.cons hI.b1 (Sub.refl _) rfl (.cons e3 (Sub.refl _) rfl (.cons e4 (Sub.refl _) rfl .nil))) (.cons ho ?_ .nil)⟩
 obtain ⟨w, c, h, nu, code⟩ := v
 cases nu <;> rfl
theorem kindZ (w : World) (O : Nat → Prop) (ρ : Rho) : V w O ρ (kindD zKind) (.agg #[.string ⟨#[]⟩, .int .i64 0, .bool false, .bool false, .bool false, .bool false, .bool false, .bool false, .bool false, .bool false, .bool false, .bool false, .bool false, .bool false, .bool false, .map none, .bool false]) := by
 simp only [V]
 exact ⟨_, rfl, by simp [V, Vs, big, zKind, D.i, D.b]⟩
end Go.T
