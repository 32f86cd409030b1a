/-
  Contracts of the functions that the statement reaches, and the logic in which they are proved (no condition): parts W69, Card1, Card2, Card3.
-/
import Derived.Test.YtlhemheagekhaaaGreatDoorA18
import Derived.ChangeArms
import Derived.SizedLaws
import Derived.ProofKit
import Derived.OpenShut
import Derived.ReadAgain
import Derived.LaidMore
import Derived.Test.YtlhemheagekhaaaGreatDoorCards
import Derived.Test.YtlhemheagekhaaaGreatDoorTie
import Derived.Lay
import Derived.SevenTiedAt
import Derived.Stop.Joined
set_option linter.all false
namespace Go.T
open Go Go.Proofs
set_option maxRecDepth 20000
theorem lawReads_ok (l m : List Posted) (d a b : Int) (u v : Str) : Fc Tryz.prog 9 [sPosteds l, sPosteds m, .i d, .i a, .i b, .str u, .str v] (.b true) := by
 refine Fc.mk' [14] Tryz.func9 rfl Tryz.ntmps9 rfl rfl rfl (fun t w => results_tmp Tryz.results9 t _ w) ?_
 refine Run.seq (Run.reg [.p] ?_)
 refine .ag rfl rfl <| .nil ?_
 refine Run.seq (Run.seq (Run.reg [.p, .p, .p, .p, .p, .p, .p, .p, .p, .p, .p, .p, .p, .p, .p, .p] ?_))
 refine .mv rfl rfl <| .P rfl (q_call Tryz.call25 rfl (great50_ok _)) <| .mv rfl rfl <| .gF rfl (.inl rfl) rfl rfl rfl (fun hg => pk (fun _ => q_move rfl _)) <| .gF rfl (.inl rfl) rfl rfl rfl (fun hg => pk (fun _ => q_call Tryz.call25 (opsC (opT rfl (nt hg)) (rfl)) (great50_ok _) _)) <| .P rfl (q_or rfl rfl) <| .mv rfl rfl <| .gF rfl (.inl rfl) rfl rfl rfl (fun hg => pk (fun _ => q_move rfl _)) <| .gF rfl (.inl rfl) rfl rfl rfl (fun hg => pk (fun _ => q_lenS Tryz.underlying9 (opT rfl (nt hg)) _)) <| .gF rfl (.inl rfl) rfl rfl rfl (fun hg => pk (fun _ => q_gtr (opT rfl (nt hg)) rfl _)) <| .P rfl (q_or rfl rfl) <| .mv rfl rfl <| .gF rfl (.inl rfl) rfl rfl rfl (fun hg => pk (fun _ => q_move rfl _)) <| .gF rfl (.inl rfl) rfl rfl rfl (fun hg => pk (fun _ => q_lenS Tryz.underlying9 (opT rfl (nt hg)) _)) <| .gF rfl (.inl rfl) rfl rfl rfl (fun hg => pk (fun _ => q_gtr (opT rfl (nt hg)) rfl _)) <| .P rfl (q_or rfl rfl) <| .nil ?_
 refine Run.cond rfl (fun h1 => ?_) (fun h1 => ?_)
 ·have ph1 := h1; try simp only [bs] at ph1
  refine Run.seq (Run.reg [.p, .p] ?_)
  refine .P rfl (q_call Tryz.call12 rfl awake_ok) <| .ag rfl rfl <| .nil ?_
  refine Run.ret (?_)
  exact ret1 rfl (Sub.bool (by first | rfl | simp))
 ·have ph1 := h1; try simp only [bs] at ph1
  simp only [Bool.or_eq_false_iff] at h1
  have hgr : great50 l = false := h1.1.1.1
  obtain ⟨hs, hl16⟩ := great50_small hgr
  have h13 := great50_13 hgr
  refine Run.skip ?_
  refine Run.seq (Run.reg [.p, .p, .p, .p, .p, .p, .p, .p] ?_)
  refine .mv rfl rfl <| .mv rfl rfl <| .P rfl (q_call Tryz.call20 rfl (trial50X_ok l d hs)) <| .mv rfl rfl <| .P rfl (q_extract rfl rfl) <| .P rfl (q_extract rfl rfl) <| .ag rfl rfl <| .ag rfl rfl <| .nil ?_
  refine Run.seq (Run.reg [.p, .p, .p, .p, .p, .p, .p, .p] ?_)
  refine .mv rfl rfl <| .mv rfl rfl <| .P rfl (q_call Tryz.call35 rfl (refTrial_ok l d hs h13 hl16)) <| .mv rfl rfl <| .P rfl (q_extract rfl rfl) <| .P rfl (q_extract rfl rfl) <| .ag rfl rfl <| .ag rfl rfl <| .nil ?_
  refine Run.seq (Run.reg [.p, .p, .p, .p, .p, .p, .p, .p, .p] ?_)
  refine .mv rfl rfl <| .mv rfl rfl <| .mv rfl rfl <| .P rfl (q_call Tryz.call29 rfl (between_ok l a b hs)) <| .mv rfl rfl <| .P rfl (q_extract rfl rfl) <| .P rfl (q_extract rfl rfl) <| .ag rfl rfl <| .ag rfl rfl <| .nil ?_
  refine Run.seq (Run.reg [.p, .p, .p, .p, .p, .p, .p, .p, .p] ?_)
  refine .mv rfl rfl <| .mv rfl rfl <| .mv rfl rfl <| .P rfl (q_call Tryz.call36 rfl (refBetween_ok l a b hs)) <| .mv rfl rfl <| .P rfl (q_extract rfl rfl) <| .P rfl (q_extract rfl rfl) <| .ag rfl rfl <| .ag rfl rfl <| .nil ?_
  refine Run.seq (Run.reg [.p, .p, .p, .p, .p, .p, .p, .p, .p] ?_)
  refine .mv rfl rfl <| .mv rfl rfl <| .mv rfl rfl <| .P rfl (q_call Tryz.call31 rfl (explain_ok l u v hs)) <| .mv rfl rfl <| .P rfl (q_extract rfl rfl) <| .P rfl (q_extract rfl rfl) <| .ag rfl rfl <| .ag rfl rfl <| .nil ?_
  refine Run.seq (Run.reg [.p, .p, .p, .p, .p, .p, .p, .p, .p] ?_)
  refine .mv rfl rfl <| .mv rfl rfl <| .mv rfl rfl <| .P rfl (q_call Tryz.call37 rfl (refExplain_ok l u v hs h13 hl16)) <| .mv rfl rfl <| .P rfl (q_extract rfl rfl) <| .P rfl (q_extract rfl rfl) <| .ag rfl rfl <| .ag rfl rfl <| .nil ?_
  refine Run.seq (Run.reg [.p, .p, .p, .p, .p, .p, .p, .p, .p, .p, .p, .p, .p, .p, .p, .p, .p, .p, .p, .p, .p, .p, .p, .p, .p, .p, .p, .p, .p, .p, .p, .p, .p, .p, .p, .p, .p, .p, .p, .p, .p, .p, .p, .p, .p, .p, .p, .p] ?_)
  refine .mv rfl rfl <| .mv rfl rfl <| .P rfl (q_call Tryz.call24 rfl (same43_ok _ _)) <| .mv rfl rfl <| .gT rfl (.inl rfl) rfl rfl rfl (fun hg => pk (fun _ => q_move rfl _)) <| .gT rfl (.inl rfl) rfl rfl rfl (fun hg => pk (fun _ => q_move rfl _)) <| .gT rfl (.inl rfl) rfl rfl rfl (fun hg => pk (fun _ => q_eql (opT rfl hg) (opT rfl hg) _)) <| .P rfl (q_and rfl rfl) <| .mv rfl rfl <| .gT rfl (.inl rfl) rfl rfl rfl (fun hg => pk (fun _ => q_move rfl _)) <| .gT rfl (.inl rfl) rfl rfl rfl (fun hg => pk (fun _ => q_move rfl _)) <| .gT rfl (.inl rfl) rfl rfl rfl (fun hg => pk (fun _ => q_call Tryz.call15 (opsC (opT rfl hg) (opsC (opT rfl hg) (rfl))) (same50_ok _ _) _)) <| .P rfl (q_and rfl rfl) <| .mv rfl rfl <| .gT rfl (.inl rfl) rfl rfl rfl (fun hg => pk (fun _ => q_move rfl _)) <| .gT rfl (.inl rfl) rfl rfl rfl (fun hg => pk (fun _ => q_move rfl _)) <| .gT rfl (.inl rfl) rfl rfl rfl (fun hg => pk (fun _ => q_eql (opT rfl hg) (opT rfl hg) _)) <| .P rfl (q_and rfl rfl) <| .mv rfl rfl <| .gT rfl (.inl rfl) rfl rfl rfl (fun hg => pk (fun _ => q_move rfl _)) <| .gT rfl (.inl rfl) rfl rfl rfl (fun hg => pk (fun _ => q_call Tryz.call19 (opsC (opT rfl hg) (rfl)) (adjusting_ok l (by omega)) _)) <| .gT rfl (.inl rfl) rfl rfl rfl (fun hg => pk (fun _ => q_move rfl _)) <| .gT rfl (.inl rfl) rfl rfl rfl (fun hg => pk (fun _ => q_call Tryz.call38 (opsC (opT rfl hg) (rfl)) (refAdjusting_ok l (by omega)) _)) <| .gT rfl (.inl rfl) rfl rfl rfl (fun hg => pk (fun _ => q_call Tryz.call15 (opsC (opT rfl hg) (opsC (opT rfl hg) (rfl))) (same50_ok _ _) _)) ?_
  refine .P rfl (q_and rfl rfl) <| .mv rfl rfl <| .gT rfl (.inl rfl) rfl rfl rfl (fun hg => pk (fun _ => q_move rfl _)) <| .gT rfl (.inl rfl) rfl rfl rfl (fun hg => pk (fun _ => q_move rfl _)) <| .gT rfl (.inl rfl) rfl rfl rfl (fun hg => pk (fun _ => q_call Tryz.call39 (opsC (opT rfl hg) (opsC (opT rfl hg) (rfl))) (eqTerms_ok _ _) _)) <| .P rfl (q_and rfl rfl) <| .mv rfl rfl <| .gT rfl (.inl rfl) rfl rfl rfl (fun hg => pk (fun _ => q_move rfl _)) <| .gT rfl (.inl rfl) rfl rfl rfl (fun hg => pk (fun _ => q_move rfl _)) <| .gT rfl (.inl rfl) rfl rfl rfl (fun hg => pk (fun _ => q_eql (opT rfl hg) (opT rfl hg) _)) <| .P rfl (q_and rfl rfl) <| .mv rfl rfl <| .gT rfl (.inl rfl) rfl rfl rfl (fun hg => pk (fun _ => q_move rfl _)) <| .gT rfl (.inl rfl) rfl rfl rfl (fun hg => pk (fun _ => q_move rfl _)) <| .gT rfl (.inl rfl) rfl rfl rfl (fun hg => pk (fun _ => q_call Tryz.call40 (opsC (opT rfl hg) (opsC (opT rfl hg) (rfl))) (restSame_ok _ _) _)) <| .gT rfl (.inl rfl) rfl rfl rfl (fun hg => pk (fun _ => q_move rfl _)) <| .gT rfl (.inl rfl) rfl rfl rfl (fun hg => pk (fun _ => q_move rfl _)) <| .gT rfl (.inl rfl) rfl rfl rfl (fun hg => pk (fun _ => q_call Tryz.call15 (opsC (opT rfl hg) (opsC (opT rfl hg) (rfl))) (same50_ok _ _) _)) <| .gT rfl (.inl rfl) rfl rfl rfl (fun hg => pk (fun _ => q_eqlB Tryz.underlying4 (opT rfl hg) (opT rfl hg) _)) <| .P rfl (q_and rfl rfl) <| .mv rfl rfl <| .gT rfl (.inl rfl) rfl rfl rfl (fun hg => pk (fun _ => q_call Tryz.call12 rfl awake_ok _)) <| .P rfl (q_and rfl rfl) ?_
  refine .ag rfl rfl <| .nil ?_
  refine Run.ret (?_)
  exact ret1 rfl (Sub.bool (by first | rfl | simp))
end Go.T
namespace Go.T
open Go
def noO : Nat → Prop := fun _ => False
/-- What is read as data of the type is described by typed data. -/
structure Dec (P : Program) (t : TypeId) (α : Type) (enc : α → List D) : Prop where
 out : ∀ {H : Type} {eH : TypeId × Value → H} {w : World} {fuel : Nat} {cs : List Value} {x : DataW H × List MemPlace}, DataW.trod eH P w 0 (fun _ => true) true fuel t cs = some x → (∀ n ∈ x.1.weights P t, n ≤ reachBytes) →
  ∃ a : α, (∀ u ∈ cs, u.oneCell' = true) ∧ Vs w noO rho0 (enc a) cs
theorem Dec.int {P : Program} {t : TypeId} (ht : P.underlying t = some (.int .i64)) : Dec P t Int (fun n => [.i n]) := ⟨fun h _ => by
 obtain ⟨n, rfl, _, _⟩ := DataW.trod_int ht h
 exact ⟨n, by simp [Value.oneCell'], by simp [Vs, V]⟩⟩
theorem Dec.bool {P : Program} {t : TypeId} (ht : P.underlying t = some .bool) : Dec P t Bool (fun n => [.b n]) := ⟨fun h _ => by
 obtain ⟨n, rfl, _⟩ := DataW.trod_bool ht h
 exact ⟨n, by simp [Value.oneCell'], by simp [Vs, V]⟩⟩
theorem Dec.str {P : Program} {t : TypeId} (ht : P.underlying t = some .string) : Dec P t Str (fun n => [.str n]) := ⟨fun h hw => by
 obtain ⟨s, rfl, rfl, _⟩ := DataW.trod_string ht h
 have := hw s.data.toList.length (by simp [DataW.weights])
 refine ⟨s.data.toList, by simp [Value.oneCell'], ?_⟩
 simp only [Vs, V]
 refine ⟨_, _, rfl, ⟨by simp, ?_⟩, rfl⟩
 have := reachBytes_lt
 unfold big
 omega⟩
/-- The fields of a struct, from an offset on. -/
structure DecF (P : Program) (fs : List Field) (off : Nat) (α : Type) (enc : α → List D) : Prop where
 out : ∀ {H : Type} {eH : TypeId × Value → H} {w : World} {fuel : Nat} {cs : List Value} {xs : List (DataW H × List MemPlace)}, xs.length = fs.length →
  (∀ (i : Nat) (f : Field), fs[i]? = some f → DataW.trod eH P w 0 (fun _ => true) true fuel f.type ((cs.drop f.offset).take (P.cellsOf f.type)) = xs[i]?) → (∀ n ∈ DataW.weightsEach P (fs.map (·.type)) (xs.map (·.1)), n ≤ reachBytes) →
  ∃ a : α, (∀ u ∈ (cs.drop off).take ((fs.map fun f => P.cellsOf f.type).sum), u.oneCell' = true) ∧ Vs w noO rho0 (enc a) ((cs.drop off).take ((fs.map fun f => P.cellsOf f.type).sum))
theorem DecF.nil {P : Program} {off : Nat} : DecF P [] off Unit (fun _ => []) := ⟨fun _ _ _ => ⟨(), by simp, by simp [Vs]⟩⟩
theorem Vs.app {w : World} {O : Nat → Prop} {ρ : Rho} : ∀ {ds es : List D} {us vs : List Value}, Vs w O ρ ds us → Vs w O ρ es vs → Vs w O ρ (ds ++ es) (us ++ vs)
 | [], es, us, vs, h, h' => by simp only [Vs] at h; subst h; simpa using h'
 | d :: ds, es, us, vs, h, h' => by
  simp only [Vs] at h
  obtain ⟨u, us, rfl, h1, h2⟩ := h
  simp only [List.cons_append, Vs]
  exact ⟨_, _, rfl, h1, Vs.app h2 h'⟩
theorem DecF.cons {P : Program} {f : Field} {fs : List Field} {off n : Nat} {α β : Type} {enc : α → List D} {enc' : β → List D} (h1 : Dec P f.type α enc) (ho : f.offset = off) (hn : P.cellsOf f.type = n) (h2 : DecF P fs (off + n) β enc') : DecF P (f :: fs) off (α × β) (fun x => enc x.1 ++ enc' x.2) := ⟨fun {H eH w fuel cs xs} hl hr hw => by
 match xs, hl with
 | x :: xs, hl =>
  have hx := hr 0 f rfl
  simp only [List.map_cons, DataW.weightsEach, List.mem_append] at hw
  obtain ⟨a, ha, hva⟩ := h1.out (by simpa using hx) (fun n hn => hw n (.inl hn))
  obtain ⟨b, hb, hvb⟩ := h2.out (xs := xs) (by simpa using hl) (fun i g hg => by simpa using hr (i + 1) g (by simpa using hg)) (fun n hn => hw n (.inr hn))
  rw [ho, hn] at ha hva
  have e : (cs.drop off).take (((f :: fs).map fun f => P.cellsOf f.type).sum) = (cs.drop off).take n ++ (cs.drop (off + n)).take ((fs.map fun f => P.cellsOf f.type).sum) := by
   rw [List.map_cons, List.sum_cons, hn, List.take_add, List.drop_drop]
  rw [e]
  exact ⟨(a, b), fun u hu => (List.mem_append.1 hu).elim (ha u) (hb u), Vs.app hva hvb⟩⟩
theorem Dec.struct {P : Program} {t : TypeId} {fs : List Field} {α : Type} {enc : α → List D} (ht : P.underlying t = some (.struct fs.toArray)) (hc : P.cellsOf t = (fs.map fun f => P.cellsOf f.type).sum) (h : DecF P fs 0 α enc) : Dec P t α enc := ⟨fun {H eH w fuel cs x} hr hw => by
 obtain ⟨xs, n, _, rfl, hl, hlen, hf⟩ := DataW.trod_struct ht hr
 simp only [DataW.weights, ht, List.map_map] at hw
 obtain ⟨a, h1, h2⟩ := h.out (by simpa using hlen) (fun i f hi => hf i f (by simpa using hi)) (fun n hn => hw n (by simpa [Function.comp_def] using hn))
 have e : (cs.drop 0).take ((fs.map fun f => P.cellsOf f.type).sum) = cs := by
  rw [List.drop_zero, ← hc, ← hl, List.take_length]
 rw [e] at h1 h2
 exact ⟨a, h1, h2⟩⟩
theorem Dec.map {P : Program} {t : TypeId} {α β : Type} {enc : α → List D} {enc' : β → List D} (h : Dec P t α enc) (f : α → β) (he : ∀ a, enc' (f a) = enc a) : Dec P t β enc' := ⟨fun hr hw => by
 obtain ⟨a, h1, h2⟩ := h.out hr hw
 exact ⟨f a, h1, by rw [he]; exact h2⟩⟩
theorem Vs.toVc {w : World} {O : Nat → Prop} {b : Nat} : ∀ {ds : List D} {cs : List Value} {off : Nat}, Vs w O rho0 ds cs → (∀ u ∈ cs, u.oneCell' = true) → (∀ j u, cs[j]? = some u → w.cell? ⟨b, off + j, none⟩ = some u) → Vc w O b off ds
 | [], _, _, _, _, _ => by simp [Vc]
 | d :: ds, cs, off, h, h1, hc => by
  simp only [Vs] at h
  obtain ⟨u, us, rfl, h2, h3⟩ := h
  simp only [Vc]
  refine ⟨⟨u, ⟨by simpa using hc 0 u rfl, h1 u List.mem_cons_self⟩, h2⟩, Vs.toVc h3 (fun v hv => h1 v (List.mem_cons_of_mem _ hv)) (fun j v hj => ?_)⟩
  have := hc (j + 1) v (by simpa using hj)
  rwa [show off + (j + 1) = off + 1 + j by omega] at this
theorem cells_get {w : World} {a : Addr} {n : Nat} {cs : List Value} (h : w.cells? 0 a n = some cs) : cs.length = n ∧ ∀ j, j < n → w.cell? (a.add j) = cs[j]? := by
 unfold World.cells? at h
 rw [if_pos (Nat.zero_le _)] at h
 exact ⟨by simpa using mapM_some_length h, fun j hj => by simpa using mapM_some_get h j j (by simp [hj])⟩
theorem spot_none {w : World} {a : Addr} {u : Value} (h : w.cell? a = some u) : a.spot = none := by
 cases hsp : a.spot with
 | none => rfl
 | some s =>
  simp only [World.cell?] at h
  split at h
  ·simp [hsp] at h
  ·cases h
theorem Vr_of {w : World} {b sz : Nat} {α : Type} {enc : α → List D} : ∀ {l : List α} {off : Nat}, (∀ i a, l[i]? = some a → (enc a).length = sz ∧ Vc w noO b (off + i * sz) (enc a)) → Vr w noO b off sz (l.map enc)
 | [], _, _ => by simp [Vr]
 | a :: l, off, h => by
  simp only [List.map_cons, Vr]
  refine ⟨by simpa using h 0 a rfl, Vr_of fun i a' hi => ?_⟩
  have := h (i + 1) a' (by simpa using hi)
  rwa [show off + (i + 1) * sz = off + sz + i * sz by rw [Nat.add_mul]; omega] at this
theorem exists_list {α : Type} {p : Nat → α → Prop} : ∀ (n : Nat), (∀ i, i < n → ∃ a, p i a) → ∃ l : List α, l.length = n ∧ ∀ i a, l[i]? = some a → p i a
 | 0, _ => ⟨[], rfl, by simp⟩
 | n + 1, h => by
  obtain ⟨l, h1, h2⟩ := exists_list n (fun i hi => h i (by omega))
  obtain ⟨a, ha⟩ := h n (by omega)
  refine ⟨l ++ [a], by simp [h1], fun i a' hi => ?_⟩
  by_cases e : i < l.length
  ·rw [List.getElem?_append_left e] at hi; exact h2 i a' hi
  ·rw [List.getElem?_append_right (by omega)] at hi
   have : i = n := by
    by_cases e2 : i - l.length = 0
    ·omega
    ·simp [List.getElem?_cons, e2] at hi
   subst this
   simp [h1] at hi
   subst hi
   exact ha
theorem weightsAll_mem {H : Type} {P : Program} {e : TypeId} : ∀ {ds : List (DataW H)} {i : Nat} {d : DataW H}, ds[i]? = some d → ∀ n ∈ d.weights P e, n ∈ DataW.weightsAll P e ds
 | d0 :: ds, 0, d, h, n, hn => by
  simp only [List.getElem?_cons_zero, Option.some.injEq] at h
  subst h
  simp only [DataW.weightsAll, List.mem_append]
  exact .inl hn
 | d0 :: ds, i + 1, d, h, n, hn => by
  simp only [DataW.weightsAll, List.mem_append]
  exact .inr (weightsAll_mem (by simpa using h) n hn)
 | [], _, _, h, _, _ => by simp at h
theorem Dec.slice {P : Program} {t e : TypeId} {α : Type} {enc : α → List D} {sz k : Nat} (ht : P.underlying t = some (.slice e)) (hc : P.cellsOf e = sz) (hz : sz ≠ 0) (hb : P.bytesOf e = k + 1) (h : Dec P e α enc) (hl : ∀ a, (enc a).length = sz) : Dec P t (List α) (fun l => [.snap sz false (l.map enc)]) := ⟨fun {H eH w fuel cs x} hr hw => by
 rcases DataW.trod_slice ht hr with ⟨rfl, rfl⟩ | ⟨a, len, cap, elems, rest, n, rfl, rfl, rfl, _, hlc, hcap, hel, hget, hsp, _⟩
 ·refine ⟨[], by simp [Value.oneCell'], ?_⟩
  simp only [Vs, V, List.map_nil]
  exact ⟨_, _, rfl, ⟨none, 0, rfl, ⟨Nat.le_refl _, by simp⟩, by simp, by simp⟩, rfl⟩
 ·simp only [DataW.weights, ht, List.mem_cons, List.mem_append, hb] at hw
  have hlen : len ≤ big := by
   have h1 := hw _ (.inl rfl)
   simp only [List.length_map, hel] at h1
   have h2 := reachBytes_lt
   have h3 : len + rest.length ≤ (len + rest.length) * (k + 1) := Nat.le_mul_of_pos_right _ (by omega)
   unfold big
   omega
  have hq : ∀ i, i < len → ∃ y : α, (enc y).length = sz ∧ ∃ cs : List Value, cs.length = sz ∧ (∀ u ∈ cs, u.oneCell' = true) ∧ Vs w noO rho0 (enc y) cs ∧ ∀ j, j < sz → w.cell? ((a.add (i * sz)).add j) = cs[j]? := by
   intro i hi
   have hg := hget i hi
   rw [hc] at hg
   have hi' : i < elems.length := by omega
   rw [List.getElem?_eq_getElem hi'] at hg
   obtain ⟨cs, hcs, hg⟩ := Option.bind_eq_some_iff.1 hg
   obtain ⟨y, h1, h2⟩ := h.out hg (fun n hn => hw n (.inr (.inl (weightsAll_mem (i := i) (d := elems[i].1) (by simp [hi']) n hn))))
   obtain ⟨h3, h4⟩ := cells_get hcs
   exact ⟨y, hl y, cs, h3, h1, h2, h4⟩
  obtain ⟨l, hll, hp⟩ := exists_list len hq
  refine ⟨l, by simp [Value.oneCell'], ?_⟩
  simp only [Vs, V, List.length_map]
  refine ⟨_, _, rfl, ⟨some a, cap, by rw [hll], ⟨by omega, by omega⟩, by simp, fun hne => ?_⟩, rfl⟩
  have hpos : 0 < len := by
   cases l with
   | nil => simp at hne
   | cons _ _ => simp at hll; omega
  have h0 : ∃ u, w.cell? a = some u := by
   obtain ⟨y, _, cs, h1, _, _, h4⟩ := hq 0 hpos
   have h5 := h4 0 (by omega)
   have h6 : 0 < cs.length := by omega
   rw [List.getElem?_eq_getElem h6] at h5
   exact ⟨cs[0], by simpa [Addr.add] using h5⟩
  obtain ⟨u, hu⟩ := h0
  have hs := spot_none hu
  obtain ⟨b, off, sp⟩ := a
  simp only at hs
  subst hs
  refine ⟨b, off, rfl, ⟨cell_lt hu, fun h => h⟩, Vr_of fun i y hi => ?_⟩
  obtain ⟨g1, cs, g2, g3, g4, g5⟩ := hp i y hi
  refine ⟨g1, Vs.toVc g4 g3 fun j v hj => ?_⟩
  have hj' : j < sz := by
   have := (List.getElem?_eq_some_iff.1 hj).1
   omega
  rw [← hj, ← g5 j hj']
  congr 1
  unfold Addr.add
  by_cases e1 : i * sz = 0 <;> by_cases e2 : j = 0 <;> simp [e1, e2]⟩
end Go.T
namespace Go.T
open Go Go.ChangeShapes Go.WideShapes Go.RowKit Go.ChangeAt
structure DecL (P : Program) (ts : List TypeId) (α : Type) (enc : α → List D) : Prop where
 out : ∀ {H : Type} {eH : TypeId × Value → H} {w : World} {base : Nat} {vs : List Value} {ds : List (DataW H)} {p : List MemPlace}, DataW.TrodAll eH P w 0 (fun _ => true) true ts vs ds p →
  (∀ (j : Nat) t v, ts[j]? = some t → vs[j]? = some v → Value.okWide P w .any base t v) → (∀ n ∈ DataW.weightsEach P ts ds, n ≤ reachBytes) → ∃ a : α, Vs w noO rho0 (enc a) vs
def OneTy (P : Program) (t : TypeId) : Prop := ∀ w base v, Value.okWide P w .any base t v → v.cells.toList = [v]
theorem OneTy.slice {P : Program} {t e : TypeId} (ht : P.underlying t = some (.slice e)) : OneTy P t := fun w base v h => by
 obtain ⟨a, l, c, rfl⟩ := okWide_slice ht h; rfl
theorem OneTy.str {P : Program} {t : TypeId} (ht : P.underlying t = some .string) : OneTy P t := fun w base v h => by
 obtain ⟨a, rfl⟩ := okWide_string ht h; rfl
theorem OneTy.int {P : Program} {t : TypeId} {k : IntKind} (ht : P.underlying t = some (.int k)) : OneTy P t := fun w base v h => by
 obtain ⟨a, rfl⟩ := okWide_int ht h; rfl
theorem DecL.nil {P : Program} : DecL P [] Unit (fun _ => []) := ⟨fun {H eH w base vs ds p} h _ _ => by
 match vs, ds, h with
 | [], [], _ => exact ⟨(), by simp [Vs]⟩⟩
theorem DecL.cons {P : Program} {t : TypeId} {ts : List TypeId} {α β : Type} {e : α → D} {enc : β → List D} (h1 : Dec P t α (fun a => [e a])) (ho : OneTy P t) (h2 : DecL P ts β enc) : DecL P (t :: ts) (α × β) (fun x => e x.1 :: enc x.2) := ⟨fun {H eH w base vs ds p} h hv hw => by
 match vs, ds, h with
 | v :: vs, d :: ds, ⟨p1, q1, ⟨fuel, hf⟩, h4, _⟩ =>
  simp only [DataW.weightsEach, List.mem_append] at hw
  obtain ⟨b, hb⟩ := h2.out h4 (fun j t v ht hv' => hv (j + 1) t v (by simpa using ht) (by simpa using hv')) (fun n hn => hw n (.inr hn))
  rw [ho w base v (hv 0 t v rfl rfl)] at hf
  obtain ⟨a, _, ha⟩ := h1.out hf (fun n hn => hw n (.inl hn))
  simp only [Vs] at ha
  obtain ⟨u, us, e1, ha, rfl⟩ := ha
  cases e1
  exact ⟨(a, b), v, vs, rfl, ha, hb⟩⟩
theorem Keep.keptBut {w w' : World} (h : Keep w w') (may : MemPlace → Prop) : w.keptBut w' may := by
 refine ⟨h.os.1, h.os.2.1, fun i hi => ?_⟩
 rw [h.same i hi]
 split <;> simp_all
theorem Keep.sameAt {w w' : World} (h : Keep w w') {p : MemPlace} (hp : p.block < w.heap.size) : w.sameAt w' p := by
 cases p with
 | cell b off =>
  simp only [MemPlace.block] at hp
  simp [World.sameAt, World.cell?, h.same b hp]
 | map b => exact h.same b hp
theorem trodAll_keep {H : Type} {eH : TypeId × Value → H} {P : Program} {w w' : World} {sp : Nat → Bool} (hk : Keep w w') : ∀ {ts : List TypeId} {vs : List Value} {ds : List (DataW H)} {p : List MemPlace}, DataW.TrodAll eH P w 0 sp true ts vs ds p → (∀ x ∈ p, x.block < w.heap.size) → DataW.TrodAll eH P w' 0 sp true ts vs ds p
 | [], vs, ds, p, h, _ => by
  match vs, ds, h with
  | [], [], h => exact h
 | t :: ts, vs, ds, p, h, hp => by
  match vs, ds, h with
  | v :: vs, d :: ds, ⟨p1, q1, ⟨fuel, hf⟩, h4, e⟩ =>
   subst e
   exact ⟨p1, q1, ⟨fuel, DataW.trod_carry _ _ _ _ hf fun x hx => hk.sameAt (hp x (List.mem_append_left _ hx))⟩, trodAll_keep hk h4 (fun x hx => hp x (List.mem_append_right _ hx)), rfl⟩
theorem trodAll_len {H : Type} {eH : TypeId × Value → H} {P : Program} {w : World} {sp : Nat → Bool} : ∀ {ts : List TypeId} {vs : List Value} {ds : List (DataW H)} {p : List MemPlace}, DataW.TrodAll eH P w 0 sp true ts vs ds p → ds.length = ts.length
 | [], vs, ds, p, h => by
  match vs, ds, h with
  | [], [], h => rfl
 | t :: ts, vs, ds, p, h => by
  match vs, ds, h with
  | v :: vs, d :: ds, ⟨p1, q1, _, h4, e⟩ => simp [trodAll_len h4]
theorem law_contract {P : Program} {f : FuncId} {fn : Func} {s : ChangeSpec} {α : Type} {encs : α → List D} {tb : TypeId}
  (hkids : Kids P (· < P.types.size)) (hfull : ∀ t e, t < P.types.size → P.underlying t = some (.slice e) → 0 < P.cellsOf e)
  (hts : ∀ t ∈ fn.params.toList, t < P.types.size) (hvars : s.vars = []) (hres : fn.resultTypes = #[tb]) (hb : P.underlying tb = some .bool)
  (hsp : ∀ (H : Type) (ds : List (DataW H)), ds.length = fn.params.size → s.fn H ds = { results := [.lit (.bool true)], args := ds })
  (hdec : DecL P fn.params.toList α encs) (hlaw : ∀ a, Fc P f (encs a) (.b true))
  {H : Type} {enc : TypeId × Value → H} {W : World} {base : Nat} {args : Array Value} {ds gs : List (DataW H)} {before : List MemPlace}
  (hval : ∀ (j : Nat) t v, fn.params[j]? = some t → args[j]? = some v → Value.okWide P W .any base t v)
  (hW : DataW.Whole enc P fn.params.toList s.vars false W args.toList ds gs before)
  (hsz : (DataW.weightsEach P (fn.params.toList ++ s.plain.varTypes P) (ds ++ gs)).all (· ≤ reachBytes) = true) (hgl : Gl W noO) :
  Calls P f args W fun e W' => ∃ v, e = .returned v ∧ s.post enc P fn false true false false W args v W' := by
 have hW' := hW
 obtain ⟨p, q, hA, hV, rfl, _, _⟩ := hW
 rw [hvars] at hV
 obtain ⟨rfl, rfl⟩ := trodVars_none hV
 have hvt : s.plain.varTypes P = [] := by simp [ChangeSpec.plain, DataSpec.varTypes, hvars]
 rw [hvt, List.append_nil, List.append_nil] at hsz
 obtain ⟨a, ha⟩ := hdec.out hA (fun j t v ht hv => hval j t v (by simpa using ht) (by simpa using hv)) (fun n hn => by simpa using List.all_eq_true.1 hsz n hn)
 have hlen := trodAll_len hA
 have hlt : ∀ x ∈ p, x.block < W.heap.size := fun x hx => hA.lt x hx
 refine ((hlaw a).out W noO rho0 args.toList (fun b h => h.elim) hgl ha).mono ?_
 rintro e W' ⟨v, rfl, hv, hk⟩
 simp only [V] at hv
 subst hv
 have hf : s.fn H (ds ++ []) = { results := [.lit (.bool true)], args := ds } := by rw [List.append_nil]; exact hsp H ds (by simpa using hlen)
 refine ⟨_, rfl, ds, [], p ++ [], [], p, [], hW', ?_, ?_, ?_, hk.keptBut _, fun h => by cases h⟩
 ·rw [hf, hres]
  exact trodAll_mk1 (shut_bool hb _)
 ·rw [hf]
  exact DataW.TrodAll.respare hkids hfull hts (trodAll_keep hk hA hlt) (fun x hx => by simpa using hlt x hx)
 ·rw [hf, hvars]
  rfl
/-- A table of integers that is listed: its block. -/
theorem laid_cells {P : Program} {W : World} {n : String} {k : IntKind} {zs : List Int} {rest : List (String × DataW Unit)} {g t e : Nat} (hg : P.globalNamed n = some g) (ht : (P.globals[g]?).map (·.type) = some t) (hu : P.underlying t = some (.array zs.length e)) (he : P.underlying e = some (.int k)) (hce : P.cellsOf e = 1) (hct : P.cellsOf t = zs.length)
  (pre : List (String × DataW Unit)) (hL : laidMet P (pre ++ (n, .agg (zs.map fun z => .lit (.int k z))) :: rest) W) : ∃ T fr, W.heap[g]? = some (.cells (zs.map fun z => Value.int k z).toArray T fr) := by
 obtain ⟨ps, h, hx⟩ := hL
 clear hx
 induction pre generalizing ps with
 | cons x pre ih =>
  obtain ⟨_, _, _, _, _, q, _, _, _, _, h, _⟩ := h
  exact ih q h
 | nil =>
  obtain ⟨g', t', cs, fuel, p, q, hg', ht', hv, hd, _⟩ := h
  obtain rfl := Option.some.inj (hg.symm.trans hg')
  obtain rfl := Option.some.inj (ht.symm.trans ht')
  obtain ⟨xs, m, _, ex, hcl, hl, hel⟩ := DataW.trod_array hu hd
  have e3 : xs.map (·.1) = zs.map fun z => .lit (.int k z) := (DataW.agg.inj (Prod.mk.inj ex).1).symm
  have key : cs = (zs.map fun z => Value.int k z).toArray := by
   apply Array.ext'
   apply List.ext_getElem?
   intro r
   by_cases hr : r < zs.length
   ·have hE := hel r hr
    rw [hce, Nat.mul_one, List.getElem?_eq_getElem (by omega)] at hE
    obtain ⟨z, e1, e2, _⟩ := DataW.trod_int he hE
    have e4 : (xs.map (·.1))[r]? = (zs.map fun n => (DataW.lit (.int k n) : DataW Unit))[r]? := by rw [e3]
    rw [List.getElem?_map, List.getElem?_map, List.getElem?_eq_getElem (by omega : r < xs.length), List.getElem?_eq_getElem hr, e2] at e4
    simp only [Option.map_some, Option.some.injEq, DataW.lit.injEq, Lit.int.injEq, true_and] at e4
    have h0 : ((cs.toList.drop r).take 1)[0]? = some (.int k z) := by rw [e1]; rfl
    have h1 : cs.toList[r]? = some (.int k z) := by simpa using h0
    rw [h1, List.toList_toArray, List.getElem?_map, List.getElem?_eq_getElem hr, e4]; rfl
   ·have : cs.toList.length = zs.length := by rw [hcl, hct]
    rw [List.getElem?_eq_none (by omega), List.getElem?_eq_none (by simp; omega)]
  simp only [World.var?, hg, Option.bind_some] at hv
  split at hv
  ·rename_i c T fr hb
   cases hv
   exact ⟨T, fr, by rw [hb, key]⟩
  ·cases hv
end Go.T
namespace Go.T
open Go Go.Proofs Go.ChangeShapes Go.WideShapes Go.RowKit Go.ChangeAt
set_option maxRecDepth 100000
theorem tz_kids : Kids Tryz.prog (· < Tryz.prog.types.size) := kids_rows (by kernel_rfl) (by kernel_rfl)
theorem tz_full : ∀ t e, t < Tryz.prog.types.size → Tryz.prog.underlying t = some (.slice e) → 0 < Tryz.prog.cellsOf e := slices_full_of Tryz.prog (by kernel_rfl)
theorem tz_own : ownKnob Tryz.prog.godebug = none := by kernel_rfl
theorem tz_size : Tryz.prog.types.size = 337 := by kernel_rfl
theorem d_day : Dec Tryz.prog 34 Int (fun n => [.i n]) := .int Tryz.underlying34
theorem d_int : Dec Tryz.prog 3 Int (fun n => [.i n]) := .int Tryz.underlying3
theorem d_str : Dec Tryz.prog 9 Str (fun n => [.str n]) := .str Tryz.underlying9
theorem c3 : Tryz.prog.cellsOf 3 = 1 := by kernel_rfl
theorem c9 : Tryz.prog.cellsOf 9 = 1 := by kernel_rfl
theorem c54 : Tryz.prog.cellsOf 54 = 1 := by kernel_rfl
theorem c35 : Tryz.prog.cellsOf 35 = 1 := by kernel_rfl
theorem c37 : Tryz.prog.cellsOf 37 = 3 := by kernel_rfl
theorem c34 : Tryz.prog.cellsOf 34 = 1 := by kernel_rfl
theorem d_line : Dec Tryz.prog 92 Line encLine :=
 (Dec.struct Tryz.underlying92 (by kernel_rfl) (.cons d_str rfl c9 (.cons d_str rfl c9 (.cons (.str Tryz.underlying54) rfl c54 .nil)))).map (fun x => ⟨x.1, x.2.1, x.2.2.1⟩) (fun a => rfl)
theorem d_lines : Dec Tryz.prog 35 (List Line) (fun l => [sLines l]) := .slice (sz := 3) (k := 47) Tryz.underlying35 (by kernel_rfl) (by decide) (by kernel_rfl) d_line (fun _ => rfl)
theorem d_entry : Dec Tryz.prog 37 Entry encEntry :=
 (Dec.struct Tryz.underlying37 (by kernel_rfl) (.cons d_day rfl c34 (.cons d_str rfl c9 (.cons d_lines rfl c35 .nil)))).map (fun x => ⟨x.1, x.2.1, x.2.2.1⟩) (fun a => rfl)
theorem d_posted : Dec Tryz.prog 39 Posted encPosted :=
 (Dec.struct Tryz.underlying39 (by kernel_rfl) (.cons d_day rfl c34 (.cons d_int rfl c3 (.cons d_str rfl c9 (.cons d_entry rfl c37 .nil))))).map (fun x => ⟨x.1, x.2.1, x.2.2.1, x.2.2.2.1⟩) (fun a => rfl)
theorem d_posteds : Dec Tryz.prog 27 (List Posted) (fun l => [sPosteds l]) := .slice (sz := 6) (k := 79) Tryz.underlying27 (by kernel_rfl) (by decide) (by kernel_rfl) d_posted (fun _ => rfl)
def laidL : List (String × DataW Unit) := Go.Proofs.YtlhemheagekhaaaGreatDoor.Rows.restateStepRow.laid
theorem gl_of {W : World} (h : laidMetH Tryz.prog laidL W) : Gl W noO := by
 rw [MakeChecks.laidMetH_plain _ _ _ (by kernel_rfl)] at h
 intro g vs hm
 simp only [gtab, List.mem_singleton, Prod.mk.injEq] at hm
 obtain ⟨rfl, rfl⟩ := hm
 refine ⟨?_, fun h => h⟩
 have := laid_cells (P := Tryz.prog) (W := W) (n := "internal/strconv.uint64pow10") (k := .u64) (zs := pow10s.map fun (n : Nat) => (n : Int)) (g := 2) (t := 298) (e := 171) (by kernel_rfl) (by kernel_rfl) Tryz.underlying298 Tryz.underlying171 (by kernel_rfl) (by kernel_rfl) (laidL.take 2) (rest := laidL.drop 3) h
 simpa [Function.comp_def] using this
end Go.T
