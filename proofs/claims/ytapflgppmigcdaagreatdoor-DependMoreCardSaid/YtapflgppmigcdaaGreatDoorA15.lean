/-
  Contracts of the functions that the statement reaches, and the logic in which they are proved (no condition): parts W94, SpecD12, W95, W96, LayD, Core34, Core52, Core53, SpecD13, SpecD14, W97, W98, Core54, Core55.
-/
import Derived.Test.YtapflgppmigcdaaGreatDoorA14
import Derived.Shelf.SlicesE.DeleteFunc
import Derived.Lib.RowBridge
set_option linter.all false
namespace Go.T
open Go Go.Proofs Go.Proofs.Tryz
set_option maxRecDepth 20000
structure chkFact_okN_L0 (f : Fact) (vw : Str) (vc : Int) (vh : Nat → Bool) (vcode : Bool) (r : KindRow) where
 pre : List Int
 rest : List Int
 hx : fldL = pre ++ rest
 hp : chkFact f = fieldsFrom f r rest
structure chkFact_okM_L0 (f : Fact) (vw : Str) (vc : Int) (vh : Nat → Bool) (m : NumM) (vcode : Bool) (r : KindRow) where
 pre : List Int
 rest : List Int
 hx : fldL = pre ++ rest
 hp : chkFact f = fieldsFrom f r rest
theorem chkFact_ok (f : Fact) (hf : factOK f) : Fc Tryz.prog 44 [.agg (encFact f)] (.i (chkFact f)) := by
 refine Fc.mk' [2] func44 rfl ntmps44 rfl rfl rfl (fun t w => results_tmp results44 t _ w) ?_
 refine go [11, 17] ?_
 refine oP (qCa call86 rfl (name_ok _)) ?_
 refine br (fun h1 => ?_) (fun h1 => ?_)
 ·exact rx1 rfl (Sub.int (by unfold chkFact; exact iT h1))
 ·refine br (fun h2 => ?_) (fun h2 => ?_)
  ·exact rx1 rfl (Sub.int (by (unfold chkFact; exact iF h1 (iT h2))))
  ·refine br (fun h3 => ?_) (fun h3 => ?_)
   ·refine oP (qCa call76 rfl (Fc.sub (same_ok f (voidF f)) (voidSub f))) ?_
    refine br (fun h4 => ?_) (fun h4 => ?_)
    ·exact rx1 rfl (Sub.int (by (unfold chkFact; exact iF h1 (iF h2 (iT2 h3 (iT h4))))))
    ·exact rx1 rfl (Sub.int (by (unfold chkFact; exact iF h1 (iF h2 (iT2 h3 (iF h4 rfl))))))
   ·refine br (fun h5 => ?_) (fun h5 => ?_)
    ·exact rx1 rfl (Sub.int (by (unfold chkFact; exact iF h1 (iF h2 (iF h3 (iT h5))))))
    ·refine Run.weak (Le.freezeB 1 0 rfl rfl rfl rfl) ?_
     refine Run.regN (A := fun v => KZ f.kind v) (env1 := fun _ => [(1, .iptr (encFact f)), (3, .box 1 0), (4, .b (kindRow f.kind).isSome)]) (obs1 := fun v => [(1, .cells (encKind v.w v.c v.h (numD v.num) v.code))]) (InvC f) Tryz_mixed (by decide +kernel) ?_ ?_ ?_ ?_
     ·exact invC0 rfl rfl
     ·exact ⟨(fun _ _ _ hs hI hl hd => by
    skip
    exact pureC hs (by decide +kernel) hI rfl rfl rfl rfl rfl rfl (fun m hm => ⟨m, hm, rfl⟩) (q_callE call87 rfl kinds_ok _)),
   (fun _ _ _ hs hI hl hd => by
    skip
    exact pureC hs (by decide +kernel) hI rfl rfl rfl rfl rfl rfl (fun _ _ => rfl) (QStep.toN (q_fieldI (n := 0) 3 4 underlying39 sizeOf3 rfl (by exact hI.b1) rfl _))),
   (fun _ _ _ hs hI hl hd => by
    obtain ⟨_, e34, rfl⟩ := hI.envi 1 34 (dp hd 1 (by decide +kernel)) rfl
    exact pureC hs (by decide +kernel) hI rfl rfl rfl rfl rfl rfl (fun _ _ => rfl) (QStep.toN (qLo isAgg3 (by exact e34) _))),
   (fun _ _ _ hs hI hl hd => by
    obtain ⟨_, e33, mm, hA, rfl⟩ := hI.envi 0 33 (dp hd 0 (by decide +kernel)) rfl
    obtain ⟨_, e35, rfl⟩ := hI.envi 2 35 (dp hd 2 (by decide +kernel)) rfl
    obtain ⟨hk1, hk2⟩ := kind_look hA.1 hA.2 f.kind
    exact pureC hs (by decide +kernel) hI rfl rfl rfl rfl rfl rfl (fun _ _ => ⟨_, hk1, by rw [← hk2]⟩) (QStep.toN (q_lookupOkI kindKey (vD := kindD) (m := mm) (k := f.kind) (d := zKind) underlying123 zeroValue121 kindZ (by exact e33) rfl (by exact e35) rfl))),
   (fun _ _ _ hs hI hl hd => by
    obtain ⟨_, e36, v, hv, rfl⟩ := hI.envi 3 36 (dp hd 3 (by decide +kernel)) rfl
    exact pureC hs (by decide +kernel) hI rfl rfl rfl rfl rfl rfl (fun _ _ => ⟨v, hv, rfl⟩) (QStep.toN (qMv (by exact e36) _))),
   (fun _ _ _ hs hI hl hd => by
    obtain ⟨_, e32, v, hv, rfl⟩ := hI.envi 4 32 (dp hd 4 (by decide +kernel)) rfl
    exact pureC hs (by decide +kernel) hI rfl rfl rfl rfl rfl rfl (fun _ _ => ⟨v, hv, rfl⟩) (QStep.toN (qEx (by exact e32) rfl _))),
   (fun _ _ _ hs hI hl hd => by
    obtain ⟨_, e32, v, hv, rfl⟩ := hI.envi 4 32 (dp hd 4 (by decide +kernel)) rfl
    exact pureC hs (by decide +kernel) hI rfl rfl rfl rfl rfl rfl (fun _ _ => rfl) (QStep.toN (qEx (by exact e32) rfl _))),
   (fun _ _ _ hs hI hl hd => by
    skip
    exact allocC hs (by decide +kernel) hI hl rfl rfl rfl rfl rfl rfl rfl (fun hno => q_alloc 1 zeroValue121 hno)),
   (fun _ _ _ hs hI hl hd => by
    obtain ⟨_, e37, v, hv, rfl⟩ := hI.envi 5 37 (dp hd 5 (by decide +kernel)) rfl
    obtain ⟨_, e3, rfl⟩ := hI.envi 7 3 (dp hd 7 (by decide +kernel)) rfl
    exact storeC (v := v) hs (by decide +kernel) hI hl (dp hd 7 (by decide +kernel)) rfl rfl rfl hv (fun ds h1 h2 => q_storeW sizeOf121 (by exact e3) (by exact e37) rfl (by obtain ⟨w, c, h, nu, code⟩ := v; cases nu <;> rfl) h2 h1)),
   (fun _ _ _ hs hI hl hd => by
    obtain ⟨_, e38, rfl⟩ := hI.envi 6 38 (dp hd 6 (by decide +kernel)) rfl
    exact pureC hs (by decide +kernel) hI rfl rfl rfl rfl rfl rfl (fun _ _ => rfl) (QStep.toN (q_assign (by exact e38) _))), trivial⟩
     ·intro listed e ob hs hall hI; exact endC hall hI
     ·rintro ⟨vw, vc, vh, _ | m, vcode⟩ hv
      ·show Run _ _ _ _ [(1, .iptr (encFact f)), (3, .box 1 0), (4, .b (kindRow f.kind).isSome)] [(1, .cells (encKind vw vc vh (D.raw (.map none)) vcode))]
       refine go [11, 17] ?_
       refine br (fun h6 => ?_) (fun h6 => ?_)
       ·exact rx1 rfl (Sub.int (by exact (chk_7 h6).trans (chk_5 h1 h2 h3 h5).symm))
       ·obtain ⟨r, hr⟩ := row_of h6
        have hk := kz_ok hv hr
        have hh : ∀ j, vh j = hasR r j := kok_h hk hr
        refine Run.loop (ι := chkFact_okN_L0 f vw vc vh vcode r) (fun sx => [(1, .iptr (encFact f)), (3, .box 1 0), (41, .i sx.pre.length)]) (fun sx => [(1, .cells (encKind vw vc vh (D.raw (.map none)) vcode))]) (fun sx => sx.rest.length) ⟨[], _, rfl, (chk_5 h1 h2 h3 h5).trans (chk_r hr)⟩ ?_ ?_
        ·exact Le.mk rfl (.s rfl rfl (.s rfl rfl (.s rfl rfl .nil))) (.cons rfl rfl .nil)
        ·rintro ⟨pre, rest, hx, hp⟩
         show Run _ _ _ _ [(1, .iptr (encFact f)), (3, .box 1 0), (41, .i pre.length)] [(1, .cells (encKind vw vc vh (D.raw (.map none)) vcode))]
         rcases rest with _ | ⟨x, rest⟩
         ·have hl := congrArg List.length hx
          simp only [List.length_append, List.length_cons, List.length_nil] at hl
          refine go [11, 17] ?_
          refine brF (by simp; omega) ?_
          refine go [11, 17] ?_
          exact rx1 rfl (Sub.int (by exact hp.symm))
         ·obtain ⟨e9, h13⟩ := fld_at hx
          subst e9
          refine go [11, 17] ?_
          refine brT (by simp; omega) ?_
          refine Run.reg [.p, .p, .p, .r] ?_
          refine .mv rfl rfl <| .P rfl (q_fieldB (n := 12) 118 2 underlying121 sizeOf118 rfl rfl) <| .P rfl (q_indexBA (o2 := 2 + pre.length) underlying118 sizeOf4 rfl rfl (by omega) (by omega) (by omega)) <| .R rfl (q_load1 isAgg4 rfl rfl (encKind_getN (by omega))) <| .nil ?_
          refine go [11, 17] ?_
          refine br (fun h7 => ?_) (fun h7 => ?_)
          ·refine oP (qCa call88 rfl (field_ok (v := ⟨vw, vc, vh, none, vcode⟩) hf hk hr (n := (pre.length : Int)) (by omega) (by omega) (by rw [Int.toNat_natCast, ← hh]; assumption))) ?_
           refine br (fun h8 => ?_) (fun h8 => ?_)
           ·exact rx1 rfl (Sub.int (by exact fields_1 hp (by rw [Int.toNat_natCast, ← hh]; assumption) (by assumption)))
           ·refine go [11, 17] ?_
            refine sd (w64 (by omega)) ?_
            exact nx ⟨pre ++ [(pre.length : Int)], rest, by simp [hx], by exact fields_2 hp (by rw [Int.toNat_natCast, ← hh]; assumption) (by assumption)⟩ (by simp) (Le.mk rfl (.s rfl rfl (.s rfl rfl (.cons rfl (Sub.int (by simp)) rfl .nil))) (.cons rfl rfl .nil))
          ·refine oP (qCa call89 rfl (empty_ok f (pre.length : Int) (by omega) (by omega))) ?_
           refine br (fun h9 => ?_) (fun h9 => ?_)
           ·exact rx1 rfl (Sub.int (by exact fields_3 hp (by rw [Int.toNat_natCast, ← hh]; assumption) (by assumption)))
           ·refine go [11, 17] ?_
            refine sd (w64 (by omega)) ?_
            exact nx ⟨pre ++ [(pre.length : Int)], rest, by simp [hx], by exact fields_4 hp (by rw [Int.toNat_natCast, ← hh]; assumption) (by assumption)⟩ (by simp) (Le.mk rfl (.s rfl rfl (.s rfl rfl (.cons rfl (Sub.int (by simp)) rfl .nil))) (.cons rfl rfl .nil))
      ·show Run _ _ _ _ [(1, .iptr (encFact f)), (3, .box 1 0), (4, .b (kindRow f.kind).isSome)] [(1, .cells (encKind vw vc vh (imapN m) vcode))]
       refine go [11, 17] ?_
       refine br (fun h10 => ?_) (fun h10 => ?_)
       ·exact rx1 rfl (Sub.int (by exact (chk_7 h10).trans (chk_5 h1 h2 h3 h5).symm))
       ·obtain ⟨r, hr⟩ := row_of h10
        have hk := kz_ok hv hr
        have hh : ∀ j, vh j = hasR r j := kok_h hk hr
        refine Run.loop (ι := chkFact_okM_L0 f vw vc vh m vcode r) (fun sx => [(1, .iptr (encFact f)), (3, .box 1 0), (41, .i sx.pre.length)]) (fun sx => [(1, .cells (encKind vw vc vh (imapN m) vcode))]) (fun sx => sx.rest.length) ⟨[], _, rfl, (chk_5 h1 h2 h3 h5).trans (chk_r hr)⟩ ?_ ?_
        ·exact Le.mk rfl (.s rfl rfl (.s rfl rfl (.s rfl rfl .nil))) (.cons rfl rfl .nil)
        ·rintro ⟨pre, rest, hx, hp⟩
         show Run _ _ _ _ [(1, .iptr (encFact f)), (3, .box 1 0), (41, .i pre.length)] [(1, .cells (encKind vw vc vh (imapN m) vcode))]
         rcases rest with _ | ⟨x, rest⟩
         ·have hl := congrArg List.length hx
          simp only [List.length_append, List.length_cons, List.length_nil] at hl
          refine go [11, 17] ?_
          refine brF (by simp; omega) ?_
          refine go [11, 17] ?_
          exact rx1 rfl (Sub.int (by exact hp.symm))
         ·obtain ⟨e9, h13⟩ := fld_at hx
          subst e9
          refine go [11, 17] ?_
          refine brT (by simp; omega) ?_
          refine Run.reg [.p, .p, .p, .r] ?_
          refine .mv rfl rfl <| .P rfl (q_fieldB (n := 12) 118 2 underlying121 sizeOf118 rfl rfl) <| .P rfl (q_indexBA (o2 := 2 + pre.length) underlying118 sizeOf4 rfl rfl (by omega) (by omega) (by omega)) <| .R rfl (q_load1 isAgg4 rfl rfl (encKind_getN (by omega))) <| .nil ?_
          refine go [11, 17] ?_
          refine br (fun h11 => ?_) (fun h11 => ?_)
          ·refine oP (qCa call88 rfl (field_ok (v := ⟨vw, vc, vh, some m, vcode⟩) hf hk hr (n := (pre.length : Int)) (by omega) (by omega) (by rw [Int.toNat_natCast, ← hh]; assumption))) ?_
           refine br (fun h12 => ?_) (fun h12 => ?_)
           ·exact rx1 rfl (Sub.int (by exact fields_1 hp (by rw [Int.toNat_natCast, ← hh]; assumption) (by assumption)))
           ·refine go [11, 17] ?_
            refine sd (w64 (by omega)) ?_
            exact nx ⟨pre ++ [(pre.length : Int)], rest, by simp [hx], by exact fields_2 hp (by rw [Int.toNat_natCast, ← hh]; assumption) (by assumption)⟩ (by simp) (Le.mk rfl (.s rfl rfl (.s rfl rfl (.cons rfl (Sub.int (by simp)) rfl .nil))) (.cons rfl rfl .nil))
          ·refine oP (qCa call89 rfl (empty_ok f (pre.length : Int) (by omega) (by omega))) ?_
           refine br (fun h13 => ?_) (fun h13 => ?_)
           ·exact rx1 rfl (Sub.int (by exact fields_3 hp (by rw [Int.toNat_natCast, ← hh]; assumption) (by assumption)))
           ·refine go [11, 17] ?_
            refine sd (w64 (by omega)) ?_
            exact nx ⟨pre ++ [(pre.length : Int)], rest, by simp [hx], by exact fields_4 hp (by rw [Int.toNat_natCast, ← hh]; assumption) (by assumption)⟩ (by simp) (Le.mk rfl (.s rfl rfl (.s rfl rfl (.cons rfl (Sub.int (by simp)) rfl .nil))) (.cons rfl rfl .nil))
end Go.T
namespace Go.T
open Go
abbrev UM := List (Str × Str)
def keysU (u : UM) : List Str := u.map (·.1)
def addU (u : UM) (x : Str) : UM := if hasG u x = true then u else setG u x x
structure Forest (u : UM) (rep : Str → Str) (rk : Str → Nat) : Prop where
 val : ∀ x ∈ keysU u, getG [] u x ∈ keysU u
 step : ∀ x ∈ keysU u, getG [] u x ≠ x → rep x = rep (getG [] u x) ∧ rk (getG [] u x) < rk x
 stop : ∀ x ∈ keysU u, getG [] u x = x → rep x = x
theorem Forest.rep_key {u : UM} {rep : Str → Str} {rk : Str → Nat} (h : Forest u rep rk) : ∀ (n : Nat) (x : Str), rk x = n → x ∈ keysU u → rep x ∈ keysU u ∧ getG [] u (rep x) = rep x := by
 intro n
 induction n using Nat.strongRecOn with
 | _ n ih =>
  intro x hn hx
  by_cases e : getG [] u x = x
  ·rw [h.stop x hx e]; exact ⟨hx, e⟩
  ·obtain ⟨h1, h2⟩ := h.step x hx e
   rw [h1]
   exact ih _ (hn ▸ h2) _ rfl (h.val x hx)
theorem Forest.uniq {u : UM} {rep rep' : Str → Str} {rk rk' : Str → Nat} (h : Forest u rep rk) (h' : Forest u rep' rk') : ∀ (n : Nat) (x : Str), rk x = n → x ∈ keysU u → rep x = rep' x := by
 intro n
 induction n using Nat.strongRecOn with
 | _ n ih =>
  intro x hn hx
  by_cases e : getG [] u x = x
  ·rw [h.stop x hx e, h'.stop x hx e]
  ·obtain ⟨h1, h2⟩ := h.step x hx e
   rw [h1, (h'.step x hx e).1]
   exact ih _ (hn ▸ h2) _ rfl (h.val x hx)
def GoodU (u : UM) : Prop := ∃ p : (Str → Str) × (Str → Nat), Forest u p.1 p.2
open Classical in
noncomputable def rootU (u : UM) (x : Str) : Str := if h : GoodU u then (Classical.choose h).1 x else x
theorem rootU_eq {u : UM} {rep : Str → Str} {rk : Str → Nat} (h : Forest u rep rk) {x : Str} (hx : x ∈ keysU u) : rootU u x = rep x := by
 have hg : GoodU u := ⟨(rep, rk), h⟩
 unfold rootU
 rw [dif_pos hg]
 exact ((Classical.choose_spec hg).uniq h) _ x rfl hx
theorem GoodU.forest {u : UM} (h : GoodU u) : ∃ rk, Forest u (rootU u) rk := by
 obtain ⟨⟨rep, rk⟩, hf⟩ := h
 have key : ∀ x ∈ keysU u, rootU u x = rep x := fun x hx => rootU_eq hf hx
 refine ⟨rk, hf.val, fun x hx e => ?_, fun x hx e => ?_⟩
 ·rw [key x hx, key _ (hf.val x hx)]; exact hf.step x hx e
 ·rw [key x hx]; exact hf.stop x hx e
theorem hasU {u : UM} {x : Str} : hasG u x = true ↔ x ∈ keysU u := by
 unfold hasG keysU
 rw [List.any_eq_true, List.mem_map]
 constructor
 ·rintro ⟨p, hp, h⟩; exact ⟨p, hp, (of_decide_eq_true h).symm⟩
 ·rintro ⟨p, hp, rfl⟩; exact ⟨p, hp, by simp⟩
theorem keys_set {u : UM} {x v y : Str} : y ∈ keysU (setG u x v) ↔ y = x ∨ y ∈ keysU u := by
 induction u with
 | nil => simp [setG, keysU]
 | cons p r ih =>
  obtain ⟨a, b⟩ := p
  simp only [setG]
  split
  ·rename_i e; subst e; simp [keysU]
  ·have := ih
   simp only [keysU, List.map_cons, List.mem_cons] at this ⊢
   rw [this]
   constructor
   ·rintro (h | h | h)
    ·exact .inr (.inl h)
    ·exact .inl h
    ·exact .inr (.inr h)
   ·rintro (h | h | h)
    ·exact .inr (.inl h)
    ·exact .inl h
    ·exact .inr (.inr h)
theorem get_setU {u : UM} {x v y : Str} : getG [] (setG u x v) y = if y = x then v else getG [] u y := by
 induction u with
 | nil => simp [setG, getG]
 | cons p r ih =>
  obtain ⟨a, b⟩ := p
  simp only [setG]
  split
  ·rename_i e; subst e
   simp only [getG]
   split <;> rfl
  ·rename_i e
   simp only [getG, ih]
   by_cases h1 : y = a
   ·subst h1; rw [if_pos rfl, if_pos rfl, if_neg (fun h => e h.symm)]
   ·rw [if_neg h1, if_neg h1]
theorem goodU_nil : GoodU [] := ⟨(id, fun _ => 0), fun x hx => by simp [keysU] at hx, fun x hx => by simp [keysU] at hx, fun x hx => by simp [keysU] at hx⟩
theorem addU_ok {u : UM} (h : GoodU u) (x : Str) : GoodU (addU u x) ∧ (∀ y, y ∈ keysU (addU u x) ↔ y = x ∨ y ∈ keysU u) ∧ (∀ y ∈ keysU u, rootU (addU u x) y = rootU u y) ∧ (x ∉ keysU u → rootU (addU u x) x = x) := by
 unfold addU
 by_cases hx : x ∈ keysU u
 ·rw [if_pos (hasU.2 hx)]
  exact ⟨h, fun y => ⟨.inr, fun e => e.elim (fun e => e ▸ hx) id⟩, fun _ _ => rfl, fun e => absurd hx e⟩
 ·rw [if_neg (fun e => hx (hasU.1 e))]
  obtain ⟨rk, hf⟩ := h.forest
  have hne : ∀ y ∈ keysU u, y ≠ x := fun y hy e => hx (e ▸ hy)
  have hF : Forest (setG u x x) (fun y => if y = x then x else rootU u y) rk := by
   refine ⟨fun y hy => ?_, fun y hy e => ?_, fun y hy e => ?_⟩
   ·rw [get_setU]
    split
    ·exact keys_set.2 (.inl rfl)
    ·rename_i e; exact keys_set.2 (.inr (hf.val y ((keys_set.1 hy).resolve_left e)))
   ·rw [get_setU] at e ⊢
    by_cases g : y = x
    ·rw [if_pos g] at e; exact absurd g.symm e
    ·have hy' := (keys_set.1 hy).resolve_left g
     rw [if_neg g] at e ⊢
     rw [if_neg g, if_neg (hne _ (hf.val y hy'))]
     exact hf.step y hy' e
   ·rw [get_setU] at e
    by_cases g : y = x
    ·rw [if_pos g]; exact g.symm
    ·have hy' := (keys_set.1 hy).resolve_left g
     rw [if_neg g] at e ⊢
     exact hf.stop y hy' e
  refine ⟨⟨(_, _), hF⟩, fun y => keys_set, fun y hy => ?_, fun _ => ?_⟩
  ·rw [rootU_eq hF (keys_set.2 (.inr hy)), if_neg (hne y hy)]
  ·rw [rootU_eq hF (keys_set.2 (.inl rfl)), if_pos rfl]
theorem linkU_ok {u : UM} (h : GoodU u) {a b : Str} (ha : a ∈ keysU u) (hb : b ∈ keysU u) : GoodU (setG u (rootU u a) (rootU u b)) ∧ (∀ y, y ∈ keysU (setG u (rootU u a) (rootU u b)) ↔ y ∈ keysU u) ∧
  (∀ y ∈ keysU u, rootU (setG u (rootU u a) (rootU u b)) y = if rootU u y = rootU u a then rootU u b else rootU u y) := by
 obtain ⟨rk, hf⟩ := h.forest
 obtain ⟨ka, sa⟩ := hf.rep_key _ a rfl ha
 obtain ⟨kb, sb⟩ := hf.rep_key _ b rfl hb
 have hkeys : ∀ y, y ∈ keysU (setG u (rootU u a) (rootU u b)) ↔ y ∈ keysU u := fun y => keys_set.trans ⟨fun e => e.elim (fun e => e ▸ ka) id, .inr⟩
 have ra : rootU u (rootU u a) = rootU u a := hf.stop _ ka sa
 have rb : rootU u (rootU u b) = rootU u b := hf.stop _ kb sb
 have hF : Forest (setG u (rootU u a) (rootU u b)) (fun y => if rootU u y = rootU u a then rootU u b else rootU u y) (fun y => if rootU u y = rootU u a then rk y + rk (rootU u b) + 1 else rk y) := by
  refine ⟨fun y hy => ?_, fun y hy e => ?_, fun y hy e => ?_⟩
  ·rw [hkeys] at hy ⊢
   rw [get_setU]
   split
   ·exact kb
   ·exact hf.val y hy
  ·rw [hkeys] at hy
   rw [get_setU] at e ⊢
   by_cases g : y = rootU u a
   ·rw [if_pos g] at e ⊢
    have hab : rootU u b ≠ rootU u a := fun e' => e (e'.trans g.symm)
    subst g
    simp only [ra, rb, if_true, if_neg hab]
    exact ⟨trivial, by omega⟩
   ·rw [if_neg g] at e ⊢
    obtain ⟨h1, h2⟩ := hf.step y hy e
    simp only [← h1]
    refine ⟨trivial, ?_⟩
    split <;> omega
  ·rw [hkeys] at hy
   rw [get_setU] at e
   by_cases g : y = rootU u a
   ·rw [if_pos g] at e
    subst g
    simp only [ra, if_true]
    exact e
   ·rw [if_neg g] at e
    have h1 := hf.stop y hy e
    have : rootU u y ≠ rootU u a := fun e' => g (h1.symm.trans e')
    simp only [if_neg this]
    exact h1
 exact ⟨⟨(_, _), hF⟩, hkeys, fun y hy => rootU_eq hF ((hkeys y).2 hy)⟩
noncomputable def joinOne (a : Str) (u : UM) (x : Str) : UM := setG (addU u x) (rootU (addU u x) x) (rootU (addU u x) a)
noncomputable def joinU (u : UM) (l : List Str) : UM := l.foldl (joinOne (l.headD [])) u
theorem joinOne_ok {u : UM} (h : GoodU u) {a x : Str} (ha : a = x ∨ a ∈ keysU u) : GoodU (joinOne a u x) ∧ (∀ y, y ∈ keysU (joinOne a u x) ↔ y = x ∨ y ∈ keysU u) := by
 obtain ⟨h1, h2, h3, h4⟩ := addU_ok h x
 obtain ⟨g1, g2, g3⟩ := linkU_ok h1 ((h2 x).2 (.inl rfl)) ((h2 a).2 ha)
 exact ⟨g1, fun y => (g2 y).trans (h2 y)⟩
end Go.T
namespace Go.T
open Go Go.Proofs Go.Proofs.Tryz
set_option maxRecDepth 20000
theorem badFact_ok (f : Fact) (hf : factOK f) : Fc Tryz.prog 43 [.agg (encFact f)] (.b (decide (chkFact f ≠ 0))) := by
 refine Fc.mk' [2] func43 rfl ntmps43 rfl rfl rfl (fun t w => results_tmp results43 t _ w) ?_
 refine go [] ?_
 refine oP (qCa call44 rfl (chkFact_ok _ (by assumption))) ?_
 exact rx1 rfl (Sub.refl _)
theorem unKey : KeyT Tryz.prog 9 D.str vStr okStr := keyStr underlying9
theorem vstr0U (w : World) (O : Nat → Prop) (ρ : Rho) : V w O ρ (D.str []) (.string ⟨#[]⟩) := by simp [V, big]
theorem addU_walk (u : UM) (x : Str) : FcO Tryz.prog 90 [.mapr 60, .str x] [(60, .mp (encGM D.str D.str u))] (.tup []) [(60, .mp (encGM D.str D.str (addU u x)))] := by
 refine FcO.mk' [] func90 rfl ntmps90 rfl rfl rfl (fun t w => results_none results90 t _ w) ?_
 refine go [] ?_
 refine oR (q_lookupOkG unKey (vD := D.str) (k := x) (d := []) underlying128 zeroValue9 vstr0U rfl rfl rfl rfl) ?_
 refine br (fun h1 => ?_) (fun h1 => ?_)
 ·refine oW (qMu unKey (vD := D.str) (k := x) (v := x) underlying128 rfl rfl rfl rfl rfl rfl) ?_
  exact retO0n  (Sub.refl _) (.eq rfl (by (unfold addU; (rw [if_neg (by rw [show hasG u x = false by simpa using h1]; simp)]; done))) (okB_SM _ _) .nil)
 ·exact retO0n  (Sub.refl _) (.eq rfl (by (unfold addU; (rw [if_pos (by simpa using h1)]; done))) (okB_SM _ _) .nil)
structure root_ok_L0 (u : UM) (rk : Str → Nat) (x : Str) where
 sy : Str
 hy : sy ∈ keysU u
 hr : rootU u sy = rootU u x
theorem root_ok (u : UM) (hg : GoodU u) (x : Str) (hx : x ∈ keysU u) : FcO Tryz.prog 129 [.mapr 60, .str x] [(60, .mp (encGM D.str D.str u))] (.str (rootU u x)) [(60, .mp (encGM D.str D.str u))] := by
 refine FcO.mk' [4] func129 rfl ntmps129 rfl rfl rfl (fun t w => results_tmp results129 t _ w) ?_
 obtain ⟨rk, hf⟩ := hg.forest
 refine go [] ?_
 refine Run.loop (ι := root_ok_L0 u rk x) (fun sx => [(0, .mapr 60), (1, .str sx.sy)]) (fun sx => [(60, .mp (encGM D.str D.str u))]) (fun sx => rk sx.sy) ⟨x, hx, rfl⟩ ?_ ?_
 ·exact Le.mk rfl (.s rfl rfl (.s rfl rfl .nil)) (.eq rfl (by rfl) (okB_SM _ _) .nil)
 ·rintro ⟨sy, hy, hr⟩
  show Run _ _ _ _ [(0, .mapr 60), (1, .str sy)] [(60, .mp (encGM D.str D.str u))]
  refine go [] ?_
  refine oR (q_lookupG unKey (vD := D.str) (k := sy) (d := []) underlying128 zeroValue9 vstr0U rfl rfl rfl rfl) ?_
  refine br (fun h1 => ?_) (fun h1 => ?_)
  ·refine oR (q_lookupG unKey (vD := D.str) (k := sy) (d := []) underlying128 zeroValue9 vstr0U rfl rfl rfl rfl) ?_
   exact nx ⟨getG [] u sy, hf.val _ hy, by rw [← hr]; exact (hf.step _ hy (by simpa using h1)).1.symm⟩ (by exact (hf.step _ hy (by simpa using h1)).2) (Le.mk rfl (.s rfl rfl (.s rfl rfl .nil)) (.eq rfl (by rfl) (okB_SM _ _) .nil))
  ·refine go [] ?_
   exact retO1 rfl (Sub.str (by rw [← hr]; exact (hf.stop _ hy (by simpa using h1)).symm)) (.eq rfl (by rfl) (okB_SM _ _) .nil)
theorem headS_get {l : List Str} (h : l ≠ []) : (l.map fun s => [D.str s])[(0 : Int).toNat]? = some [.str (l.headD [])] := by
 cases l with
 | nil => exact absurd rfl h
 | cons a l => rfl
structure join_ok_L0 (u : UM) (l : List Str) where
 pre : List Str
 rest : List Str
 u1 : UM
 hx : l = pre ++ rest
 hu : joinU u l = rest.foldl (joinOne (l.headD [])) u1
 hg1 : GoodU u1
 hh : pre = [] ∨ l.headD [] ∈ keysU u1
theorem join_ok (u : UM) (hg : GoodU u) (l : List Str) : FcO Tryz.prog 91 [.mapr 60, sStrs l] [(60, .mp (encGM D.str D.str u))] (.tup []) [(60, .mp (encGM D.str D.str (joinU u l)))] := by
 refine FcO.mk' [] func91 rfl ntmps91 rfl rfl rfl (fun t w => results_none results91 t _ w) ?_
 refine Run.bSnap 1 rfl (fun hb => ?_)
 simp only [List.length_map, big] at hb
 refine go [] ?_
 refine Run.loop (ι := join_ok_L0 u l) (fun sx => [(0, .mapr 60), (1, sStrs l), (6, sStrs l), (7, .i l.length), (8, .i sx.pre.length)]) (fun sx => [(60, .mp (encGM D.str D.str sx.u1))]) (fun sx => sx.rest.length) ⟨[], l, u, rfl, rfl, hg, .inl rfl⟩ ?_ ?_
 ·exact Le.mk rfl (.s rfl rfl (.s rfl rfl (.s rfl rfl (.cons rfl (Sub.int (by simp)) rfl (.s rfl rfl .nil))))) (.eq rfl (by rfl) (okB_SM _ _) .nil)
 ·rintro ⟨pre, rest, u1, hx, hu, hg1, hh⟩
  show Run _ _ _ _ [(0, .mapr 60), (1, sStrs l), (6, sStrs l), (7, .i l.length), (8, .i pre.length)] [(60, .mp (encGM D.str D.str u1))]
  have hl := congrArg List.length hx
  simp only [List.length_append] at hl
  rcases rest with _ | ⟨x, rest⟩
  ·skip
   refine go [] ?_
   refine brF (by simp at hl ⊢; omega) ?_
   refine Run.nil ?_
   exact retO0n  (Sub.refl _) (.eq rfl (by rw [show joinU u l = u1 from hu]) (okB_SM _ _) .nil)
  ·simp only [List.length_cons] at hl
   have hh0 : l.headD [] = x ∨ l.headD [] ∈ keysU u1 := by
     rcases hh with e | e
     ·left; rw [hx, e]; rfl
     ·exact .inr e
   have hA := addU_ok hg1 x
   have hh1 := hh0
   refine go [] ?_
   refine brT (by simp; omega) ?_
   refine ix (by omega) (iMd (fun s => [D.str s]) hx rfl) ?_
   refine oW (q_callO call90 rfl (addU_walk _ _) (.cons rfl (okB_SM _ _) .nil) rfl rfl) ?_
   refine oW (q_callO call129 rfl (root_ok _ hA.1 _ ((hA.2.1 _).2 (.inl rfl))) (.cons rfl (okB_SM _ _) .nil) rfl rfl) ?_
   refine ix (by decide) (headS_get (l := l) (by rw [hx]; simp)) ?_
   refine oW (q_callO call129 rfl (root_ok _ hA.1 _ ((hA.2.1 _).2 hh1)) (.cons rfl (okB_SM _ _) .nil) rfl rfl) ?_
   refine oW (qMu unKey (vD := D.str) (k := (rootU (addU u1 x) x)) (v := (rootU (addU u1 x) (l.headD []))) underlying128 rfl rfl rfl rfl rfl rfl) ?_
   refine ord ?_
   refine sd (w64 (by omega)) ?_
   exact nx ⟨pre ++ [x], rest, joinOne (l.headD []) u1 x, by simp [hx], hu, (joinOne_ok hg1 hh0).1, .inr (((joinOne_ok hg1 hh0).2 _).2 hh0)⟩ (by simp) (Le.mk rfl (.s rfl rfl (.s rfl rfl (.s rfl rfl (.s rfl rfl (.cons rfl (Sub.int (by simp)) rfl .nil))))) (.eq rfl (by rfl) (okB_SM _ _) .nil))
end Go.T
namespace Go.Proofs
open Go.Shelf Go.RowKit Go.Lib Go.Sort
set_option maxRecDepth 20000
def Tryz.delStr_ren : Go.Shelf.Ren := ⟨fun | 6 => 46 | 10 => 61 | n => n, fun | 0 => 0 | 3 => 3 | 4 => 4 | 22 => 48 | 23 => 9 | 25 => 51 | n => n, fun | n => n⟩
theorem Tryz.delStr : SlLaysH.n10 Tryz.prog Tryz.delStr_ren := {
 mixed := by kernel_rfl
 f6 := ⟨Tryz.f46.name, by decide, Tryz.func46.trans (congrArg some (by kernel_rfl))⟩
 f10 := ⟨Tryz.f61.name, by decide, Tryz.func61.trans (congrArg some (by kernel_rfl))⟩
 t0 := Tryz.underlying0
 a0 := Tryz.isAgg0
 z0 := Tryz.sizeOf0
 v0 := Tryz.zeroValue0
 t3 := Tryz.underlying3
 a3 := Tryz.isAgg3
 z3 := Tryz.sizeOf3
 v3 := Tryz.zeroValue3
 t4 := Tryz.underlying4
 a4 := Tryz.isAgg4
 z4 := Tryz.sizeOf4
 v4 := Tryz.zeroValue4
 t22 := Tryz.underlying48
 a22 := Tryz.isAgg48
 z22 := Tryz.sizeOf48
 v22 := Tryz.zeroValue48
 a23 := Tryz.isAgg9
 z23 := Tryz.sizeOf9
 t25 := Tryz.underlying51
 a25 := Tryz.isAgg51
 z25 := Tryz.sizeOf51
 v25 := Tryz.zeroValue51
}
end Go.Proofs
namespace Go.T
open Go Go.Proofs Go.Shelf Go.RowKit Go.Lib Go.Sort
variable [Noise]
theorem putRow_one (W : World) (blk off : Nat) (d : Array (List UInt8)) : putRow encStr W blk off d = putRowK (fun s : List UInt8 => [encStr s]) 1 W blk off d := by
 unfold putRowK putRow
 congr 1
 funext c
 unfold putCells
 congr 1
 funext k x
 simp only [size_flatK, Nat.mul_one]
 by_cases h : off ≤ k ∧ k < off + d.size
 ·rw [if_pos h, if_pos h, get_flatK _ _ _ _ (by omega)]
  simp [Nat.mod_one]
 ·rw [if_neg h, if_neg h]
theorem holds_one {w : World} {blk off : Nat} {d : Array (List UInt8)} (h : HoldsK (fun s : List UInt8 => [encStr s]) 1 w blk off d) : Holds encStr w blk off d := by
 intro j hj
 have := h j (by simpa using hj)
 rw [get_flatK _ _ _ _ (by omega)] at this
 simpa [Nat.mod_one] using this
abbrev StrS := {s : Str // s.length ≤ big}
instance : Inhabited StrS := ⟨⟨[], by simp [big]⟩⟩
theorem elemStr : Elem 1 (fun x : StrS => [D.str x.1]) (fun x => [encStr x.1]) := by
 refine ⟨fun _ => rfl, fun _ => rfl, fun x v hv => ?_, fun x w O ρ vs h => ?_, fun x w O ρ => ?_⟩
 ·simp only [List.mem_cons, List.not_mem_nil, or_false] at hv
  subst hv; rfl
 ·simp only [Vs, V] at h
  obtain ⟨_, _, rfl, h1, rfl⟩ := h
  rw [h1.1]
 ·simp only [Vs, V]
  exact ⟨_, _, rfl, ⟨rfl, x.2⟩, rfl⟩
theorem flatK_val (d : List StrS) : flatK (fun x : StrS => [encStr x.1]) 1 d.toArray = flatK (fun s : List UInt8 => [encStr s]) 1 (d.map Subtype.val).toArray := by
 apply Array.ext
 ·simp
 ·intro i h1 h2
  simp only [size_flatK, List.size_toArray] at h1
  have hi : i < d.length := by omega
  have e1 := get_flatK (fun x : StrS => [encStr x.1]) 1 d.toArray i (by simpa using h1)
  have e2 := get_flatK (fun s : List UInt8 => [encStr s]) 1 (d.map Subtype.val).toArray i (by simpa using h1)
  rw [getElem!_pos _ i (by simpa using h1)] at e1
  rw [getElem!_pos _ i (by simpa using h1)] at e2
  rw [e1, e2]
  simp [Nat.mod_one, hi]
theorem sortStr_FcO {P : Program} {r : Ren} (L : SlLaysM.n6 P r) (id : Nat) (l : List StrS) (hl : l.length < 4611686018427387904) (l2 : List StrS) (hl2 : l2.map Subtype.val = (l.map Subtype.val).mergeSort fun x y => decide (x ≤ y)) :
  FcO P (r.f 6) [.gs id l.length] [(id, .arr 1 (l.map fun x => [D.str x.1]))] (.tup []) [(id, .arr 1 (l2.map fun x => [D.str x.1]))] := ⟨fun w O ρ vals hok hgl hv => by
 have hlen : l2.length = l.length := by have := congrArg List.length hl2; simpa using this
 simp only [Vs, V] at hv
 obtain ⟨v1, us, rfl, h1, rfl⟩ := hv
 rcases h1 with ⟨hn, a, rfl⟩ | ⟨hn, loc, hloc, rfl⟩
 ·obtain rfl : l = [] := List.length_eq_zero_iff.1 hn
  obtain rfl : l2 = [] := List.length_eq_zero_iff.1 hlen
  refine Calls.mono (AnyM.slices_Sort_string_none L a 0 w) ?_
  rintro e w' ⟨rfl, rfl⟩
  exact ⟨_, ρ, rfl, Tr.refl hok, by simp [V, Vs]⟩
 ·have hget : Obs.get [(id, Ob.arr 1 (l.map fun x => [D.str x.1]))] id = some (.arr 1 (l.map fun x => [D.str x.1])) := by simp [Obs.get]
  have hlive : (Ob.arr 1 (l.map fun x : StrS => [D.str x.1])).live = true := by
   cases l with
   | nil => simp at hn
   | cons x l => rfl
  obtain ⟨l', h3, hnO, c, T, hb, hsz, hln, hvr⟩ := hok.own id _ hget hlive
  rw [hloc] at h3; cases h3
  have hH0 := holds_of_Vr elemStr hb hvr
  have hH : HoldsK (fun s : List UInt8 => [encStr s]) 1 w loc.b loc.off (l.map Subtype.val).toArray := by
   unfold HoldsK at *
   rw [← flatK_val]; exact hH0
  have hblk : loc.b < w.heap.size := (Array.getElem?_eq_some_iff.1 hb).1
  have key := AnyM.slices_Sort_string L loc.b loc.off loc.cap (l.map Subtype.val) w (holds_one hH) hblk (by simpa using hl)
  rw [List.length_map] at key
  refine Calls.mono key ?_
  rintro e w' ⟨rfl, n, os, rfl⟩
  have hworld : grow (putRow encStr (Sort.ahead w n) loc.b loc.off ((l.map Subtype.val).mergeSort fun x y => decide (x ≤ y)).toArray) os = sortWorldK (fun x : StrS => [encStr x.1]) 1 w loc.b loc.off n l2.toArray os := by
   rw [putRow_one, ← hl2]
   unfold sortWorldK putRowK
   rw [flatK_val]
  rw [hworld]
  have hheap : (sortWorldK (fun x : StrS => [encStr x.1]) 1 w loc.b loc.off n l2.toArray os).heap[loc.b]? = some (.cells (putCells _root_.id loc.off (flatK (fun x : StrS => [encStr x.1]) 1 l2.toArray) c) T (0, 0)) := by
   unfold sortWorldK putRowK putRow mapBlock Sort.grow Sort.ahead
   simp only
   rw [Array.getElem?_append_left (by simpa using hblk), Array.getElem?_modify, if_pos rfl, hb]; rfl
  have hsize : w.heap.size ≤ (sortWorldK (fun x : StrS => [encStr x.1]) 1 w loc.b loc.off n l2.toArray os).heap.size := size_sortWorldK_c _ 1 w loc.b loc.off n l2.toArray os
  have hH2 : HoldsK (fun x : StrS => [encStr x.1]) 1 (sortWorldK (fun x : StrS => [encStr x.1]) 1 w loc.b loc.off n l2.toArray os) loc.b loc.off l2.toArray := holdsK_sortWorldK_c _ 1 w loc.b loc.off l.toArray l2.toArray n os hH0 hblk (by simpa using hlen)
  have hown2 : ∀ b, Owned ρ [(id, Ob.arr 1 (l2.map fun x => [D.str x.1]))] b → Owned ρ [(id, Ob.arr 1 (l.map fun x => [D.str x.1]))] b := by
   rintro b ⟨i, o, q, g1, g2, g3, g4⟩
   obtain ⟨rfl, _⟩ := get_one g1
   exact ⟨_, _, q, hget, hlive, g3, g4⟩
  refine ⟨_, ρ, rfl, ⟨RhoLe.refl _, hsize, fun b hb1 hb2 => ?_, fun b hb1 => .inl (hown2 b hb1), ⟨fun b hb1 => Nat.lt_of_lt_of_le (hok.lt b hb1) hsize, fun i hi => ?_, fun i o g1 g2 => ?_, fun i j o o' q q' g1 g2 _ _ _ _ _ => ?_⟩, rfl, rfl, .inl ⟨rfl, Nat.le_add_right _ _⟩⟩, by simp [V, Vs]⟩
  ·refine heap_sortWorld hb1 fun e => hb2 ?_
   exact ⟨id, _, loc, hget, hlive, hloc, e.symm⟩
  ·exact hok.fresh i (get_none1 hi)
  ·obtain ⟨rfl, rfl⟩ := get_one g1
   exact ⟨loc, hloc, hnO, _, T, hheap, by simpa [putCells] using hsz, by simpa [hlen] using hln, Vr_of_holds elemStr hH2⟩
  ·exact (get_one g1).1.trans (get_one g2).1.symm⟩
end Go.T
namespace Go.T
open Go Go.Proofs Go.Shelf Go.RowKit Go.Lib Go.Sort
variable [Noise]
theorem row_Tr {w : World} {O : Nat → Prop} {ρ : Rho} {id : Nat} {l l3 : List StrS} {loc : Loc} (hok : ObsOK w O ρ [(id, Ob.arr 1 (l.map fun x => [D.str x.1]))]) (hl : l ≠ []) (hloc : ρ id = some loc) (hlen : l3.length = l.length) (n : Nat) (os : Array Obj) (h : Nat) :
  Tr O w ρ [(id, Ob.arr 1 (l.map fun x => [D.str x.1]))] (grow (putRow encStr (Sort.ahead w n) loc.b loc.off (l3.map Subtype.val).toArray) os) ρ [(id, Ob.arr 1 ((l3.map fun x => [D.str x.1]).take h))] := by
 have hget : Obs.get [(id, Ob.arr 1 (l.map fun x => [D.str x.1]))] id = some (.arr 1 (l.map fun x => [D.str x.1])) := by simp [Obs.get]
 have hlive : (Ob.arr 1 (l.map fun x : StrS => [D.str x.1])).live = true := by
  cases l with
  | nil => exact absurd rfl hl
  | cons x l => rfl
 obtain ⟨l', h3, hnO, c, T, hb, hsz, hln, hvr⟩ := hok.own id _ hget hlive
 rw [hloc] at h3; cases h3
 have hH0 := holds_of_Vr elemStr hb hvr
 have hblk : loc.b < w.heap.size := (Array.getElem?_eq_some_iff.1 hb).1
 have hworld : grow (putRow encStr (Sort.ahead w n) loc.b loc.off (l3.map Subtype.val).toArray) os = sortWorldK (fun x : StrS => [encStr x.1]) 1 w loc.b loc.off n l3.toArray os := by
  rw [putRow_one]
  unfold sortWorldK putRowK
  rw [flatK_val]
 rw [hworld]
 have hheap : (sortWorldK (fun x : StrS => [encStr x.1]) 1 w loc.b loc.off n l3.toArray os).heap[loc.b]? = some (.cells (putCells _root_.id loc.off (flatK (fun x : StrS => [encStr x.1]) 1 l3.toArray) c) T (0, 0)) := by
  unfold sortWorldK putRowK putRow mapBlock Sort.grow Sort.ahead
  simp only
  rw [Array.getElem?_append_left (by simpa using hblk), Array.getElem?_modify, if_pos rfl, hb]; rfl
 have hsize : w.heap.size ≤ (sortWorldK (fun x : StrS => [encStr x.1]) 1 w loc.b loc.off n l3.toArray os).heap.size := size_sortWorldK_c _ 1 w loc.b loc.off n l3.toArray os
 have hH2 : HoldsK (fun x : StrS => [encStr x.1]) 1 (sortWorldK (fun x : StrS => [encStr x.1]) 1 w loc.b loc.off n l3.toArray os) loc.b loc.off l3.toArray := holdsK_sortWorldK_c _ 1 w loc.b loc.off l.toArray l3.toArray n os hH0 hblk (by simpa using hlen)
 have hown2 : ∀ b, Owned ρ [(id, Ob.arr 1 ((l3.map fun x => [D.str x.1]).take h))] b → Owned ρ [(id, Ob.arr 1 (l.map fun x => [D.str x.1]))] b := by
  rintro b ⟨i, o, q, g1, g2, g3, g4⟩
  obtain ⟨rfl, _⟩ := get_one g1
  exact ⟨_, _, q, hget, hlive, g3, g4⟩
 refine ⟨RhoLe.refl _, hsize, fun b hb1 hb2 => ?_, fun b hb1 => .inl (hown2 b hb1), ⟨fun b hb1 => Nat.lt_of_lt_of_le (hok.lt b hb1) hsize, fun i hi => ?_, fun i o g1 g2 => ?_, fun i j o o' q q' g1 g2 _ _ _ _ _ => ?_⟩, rfl, rfl, .inl ⟨rfl, Nat.le_add_right _ _⟩⟩
 ·refine heap_sortWorld hb1 fun e => hb2 ?_
  exact ⟨id, _, loc, hget, hlive, hloc, e.symm⟩
 ·exact hok.fresh i (get_none1 hi)
 ·obtain ⟨rfl, rfl⟩ := get_one g1
  refine ⟨loc, hloc, hnO, _, T, hheap, by simpa [putCells] using hsz, ?_, Vr_take _ _ _ (Vr_of_holds elemStr hH2)⟩
  have : l3.length ≤ loc.cap ∧ l3.length ≤ big := by simpa [hlen] using hln
  simp only [List.length_take, List.length_map]
  omega
 ·exact (get_one g1).1.trans (get_one g2).1.symm
def noStr : StrS := ⟨[], by simp [big]⟩
theorem map_pad (l2 : List StrS) (k : Nat) : (l2 ++ List.replicate k noStr).map Subtype.val = l2.map Subtype.val ++ List.replicate k [] := by simp [noStr]
theorem own_cut {O : Nat → Prop} {w : World} {ρ : Rho} {id : Nat} {l : List StrS} {loc : Loc} (hok : ObsOK w O ρ [(id, Ob.arr 1 (l.map fun x => [D.str x.1]))]) (hl : l ≠ []) (hloc : ρ id = some loc) : l.length ≤ loc.cap ∧ Holds encStr w loc.b loc.off (l.map Subtype.val).toArray := by
 have hget : Obs.get [(id, Ob.arr 1 (l.map fun x => [D.str x.1]))] id = some (.arr 1 (l.map fun x => [D.str x.1])) := by simp [Obs.get]
 have hlive : (Ob.arr 1 (l.map fun x : StrS => [D.str x.1])).live = true := by
  cases l with
  | nil => exact absurd rfl hl
  | cons x l => rfl
 obtain ⟨l', h3, hnO, c, T, hb, hsz, hln, hvr⟩ := hok.own id _ hget hlive
 rw [hloc] at h3; cases h3
 have hH0 := holds_of_Vr elemStr hb hvr
 have hH : HoldsK (fun s : List UInt8 => [encStr s]) 1 w loc.b loc.off (l.map Subtype.val).toArray := by
  unfold HoldsK at *
  rw [← flatK_val]; exact hH0
 exact ⟨by simpa using hln.1, holds_one hH⟩
theorem delStr_calls {P : Program} {r : Ren} (L : SlLaysH.n10 P r) (hz : ∀ w, (zeroValue (r.t 23)).run P w = .ok (encStr []) w) {g : Nat} (eg : ∀ args w, (callFunc g args).run P w = .ok (.enter g args) w) {p : Str → Bool}
  (hp : ∀ (x : Str) W, FnGives P g #[] #[encStr x] (.bool (p x)) W) (id : Nat) (l : List StrS) (hne : l ≠ []) (hl : l.length < 4611686018427387904) (l2 : List StrS) (hl2 : l2.map Subtype.val = (l.map Subtype.val).filter fun x => !p x)
  {O : Nat → Prop} {w : World} {ρ : Rho} {loc : Loc} (hok : ObsOK w O ρ [(id, Ob.arr 1 (l.map fun x => [D.str x.1]))]) (hloc : ρ id = some loc) :
  Calls P (r.f 10) #[.slice (some ⟨loc.b, loc.off, none⟩) l.length loc.cap, .func (.func g) #[] #[]] w fun e w' => e = .returned (.slice (some ⟨loc.b, loc.off, none⟩) l2.length loc.cap) ∧ Tr O w ρ [(id, Ob.arr 1 (l.map fun x => [D.str x.1]))] w' ρ [(id, Ob.arr 1 (l2.map fun x => [D.str x.1]))] := by
 obtain ⟨hcap, hH⟩ := own_cut hok hne hloc
 have key := AnyE.slices_DeleteFunc L encStr (fun _ => rfl) p g #[] eg [] hz loc.b loc.off loc.cap (l.map Subtype.val).toArray w (fun W x _ => hp x W) (fun n os dk x _ => hp x _) hH (by simp; omega) (by simpa using hcap)
 simp only [← hl2, List.size_toArray, List.length_map] at key
 refine Calls.mono key ?_
 rintro e w' ⟨rfl, q, rfl⟩
 have hle : l2.length ≤ l.length := by
  have := congrArg List.length hl2
  have := List.length_filter_le (fun x => !p x) (l.map Subtype.val)
  simp only [List.length_map] at *
  omega
 refine ⟨rfl, ?_⟩
 have h1 := row_Tr hok hne hloc (l3 := l2 ++ List.replicate (l.length - l2.length) noStr) (by simp; omega) q #[] l2.length
 rw [grow_empty, map_pad] at h1
 have e2 : ((l2 ++ List.replicate (l.length - l2.length) noStr).map fun x : StrS => [D.str x.1]).take l2.length = l2.map fun x => [D.str x.1] := by
  rw [List.map_append]; exact List.take_left' (List.length_map ..)
 rw [e2] at h1
 exact h1
theorem delStr_FcO {P : Program} {r : Ren} (L : SlLaysH.n10 P r) (hz : ∀ w, (zeroValue (r.t 23)).run P w = .ok (encStr []) w) {g : Nat} (eg : ∀ args w, (callFunc g args).run P w = .ok (.enter g args) w) {p : Str → Bool}
  (hp : ∀ (x : Str) W, FnGives P g #[] #[encStr x] (.bool (p x)) W) (id : Nat) (l : List StrS) (hl : l.length < 4611686018427387904) (l2 : List StrS) (hl2 : l2.map Subtype.val = (l.map Subtype.val).filter fun x => !p x) (h2 : l2 ≠ []) :
  FcO P (r.f 10) [.gs id l.length, .fn (.func g) [] []] [(id, .arr 1 (l.map fun x => [D.str x.1]))] (.gs id l2.length) [(id, .arr 1 (l2.map fun x => [D.str x.1]))] := ⟨fun w O ρ vals hok hgl hv => by
 have hne : l ≠ [] := by
  rintro rfl
  exact h2 (List.map_eq_nil_iff.1 hl2)
 simp only [Vs, V] at hv
 obtain ⟨v1, us, rfl, h1, v2, us2, rfl, ⟨a1, a2, rfl, e1, e2⟩, rfl⟩ := hv
 obtain rfl : a1 = #[] := by simpa using e1
 obtain rfl : a2 = #[] := by simpa using e2
 rcases h1 with ⟨hn, a, rfl⟩ | ⟨hn, loc, hloc, rfl⟩
 ·exact absurd (List.length_eq_zero_iff.1 hn) hne
 ·refine Calls.mono (delStr_calls L hz eg hp id l hne hl l2 hl2 hok hloc) ?_
  rintro e w' ⟨rfl, ht⟩
  exact ⟨_, ρ, rfl, ht, by simp only [V]; exact .inr ⟨by simpa using h2, loc, hloc, rfl⟩⟩⟩
theorem delStr0_FcO {P : Program} {r : Ren} (L : SlLaysH.n10 P r) (hz : ∀ w, (zeroValue (r.t 23)).run P w = .ok (encStr []) w) {g : Nat} (eg : ∀ args w, (callFunc g args).run P w = .ok (.enter g args) w) {p : Str → Bool}
  (hp : ∀ (x : Str) W, FnGives P g #[] #[encStr x] (.bool (p x)) W) (id : Nat) (l : List StrS) (hne : l ≠ []) (hl : l.length < 4611686018427387904) (hl2 : ((l.map Subtype.val).filter fun x => !p x) = []) :
  FcO P (r.f 10) [.gs id l.length, .fn (.func g) [] []] [(id, .arr 1 (l.map fun x => [D.str x.1]))] (.snap 1 false []) [(id, .arr 1 [])] := ⟨fun w O ρ vals hok hgl hv => by
 simp only [Vs, V] at hv
 obtain ⟨v1, us, rfl, h1, v2, us2, rfl, ⟨a1, a2, rfl, e1, e2⟩, rfl⟩ := hv
 obtain rfl : a1 = #[] := by simpa using e1
 obtain rfl : a2 = #[] := by simpa using e2
 rcases h1 with ⟨hn, a, rfl⟩ | ⟨hn, loc, hloc, rfl⟩
 ·exact absurd (List.length_eq_zero_iff.1 hn) hne
 ·refine Calls.mono (delStr_calls L hz eg hp id l hne hl [] (by simpa using hl2.symm) hok hloc) ?_
  rintro e w' ⟨rfl, ht⟩
  exact ⟨_, ρ, rfl, ht, by simp only [V]; exact ⟨_, _, rfl, ⟨by simp, by simp⟩, by simp, by simp⟩⟩⟩
theorem compactStr_FcO {P : Program} {f : Nat}
  (hk : ∀ (blk off cap : Nat) (zs : List (List UInt8)) (w : World), Holds encStr w blk off zs.toArray → zs.length ≤ 9223372036854775807 → zs.length ≤ cap → Calls P f #[.slice (some ⟨blk, off, none⟩) zs.length cap] w fun e w' => e = .returned (.slice (some ⟨blk, off, none⟩) (Lib.compact zs).length cap) ∧ ∃ q, w' = putRow encStr (Sort.ahead w q) blk off (Lib.compact zs ++ List.replicate (zs.length - (Lib.compact zs).length) []).toArray)
  (id : Nat) (l : List StrS) (hne : l ≠ []) (hl : l.length < 4611686018427387904) (l2 : List StrS) (hl2 : l2.map Subtype.val = Lib.compact (l.map Subtype.val)) (h2 : l2 ≠ []) (hle : l2.length ≤ l.length) :
  FcO P f [.gs id l.length] [(id, .arr 1 (l.map fun x => [D.str x.1]))] (.gs id l2.length) [(id, .arr 1 (l2.map fun x => [D.str x.1]))] := ⟨fun w O ρ vals hok hgl hv => by
 simp only [Vs, V] at hv
 obtain ⟨v1, us, rfl, h1, rfl⟩ := hv
 rcases h1 with ⟨hn, a, rfl⟩ | ⟨hn, loc, hloc, rfl⟩
 ·exact absurd (List.length_eq_zero_iff.1 hn) hne
 ·obtain ⟨hcap, hH⟩ := own_cut hok hne hloc
  have key := hk loc.b loc.off loc.cap (l.map Subtype.val) w hH (by simp; omega) (by simpa using hcap)
  simp only [← hl2, List.length_map] at key
  refine Calls.mono key ?_
  rintro e w' ⟨rfl, q, rfl⟩
  have h1 := row_Tr hok hne hloc (l3 := l2 ++ List.replicate (l.length - l2.length) noStr) (by simp; omega) q #[] l2.length
  rw [grow_empty, map_pad] at h1
  have e2 : ((l2 ++ List.replicate (l.length - l2.length) noStr).map fun x : StrS => [D.str x.1]).take l2.length = l2.map fun x => [D.str x.1] := by
   rw [List.map_append]; exact List.take_left' (List.length_map ..)
  rw [e2] at h1
  exact ⟨_, ρ, rfl, h1, by simp only [V]; exact .inr ⟨by simpa using h2, loc, hloc, rfl⟩⟩⟩
end Go.T
namespace Go.T
open Go
variable [Noise]
variable {P : Program} {env : Env} {dst : Option Tmp} {ty : TypeId} {pos : String} {aft : Array Edge} {g : Option (Nat × Bool)}
theorem q_buildOwn {t e : TypeId} {n sz : Nat} {z : Value} {xs : List (Nat × Operand)} {pds : List (Nat × D)} {cs : List D} {rows : List (List D)} {obs : Obs} (id : Nat) (hu : P.underlying t = some (.slice e)) (hs : ∀ w, (sizeOf e).run P w = .ok sz w) (hn : Nat.ble (n * sz) 16777216 = true) (hnb : Nat.ble n 16777216 = true)
  (hn0 : Nat.beq (n * sz) 0 = false) (hz : ∀ w, (zeroValue e).run P w = .ok z w) (hx : env.partsD xs = some pds)
  (hf : fillD (fun i => some (i * sz, sz)) (((List.range (n * sz)).map fun x => (z.cells.toList[x % z.cells.toList.length]?).getD default).map rawD) pds = some cs) (hr : rows.flatten = cs) (hlen : rows.length = n) (hrl : rows.all (fun r => Nat.beq r.length sz) = true) (h1 : oneL cs = true) (hp : D.pureB.pureL cs = true) (hid : obs.get id = none) :
  QStep P ⟨dst, .buildSlice t n xs.toArray, ty, pos, aft, g⟩ env obs (.gs id n) ((id, .arr sz rows) :: obs) :=
 .step fun O ρ a w hok hv => by
  have hn := Nat.le_of_ble_eq_true hn
  have hnb := Nat.le_of_ble_eq_true hnb
  have hn0 : n * sz ≠ 0 := by intro h; rw [h] at hn0; simp at hn0
  rw [← zeros_list] at hf
  obtain ⟨h2, h3⟩ := partsD_V (a := a) xs pds hx (fun x hx d' h => hv x (by simpa [Op.operands] using hx) d' h)
  obtain ⟨c', h4, h5⟩ := fill_V (fun i => some (i * sz, sz)) pds _ _ ((Array.range (n * sz)).map (z.cells[· % z.cells.size]!)) cs h2 h3 (Vs.raws _) hf
  have h8 : Vs w (Ot O ρ obs) rho0 cs c'.toList := Vs.pure cs _ hp h5
  have hl : c'.toList.length = cs.length := h8.length
  have hn1 : n ≠ 0 := by rintro rfl; simp at hn0
  refine ⟨.slice (some ⟨w.heap.size, 0, none⟩) n n, _, T.upd ρ id ⟨w.heap.size, 0, n⟩, .inl ?_, Tr.born hok hid (.cells c' e) rfl (fun i x h _ => h) (fun i h => h) ?_, ?_⟩
  ·have h6 : ¬ n * sz > 2 ^ 24 := by omega
   have h9 : Instr.fill (fun i => some (i * sz, sz)) ((Array.range (n * sz)).map fun x => z.cells[x % z.cells.size]!) ((Array.map (fun x => (x.1, a.eval x.2)) xs.toArray).toList) = some c' := by
    simpa using h4
   simp only [execOp, Instr.buildSlice, Sem.run_bind, run_und hu, Result.andThen_ok, hs, if_neg h6, if_neg hn0, Sem.run_pure, hz, h9]
   simp [newRow]
   try rfl
  ·intro hk
   have hrl' : ∀ r ∈ rows, r.length = sz := fun r hr' => by
    have := List.all_eq_true.1 hrl r hr'
    simpa using this
   have hfl : ∀ (l : List (List D)), (∀ r ∈ l, r.length = sz) → l.flatten.length = l.length * sz := by
    intro l hl
    induction l with
    | nil => simp
    | cons a l ih => rw [List.flatten_cons, List.length_append, hl a List.mem_cons_self, ih fun r hr => hl r (List.mem_cons_of_mem _ hr), List.length_cons, Nat.add_mul, Nat.one_mul, Nat.add_comm]
   refine Own.grown (w := w) (T := e) (vs := c'.toList) (zs := #[]) (by simp) ?_ (by simp [hlen]) (by omega) (by unfold big; omega) hrl' ?_ (fun v hv' => h8.one h1 v hv') hk
   ·rw [hl, ← hr, hfl rows hrl']
   ·rw [hr]; exact h8
  ·simp only [V]
   exact .inr ⟨hn1, _, upd_same .., rfl⟩
end Go.T
namespace Go.T
open Go
inductive Conn (Ls : List (List Str)) : Str → Str → Prop
  | refl (x : Str) : Conn Ls x x
  | one {l : List Str} {x y : Str} (h : l ∈ Ls) (hx : x ∈ l) (hy : y ∈ l) : Conn Ls x y
  | symm {x y : Str} (h : Conn Ls x y) : Conn Ls y x
  | trans {x y z : Str} (h : Conn Ls x y) (h' : Conn Ls y z) : Conn Ls x z
def named (Ls : List (List Str)) (x : Str) : Prop := ∃ l ∈ Ls, x ∈ l
theorem Conn.named {Ls : List (List Str)} {x y : Str} (h : Conn Ls x y) : x = y ∨ (Go.T.named Ls x ∧ Go.T.named Ls y) := by
  induction h with
  | refl x => exact .inl rfl
  | one h hx hy => exact .inr ⟨⟨_, h, hx⟩, ⟨_, h, hy⟩⟩
  | symm _ ih => exact ih.imp Eq.symm fun h => ⟨h.2, h.1⟩
  | trans _ _ ih ih' =>
    rcases ih with rfl | h
    · exact ih'
    · rcases ih' with rfl | h'
      · exact .inr h
      · exact .inr ⟨h.1, h'.2⟩
theorem Conn.mono {Ls Ls' : List (List Str)} (hs : ∀ l ∈ Ls, ∃ l' ∈ Ls', ∀ x ∈ l, x ∈ l') {x y : Str} (h : Conn Ls x y) : Conn Ls' x y := by
  induction h with
  | refl x => exact .refl x
  | one h hx hy => obtain ⟨l', h1, h2⟩ := hs _ h; exact .one h1 (h2 _ hx) (h2 _ hy)
  | symm _ ih => exact .symm ih
  | trans _ _ ih ih' => exact .trans ih ih'
structure SaysU (u : UM) (Ls : List (List Str)) : Prop where
  good : GoodU u
  keys : ∀ x, x ∈ keysU u ↔ named Ls x
  conn : ∀ x y, x ∈ keysU u → y ∈ keysU u → (rootU u x = rootU u y ↔ Conn Ls x y)
  nd : (keysU u).Nodup
theorem setG_nd {x v : Str} : ∀ {u : UM}, (keysU u).Nodup → (keysU (setG u x v)).Nodup
  | [], _ => by simp [setG, keysU]
  | (a, b) :: r, h => by
    have h' : a ∉ keysU r ∧ (keysU r).Nodup := by unfold keysU at h; rwa [List.map_cons, List.nodup_cons] at h
    simp only [setG]
    split
    · rename_i c; subst c; unfold keysU; rw [List.map_cons, List.nodup_cons]; exact h'
    · rename_i c
      show ((a :: keysU (setG r x v))).Nodup
      rw [List.nodup_cons]
      refine ⟨fun h2 => ?_, setG_nd h'.2⟩
      rcases keys_set.1 h2 with h3 | h3
      · exact c h3.symm
      · exact h'.1 h3
theorem addU_nd {u : UM} (x : Str) (h : (keysU u).Nodup) : (keysU (addU u x)).Nodup := by
  unfold addU; split
  · exact h
  · exact setG_nd h
theorem says_nil : SaysU [] [] := ⟨goodU_nil, fun x => by simp [keysU, named], fun x y hx => by simp [keysU] at hx, by simp [keysU]⟩
theorem SaysU.mono {u : UM} {Ls Ls' : List (List Str)} (h : SaysU u Ls) (h1 : ∀ l ∈ Ls, ∃ l' ∈ Ls', ∀ x ∈ l, x ∈ l') (h2 : ∀ l ∈ Ls', ∃ l' ∈ Ls, ∀ x ∈ l, x ∈ l') : SaysU u Ls' :=
  ⟨h.good, fun x => (h.keys x).trans ⟨fun ⟨l, hl, hx⟩ => by obtain ⟨l', g1, g2⟩ := h1 l hl; exact ⟨l', g1, g2 x hx⟩, fun ⟨l, hl, hx⟩ => by obtain ⟨l', g1, g2⟩ := h2 l hl; exact ⟨l', g1, g2 x hx⟩⟩,
   fun x y hx hy => (h.conn x y hx hy).trans ⟨Conn.mono h1, Conn.mono h2⟩, h.nd⟩
theorem says_one {u : UM} {pre : List Str} {Ls : List (List Str)} {a x : Str} (h : SaysU u (pre :: Ls)) (ha : a = x ∨ a ∈ pre) (hpre : pre = [] ∨ a ∈ pre) : SaysU (joinOne a u x) ((pre ++ [x]) :: Ls) := by
  obtain ⟨a1, a2, a3, a4⟩ := addU_ok h.good x
  have hax : a = x ∨ a ∈ keysU u := ha.imp id fun e => (h.keys a).2 ⟨pre, List.mem_cons_self, e⟩
  have kx : x ∈ keysU (addU u x) := (a2 x).2 (.inl rfl)
  have ka : a ∈ keysU (addU u x) := (a2 a).2 hax
  obtain ⟨g1, g2, g3⟩ := linkU_ok a1 kx ka
  have hmem : a ∈ pre ++ [x] := by
    rcases ha with rfl | e
    · simp
    · exact List.mem_append_left _ e
  have hkeys : ∀ y, y ∈ keysU (joinOne a u x) ↔ named ((pre ++ [x]) :: Ls) y := fun y => by
    have := (g2 y).trans (a2 y)
    refine this.trans ?_
    rw [h.keys y]
    constructor
    · rintro (rfl | ⟨l, hl, hy⟩)
      · exact ⟨_, List.mem_cons_self, by simp⟩
      · rcases List.mem_cons.1 hl with rfl | hl
        · exact ⟨_, List.mem_cons_self, List.mem_append_left _ hy⟩
        · exact ⟨l, List.mem_cons_of_mem _ hl, hy⟩
    · rintro ⟨l, hl, hy⟩
      rcases List.mem_cons.1 hl with rfl | hl
      · rcases List.mem_append.1 hy with hy | hy
        · exact .inr ⟨pre, List.mem_cons_self, hy⟩
        · exact .inl (by simpa using hy)
      · exact .inr ⟨l, List.mem_cons_of_mem _ hl, hy⟩
  have up : ∀ {y z : Str}, Conn (pre :: Ls) y z → Conn ((pre ++ [x]) :: Ls) y z := fun hc => hc.mono fun l hl => by
    rcases List.mem_cons.1 hl with rfl | hl
    · exact ⟨_, List.mem_cons_self, fun y hy => List.mem_append_left _ hy⟩
    · exact ⟨l, List.mem_cons_of_mem _ hl, fun _ => id⟩
  -- the names that belong together ahead of the link
  have E1 : ∀ y z, y ∈ keysU (addU u x) → z ∈ keysU (addU u x) → rootU (addU u x) y = rootU (addU u x) z → Conn ((pre ++ [x]) :: Ls) y z := by
    intro y z hy hz e
    by_cases hyu : y ∈ keysU u <;> by_cases hzu : z ∈ keysU u
    · rw [a3 y hyu, a3 z hzu] at e
      exact up ((h.conn y z hyu hzu).1 e)
    · obtain rfl : z = x := ((a2 z).1 hz).resolve_right hzu
      rw [a3 y hyu, a4 hzu] at e
      obtain ⟨rk, hf⟩ := h.good.forest
      have := (hf.rep_key _ y rfl hyu).1
      rw [e] at this; exact absurd this hzu
    · obtain rfl : y = x := ((a2 y).1 hy).resolve_right hyu
      rw [a3 z hzu, a4 hyu] at e
      obtain ⟨rk, hf⟩ := h.good.forest
      have := (hf.rep_key _ z rfl hzu).1
      rw [← e] at this; exact absurd this hyu
    · obtain rfl : y = x := ((a2 y).1 hy).resolve_right hyu
      obtain rfl : z = y := ((a2 z).1 hz).resolve_right hzu
      exact .refl _
  have hxa : Conn ((pre ++ [x]) :: Ls) x a := .one List.mem_cons_self (by simp) hmem
  refine ⟨g1, hkeys, fun y z hy hz => ?_, setG_nd (addU_nd x h.nd)⟩
  have hy1 := (g2 y).1 hy
  have hz1 := (g2 z).1 hz
  rw [show rootU (joinOne a u x) y = _ from g3 y hy1, show rootU (joinOne a u x) z = _ from g3 z hz1]
  constructor
  · intro e
    by_cases p : rootU (addU u x) y = rootU (addU u x) x <;> by_cases q : rootU (addU u x) z = rootU (addU u x) x
    · exact (E1 y x hy1 kx p).trans (E1 z x hz1 kx q).symm
    · rw [if_pos p, if_neg q] at e
      exact ((E1 y x hy1 kx p).trans hxa).trans (E1 a z ka hz1 e)
    · rw [if_neg p, if_pos q] at e
      exact (E1 y a hy1 ka e).trans ((E1 z x hz1 kx q).trans hxa).symm
    · rw [if_neg p, if_neg q] at e
      exact E1 y z hy1 hz1 e
  · intro hc
    -- by the way the names are connected
    have key : ∀ {y z : Str}, Conn ((pre ++ [x]) :: Ls) y z → y = z ∨ (y ∈ keysU (addU u x) ∧ z ∈ keysU (addU u x) ∧ (if rootU (addU u x) y = rootU (addU u x) x then rootU (addU u x) a else rootU (addU u x) y) = (if rootU (addU u x) z = rootU (addU u x) x then rootU (addU u x) a else rootU (addU u x) z)) := by
      intro y z hc
      induction hc with
      | refl y => exact .inl rfl
      | symm _ ih => exact ih.imp Eq.symm fun ⟨p, q, r⟩ => ⟨q, p, r.symm⟩
      | trans _ _ ih ih' =>
        rcases ih with rfl | ⟨p, q, r⟩
        · exact ih'
        · rcases ih' with rfl | ⟨p', q', r'⟩
          · exact .inr ⟨p, q, r⟩
          · exact .inr ⟨p, q', r.trans r'⟩
      | @one l y z hl hy hz =>
        right
        have val : ∀ w ∈ pre ++ [x], w ∈ keysU (addU u x) ∧ (if rootU (addU u x) w = rootU (addU u x) x then rootU (addU u x) a else rootU (addU u x) w) = rootU (addU u x) a := by
          intro w hw
          rcases List.mem_append.1 hw with hw | hw
          · have hap : a ∈ pre := by
              rcases hpre with e | e
              · rw [e] at hw; cases hw
              · exact e
            have kw := (h.keys w).2 ⟨pre, List.mem_cons_self, hw⟩
            have kau := (h.keys a).2 ⟨pre, List.mem_cons_self, hap⟩
            refine ⟨(a2 w).2 (.inr kw), ?_⟩
            have e1 : rootU (addU u x) w = rootU (addU u x) a := by
              rw [a3 w kw, a3 a kau]; exact (h.conn w a kw kau).2 (.one List.mem_cons_self hw hap)
            split
            · rfl
            · exact e1
          · obtain rfl : w = x := by simpa using hw
            exact ⟨kx, by rw [if_pos rfl]⟩
        rcases List.mem_cons.1 hl with rfl | hl
        · exact ⟨(val y hy).1, (val z hz).1, (val y hy).2.trans (val z hz).2.symm⟩
        · have ky := (h.keys y).2 ⟨l, List.mem_cons_of_mem _ hl, hy⟩
          have kz := (h.keys z).2 ⟨l, List.mem_cons_of_mem _ hl, hz⟩
          have e1 : rootU (addU u x) y = rootU (addU u x) z := by
            rw [a3 y ky, a3 z kz]; exact (h.conn y z ky kz).2 (.one (List.mem_cons_of_mem _ hl) hy hz)
          exact ⟨(a2 y).2 (.inr ky), (a2 z).2 (.inr kz), by rw [e1]⟩
    rcases key hc with rfl | ⟨_, _, e⟩
    · rfl
    · exact e
theorem says_join {u : UM} {Ls : List (List Str)} (h : SaysU u Ls) (l : List Str) : SaysU (joinU u l) (l :: Ls) := by
  have cE : ∀ {x y : Str}, Conn ([] :: Ls) x y → Conn Ls x y := fun hc => by
    induction hc with
    | refl x => exact .refl x
    | symm _ ih => exact .symm ih
    | trans _ _ ih ih' => exact .trans ih ih'
    | one hl hx hy =>
      rcases List.mem_cons.1 hl with rfl | hl
      · cases hx
      · exact .one hl hx hy
  have h0 : SaysU u ([] :: Ls) := ⟨h.good, fun x => (h.keys x).trans ⟨fun ⟨l, hl, hx⟩ => ⟨l, List.mem_cons_of_mem _ hl, hx⟩, fun ⟨l, hl, hx⟩ => by
    rcases List.mem_cons.1 hl with rfl | hl
    · cases hx
    · exact ⟨l, hl, hx⟩⟩, fun x y hx hy => (h.conn x y hx hy).trans ⟨Conn.mono fun l hl => ⟨l, List.mem_cons_of_mem _ hl, fun _ => id⟩, cE⟩, h.nd⟩
  have key : ∀ (rest pre : List Str) (v : UM), l = pre ++ rest → SaysU v (pre :: Ls) → SaysU (rest.foldl (joinOne (l.headD [])) v) (l :: Ls) := by
    intro rest
    induction rest with
    | nil => intro pre v e hv; rw [List.append_nil] at e; rw [e]; exact hv
    | cons x rest ih =>
      intro pre v e hv
      refine ih (pre ++ [x]) _ (by rw [e]; simp) (says_one hv ?_ ?_)
      · rw [e]; cases pre with
        | nil => exact .inl rfl
        | cons p q => exact .inr List.mem_cons_self
      · rw [e]; cases pre with
        | nil => exact .inl rfl
        | cons p q => exact .inr List.mem_cons_self
  exact key l [] u rfl h0
open Go.Lib
@[reducible] def kind912 (f : Fact) : Bool := decide (f.kind = 9) || decide (f.kind = 12)
def sortN (l : List Str) : List Str := l.mergeSort fun x y => decide (x ≤ y)
theorem sortN_perm (l : List Str) : (sortN l).Perm l := List.mergeSort_perm l _
theorem attachN {α : Type} {P : α → Prop} {l : List α} (h : ∀ k ∈ l, P k) : (l.attachWith P h).map Subtype.val = l := by
 induction l with
 | nil => rfl
 | cons a l ih => simp
def headNames (f : Fact) : List Str := if kind912 f = true then [f.instr] ++ [f.other] else [f.instr]
def instrNames (f : Fact) : List Str := headNames f ++ f.opts.map (·.other)
def sureNames (f : Fact) : List Str := (instrNames f).filter fun s => !decide (s = [])
def instrsS (f : Fact) : List Str := Lib.compact (sortN (sureNames f))
theorem headNames_le (f : Fact) : (headNames f).length ≤ 2 ∧ headNames f ≠ [] := by
 unfold headNames; split <;> simp
theorem mem_keepList {d : Array Str} : ∀ (m : Nat) (x : Str), x ∈ compactUpTo d m ↔ ∃ j, j < m ∧ keeps d j = true ∧ d[j]! = x
 | 0, x => by simp [compactUpTo]
 | m + 1, x => by
  rw [compactUpTo_succ, List.mem_append, mem_keepList m]
  constructor
  ·rintro (⟨j, h1, h2, h3⟩ | h)
   ·exact ⟨j, by omega, h2, h3⟩
   ·split at h
    ·exact ⟨m, by omega, by assumption, (List.mem_singleton.1 h).symm⟩
    ·cases h
  ·rintro ⟨j, h1, h2, h3⟩
   by_cases e : j = m
   ·subst e; right; rw [if_pos h2]; simp [h3]
   ·exact .inl ⟨j, by omega, h2, h3⟩
theorem mem_compact {l : List Str} {x : Str} : x ∈ Lib.compact l ↔ x ∈ l := by
 unfold Lib.compact
 rw [mem_keepList]
 constructor
 ·rintro ⟨j, h1, _, rfl⟩
  rw [getElem!_pos l.toArray j (by simpa using h1)]
  simp
 ·intro h
  have hex : ∃ j, j < l.length ∧ l.toArray[j]! = x := by
   obtain ⟨j, hj, e⟩ := List.getElem_of_mem h
   exact ⟨j, hj, by rw [getElem!_pos l.toArray j (by simpa using hj)]; simpa using e⟩
  have key : ∀ j, j < l.length → l.toArray[j]! = x → ∃ i, i < l.length ∧ keeps l.toArray i = true ∧ l.toArray[i]! = x := by
   intro j
   induction j with
   | zero => intro h0 e; exact ⟨0, h0, keeps_lt_one _ 0 (by omega), e⟩
   | succ j ih =>
    intro h0 e
    by_cases e2 : l.toArray[j]! = x
    ·exact ih (by omega) e2
    ·exact ⟨j + 1, h0, keeps_pos (by rw [e]; exact fun e3 => e2 e3.symm), e⟩
  obtain ⟨j, h1, h2⟩ := hex
  exact key j h1 h2
theorem mem_sortN {l : List Str} {x : Str} : x ∈ sortN l ↔ x ∈ l := (sortN_perm l).mem_iff
theorem mem_instrs {f : Fact} {x : Str} : x ∈ instrsS f ↔ x ∈ instrNames f ∧ x ≠ [] := by
 unfold instrsS sureNames
 rw [mem_compact, mem_sortN, List.mem_filter]
 simp
theorem instrs_len (f : Fact) : (instrsS f).length ≤ 2 + f.opts.length := by
 have h1 := compact_length_le (sortN (sureNames f))
 have h2 := (sortN_perm (sureNames f)).length_eq
 have h3 : (sureNames f).length ≤ (instrNames f).length := List.length_filter_le _ _
 have h4 := (headNames_le f).1
 unfold instrNames at h3
 simp only [List.length_append, List.length_map] at h3
 unfold instrsS
 omega
theorem instrs_nil {f : Fact} (h : sureNames f = []) : instrsS f = [] := by
 unfold instrsS; rw [h]; simp [sortN, Lib.compact, compactUpTo]
open Go.Proofs Go.Proofs.Tryz Go.Shelf Go.RowKit Go.Sort
set_option maxRecDepth 20000
theorem gives62 (x : Str) (W : World) : FnGives Tryz.prog 62 #[] #[encStr x] (.bool (decide (x = []))) W := by
 show Calls Tryz.prog 62 #[encStr x] W _
 go_enter func62, ntmps62
 go_wp2
 all_goals (go_ret; exact ⟨by cases x <;> simp_all, 0, rfl⟩)
theorem eg62 : ∀ args w, (callFunc 62 args).run Tryz.prog w = .ok (.enter 62 args) w := enters_of func62 (by kernel_rfl) rfl
section
variable {l : List Str} (h : ∀ s ∈ l, okStr s)
theorem rowsA : (l.attachWith okStr h).map (fun x => [D.str x.1]) = l.map fun s => [D.str s] := by conv => { rhs; rw [← attachN h, List.map_map] }; rfl
end
theorem delN_ok (id : Nat) (l : List Str) (h : ∀ s ∈ l, okStr s) (hl : l.length < 4611686018427387904) (hne : (l.filter fun s => !decide (s = [])) ≠ []) :
  FcO Tryz.prog 61 [.gs id l.length, .fn (.func 62) [] []] [(id, .arr 1 (l.map fun s => [D.str s]))] (.gs id (l.filter fun s => !decide (s = [])).length) [(id, .arr 1 ((l.filter fun s => !decide (s = [])).map fun s => [D.str s]))] := by
 have h2 : ∀ s ∈ l.filter (fun s => !decide (s = [])), okStr s := fun s hs => h s (List.mem_filter.1 hs).1
 have := delStr_FcO (r := Tryz.delStr_ren) Tryz.delStr zeroValue9 eg62 gives62 id (l.attachWith okStr h) (by simpa using hl) ((l.filter fun s => !decide (s = [])).attachWith okStr h2) (by rw [attachN, attachN]) (by intro e; exact hne (by simpa using congrArg (List.map Subtype.val) e))
 rw [rowsA h, rowsA h2, List.length_attachWith, List.length_attachWith] at this
 exact this
theorem del0_ok (id : Nat) (l : List Str) (h : ∀ s ∈ l, okStr s) (h0 : l ≠ []) (hl : l.length < 4611686018427387904) (he : (l.filter fun s => !decide (s = [])) = []) :
  FcO Tryz.prog 61 [.gs id l.length, .fn (.func 62) [] []] [(id, .arr 1 (l.map fun s => [D.str s]))] (.snap 1 false []) [(id, .arr 1 [])] := by
 have := delStr0_FcO (r := Tryz.delStr_ren) Tryz.delStr zeroValue9 eg62 gives62 id (l.attachWith okStr h) (by intro e; exact h0 (by simpa using congrArg (List.map Subtype.val) e)) (by simpa using hl) (by rw [attachN]; exact he)
 rw [rowsA h, List.length_attachWith] at this
 exact this
theorem sortN_ok (id : Nat) (l : List Str) (h : ∀ s ∈ l, okStr s) (hl : l.length < 4611686018427387904) : FcO Tryz.prog 63 [.gs id l.length] [(id, .arr 1 (l.map fun s => [D.str s]))] (.tup []) [(id, .arr 1 ((sortN l).map fun s => [D.str s]))] := by
 have h2 : ∀ s ∈ sortN l, okStr s := fun s hs => h s ((sortN_perm l).subset hs)
 have := sortStr_FcO (r := Tryz.laysSlM6_f63_ren) Tryz.laysSlM6_f63 id (l.attachWith okStr h) (by simpa using hl) ((sortN l).attachWith okStr h2) (by rw [attachN, attachN]; rfl)
 rw [rowsA h, rowsA h2, List.length_attachWith] at this
 exact this
theorem sortE_ok : Fc Tryz.prog 63 [.snap 1 false []] (.tup []) := .of_calls fun w O ρ vals hg hv => by
 simp only [Vs, V] at hv
 obtain ⟨_, _, rfl, ⟨a, cap, rfl, _⟩, rfl⟩ := hv
 refine (Tryz.slices_Sort_string_none a cap w).mono ?_
 rintro e w' ⟨rfl, rfl⟩
 exact ⟨_, rfl, by simp [V, Vs], .refl _⟩
theorem compN_ok (id : Nat) (l : List Str) (h : ∀ s ∈ l, okStr s) (h0 : l ≠ []) (hl : l.length < 4611686018427387904) (n : Nat) (hln : l.length = n) : FcO Tryz.prog 64 [.gs id n] [(id, .arr 1 (l.map fun s => [D.str s]))] (.gs id (Lib.compact l).length) [(id, .arr 1 ((Lib.compact l).map fun s => [D.str s]))] := by
 subst hln
 have h2 : ∀ s ∈ Lib.compact l, okStr s := fun s hs => h s (mem_compact.1 hs)
 have := compactStr_FcO (f := 64) Tryz.slices_Compact_string id (l.attachWith okStr h) (by intro e; exact h0 (by simpa using congrArg (List.map Subtype.val) e)) (by simpa using hl) ((Lib.compact l).attachWith okStr h2) (by rw [attachN, attachN])
  (by
   intro e
   obtain ⟨x, hx⟩ := List.exists_mem_of_ne_nil _ h0
   have e2 : Lib.compact l = [] := by simpa using congrArg (List.map Subtype.val) e
   have := (mem_compact (l := l) (x := x)).2 hx
   rw [e2] at this; cases this) (by simpa using compact_length_le l)
 rw [rowsA h, rowsA h2, List.length_attachWith, List.length_attachWith] at this
 exact this
theorem compE_ok : Fc Tryz.prog 64 [.snap 1 false []] (.snap 1 false []) := .of_calls fun w O ρ vals hg hv => by
 simp only [Vs, V] at hv
 obtain ⟨_, _, rfl, ⟨a, cap, rfl, h⟩, rfl⟩ := hv
 refine (Tryz.slices_Compact_string_empty a cap w).mono ?_
 rintro e w' ⟨rfl, rfl⟩
 exact ⟨_, rfl, by simp only [V]; exact ⟨_, _, rfl, h⟩, .refl _⟩
end Go.T
namespace Go.T
open Go Go.Proofs Go.Proofs.Tryz
set_option maxRecDepth 20000
theorem hN_T {f : Fact} (h : kind912 f = true) : headNames f = [f.instr] ++ [f.other] := if_pos h
theorem hN_F {f : Fact} (h : kind912 f = false) : headNames f = [f.instr] := if_neg (by rw [h]; simp)
theorem instr_okS {f : Fact} (hs : ∀ s ∈ instrNames f, okStr s) : (∀ s ∈ sureNames f, okStr s) ∧ (∀ s ∈ sortN (sureNames f), okStr s) :=
 ⟨fun s h => hs s (List.mem_filter.1 h).1, fun s h => hs s (List.mem_filter.1 (mem_sortN.1 h)).1⟩
theorem sure_len (f : Fact) : (sureNames f).length ≤ 2 + f.opts.length ∧ (sortN (sureNames f)).length = (sureNames f).length ∧ (instrNames f).length ≤ 2 + f.opts.length := by
 have h2 := (sortN_perm (sureNames f)).length_eq
 have h3 : (sureNames f).length ≤ (instrNames f).length := List.length_filter_le _ _
 have h4 := (headNames_le f).1
 have h5 : (instrNames f).length ≤ 2 + f.opts.length := by
  unfold instrNames
  simp only [List.length_append, List.length_map]
  omega
 exact ⟨by omega, h2, h5⟩
theorem sort_ne {f : Fact} (h : sureNames f ≠ []) : sortN (sureNames f) ≠ [] := by
 intro e
 have := (sortN_perm (sureNames f)).length_eq
 rw [e] at this
 exact h (List.length_eq_zero_iff.1 this.symm)
theorem instr_ne0 (f : Fact) : instrNames f ≠ [] := by
 unfold instrNames
 intro e
 exact (headNames_le f).2 (List.append_eq_nil_iff.1 e).1
structure instrs0_ok_L0 (f : Fact) where
 pre : List Opt
 rest : List Opt
 hx : f.opts = pre ++ rest
theorem instrs0_ok (f : Fact) (hn : f.opts.length ≤ 1000000) (hs : ∀ s ∈ instrNames f, okStr s) (hne : sureNames f = []) : Fc Tryz.prog 25 [.agg (encFact f)] (sStrs (instrsS f)) := by
 refine Fc.mk' [2] func25 rfl ntmps25 rfl rfl rfl (fun t w => results_tmp results25 t _ w) ?_
 have hS := instr_okS hs
 have hSl := sure_len f
 refine go [1] ?_
 refine Run.weak (Le.freezeB 1 0 rfl rfl rfl rfl) ?_
 refine go [] ?_
 refine oW (q_buildOwn (n := 1) (rows := [[.str f.instr]]) 1 underlying48 sizeOf9 rfl rfl rfl zeroValue9 rfl rfl rfl rfl rfl rfl rfl rfl) ?_
 refine br (fun h1 => ?_) (fun h1 => ?_)
 ·refine oP (qBu (n := 1) (rows := [[.str f.other]]) underlying48 sizeOf9 rfl rfl rfl zeroValue9 rfl rfl rfl rfl rfl rfl rfl) ?_
  refine oW (q_append 2 underlying48 underlying48 sizeOf9 typeInfo9 zeroValue9 rfl (bt := 16) rfl rfl rfl rfl (by simp) rfl rfl (by simp)) ?_
  refine Run.loop (ι := instrs0_ok_L0 f) (fun sx => [(1, .iptr (encFact f)), (3, .gs 1 ((headNames f ++ sx.pre.map (·.other))).length), (23, sOpts f.opts), (24, .i f.opts.length), (25, .i sx.pre.length)]) (fun sx => [(1, .arr 1 ((headNames f ++ sx.pre.map (·.other)).map (fun s : Str => [D.str s])))]) (fun sx => sx.rest.length) ⟨[], _, rfl⟩ ?_ ?_
  ·exact (Le.mk (obs' := [(2, _)]) rfl (show EnvLe _ _ [(1, _), (3, _), (23, _), (24, _), (25, _)] from (.s rfl rfl (.s rfl rfl (.s rfl rfl (.s rfl rfl (.s rfl rfl .nil)))))) (.cons (i := 2) rfl rfl .nil)).trans <| (Le.ren 3 2 1 rfl rfl (by simp) rfl).trans <| Le.mk rfl (.s rfl rfl (.cons rfl (Sub.gs (by rw [hN_T h1]; rfl)) rfl (.s rfl rfl (.cons rfl (Sub.int (by simp)) rfl (.s rfl rfl .nil))))) (.arr rfl (by rw [hN_T h1]; rfl) .nil)
  ·rintro ⟨pre, rest, hx⟩
   show Run _ _ _ _ [(1, .iptr (encFact f)), (3, .gs 1 ((headNames f ++ pre.map (·.other))).length), (23, sOpts f.opts), (24, .i f.opts.length), (25, .i pre.length)] [(1, .arr 1 ((headNames f ++ pre.map (·.other)).map (fun s : Str => [D.str s])))]
   have hl := congrArg List.length hx
   simp only [List.length_append] at hl
   have hH := headNames_le f
   rcases rest with _ | ⟨x, rest⟩
   ·have hpre : instrNames f = (headNames f ++ pre.map (·.other)) := by rw [instrNames]; simp [hx]
    refine go [1] ?_
    refine brF (by simp at hl ⊢; omega) ?_
    refine go [1] ?_
    refine oW (q_callO call61 (by rw [← hpre]; rfl) (del0_ok 1 (instrNames f) hs (instr_ne0 f) (by omega) hne) (.cons (by rw [← hpre]; rfl) rfl .nil) rfl rfl) ?_
    refine oP (qCa call63 rfl sortE_ok) ?_
    refine oP (qCa call64 rfl compE_ok) ?_
    exact rx1 rfl (Sub.snap (by exact (instrs_nil hne).symm ▸ rfl))
   ·simp only [List.length_cons] at hl
    refine go [1] ?_
    refine brT (by simp; omega) ?_
    refine ix (by omega) (iMd encOpt hx rfl) ?_
    refine oP (qBu (n := 1) (rows := [[.str x.other]]) underlying48 sizeOf9 rfl rfl rfl zeroValue9 rfl rfl rfl rfl rfl rfl rfl) ?_
    refine oW (q_append 2 underlying48 underlying48 sizeOf9 typeInfo9 zeroValue9 rfl (bt := 16) rfl rfl rfl rfl (by simp) rfl rfl (by simp; omega)) ?_
    refine sd (w64 (by omega)) ?_
    exact nx ⟨pre ++ [x], rest, by simp [hx]⟩ (by simp) ((Le.mk (obs' := [(2, _)]) rfl (show EnvLe _ _ [(1, _), (3, _), (23, _), (24, _), (25, _)] from (.s rfl rfl (.s rfl rfl (.s rfl rfl (.s rfl rfl (.s rfl rfl .nil)))))) (.cons (i := 2) rfl rfl .nil)).trans <| (Le.ren 3 2 1 rfl rfl (by simp; omega) rfl).trans <| Le.mk rfl (.s rfl rfl (.cons rfl (Sub.gs (by simp; omega)) rfl (.s rfl rfl (.s rfl rfl (.cons rfl (Sub.int (by simp)) rfl .nil))))) (.arr rfl (by simp) .nil))
 ·refine Run.loop (ι := instrs0_ok_L0 f) (fun sx => [(1, .iptr (encFact f)), (3, .gs 1 ((headNames f ++ sx.pre.map (·.other))).length), (23, sOpts f.opts), (24, .i f.opts.length), (25, .i sx.pre.length)]) (fun sx => [(1, .arr 1 ((headNames f ++ sx.pre.map (·.other)).map (fun s : Str => [D.str s])))]) (fun sx => sx.rest.length) ⟨[], _, rfl⟩ ?_ ?_
  ·exact Le.mk rfl (.s rfl rfl (.cons rfl (Sub.gs (by rw [hN_F h1]; rfl)) rfl (.s rfl rfl (.cons rfl (Sub.int (by simp)) rfl (.s rfl rfl .nil))))) (.arr rfl (by rw [hN_F h1]; rfl) .nil)
  ·rintro ⟨pre, rest, hx⟩
   show Run _ _ _ _ [(1, .iptr (encFact f)), (3, .gs 1 ((headNames f ++ pre.map (·.other))).length), (23, sOpts f.opts), (24, .i f.opts.length), (25, .i pre.length)] [(1, .arr 1 ((headNames f ++ pre.map (·.other)).map (fun s : Str => [D.str s])))]
   have hl := congrArg List.length hx
   simp only [List.length_append] at hl
   have hH := headNames_le f
   rcases rest with _ | ⟨x, rest⟩
   ·have hpre : instrNames f = (headNames f ++ pre.map (·.other)) := by rw [instrNames]; simp [hx]
    refine go [1] ?_
    refine brF (by simp at hl ⊢; omega) ?_
    refine go [1] ?_
    refine oW (q_callO call61 (by rw [← hpre]; rfl) (del0_ok 1 (instrNames f) hs (instr_ne0 f) (by omega) hne) (.cons (by rw [← hpre]; rfl) rfl .nil) rfl rfl) ?_
    refine oP (qCa call63 rfl sortE_ok) ?_
    refine oP (qCa call64 rfl compE_ok) ?_
    exact rx1 rfl (Sub.snap (by exact (instrs_nil hne).symm ▸ rfl))
   ·simp only [List.length_cons] at hl
    refine go [1] ?_
    refine brT (by simp; omega) ?_
    refine ix (by omega) (iMd encOpt hx rfl) ?_
    refine oP (qBu (n := 1) (rows := [[.str x.other]]) underlying48 sizeOf9 rfl rfl rfl zeroValue9 rfl rfl rfl rfl rfl rfl rfl) ?_
    refine oW (q_append 2 underlying48 underlying48 sizeOf9 typeInfo9 zeroValue9 rfl (bt := 16) rfl rfl rfl rfl (by simp) rfl rfl (by simp; omega)) ?_
    refine sd (w64 (by omega)) ?_
    exact nx ⟨pre ++ [x], rest, by simp [hx]⟩ (by simp) ((Le.mk (obs' := [(2, _)]) rfl (show EnvLe _ _ [(1, _), (3, _), (23, _), (24, _), (25, _)] from (.s rfl rfl (.s rfl rfl (.s rfl rfl (.s rfl rfl (.s rfl rfl .nil)))))) (.cons (i := 2) rfl rfl .nil)).trans <| (Le.ren 3 2 1 rfl rfl (by simp; omega) rfl).trans <| Le.mk rfl (.s rfl rfl (.cons rfl (Sub.gs (by simp; omega)) rfl (.s rfl rfl (.s rfl rfl (.cons rfl (Sub.int (by simp)) rfl .nil))))) (.arr rfl (by simp) .nil))
structure instrsN_ok_L0 (f : Fact) where
 pre : List Opt
 rest : List Opt
 hx : f.opts = pre ++ rest
theorem instrsN_ok (f : Fact) (hn : f.opts.length ≤ 1000000) (hs : ∀ s ∈ instrNames f, okStr s) (hne : sureNames f ≠ []) : Fc Tryz.prog 25 [.agg (encFact f)] (sStrs (instrsS f)) := by
 refine Fc.mk' [2] func25 rfl ntmps25 rfl rfl rfl (fun t w => results_tmp results25 t _ w) ?_
 have hS := instr_okS hs
 have hSl := sure_len f
 refine Run.seq (Run.reg [.w, .p] ?_)
 refine .W rfl (q_boxA 0 rfl rfl) <| .ag rfl rfl <| .nil ?_
 refine Run.weak (Le.freezeB 1 0 rfl rfl rfl rfl) ?_
 refine Run.seq (Run.reg [.p, .p, .w, .p] ?_)
 refine .P rfl (q_fieldI (n := 0) 9 5 underlying39 sizeOf9 rfl rfl rfl) <| .P rfl (qLo isAgg9 rfl) <| .W rfl (q_buildOwn (n := 1) (rows := [[.str f.instr]]) 1 underlying48 sizeOf9 rfl rfl rfl zeroValue9 rfl rfl rfl rfl rfl rfl rfl rfl) <| .ag rfl rfl <| .nil ?_
 refine Run.seq (Run.seq (Run.reg [.p, .p, .p, .p, .p, .p, .p, .p] ?_))
 refine .P rfl (q_fieldI (n := 0) 3 4 underlying39 sizeOf3 rfl rfl rfl) <| .P rfl (qLo isAgg3 rfl) <| .P rfl (q_eql rfl rfl) <| .mv rfl rfl <| .gF rfl (.inl rfl) rfl rfl rfl (fun hg => pk (fun _ => q_fieldI (n := 0) 3 4 underlying39 sizeOf3 rfl rfl rfl _)) <| .gF rfl (.inl rfl) rfl rfl rfl (fun hg => pk (fun _ => qLo isAgg3 (opT rfl (nt hg)) _)) <| .gF rfl (.inl rfl) rfl rfl rfl (fun hg => pk (fun _ => q_eql (opT rfl (nt hg)) rfl _)) <| .P rfl (q_or rfl rfl) <| .nil ?_
 refine Run.cond rfl (fun h1 => ?_) (fun h1 => ?_)
 ·refine Run.reg [.p, .p, .p, .p, .w, .p] ?_
  refine .mv rfl rfl <| .P rfl (q_fieldI (n := 0) 9 6 underlying39 sizeOf9 rfl rfl rfl) <| .P rfl (qLo isAgg9 rfl) <| .P rfl (qBu (n := 1) (rows := [[.str f.other]]) underlying48 sizeOf9 rfl rfl rfl zeroValue9 rfl rfl rfl rfl rfl rfl rfl) <| .W rfl (q_append 2 underlying48 underlying48 sizeOf9 typeInfo9 zeroValue9 rfl (bt := 16) rfl rfl rfl rfl (by simp) rfl rfl (by simp)) <| .ag rfl rfl <| .nil ?_
  refine Run.seq (Run.seq (Run.reg [.p, .p, .p, .p] ?_))
  refine .P rfl (q_fieldI (n := 0) 37 19 underlying39 sizeOf37 rfl rfl rfl) <| .P rfl (qLo isAgg37 rfl) <| .P rfl (qLe underlying37 rfl) <| .mv rfl rfl <| .nil ?_
  refine Run.block ?_
  refine Run.loop (ι := instrsN_ok_L0 f) (fun sx => [(1, .iptr (encFact f)), (3, .gs 1 ((headNames f ++ sx.pre.map (·.other))).length), (23, sOpts f.opts), (24, .i f.opts.length), (25, .i sx.pre.length)]) (fun sx => [(1, .arr 1 ((headNames f ++ sx.pre.map (·.other)).map (fun s : Str => [D.str s])))]) (fun sx => sx.rest.length) ⟨[], _, rfl⟩ ?_ ?_
  ·exact (Le.mk (obs' := [(2, _)]) rfl (show EnvLe _ _ [(1, _), (3, _), (23, _), (24, _), (25, _)] from (.s rfl rfl (.s rfl rfl (.s rfl rfl (.s rfl rfl (.s rfl rfl .nil)))))) (.cons (i := 2) rfl rfl .nil)).trans <| (Le.ren 3 2 1 rfl rfl (by simp) rfl).trans <| Le.mk rfl (.s rfl rfl (.cons rfl (Sub.gs (by rw [hN_T h1]; rfl)) rfl (.s rfl rfl (.cons rfl (Sub.int (by simp)) rfl (.s rfl rfl .nil))))) (.arr rfl (by rw [hN_T h1]; rfl) .nil)
  ·rintro ⟨pre, rest, hx⟩
   show Run _ _ _ _ [(1, .iptr (encFact f)), (3, .gs 1 ((headNames f ++ pre.map (·.other))).length), (23, sOpts f.opts), (24, .i f.opts.length), (25, .i pre.length)] [(1, .arr 1 ((headNames f ++ pre.map (·.other)).map (fun s : Str => [D.str s])))]
   have hl := congrArg List.length hx
   simp only [List.length_append] at hl
   have hH := headNames_le f
   rcases rest with _ | ⟨x, rest⟩
   ·have hpre : instrNames f = (headNames f ++ pre.map (·.other)) := by rw [instrNames]; simp [hx]
    refine Run.seq (Run.reg [.p] ?_)
    refine .P rfl (q_lss rfl rfl) <| .nil ?_
    refine Run.seq ?_
    refine Run.condF rfl (by simp at hl ⊢; omega) ?_
    refine Run.exit (tX0 (bX0 ?_))
    refine Run.seq (Run.reg [.p, .w, .p] ?_)
    refine .mv rfl rfl <| .W rfl (q_callO call61 (by rw [← hpre]; rfl) (delN_ok 1 (instrNames f) hs (by omega) hne) (.cons (by rw [← hpre]; rfl) rfl .nil) rfl rfl) <| .ag rfl rfl <| .nil ?_
    refine Run.seq (Run.reg [.p, .w] ?_)
    refine .mv rfl rfl <| .W rfl (q_callO call63 rfl (sortN_ok 1 (sureNames f) hS.1 (by omega)) (.cons rfl rfl .nil) rfl rfl) <| .nil ?_
    refine Run.seq (Run.reg [.p, .w, .p] ?_)
    refine .mv rfl rfl <| .W rfl (q_callO call64 rfl (compN_ok 1 (sortN (sureNames f)) hS.2 (sort_ne hne) (by omega) (sureNames f).length hSl.2.1) (.cons rfl rfl .nil) rfl rfl) <| .ag rfl rfl <| .nil ?_
    refine Run.weak (Le.freeze 2 1 rfl rfl (by simp)) ?_
    refine Run.ret (?_)
    exact ret1 rfl (Sub.refl _)
   ·simp only [List.length_cons] at hl
    refine Run.seq (Run.reg [.p] ?_)
    refine .P rfl (q_lss rfl rfl) <| .nil ?_
    refine Run.seq ?_
    refine Run.condT rfl (by simp; omega) ?_
    refine Run.skip ?_
    refine Run.seq ?_
    refine Run.block ?_
    refine Run.seq (Run.reg [.p, .p, .w, .w] ?_)
    refine .P rfl (qIi underlying37 sizeOf87 rfl rfl (by omega) (iMd encOpt hx rfl)) <| .P rfl (q_loadIA isAgg87 sizeOf87 rfl rfl) <| .W rfl (q_alloc 3 zeroValue87 rfl) <| .W rfl (q_storeW sizeOf87 rfl rfl rfl rfl rfl rfl) <| .nil ?_
    refine Run.reg [.p, .p, .r, .p, .w, .p] ?_
    refine .mv rfl rfl <| .P rfl (q_fieldB (n := 0) 9 0 underlying87 sizeOf9 rfl rfl) <| .R rfl (q_load1 isAgg9 rfl rfl rfl) <| .P rfl (qBu (n := 1) (rows := [[.str x.other]]) underlying48 sizeOf9 rfl rfl rfl zeroValue9 rfl rfl rfl rfl rfl rfl rfl) <| .W rfl (q_append 4 underlying48 underlying48 sizeOf9 typeInfo9 zeroValue9 rfl (bt := 16) rfl rfl rfl rfl (by simp) rfl rfl (by simp; omega)) <| .ag rfl rfl <| .nil ?_
    refine Run.nil (bN0 ?_)
    refine Run.reg [.p, .p] ?_
    refine .P rfl (q_add rfl rfl (w64 (by omega))) <| .mv rfl rfl <| .nil ?_
    refine Run.nil (tN0 ?_)
    exact ⟨⟨pre ++ [x], rest, by simp [hx]⟩, by simp, (Le.mk (obs' := [(4, _)]) rfl (show EnvLe _ _ [(1, _), (3, _), (23, _), (24, _), (25, _)] from (.s rfl rfl (.s rfl rfl (.s rfl rfl (.s rfl rfl (.s rfl rfl .nil)))))) (.cons (i := 4) rfl rfl .nil)).trans <| (Le.ren 3 4 1 rfl rfl (by simp; omega) rfl).trans <| Le.mk rfl (.s rfl rfl (.cons rfl (Sub.gs (by simp; omega)) rfl (.s rfl rfl (.s rfl rfl (.cons rfl (Sub.int (by simp)) rfl .nil))))) (.arr rfl (by simp) .nil)⟩
 ·refine Run.skip ?_
  refine Run.seq (Run.seq (Run.reg [.p, .p, .p, .p] ?_))
  refine .P rfl (q_fieldI (n := 0) 37 19 underlying39 sizeOf37 rfl rfl rfl) <| .P rfl (qLo isAgg37 rfl) <| .P rfl (qLe underlying37 rfl) <| .mv rfl rfl <| .nil ?_
  refine Run.block ?_
  refine Run.loop (ι := instrsN_ok_L0 f) (fun sx => [(1, .iptr (encFact f)), (3, .gs 1 ((headNames f ++ sx.pre.map (·.other))).length), (23, sOpts f.opts), (24, .i f.opts.length), (25, .i sx.pre.length)]) (fun sx => [(1, .arr 1 ((headNames f ++ sx.pre.map (·.other)).map (fun s : Str => [D.str s])))]) (fun sx => sx.rest.length) ⟨[], _, rfl⟩ ?_ ?_
  ·exact Le.mk rfl (.s rfl rfl (.cons rfl (Sub.gs (by rw [hN_F h1]; rfl)) rfl (.s rfl rfl (.cons rfl (Sub.int (by simp)) rfl (.s rfl rfl .nil))))) (.arr rfl (by rw [hN_F h1]; rfl) .nil)
  ·rintro ⟨pre, rest, hx⟩
   show Run _ _ _ _ [(1, .iptr (encFact f)), (3, .gs 1 ((headNames f ++ pre.map (·.other))).length), (23, sOpts f.opts), (24, .i f.opts.length), (25, .i pre.length)] [(1, .arr 1 ((headNames f ++ pre.map (·.other)).map (fun s : Str => [D.str s])))]
   have hl := congrArg List.length hx
   simp only [List.length_append] at hl
   have hH := headNames_le f
   rcases rest with _ | ⟨x, rest⟩
   ·have hpre : instrNames f = (headNames f ++ pre.map (·.other)) := by rw [instrNames]; simp [hx]
    refine Run.seq (Run.reg [.p] ?_)
    refine .P rfl (q_lss rfl rfl) <| .nil ?_
    refine Run.seq ?_
    refine Run.condF rfl (by simp at hl ⊢; omega) ?_
    refine Run.exit (tX0 (bX0 ?_))
    refine Run.seq (Run.reg [.p, .w, .p] ?_)
    refine .mv rfl rfl <| .W rfl (q_callO call61 (by rw [← hpre]; rfl) (delN_ok 1 (instrNames f) hs (by omega) hne) (.cons (by rw [← hpre]; rfl) rfl .nil) rfl rfl) <| .ag rfl rfl <| .nil ?_
    refine Run.seq (Run.reg [.p, .w] ?_)
    refine .mv rfl rfl <| .W rfl (q_callO call63 rfl (sortN_ok 1 (sureNames f) hS.1 (by omega)) (.cons rfl rfl .nil) rfl rfl) <| .nil ?_
    refine Run.seq (Run.reg [.p, .w, .p] ?_)
    refine .mv rfl rfl <| .W rfl (q_callO call64 rfl (compN_ok 1 (sortN (sureNames f)) hS.2 (sort_ne hne) (by omega) (sureNames f).length hSl.2.1) (.cons rfl rfl .nil) rfl rfl) <| .ag rfl rfl <| .nil ?_
    refine Run.weak (Le.freeze 2 1 rfl rfl (by simp)) ?_
    refine Run.ret (?_)
    exact ret1 rfl (Sub.refl _)
   ·simp only [List.length_cons] at hl
    refine Run.seq (Run.reg [.p] ?_)
    refine .P rfl (q_lss rfl rfl) <| .nil ?_
    refine Run.seq ?_
    refine Run.condT rfl (by simp; omega) ?_
    refine Run.skip ?_
    refine Run.seq ?_
    refine Run.block ?_
    refine Run.seq (Run.reg [.p, .p, .w, .w] ?_)
    refine .P rfl (qIi underlying37 sizeOf87 rfl rfl (by omega) (iMd encOpt hx rfl)) <| .P rfl (q_loadIA isAgg87 sizeOf87 rfl rfl) <| .W rfl (q_alloc 2 zeroValue87 rfl) <| .W rfl (q_storeW sizeOf87 rfl rfl rfl rfl rfl rfl) <| .nil ?_
    refine Run.reg [.p, .p, .r, .p, .w, .p] ?_
    refine .mv rfl rfl <| .P rfl (q_fieldB (n := 0) 9 0 underlying87 sizeOf9 rfl rfl) <| .R rfl (q_load1 isAgg9 rfl rfl rfl) <| .P rfl (qBu (n := 1) (rows := [[.str x.other]]) underlying48 sizeOf9 rfl rfl rfl zeroValue9 rfl rfl rfl rfl rfl rfl rfl) <| .W rfl (q_append 3 underlying48 underlying48 sizeOf9 typeInfo9 zeroValue9 rfl (bt := 16) rfl rfl rfl rfl (by simp) rfl rfl (by simp; omega)) <| .ag rfl rfl <| .nil ?_
    refine Run.nil (bN0 ?_)
    refine Run.reg [.p, .p] ?_
    refine .P rfl (q_add rfl rfl (w64 (by omega))) <| .mv rfl rfl <| .nil ?_
    refine Run.nil (tN0 ?_)
    exact ⟨⟨pre ++ [x], rest, by simp [hx]⟩, by simp, (Le.mk (obs' := [(3, _)]) rfl (show EnvLe _ _ [(1, _), (3, _), (23, _), (24, _), (25, _)] from (.s rfl rfl (.s rfl rfl (.s rfl rfl (.s rfl rfl (.s rfl rfl .nil)))))) (.cons (i := 3) rfl rfl .nil)).trans <| (Le.ren 3 3 1 rfl rfl (by simp; omega) rfl).trans <| Le.mk rfl (.s rfl rfl (.cons rfl (Sub.gs (by simp; omega)) rfl (.s rfl rfl (.s rfl rfl (.cons rfl (Sub.int (by simp)) rfl .nil))))) (.arr rfl (by simp) .nil)⟩
theorem instrs_ok (f : Fact) (hn : f.opts.length ≤ 1000000) (hs : ∀ s ∈ instrNames f, okStr s) : Fc Tryz.prog 25 [.agg (encFact f)] (sStrs (instrsS f)) := by
 by_cases h : sureNames f = []
 ·exact instrs0_ok f hn hs h
 ·exact instrsN_ok f hn hs h
end Go.T
namespace Go.T
open Go
variable [Noise]
structure FE where
 key : Str
 id : Nat
 rows : List Str
 live : Bool := true
abbrev rowsS (l : List Str) : List (List D) := l.map fun s => [D.str s]
structure Fam where
 next : Nat
 ents : List FE
 lo : ∀ e ∈ ents, 1000 ≤ e.id ∧ e.id < next
 nd : (ents.map (·.id)).Nodup
 hn : 1000 ≤ next
def Fam.empty : Fam := ⟨1000, [], by simp, by simp, by omega⟩
def FE.ob (e : FE) : Ob := if e.live then .arr 1 (rowsS e.rows) else .dead
def famO (f : Fam) : Obs := f.ents.map fun e => (e.id, e.ob)
def famM (f : Fam) : List (Str × (Nat × Nat)) := f.ents.map fun e => (e.key, (e.id, e.rows.length))
@[reducible] def gsD (p : Nat × Nat) : D := .gs p.1 p.2
theorem get_map_ents : ∀ (l : List FE) (i : Nat) (o : Ob), Obs.get (l.map fun e => (e.id, e.ob)) i = some o → ∃ e ∈ l, e.id = i ∧ e.ob = o
 | [], i, o, h => by simp [Obs.get] at h
 | e :: l, i, o, h => by
  rw [List.map_cons, Obs.get_cons] at h
  by_cases c : e.id = i
  ·rw [if_pos c] at h; cases h; exact ⟨e, List.mem_cons_self, c, rfl⟩
  ·rw [if_neg c] at h
   obtain ⟨e', h1, h2⟩ := get_map_ents l i o h
   exact ⟨e', List.mem_cons_of_mem _ h1, h2⟩
theorem get_map_mem : ∀ (l : List FE), (l.map (·.id)).Nodup → ∀ e ∈ l, Obs.get (l.map fun e => (e.id, e.ob)) e.id = some e.ob
 | [], _, e, h => by cases h
 | a :: l, hn, e, h => by
  rw [List.map_cons, List.nodup_cons] at hn
  rw [List.map_cons, Obs.get_cons]
  rcases List.mem_cons.1 h with rfl | h
  ·rw [if_pos rfl]
  ·rw [if_neg (fun c => hn.1 (List.mem_map.2 ⟨e, h, c.symm⟩))]
   exact get_map_mem l hn.2 e h
theorem famO_mem (f : Fam) {i : Nat} {o : Ob} (h : (famO f).get i = some o) : ∃ e ∈ f.ents, e.id = i ∧ e.ob = o := get_map_ents _ i o h
theorem famO_get (f : Fam) {e : FE} (h : e ∈ f.ents) : (famO f).get e.id = some e.ob := get_map_mem _ f.nd e h
theorem fam_free (f : Fam) (i : Nat) (hi : i < 1000) : (famO f).get i = none := by
 cases h : (famO f).get i with
 | none => rfl
 | some o =>
  obtain ⟨e, h1, h2, _⟩ := famO_mem f h
  have := f.lo e h1
  omega
theorem fam_free' (f : Fam) (i : Nat) (_ : 0 ≤ i) (hi : i < 0 + 100) : (famO f).get i = none := fam_free f i (by omega)
theorem fam_new (f : Fam) : (famO f).get f.next = none := by
 cases h : (famO f).get f.next with
 | none => rfl
 | some o =>
  obtain ⟨e, h1, h2, _⟩ := famO_mem f h
  have := f.lo e h1
  omega
theorem fam_okb (f : Fam) (g : Nat → Bool) : ∀ i x, (famO f).get i = some x → x.okB g = true := fun i x h => by
 obtain ⟨e, _, _, rfl⟩ := famO_mem f h
 unfold FE.ob
 split <;> rfl
theorem fam_tail {own own' : Obs} (f : Fam) (hin : inLo 0 own = true) : ∀ i x, (famO f).get i = some x → Obs.get (own ++ famO f) i = some x ∧ x.okB (Obs.has (own' ++ famO f)) = true :=
 fun i x h => ⟨own_get hin (fam_free' f) i x h, fam_okb f _ i x h⟩
def famF (f : Fam) (k : Str) : Option FE := f.ents.find? fun e => decide (k = e.key)
def famR (f : Fam) (k : Str) : List Str := ((famF f k).map (·.rows)).getD []
def famI (f : Fam) (k : Str) : Nat := ((famF f k).map (·.id)).getD 99
theorem getG_fam (f : Fam) (k : Str) : getG (99, 0) (famM f) k = (famI f k, (famR f k).length) := by
 unfold famM famI famR famF
 induction f.ents with
 | nil => rfl
 | cons e l ih =>
  simp only [List.map_cons, getG, List.find?_cons]
  by_cases c : k = e.key
  ·rw [if_pos c]; simp [c]
  ·rw [if_neg c, ih]; simp [c]
def setE (l : List FE) (k : Str) (i : Nat) (r : List Str) : List FE := match l with
 | [] => [⟨k, i, r, true⟩]
 | e :: l => if k = e.key then ⟨k, i, r, true⟩ :: l else e :: setE l k i r
theorem setE_mem {k : Str} {i : Nat} {r : List Str} : ∀ {l : List FE} {e : FE}, e ∈ setE l k i r → e ∈ l ∨ e = ⟨k, i, r, true⟩
 | [], e, h => .inr (List.mem_singleton.1 h)
 | a :: l, e, h => by
  simp only [setE] at h
  split at h
  ·rcases List.mem_cons.1 h with h | h
   ·exact .inr h
   ·exact .inl (List.mem_cons_of_mem _ h)
  ·rcases List.mem_cons.1 h with h | h
   ·exact .inl (h ▸ List.mem_cons_self)
   ·exact (setE_mem h).imp (List.mem_cons_of_mem _) id
theorem setE_nodup {k : Str} {i : Nat} {r : List Str} : ∀ {l : List FE}, (l.map (·.id)).Nodup → i ∉ l.map (·.id) → ((setE l k i r).map (·.id)).Nodup
 | [], _, _ => by simp [setE]
 | a :: l, hn, hi => by
  rw [List.map_cons, List.nodup_cons] at hn
  rw [List.map_cons, List.mem_cons, not_or] at hi
  simp only [setE]
  split
  ·rw [List.map_cons, List.nodup_cons]; exact ⟨hi.2, hn.2⟩
  ·rw [List.map_cons, List.nodup_cons]
   refine ⟨fun h => ?_, setE_nodup hn.2 hi.2⟩
   obtain ⟨e, he, e2⟩ := List.mem_map.1 h
   rcases setE_mem he with he | rfl
   ·exact hn.1 (List.mem_map.2 ⟨e, he, e2⟩)
   ·exact hi.1 e2
def Fam.add (f : Fam) (k : Str) (new : List Str) : Fam := ⟨f.next + 1, setE f.ents k f.next (famR f k ++ new), fun e h => by
 rcases setE_mem h with h | rfl
 ·have := f.lo e h; omega
 ·exact ⟨f.hn, by simp⟩, setE_nodup f.nd (fun h => by
 obtain ⟨e, he, e2⟩ := List.mem_map.1 h
 have := f.lo e he; omega), by have := f.hn; omega⟩
theorem famM_add (f : Fam) (k : Str) (new : List Str) : setG (famM f) k (f.next, (famR f k).length + new.length) = famM (f.add k new) := by
 unfold Fam.add famM
 simp only
 rw [← List.length_append]
 generalize famR f k ++ new = r
 induction f.ents with
 | nil => rfl
 | cons e l ih =>
  simp only [List.map_cons, setG, setE]
  split
  ·rfl
  ·rw [ih, List.map_cons]
theorem famI_get (f : Fam) (k : Str) (own : Obs) (hin : inLo 0 own = true) (h99 : own.get 99 = some (.arr 1 [])) (hl : ∀ e ∈ f.ents, e.live = true) : Obs.get (own ++ famO f) (famI f k) = some (.arr 1 (rowsS (famR f k))) := by
 unfold famI famR
 cases h : famF f k with
 | none =>
  rw [Obs.get_append]
  simp only [Option.map_none, Option.getD_none, h99]; rfl
 | some e =>
  have he : e ∈ f.ents := List.mem_of_find?_eq_some h
  have h1 := famO_get f he
  have := own_get hin (fam_free' f) _ _ h1
  simp only [Option.map_some, Option.getD_some]
  rw [this]
  unfold FE.ob
  rw [if_pos (hl e he)]
theorem famI_lo (f : Fam) (k : Str) : famI f k = 99 ∨ 1000 ≤ famI f k := by
 unfold famI
 cases h : famF f k with
 | none => exact .inl rfl
 | some e => exact .inr (f.lo e (List.mem_of_find?_eq_some h)).1
end Go.T
namespace Go.T
open Go
variable [Noise]
theorem setE_old {k : Str} {i : Nat} {r : List Str} : ∀ {l : List FE}, (l.map (·.id)).Nodup → (∀ e ∈ l, 1000 ≤ e.id) → ∀ {e : FE}, e ∈ setE l k i r → e = ⟨k, i, r, true⟩ ∨ (e ∈ l ∧ e.id ≠ (((l.find? fun e => decide (k = e.key)).map (·.id)).getD 99))
 | [], _, _, e, h => .inl (List.mem_singleton.1 h)
 | a :: l, hn, hlo, e, h => by
  rw [List.map_cons, List.nodup_cons] at hn
  simp only [setE] at h
  by_cases c : k = a.key
  ·rw [if_pos c] at h
   rcases List.mem_cons.1 h with h | h
   ·exact .inl h
   ·right
    refine ⟨List.mem_cons_of_mem _ h, ?_⟩
    rw [List.find?_cons_of_pos (by simpa using c)]
    exact fun e2 => hn.1 (List.mem_map.2 ⟨e, h, e2⟩)
  ·rw [if_neg c] at h
   rw [List.find?_cons_of_neg (by simpa using c)]
   rcases List.mem_cons.1 h with rfl | h
   ·right
    refine ⟨List.mem_cons_self, fun e2 => ?_⟩
    cases hf : l.find? fun e => decide (k = e.key) with
    | none =>
     rw [hf] at e2
     have := hlo e List.mem_cons_self
     simp only [Option.map_none, Option.getD_none] at e2
     omega
    | some x =>
     rw [hf] at e2
     exact hn.1 (List.mem_map.2 ⟨x, List.mem_of_find?_eq_some hf, e2.symm⟩)
   ·rcases setE_old hn.2 (fun e h => hlo e (List.mem_cons_of_mem _ h)) h with h | ⟨h, h2⟩
    ·exact .inl h
    ·exact .inr ⟨List.mem_cons_of_mem _ h, h2⟩
variable {P : Program} {env : Env} {dst : Option Tmp} {ty : TypeId} {pos : String} {aft : Array Edge} {g : Option (Nat × Bool)}
theorem nilGs (w : World) (O : Nat → Prop) (ρ : Rho) : V w O ρ (gsD (99, 0)) (.slice none 0 0) := by
 simp [V]
theorem q_lookupFam {kt et : TypeId} (hK : KeyT P kt D.str vStr okStr) {t : TypeId} {x y : Operand} {m : Nat} {f : Fam} {k : Str} {kd : D} {obs : Obs} (hu : P.underlying t = some (.map kt et)) (hz : ∀ w, (zeroValue et).run P w = .ok (.slice none 0 0) w)
  (hx : env.op x = some (.mapr m)) (hy : env.op y = some kd) (hkd : kd = D.str k) (ho : obs.get m = some (.mp (encGM D.str gsD (famM f)))) :
  QStep P ⟨dst, .lookup t x y false, ty, pos, aft, g⟩ env obs (.gs (famI f k) (famR f k).length) obs := by
 have := q_lookupG (dst := dst) (ty := ty) (pos := pos) (aft := aft) (g := g) hK (vD := gsD) (m := famM f) (k := k) (d := (99, 0)) hu hz nilGs hx hy hkd ho
 rw [getG_fam] at this
 exact this
def famA (own : Obs) (f : Fam) (k : Str) (new : List Str) : Obs := (f.next, .arr 1 (rowsS (famR f k) ++ rowsS new)) :: (own ++ famO f).set (famI f k) .dead
theorem q_appendFam {st xt e e' : TypeId} {ti : TypeInfo} {z : Value} {bt : Nat} {x y : Operand} {full : Bool} {own : Obs} {f : Fam} {k : Str} {new : List Str} (hu : P.underlying st = some (.slice e)) (hxu : P.underlying xt = some (.slice e')) (hs : ∀ w, (sizeOf e).run P w = .ok 1 w)
  (hti : ∀ w, (typeInfo e).run P w = .ok ti w) (hz : ∀ w, (zeroValue e).run P w = .ok z w) (hzs : z.cells.size = 1) (hbt : ti.bytes = bt) (hb00 : Nat.beq bt 0 = false) (hin : inLo 0 own = true) (h99 : own.get 99 = some (.arr 1 [])) (hl : ∀ e ∈ f.ents, e.live = true)
  (hx : env.op x = some (.gs (famI f k) (famR f k).length)) (hy : env.op y = some (.snap 1 full (rowsS new))) (hbb : ((famR f k).length + new.length) * bt ≤ 140737488355328) :
  QStep P ⟨dst, .call ⟨.builtin .append, #[x, y], #[st, xt]⟩, ty, pos, aft, g⟩ env (own ++ famO f) (.gs f.next ((famR f k).length + new.length)) (famA own f k new) := by
 have hid : Obs.get (own ++ famO f) f.next = none := by
  rw [Obs.get_append]
  have : own.get f.next = none := by
   cases h : own.get f.next with
   | none => rfl
   | some o => have := inLo_has hin f.next (Obs.has_iff.2 ⟨o, h⟩); have := f.hn; omega
  rw [this]; exact fam_new f
 have := q_append (dst := dst) (ty := ty) (pos := pos) (aft := aft) (g := g) f.next hu hxu hs hti hz hzs hbt hb00 hx (famI_get f k own hin h99 hl) (by simp) hy hid (by simpa using hbb)
 simp only [List.length_map] at this
 exact this
theorem famA_get {own : Obs} {f : Fam} {k : Str} {new : List Str} {m : Nat} (hm : m < 99) : (famA own f k new).get m = Obs.get (own ++ famO f) m := by
 have h1 := famI_lo f k
 have h2 := f.hn
 unfold famA
 rw [Obs.get_cons, if_neg (by omega), Obs.get_set, if_neg (by omega)]
theorem own_fam {own : Obs} {f : Fam} {m : Nat} {o : Ob} (h : own.get m = some o) : Obs.get (own ++ famO f) m = some o := by
 rw [Obs.get_append, h]
theorem fam_step {own own' : Obs} {f : Fam} {k : Str} {new : List Str} {m : Nat} {o' : Ob} (hm : m < 99) (hin : inLo 0 own = true) : ∀ i x, (famO (f.add k new)).get i = some x → Obs.get ((99, .arr 1 []) :: (famA own f k new).set m o') i = some x ∧ x.okB (Obs.has (own' ++ famO (f.add k new))) = true := by
 intro i x h
 refine ⟨?_, fam_okb _ _ i x h⟩
 obtain ⟨e, he, rfl, rfl⟩ := famO_mem _ h
 have hlo := (f.add k new).lo e he
 rw [Obs.get_cons, if_neg (by omega), Obs.get_set, if_neg (by omega)]
 unfold famA
 rw [Obs.get_cons]
 rcases setE_old f.nd (fun e h => (f.lo e h).1) he with rfl | ⟨h1, h2⟩
 ·rw [if_pos rfl]
  simp [FE.ob, rowsS]
 ·have := f.lo e h1
  rw [if_neg (by omega), Obs.get_set, if_neg (fun c => h2 c.symm)]
  exact own_get hin (fam_free' f) _ _ (famO_get f h1)
end Go.T
