/-
  Contracts of the functions that the statement reaches, and the logic in which they are proved (no condition): parts Core30, LayS, Core31, Core32, Core33, W56, Bal1, Bal2, Ord1, Law8, Bal3, W57.
-/
import Derived.Test.YtlhemheagekhaaaGreatDoorA14
import Derived.Shelf.SlSortCmp.WholeK
import Derived.Shelf.SlSortCmp.NoneTotal
set_option linter.all false
namespace Go.T
open Go Go.Proofs Go.Shelf Go.RowKit Go.Lib Go.Sort
/-- A comparison that leaves the clock in order. -/
@[reducible] def calm : Noise := ⟨False⟩
theorem grown_of_keep {w w' : World} (h : @Keep calm w w') : ∃ q os', w' = Sort.grow (w.drewN q) os' := by
  obtain ⟨h1, h2, h3, h4, h5⟩ := h
  have h6 : w'.tape = w.tape ∧ w.drawn ≤ w'.drawn := by
    rcases h5 with h | h
    · exact h
    · exact h.elim
  clear h5
  refine ⟨w'.drawn - w.drawn, w'.heap.extract w.heap.size w'.heap.size, ?_⟩
  have hh : w'.heap = w.heap ++ w'.heap.extract w.heap.size w'.heap.size := by
    apply Array.ext_getElem?
    intro i
    rcases Nat.lt_or_ge i w.heap.size with g | g
    · rw [Array.getElem?_append_left g, h2 i g]
    · rw [Array.getElem?_append_right g, Array.getElem?_extract]
      by_cases e : i < w'.heap.size
      · rw [if_pos (by omega)]; congr 1; omega
      · rw [if_neg (by omega), Array.getElem?_eq_none (by omega)]
  have hd : (w.drewN (w'.drawn - w.drawn)) = { w with drawn := w'.drawn } := by
    unfold World.drewN; congr 1; omega
  rw [hd]
  unfold Sort.grow
  cases w'
  simp only at *
  obtain ⟨h6, _⟩ := h6
  subst h3; subst h4; subst h6
  congr 1
section
variable {α : Type} [Inhabited α] {P : Program}
/-- Elements that are what they are, wherever they lie. -/
structure Elem (k : Nat) (encD : α → List D) (encV : α → List Value) : Prop where
  len : ∀ x, (encV x).length = k
  lenD : ∀ x, (encD x).length = k
  one : ∀ x, ∀ v ∈ encV x, v.oneCell' = true
  toV : ∀ x (w : World) (O : Nat → Prop) (ρ : Rho) vs, Vs w O ρ (encD x) vs → vs = encV x
  back : ∀ x (w : World) (O : Nat → Prop) (ρ : Rho), Vs w O ρ (encD x) (encV x)
variable {k : Nat} {encD : α → List D} {encV : α → List Value}
theorem heap_sortWorld {w : World} {blk off m : Nat} {dk : Array α} {os : Array Obj} {b : Nat} (hb : b < w.heap.size) (hne : b ≠ blk) : (sortWorldK encV k w blk off m dk os).heap[b]? = w.heap[b]? := by
  unfold sortWorldK putRowK putRow mapBlock Sort.grow Sort.ahead
  simp only
  rw [Array.getElem?_append_left (by simpa using hb), Array.getElem?_modify, if_neg (Ne.symm hne)]
theorem holds_of_Vr (hE : Elem k encD encV) {w : World} {O : Nat → Prop} {b off : Nat} {c : Array Value} {T : TypeId} {l : List α} (hb : w.heap[b]? = some (.cells c T (0, 0))) (h : Vr w O b off k (l.map encD)) : HoldsK encV k w b off l.toArray := by
  intro j hj
  rw [size_flatK] at hj
  simp only [List.size_toArray] at hj
  have k0 : 0 < k := by rcases Nat.eq_zero_or_pos k with e | e; · subst e; simp at hj
                        · exact e
  have hi : j / k < l.length := by rw [Nat.div_lt_iff_lt_mul k0]; exact hj
  have hc : j % k < k := Nat.mod_lt _ k0
  rw [get_flatK _ _ _ _ (by simpa using hj)]
  obtain ⟨_, h1⟩ := h.get _ _ (j / k) (encD l[j / k]) (by simp [hi])
  have hcl : j % k < (encD l[j / k]).length := by rw [hE.lenD]; exact hc
  obtain ⟨d, hd⟩ : ∃ d, (encD l[j / k])[j % k]? = some d := ⟨(encD l[j / k])[j % k], List.getElem?_eq_getElem hcl⟩
  have hvs := Vc.to_Vs hb _ _ h1
  have hv := hE.toV _ _ _ _ _ hvs.1
  obtain ⟨v, g1, g2⟩ := Vc.get _ _ h1 _ _ hd
  have e : off + j / k * k + j % k = off + j := by have := Nat.div_add_mod j k; rw [Nat.mul_comm] at this; omega
  rw [e] at g1
  have g3 : (encV l[j / k])[j % k]? = some v := by
    rw [← hv]
    have : c[off + j]? = some v := by simpa [World.cell?, hb] using g1
    rw [List.getElem?_take, if_pos (by rw [hE.lenD]; exact hc), List.getElem?_drop, e]
    simpa using this
  refine ⟨?_, by simp [World.frozen?, hb]⟩
  rw [g1]
  have e1 : (l.toArray)[j / k]! = l[j / k] := by simp [hi]
  have e2 : (encV l[j / k])[j % k]! = v := by rw [List.getElem!_eq_getElem?_getD, g3]; rfl
  rw [e1, e2]; rfl
theorem Vr_of_holds (hE : Elem k encD encV) {w : World} {O : Nat → Prop} {b off : Nat} {l : List α} (h : HoldsK encV k w b off l.toArray) : Vr w O b off k (l.map encD) := by
  have key : ∀ (r pre : List α), l = pre ++ r → Vr w O b (off + pre.length * k) k (r.map encD) := by
    intro r
    induction r with
    | nil => intro _ _; simp [Vr]
    | cons x r ih =>
      intro pre hp
      simp only [List.map_cons, Vr]
      have hi : pre.length < l.toArray.size := by subst hp; simp
      refine ⟨⟨hE.lenD x, ?_⟩, ?_⟩
      · have hx : (l.toArray)[pre.length]! = x := by subst hp; simp
        have cell : ∀ c, c < k → w.cell? ⟨b, off + pre.length * k + c, none⟩ = some (encV x)[c]! := fun c hc => by
          have := (h.cell hi hc).1
          rwa [hx] at this
        have gen : ∀ (ds : List D) (us : List Value) (n : Nat), Vs w O rho0 ds us → (∀ u ∈ us, u.oneCell' = true) → (∀ j u, us[j]? = some u → w.cell? ⟨b, n + j, none⟩ = some u) → Vc w O b n ds := by
          intro ds
          induction ds with
          | nil => intro us n _ _ _; simp [Vc]
          | cons d ds ih2 =>
            intro us n h1 h2 h3
            simp only [Vs] at h1
            obtain ⟨u, us', rfl, h4, h5⟩ := h1
            simp only [Vc]
            refine ⟨⟨u, ⟨by simpa using h3 0 u rfl, h2 u (by simp)⟩, h4⟩, ih2 us' (n + 1) h5 (fun v hv => h2 v (by simp [hv])) (fun j v hj => ?_)⟩
            have := h3 (j + 1) v (by simpa using hj)
            rwa [show n + (j + 1) = n + 1 + j by omega] at this
        refine gen _ (encV x) _ (hE.back x w O rho0) (hE.one x) (fun j u hj => ?_)
        have hjk : j < k := by rw [← hE.len x]; exact (List.getElem?_eq_some_iff.1 hj).1
        rw [cell j hjk, List.getElem!_eq_getElem?_getD, hj]; rfl
      · have := ih (pre ++ [x]) (by simp [hp])
        simp only [List.length_append, List.length_singleton, Nat.add_mul, Nat.one_mul] at this
        rwa [Nat.add_assoc]
  simpa using key l [] rfl
/-- A contract of the comparison: what the kit's sort asks of it. -/
theorem cmpLays_of (hE : Elem k encD encV) {g : Nat} {cf : α → α → Int} (hc : ∀ x y, @Fc calm P g [.agg (encD x), .agg (encD y)] (.i (cf x y))) {w : World} {O : Nat → Prop} {blk off size : Nat} (hgl : Gl w O) (hO : O blk) : CmpLays P g #[] encV k cf blk off size w := by
  intro m os dk _ x y
  have hg : Gl (sortWorldK encV k w blk off m dk os) (fun _ => False) := by
    intro t vs hm
    obtain ⟨⟨T, fr, h1⟩, h2⟩ := hgl t vs hm
    refine ⟨⟨T, fr, ?_⟩, fun h => h⟩
    rw [heap_sortWorld (Array.getElem?_eq_some_iff.1 h1).1 (fun e => h2 (e ▸ hO))]
    exact h1
  have := @Fc.out calm _ _ _ _ (hc x y) (sortWorldK encV k w blk off m dk os) (fun _ => False) rho0 [.agg (encV x).toArray, .agg (encV y).toArray] (fun _ h => h.elim) hg (by
    simp only [Vs, V]
    exact ⟨_, _, rfl, ⟨_, rfl, by simpa using hE.back x _ _ _⟩, _, _, rfl, ⟨_, rfl, by simpa using hE.back y _ _ _⟩, rfl⟩)
  refine Calls.mono (by simpa using this) ?_
  rintro e w' ⟨v, rfl, hv, hk⟩
  simp only [D.i, V] at hv
  subst hv
  exact ⟨rfl, grown_of_keep hk⟩
end
end Go.T
namespace Go.Proofs
open Go.Shelf Go.RowKit Go.Lib Go.Sort
def Tryz.sortKey_ren : Go.Shelf.Ren := ⟨fun | 6 => 171 | 15 => 152 | 14 => 211 | 28 => 202 | 29 => 203 | 20 => 255 | 21 => 256 | 22 => 257 | 23 => 258 | 24 => 259 | 25 => 260 | 26 => 261 | 27 => 262 | 46 => 280 | 47 => 248 | 48 => 249 | 49 => 281 | 50 => 282 | 57 => 290 | n => n, fun | 22 => 163 | 24 => 110 | 25 => 162 | 3 => 3 | 39 => 202 | 0 => 0 | 53 => 235 | 55 => 171 | 4 => 4 | 46 => 229 | 45 => 228 | 50 => 190 | 5 => 5 | 9 => 9 | 66 => 274 | 70 => 278 | 76 => 305 | 77 => 306 | n => n, fun | n => n⟩
theorem Tryz.sortKey : Go.Proofs.SlLaysF0.n6 Tryz.prog Tryz.sortKey_ren := {
  mixed := by kernel_rfl
  f6 := ⟨Tryz.f171.name, by decide, Tryz.func171.trans (congrArg some (by kernel_rfl))⟩
  f14 := ⟨Tryz.f211.name, by decide, Tryz.func211.trans (congrArg some (by kernel_rfl))⟩
  f15 := Tryz.func152.trans (congrArg some (by kernel_rfl))
  f20 := ⟨Tryz.f255.name, by decide, Tryz.func255.trans (congrArg some (by kernel_rfl))⟩
  f21 := ⟨Tryz.f256.name, by decide, Tryz.func256.trans (congrArg some (by kernel_rfl))⟩
  f22 := ⟨Tryz.f257.name, by decide, Tryz.func257.trans (congrArg some (by kernel_rfl))⟩
  f23 := ⟨Tryz.f258.name, by decide, Tryz.func258.trans (congrArg some (by kernel_rfl))⟩
  f24 := ⟨Tryz.f259.name, by decide, Tryz.func259.trans (congrArg some (by kernel_rfl))⟩
  f25 := ⟨Tryz.f260.name, by decide, Tryz.func260.trans (congrArg some (by kernel_rfl))⟩
  f26 := ⟨Tryz.f261.name, by decide, Tryz.func261.trans (congrArg some (by kernel_rfl))⟩
  f27 := ⟨Tryz.f262.name, by decide, Tryz.func262.trans (congrArg some (by kernel_rfl))⟩
  f28 := Tryz.func202.trans (congrArg some (by kernel_rfl))
  f29 := Tryz.func203.trans (congrArg some (by kernel_rfl))
  f46 := ⟨Tryz.f280.name, by decide, Tryz.func280.trans (congrArg some (by kernel_rfl))⟩
  f47 := Tryz.func248.trans (congrArg some (by kernel_rfl))
  f48 := Tryz.func249.trans (congrArg some (by kernel_rfl))
  f49 := ⟨Tryz.f281.name, by decide, Tryz.func281.trans (congrArg some (by kernel_rfl))⟩
  f50 := ⟨Tryz.f282.name, by decide, Tryz.func282.trans (congrArg some (by kernel_rfl))⟩
  f57 := ⟨Tryz.f290.name, by decide, Tryz.func290.trans (congrArg some (by kernel_rfl))⟩
  t0 := Tryz.underlying0
  a0 := Tryz.isAgg0
  z0 := Tryz.sizeOf0
  v0 := Tryz.zeroValue0
  t3 := Tryz.underlying3
  a3 := Tryz.isAgg3
  z3 := Tryz.sizeOf3
  v3 := Tryz.zeroValue3
  t4 := Tryz.underlying4
  a4 := Tryz.isAgg4
  z4 := Tryz.sizeOf4
  v4 := Tryz.zeroValue4
  t5 := Tryz.underlying5
  a5 := Tryz.isAgg5
  z5 := Tryz.sizeOf5
  v5 := Tryz.zeroValue5
  t9 := Tryz.underlying9
  a9 := Tryz.isAgg9
  z9 := Tryz.sizeOf9
  v9 := Tryz.zeroValue9
  t22 := Tryz.underlying163
  a22 := Tryz.isAgg163
  z22 := Tryz.sizeOf163
  v22 := Tryz.zeroValue163
  t25 := Tryz.underlying162
  a25 := Tryz.isAgg162
  z25 := Tryz.sizeOf162
  v25 := Tryz.zeroValue162
  t39 := Tryz.underlying202
  a39 := Tryz.isAgg202
  z39 := Tryz.sizeOf202
  v39 := Tryz.zeroValue202
  t45 := Tryz.underlying228
  a45 := Tryz.isAgg228
  z45 := Tryz.sizeOf228
  v45 := Tryz.zeroValue228
  t46 := Tryz.underlying229
  a46 := Tryz.isAgg229
  z46 := Tryz.sizeOf229
  v46 := Tryz.zeroValue229
  t50 := Tryz.underlying190
  a50 := Tryz.isAgg190
  z50 := Tryz.sizeOf190
  v50 := Tryz.zeroValue190
  t53 := Tryz.underlying235
  a53 := Tryz.isAgg235
  z53 := Tryz.sizeOf235
  v53 := Tryz.zeroValue235
  t55 := Tryz.underlying171
  a55 := Tryz.isAgg171
  z55 := Tryz.sizeOf171
  v55 := Tryz.zeroValue171
  t66 := Tryz.underlying274
  a66 := Tryz.isAgg274
  z66 := Tryz.sizeOf274
  v66 := Tryz.zeroValue274
  t70 := Tryz.underlying278
  a70 := Tryz.isAgg278
  z70 := Tryz.sizeOf278
  v70 := Tryz.zeroValue278
  t76 := Tryz.underlying305
  a76 := Tryz.isAgg305
  z76 := Tryz.sizeOf305
  v76 := Tryz.zeroValue305
  t77 := Tryz.underlying306
  a77 := Tryz.isAgg306
  z77 := Tryz.sizeOf306
  v77 := Tryz.zeroValue306
}
end Go.Proofs
namespace Go.T
open Go Go.Proofs Go.Shelf Go.RowKit Go.Lib Go.Sort
variable [Noise]
variable {α : Type} [Inhabited α] {P : Program} {k : Nat} {encD : α → List D} {encV : α → List Value}
theorem get_one {id : Nat} {x o : Ob} {i : Nat} (h : Obs.get [(id, x)] i = some o) : i = id ∧ o = x := by
  rw [Obs.get_cons] at h
  split at h
  · rename_i e; cases h; exact ⟨e.symm, rfl⟩
  · simp [Obs.get] at h
theorem get_none1 {id : Nat} {x y : Ob} {i : Nat} (h : Obs.get [(id, x)] i = none) : Obs.get [(id, y)] i = none := by
  rw [Obs.get_cons] at h ⊢
  split at h
  · cases h
  · rename_i e; rw [if_neg e]; rfl
theorem sort_FcO {r : Ren} (L : SlLaysF0.n6 P r) (aE : ∀ w, (isAgg (r.t 24)).run P w = .ok true w) (zE : ∀ w, (Go.sizeOf (r.t 24)).run P w = .ok k w) (hE : Elem k encD encV) {g : Nat} {cf : α → α → Int}
    (eg : ∀ (args : Array Value) (w : World), (callFunc g args).run P w = .ok (.enter g args) w) (hc : ∀ x y, @Fc calm P g [.agg (encD x), .agg (encD y)] (.i (cf x y))) (hO : SWO (ltOf cf)) (hT : ∀ x y, ltOf cf x y = false → ltOf cf y x = false → x = y)
    (id : Nat) (l : List α) (hl : l.length < 4611686018427387904) :
    FcO P (r.f 6) [.gs id l.length, .fn (.func g) [] []] [(id, .arr k (l.map encD))] (.tup []) [(id, .arr k ((l.mergeSort fun x y => !(ltOf cf) y x).map encD))] := ⟨fun w O ρ vals hok hgl hv => by
  simp only [Vs, V] at hv
  obtain ⟨v1, us, rfl, h1, v2, us', rfl, ⟨xs, ys, rfl, hxs, hys⟩, rfl⟩ := hv
  obtain rfl : xs = #[] := by rw [← Array.toArray_toList (xs := xs), hxs]
  obtain rfl : ys = #[] := by rw [← Array.toArray_toList (xs := ys), hys]
  rcases h1 with ⟨hn, a, rfl⟩ | ⟨hn, loc, hloc, rfl⟩
  · obtain rfl : l = [] := List.length_eq_zero_iff.1 hn
    refine Calls.mono (AnyF.slices_SortFunc_none L a 0 (.func (.func g) #[] #[]) w) ?_
    rintro e w' ⟨rfl, rfl⟩
    refine ⟨_, ρ, rfl, ?_, by simp [V, Vs]⟩
    simpa using Tr.refl hok
  · have hget : Obs.get [(id, Ob.arr k (l.map encD))] id = some (.arr k (l.map encD)) := by simp [Obs.get]
    have hlive : (Ob.arr k (l.map encD)).live = true := by
      cases l with
      | nil => simp at hn
      | cons x l => rfl
    obtain ⟨l', h3, hnO, c, T, hb, hsz, hln, hvr⟩ := hok.own id _ hget hlive
    rw [hloc] at h3; cases h3
    have hH := holds_of_Vr hE hb hvr
    have hblk : loc.b < w.heap.size := (Array.getElem?_eq_some_iff.1 hb).1
    have hown : Ot O ρ [(id, Ob.arr k (l.map encD))] loc.b := .inr ⟨id, _, loc, hget, hlive, hloc, rfl⟩
    have hcmp := cmpLays_of (blk := loc.b) (off := loc.off) (size := l.toArray.size) hE hc hgl hown
    refine Calls.mono (AnyQ.slices_SortFunc_total L k aE zE encV hE.len hE.one cf hO g #[] loc.b loc.off loc.cap l.toArray w eg hcmp hH hblk hl hT) ?_
    rintro e w' ⟨rfl, n, os, rfl⟩
    generalize hl2 : l.mergeSort (fun x y => !(ltOf cf) y x) = l2
    have hlen : l2.length = l.length := by rw [← hl2]; exact List.length_mergeSort l
    have hheap : (sortWorldK encV k w loc.b loc.off n l2.toArray os).heap[loc.b]? = some (.cells (putCells _root_.id loc.off (flatK encV k l2.toArray) c) T (0, 0)) := by
      unfold sortWorldK putRowK putRow mapBlock Sort.grow Sort.ahead
      simp only
      rw [Array.getElem?_append_left (by simpa using hblk), Array.getElem?_modify, if_pos rfl, hb]; rfl
    have hsize : w.heap.size ≤ (sortWorldK encV k w loc.b loc.off n l2.toArray os).heap.size := size_sortWorldK_c encV k w loc.b loc.off n l2.toArray os
    have hH2 : HoldsK encV k (sortWorldK encV k w loc.b loc.off n l2.toArray os) loc.b loc.off l2.toArray := holdsK_sortWorldK_c encV k w loc.b loc.off l.toArray l2.toArray n os hH hblk (by simpa using hlen)
    have hown2 : ∀ b, Owned ρ [(id, Ob.arr k (l2.map encD))] b → Owned ρ [(id, Ob.arr k (l.map encD))] b := by
      rintro b ⟨i, o, q, g1, g2, g3, g4⟩
      obtain ⟨rfl, _⟩ := get_one g1
      exact ⟨_, _, q, hget, hlive, g3, g4⟩
    refine ⟨_, ρ, rfl, ⟨RhoLe.refl _, hsize, fun b hb1 hb2 => ?_, fun b hb1 => .inl (hown2 b hb1), ⟨fun b hb1 => Nat.lt_of_lt_of_le (hok.lt b hb1) hsize, fun i hi => ?_, fun i o g1 g2 => ?_, fun i j o o' q q' g1 g2 _ _ _ _ _ => ?_⟩, rfl, rfl, .inl ⟨rfl, Nat.le_add_right _ _⟩⟩, by simp [V, Vs]⟩
    · refine heap_sortWorld hb1 fun e => hb2 ?_
      exact ⟨id, _, loc, hget, hlive, hloc, e.symm⟩
    · exact hok.fresh i (get_none1 hi)
    · obtain ⟨rfl, rfl⟩ := get_one g1
      exact ⟨loc, hloc, hnO, _, T, hheap, by simpa [putCells] using hsz, by simpa [hlen] using hln, Vr_of_holds hE hH2⟩
    · exact (get_one g1).1.trans (get_one g2).1.symm⟩
end Go.T
namespace Go.T
open Go
open Go.ChangeMaps (setBlock)
variable [Noise]
variable {κ β : Type} [DecidableEq κ]
@[reducible] def imapG (kD : κ → D) (vD : β → D) (m : List (κ × β)) : D := .imap (m.map fun p => kD p.1) (m.map fun p => vD p.2)
section
variable {P : Program} {kt : TypeId} {kD : κ → D} {kV : κ → Value} {kOk : κ → Prop} {vD : β → D}
theorem esG_of (hK : KeyT P kt kD kV kOk) {w : World} {O : Nat → Prop} {b : Nat} {m : List (κ × β)} (h : IMap w O b (m.map fun p => kD p.1) (m.map fun p => vD p.2)) :
    ∃ es, w.heap[b]? = some (.map es m.length) ∧ EsG w O rho0 kV vD es m ∧ ∀ k ∈ m.map (·.1), kOk k := by
  obtain ⟨es, h1, ⟨h2, h3, h4⟩, h5, h6⟩ := h
  have hl := h5.length
  simp only [List.length_map, Array.length_toList] at hl h2
  have key : ∀ (i : Nat) (k : κ) (v : β), m[i]? = some (k, v) → ∃ e : MapEntry, es[i]? = some e ∧ e.born = i ∧ e.key = kV k ∧ V w O rho0 (vD v) e.val ∧ kOk k := by
    intro i k v hi
    have hlt : i < es.size := by rw [hl]; exact (List.getElem?_eq_some_iff.1 hi).1
    obtain ⟨u, g1, g2⟩ := h5.get i (kD k) (by simp [hi])
    obtain ⟨u', g3, g4⟩ := h6.get i (vD v) (by simp [hi])
    have he : es[i]? = some es[i] := by simp [hlt]
    simp only [List.getElem?_map, Array.getElem?_toList, he, Option.map_some, Option.some.injEq] at g1 g3
    subst g1; subst g3
    have := hK.val g2
    exact ⟨es[i], he, h4 i _ he, this.1, g4, this.2⟩
  refine ⟨es, h2, ⟨hl, fun i k v hi => ?_⟩, fun k hk => ?_⟩
  · obtain ⟨e, g1, g2, g3, g4, _⟩ := key i k v hi; exact ⟨e, g1, g2, g3, g4⟩
  · obtain ⟨p, hp, rfl⟩ := List.mem_map.1 hk
    obtain ⟨i, hi⟩ := List.getElem?_of_mem hp
    obtain ⟨_, _, _, _, _, g5⟩ := key i p.1 p.2 hi
    exact g5
/-- The map to which slot t points: nobody writes it any more. -/
theorem Le.freezeM {F : Fr} {env : Env} {obs : Obs} {m : List (κ × β)} (t id : Nat) (ht : env.get t = some (.mapr id)) (ho : obs.get id = some (.mp (encGM kD vD m))) (hk : ∀ k, (kD k).pureB = true) (hv0 : ∀ v, (vD v).pureB = true) :
    Le F env obs ((t, imapG kD vD m) :: env) (obs.set id .dead) := .step fun O ρ w f hok hv => by
  have htr := Tr.die id hok
  refine ⟨ρ, htr, fun s d h => ?_⟩
  rw [Env.get_cons] at h
  by_cases e : t = s
  · rw [if_pos e] at h
    cases h
    subst e
    have hvt := hv t _ ht
    simp only [V] at hvt
    obtain ⟨l, e1, e⟩ := hvt
    obtain ⟨l', h3, h4, es, h5, h6, h7⟩ := hok.own id _ ho rfl
    rw [e1] at h3; cases h3
    have hkp := htr.kept
    refine V_imap.2 ⟨l.b, e, es, ⟨(Array.getElem?_eq_some_iff.1 h5).1, ?_⟩, ⟨by simpa [encGM] using h5, by simp, fun i x hx => ?_⟩, ?_, ?_⟩
    · rintro (hb | ⟨i, x, l', g1, g2, g3, g4⟩)
      · exact h4 hb
      · have hx := dead_sub i x g1 g2
        have := hok.inj i id x _ l' l hx ho g2 rfl g3 e1 g4
        subst this
        rw [Obs.get_set] at g1
        simp only [if_true, Option.some.injEq] at g1
        subst g1; simp [Ob.live] at g2
    · have hi : i < m.length := by
        have := (Array.getElem?_eq_some_iff.1 hx).1
        rw [h6] at this; simpa [encGM] using this
      obtain ⟨x', g1, g2, _⟩ := h7 i (kD m[i].1) (vD m[i].2) (by simp [encGM, hi])
      rw [hx] at g1; cases g1; exact g2
    · refine Vs.of_get (by simpa [encGM] using h6) fun i d v hd hvv => ?_
      simp only [List.getElem?_map, Option.map_eq_some_iff] at hd
      obtain ⟨p, hp, rfl⟩ := hd
      obtain ⟨x', g1, _, g3, _⟩ := h7 i (kD p.1) (vD p.2) (by simp [encGM, hp])
      simp only [List.getElem?_map, Array.getElem?_toList, g1, Option.map_some, Option.some.injEq] at hvv
      subst hvv
      exact V.mono hkp (RhoLe.refl _) _ _ (V.pure _ _ (hk _) g3)
    · refine Vs.of_get (by simpa [encGM] using h6) fun i d v hd hvv => ?_
      simp only [List.getElem?_map, Option.map_eq_some_iff] at hd
      obtain ⟨p, hp, rfl⟩ := hd
      obtain ⟨x', g1, _, _, g4⟩ := h7 i (kD p.1) (vD p.2) (by simp [encGM, hp])
      simp only [List.getElem?_map, Array.getElem?_toList, g1, Option.map_some, Option.some.injEq] at hvv
      subst hvv
      exact V.mono hkp (RhoLe.refl _) _ _ (V.pure _ _ (hv0 _) g4)
  · rw [if_neg e] at h
    exact htr.V (hv s d h)
variable {env : Env} {dst : Option Tmp} {ty : TypeId} {pos : String} {aft : Array Edge} {g : Option (Nat × Bool)}
theorem q_lookupI (hK : KeyT P kt kD kV kOk) {t et : TypeId} {x y : Operand} {m : List (κ × β)} {k : κ} {d : β} {kd md : D} {obs : Obs} {zv : Value} (hu : P.underlying t = some (.map kt et)) (hz : ∀ w, (zeroValue et).run P w = .ok zv w) (hzv : ∀ (w : World) O ρ, V w O ρ (vD d) zv)
    (hx : env.op x = some md) (hmd : md = imapG kD vD m) (hy : env.op y = some kd) (hkd : kd = kD k) :
    QStep P ⟨dst, .lookup t x y false, ty, pos, aft, g⟩ env obs (vD (getG d m k)) obs :=
  .val fun O ρ a w hok hv => by
    subst hkd; subst hmd
    obtain ⟨b, e1, him⟩ := V_imap.1 (hv x (by simp [Op.operands]) _ hx)
    have hvy := hK.val (hv y (by simp [Op.operands]) _ hy)
    obtain ⟨es, h4, h5, h6⟩ := esG_of hK him
    have hck := fun b => hK.check b k w hvy.2
    have hfk := hK.find k es.toList (m.map (·.1)) w h5.keys h6 hvy.2
    rcases findK_cases d k m 0 with ⟨g1, g2, g3, _⟩ | ⟨j, gj, g1, g2, g3, _⟩
    · refine ⟨zv, ?_, by rw [g3]; exact hzv _ _ _⟩
      rw [g1] at hfk
      simp [execOp, e1, hvy.1, Instr.lookup, run_und hu, MapKept.run_getObj_map h4, hck, hfk, hz]
    · obtain ⟨e, k1, k2, k3, k4⟩ := h5.at_ j k _ g2
      refine ⟨e.val, ?_, V.mono (Kept.refl _ _) (rho0_le ρ) _ _ k4⟩
      rw [g1] at hfk
      simp only [Option.map_some, Nat.zero_add, Array.getElem?_toList, k1, Option.getD_some] at hfk
      simp [execOp, e1, hvy.1, Instr.lookup, run_und hu, MapKept.run_getObj_map h4, hck, hfk]
theorem q_rangeI {t kt' et : TypeId} {x : Operand} {ks vs : List D} {obs : Obs} (idI : Nat) (hu : P.underlying t = some (.map kt' et)) (hx : env.op x = some (.imap ks vs)) (hid : obs.get idI = none) :
    QStep P ⟨dst, .range t x, ty, pos, aft, g⟩ env obs (.box idI 0) ((idI, .mj ks vs []) :: obs) :=
  .step fun O ρ a w hok hv => by
    obtain ⟨b, e1, him⟩ := V_imap.1 (hv x (by simp [Op.operands]) _ hx)
    obtain ⟨es, h1, ⟨h2, _, _⟩, _⟩ := id him
    have hr := run_range_map (P := P) w t kt' et b es ks.length hu h2
    refine ⟨.pointer (some ⟨w.heap.size, 0, none⟩), _, T.upd ρ idI ⟨w.heap.size, 0, 0⟩, .inl ?_, Tr.born hok hid (.mapIter (some b) ks.length #[] ks.length) rfl (fun i x h _ => h) (fun i h => h) ?_, ?_⟩
    · simp only [execOp, e1]
      rw [Sem.run_bind, hr]
      rfl
    · intro hk
      exact ⟨b, him.mono hk, by simp⟩
    · simp only [V]; exact ⟨⟨w.heap.size, 0, 0⟩, by simp [T.upd], rfl⟩
@[reducible] def nextIO (obs : Obs) (idI : Nat) (ks vs : List D) (seen : List Nat) : Option (Nat × κ × β) → Obs
  | none => obs
  | some (j, _, _) => obs.set idI (.mj ks vs (seen ++ [j]))
theorem q_nextI (hK : KeyT P kt kD kV kOk) {x : Operand} {idI : Nat} {m : List (κ × β)} {seen : List Nat} {obs : Obs} (hx : env.op x = some (.box idI 0)) (hi : obs.get idI = some (.mj (m.map fun p => kD p.1) (m.map fun p => vD p.2) seen)) :
    QStepN P ⟨dst, .next x false, ty, pos, aft, g⟩ env obs (nextGA m seen) (nextGD kD vD) (nextIO obs idI (m.map fun p => kD p.1) (m.map fun p => vD p.2) seen) := by
  intro O ρ a w hok hgl hv
  have hvx := hv x (by simp [Op.operands]) _ hx
  simp only [V] at hvx
  obtain ⟨r, hr1, e1⟩ := hvx
  obtain ⟨r', hr2, _, b, him, hit⟩ := hok.own idI _ hi rfl
  rw [hr1] at hr2; cases hr2
  obtain ⟨es, h4, h5, h6⟩ := esG_of hK him
  simp only [List.length_map] at hit
  have hold : ∀ x ∈ es.toList, x.born < m.length := fun x hx => by
    obtain ⟨_, _, q, _⟩ := h5.mem hx
    exact (List.getElem?_eq_some_iff.1 q).1
  unfold Oper.wp
  have hex : (execOp a.eval ⟨dst, .next x false, ty, pos, aft, g⟩).run P w = ((Instr.next (.pointer (some ⟨r.b, 0, none⟩)) false ty).bind fun v => Sem.pure (Next.value v)).run P w := by
    simp only [execOp, e1]; rfl
  rw [hex]
  rcases run_next_at (P := P) w ty r.b b m.length m.length seen.toArray es m.length hit h4 hold (Nat.le_refl _) with ⟨hz, hrun⟩ | ⟨e, he, w1, hw1, hrun⟩
  · have : ((Instr.next (.pointer (some ⟨r.b, 0, none⟩)) false ty).bind fun v => Sem.pure (Next.value v)).run P w = .ok (.value (.tuple #[.bool false])) w := by
      show (Sem.bind _ _).run P w = _
      rw [Sem.run_bind', hrun]; rfl
    rw [this]
    refine ⟨none, ρ, _, ?_, rfl, Tr.refl hok, by simp [V, Vs, D.b]⟩
    intro j hj
    have hz' : leftOf es seen.toArray = #[] := Array.eq_empty_of_size_eq_zero hz
    obtain ⟨e, g1, g2, _⟩ := h5.at_ j (m[j]).1 (m[j]).2 (by simp [hj])
    unfold leftOf at hz'
    rw [Array.filter_eq_empty_iff] at hz'
    have hmem : e ∈ es := Array.mem_of_getElem? g1
    have := hz' e hmem
    simp at this
    rw [g2] at this
    exact this
  · have hee : e ∈ es.toList ∧ e.born ∉ seen := by
      unfold leftOf at he
      simp at he
      exact ⟨by simpa using he.1, by simpa using he.2⟩
    obtain ⟨k, v, g1, g2, g3, g4⟩ := h5.mem hee.1
    have : ((Instr.next (.pointer (some ⟨r.b, 0, none⟩)) false ty).bind fun v => Sem.pure (Next.value v)).run P w = .ok (.value (.tuple #[.bool true, e.key, e.val])) (setBlock w1 r.b (.mapIter (some b) m.length (seen.toArray.push e.born) m.length)) := by
      show (Sem.bind _ _).run P w = _
      rw [Sem.run_bind', hrun]; rfl
    rw [this]
    have htr1 : Tr O w ρ obs w1 ρ obs := by
      rcases hw1 with rfl | rfl
      · exact Tr.refl hok
      · exact Tr.drawn hok _ (by first | exact Nat.le_succ _ | omega)
    have hit1 : w1.heap[r.b]? = some (.mapIter (some b) m.length seen.toArray m.length) := by rcases hw1 with rfl | rfl <;> exact hit
    have htr2 := Tr.upd (o' := .mj (m.map fun p => kD p.1) (m.map fun p => vD p.2) (seen ++ [e.born])) htr1.ok hi rfl hr1 (.mapIter (some b) m.length (seen.toArray.push e.born) m.length) (fun hkk => ⟨b, (him.mono htr1.kept).mono hkk, by simp [(Array.getElem?_eq_some_iff.1 hit1).1]⟩)
    refine ⟨some (e.born, k, v), ρ, _, ⟨g1, hee.2⟩, rfl, htr1.trans htr2, ?_⟩
    simp only [V, Vs, D.b]
    refine ⟨_, rfl, _, _, rfl, rfl, _, _, rfl, ?_, _, _, rfl, (htr1.trans htr2).V (V.mono (Kept.refl _ _) (rho0_le ρ) _ _ g4), rfl⟩
    rw [g3]
    exact hK.back (h6 k (List.mem_map.2 ⟨(k, v), List.mem_of_getElem? g1, rfl⟩))
theorem q_entryI (hK : KeyT P kt kD kV kOk) {x : Operand} {idI j : Nat} {k : κ} {v : β} {m : List (κ × β)} {seen : List Nat} {obs : Obs} (hx : env.op x = some (.box idI 0)) (hi : obs.get idI = some (.mj (m.map fun p => kD p.1) (m.map fun p => vD p.2) (seen ++ [j]))) (hj : m[j]? = some (k, v)) :
    QStep P ⟨dst, .entry x, ty, pos, aft, g⟩ env obs (.tup [kD k, vD v]) obs :=
  .val fun O ρ a w hok hv => by
    have hvx := hv x (by simp [Op.operands]) _ hx
    simp only [V] at hvx
    obtain ⟨r, hr1, e1⟩ := hvx
    obtain ⟨r', hr2, _, b, him, hit⟩ := hok.own idI _ hi rfl
    rw [hr1] at hr2; cases hr2
    obtain ⟨es, h4, h5, h6⟩ := esG_of hK him
    obtain ⟨e, g1, g2, g3, g4⟩ := h5.at_ j k v hj
    have hit' : w.heap[r.b]? = some (.mapIter (some b) m.length (seen.toArray.push e.born) m.length) := by rw [hit, g2]; simp
    have hnd : (es.toList.map (·.born)).Nodup := by rw [h5.borns]; exact List.nodup_range
    have hrun := run_entry_at (P := P) w r.b b m.length seen.toArray es m.length e hit' h4 (by simpa using Array.mem_of_getElem? g1) hnd
    refine ⟨.tuple #[e.key, e.val], ?_, ?_⟩
    · simp only [execOp, e1]
      rw [Sem.run_bind, hrun]
      rfl
    · simp only [V, Vs]
      refine ⟨_, rfl, _, _, rfl, ?_, _, _, rfl, V.mono (Kept.refl _ _) (rho0_le ρ) _ _ g4, rfl⟩
      rw [g3]
      exact hK.back (h6 k (List.mem_map.2 ⟨(k, v), List.mem_of_getElem? hj, rfl⟩))
end
/-! Contracts with several outcomes. -/
structure FcE {ι : Type} (P : Program) (f : FuncId) (args : List D) (A : ι → Prop) (r : ι → D) : Prop where
  out : ∀ w O ρ vals, (∀ b, O b → b < w.heap.size) → Gl w O → Vs w O ρ args vals → Calls P f vals.toArray w (fun e w' => ∃ i v, A i ∧ e = .returned v ∧ V w' O ρ (r i) v ∧ Keep w w')
def retE {ι : Type} (ts : List Nat) (A : ι → Prop) (r : ι → D) : Exit → Env → Obs → Prop
  | .ret, env, _ | .normal, env, _ => ∃ i ds, A i ∧ getAll env ts = some ds ∧ Sub (mkRes ds) (r i)
  | _, _, _ => False
theorem FcE.mk' {ι : Type} {P : Program} {f : FuncId} {fn : Func} {c : Code} {args : List D} {A : ι → Prop} {r : ι → D} (ts : List Nat) (hf : P.funcs[f]? = some fn) (hb : fn.body = some c) {N : Nat} (hN : fn.ntmps = N) (hn : Nat.ble args.length N = true) (hp : D.pureB.pureL args = true) (hr : ∀ i, (r i).pureB = true)
    (hres : ∀ tmps w, (results fn tmps).run P w = .ok (resV ts tmps) w) (h : Run P ⟨N, [], false, none⟩ [c] (retE ts A r) (args0 args 0) []) : FcE P f args A r := ⟨fun w O ρ vals hO hgl hv0 => by
  have hno : ∀ b, ¬ Owned rho0 [] b := fun b ⟨i, o, l, h1, _⟩ => by simp [Obs.get] at h1
  have hok : ObsOK w O rho0 [] := ⟨hO, fun _ _ => rfl, fun i o h1 => by simp [Obs.get] at h1, fun i j o o' l l' h1 => by simp [Obs.get] at h1⟩
  have hv : Vs w (Ot O rho0 []) rho0 args vals := Vs.mono (Kept.subO fun b hb => hb.elim _root_.id (fun g => (hno b g).elim)) (RhoLe.refl _) _ _ (Vs.pure args vals hp hv0)
  refine calls_of_WP hf hb h.start (St.begin fn.ntmps hN (Nat.le_of_ble_eq_true hn) hok (hgl.mono (Kept.subO fun b hb => hb.elim _root_.id (fun g => (hno b g).elim))) hv [] none (fun _ _ e => by cases e)) ?_ ?_
  · intro e env' obs' hq
    cases e <;> first | exact .inl rfl | exact .inr rfl | exact hq.elim
  · intro e env' obs' tmps w' ρ' hq _ htr henv
    have : ∃ i ds, A i ∧ getAll env' ts = some ds ∧ Sub (mkRes ds) (r i) := by cases e <;> first | exact hq | exact hq.elim
    obtain ⟨i, ds, hA, h1, h2⟩ := this
    refine ⟨_, hres _ _, i, _, hA, rfl, ?_, htr.size, fun b hb => htr.same b hb (hno b), htr.os⟩
    have hvr := h2.out _ _ _ _ (Vs.res (getAll_V henv ts ds h1))
    exact V.pure _ _ (hr i) (V.mono (O' := O) (Kept.subO fun b hb => Or.inl hb) (RhoLe.refl _) _ _ hvr)⟩
end Go.T
namespace Go.T
open Go
variable [Noise]
structure FcOE {ι : Type} (P : Program) (f : FuncId) (args : List D) (pre : Obs) (A : ι → Prop) (r : ι → D) (post : ι → Obs) : Prop where
  out : ∀ w O ρ vals, ObsOK w O ρ pre → Gl w (Ot O ρ pre) → Vs w (Ot O ρ pre) ρ args vals → Calls P f vals.toArray w (fun e w' => ∃ i v ρ', A i ∧ e = .returned v ∧ Tr O w ρ pre w' ρ' (post i) ∧ V w' (Ot O ρ' (post i)) ρ' (r i) v)
def retOE {ι : Type} (ts : List Nat) (A : ι → Prop) (r : ι → D) (post : ι → Obs) : Exit → Env → Obs → Prop
  | .ret, env, obs | .normal, env, obs => ∃ i, A i ∧ (∃ ds, getAll env ts = some ds ∧ Sub (mkRes ds) (r i)) ∧ ObsLe (post i) obs (post i)
  | _, _, _ => False
theorem retOE1 {ι : Type} {A : ι → Prop} {r : ι → D} {post : ι → Obs} {env : Env} {obs : Obs} {t : Nat} {d : D} (i : ι) (hA : A i) (h : env.get t = some d) (s : Sub d (r i)) (hp : ObsLe (post i) obs (post i)) : retOE [t] A r post .ret env obs := ⟨i, hA, ⟨[d], by simp [getAll, h], s⟩, hp⟩
theorem FcOE.mk' {ι : Type} {P : Program} {f : FuncId} {fn : Func} {c : Code} {args : List D} {pre : Obs} {A : ι → Prop} {r : ι → D} {post : ι → Obs} (ts : List Nat) (hf : P.funcs[f]? = some fn) (hb : fn.body = some c) {N : Nat} (hN : fn.ntmps = N) (hn : Nat.ble args.length N = true) (hps : ∀ i, (pre.map (·.1)).all (post i).has = true) (hr : ∀ i, (r i).okB (post i).has = true)
    (hres : ∀ tmps w, (results fn tmps).run P w = .ok (resV ts tmps) w) (h : Run P ⟨N, pre.map (·.1), false, none⟩ [c] (retOE ts A r post) (args0 args 0) pre) : FcOE P f args pre A r post := ⟨fun w O ρ vals hok hgl hv => by
  refine calls_of_WP hf hb h.start (St.begin fn.ntmps hN (Nat.le_of_ble_eq_true hn) hok hgl hv _ none (fun _ _ e => by cases e)) ?_ ?_
  · intro e env' obs' hq
    cases e <;> first | exact .inl rfl | exact .inr rfl | exact hq.elim
  · intro e env' obs' tmps w' ρ' hq hkeep htr henv
    have : ∃ i, A i ∧ (∃ ds, getAll env' ts = some ds ∧ Sub (mkRes ds) (r i)) ∧ ObsLe (post i) obs' (post i) := by cases e <;> first | exact hq | exact hq.elim
    obtain ⟨k, hA, ⟨ds, h1, h2⟩, h3⟩ := this
    have hO : ∀ b, Owned (cutRho (post k).has ρ') (post k) b → Owned ρ' obs' b := by
      rintro b ⟨i, o, l, g1, g2, g3, g4⟩
      exact ⟨i, o, l, (h3.sound i o g1).1, g2, cutRho_le g3, g4⟩
    refine ⟨_, hres _ _, k, _, cutRho (post k).has ρ', hA, rfl, ⟨?_, htr.size, htr.same, fun b hb => htr.new b (hO b hb), htr.ok.sub h3.sound, htr.os⟩, ?_⟩
    · intro i l hl
      have hi : pre.has i = true := by
        cases hp : pre.get i with
        | none => rw [hok.fresh i hp] at hl; cases hl
        | some o => exact Obs.has_iff.2 ⟨o, hp⟩
      have hm : i ∈ pre.map (·.1) := by
        obtain ⟨o, ho⟩ := Obs.has_iff.1 hi
        have key : ∀ p : Obs, p.get i = some o → i ∈ p.map (·.1) := by
          intro p
          induction p with
          | nil => intro h; simp [Obs.get] at h
          | cons q r ih =>
            obtain ⟨t, d⟩ := q
            intro h
            rw [Obs.get_cons] at h
            by_cases e : t = i
            · subst e; simp
            · rw [if_neg e] at h; exact List.mem_cons_of_mem _ (ih h)
        exact key pre ho
      have := List.all_eq_true.1 (hps k) i hm
      simp [cutRho, this, hkeep i hm l hl]
    · have h4 := h2.out _ _ _ _ (Vs.res (getAll_V henv ts ds h1))
      exact V.cut (r k) _ (hr k) (V.mono (Kept.subO fun b hb => hb.imp _root_.id (hO b)) (RhoLe.refl _) _ _ h4)⟩
theorem q_callOE {ι : Type} {P : Program} {env : Env} {dst : Option Tmp} {ty : TypeId} {pos : String} {aft : Array Edge} {g : Option (Nat × Bool)} {f : FuncId} {xs : List Operand} {tys : Array TypeId} {ds : List D} {A : ι → Prop} {r : ι → D} {pre obs : Obs} {post : ι → Obs}
    (hcall : ∀ (args : Array Value) (w : World), (callFunc f args).run P w = .ok (.enter f args) w) (hx : env.opsD xs = some ds) (hf : FcOE P f ds pre A r post) (hle : ObsLe pre obs pre) (hds : D.okB.okL pre.has ds = true) (hdis : ∀ i, disjB (post i) (obs.rest pre) = true) :
    QStepN P ⟨dst, .call ⟨.value (.func f), xs.toArray, tys⟩, ty, pos, aft, g⟩ env obs A r (fun i => post i ++ obs.rest pre) := by
  intro O ρ a w hok hgl hv
  have hvs := opsD_V xs ds hx (fun x hx d' h => hv x (by simp [Op.operands, Call.operands, hx]) d' h)
  have hrun : (execOp a.eval ⟨dst, .call ⟨.value (.func f), xs.toArray, tys⟩, ty, pos, aft, g⟩).run P w = .ok (.enter f (xs.map a.eval).toArray) w := by
    have h1 : execOp a.eval ⟨dst, .call ⟨.value (.func f), xs.toArray, tys⟩, ty, pos, aft, g⟩ = callFunc f (xs.map a.eval).toArray := by
      simp [execOp, resolve, Deferred.ofValue, Act.eval, invoke, Bind.bind, Sem.bind, Pure.pure]
    rw [h1, hcall]
  have hsub : ∀ i o, pre.get i = some o → obs.get i = some o := fun i o ho => (hle.sound i o ho).1
  unfold Oper.wp
  rw [hrun]
  simp only [Oper.upon]
  have hvs' : Vs w (Ot (Ot O ρ (obs.rest pre)) (cutRho pre.has ρ) pre) (cutRho pre.has ρ) ds (xs.map a.eval) :=
    Vs.cutL hds (Vs.mono (Kept.subO fun b hb => ot_split (w := w) hsub b hb) (RhoLe.refl _) _ _ hvs)
  refine Calls.mono (hf.out w _ _ _ (frame_split' hsub hle.okB hok) (hgl.mono (Kept.subO fun b hb => ot_split (w := w) hsub b hb)) hvs') ?_
  rintro e w' ⟨i, v, ρ', hA, rfl, htr, hr⟩
  obtain ⟨h1, h2, h3⟩ := frame_join (fun _ => true) hsub hok htr.to0 (disjB_has (hdis i)) (fun i l _ hl => htr.le i l hl) (fun i o _ => Ob.okB_true o)
  exact ⟨i, _, v, hA, rfl, ⟨fun i l hl => h2 i l rfl hl, h1.size, h1.same, h1.new, h1.ok, h1.os⟩, h3 (r i) v hr⟩
end Go.T
namespace Go.T
open Go Go.Proofs
set_option maxRecDepth 20000
theorem tzKey : KeyT Tryz.prog 110 kPair vPair okPair := keyPair Tryz.underlying110 (by kernel_rfl) (.cons (by decide +kernel) Tryz.underlying9 Tryz.isAgg9 rfl (.cons (by decide +kernel) Tryz.underlying9 Tryz.isAgg9 rfl (.nil _)))
theorem vstr0 (w : World) (O : Nat → Prop) (ρ : Rho) : V w O ρ (D.str []) (.string ⟨#[]⟩) := by simp [V, big]
abbrev KM := List ((Str × Str) × Str)
def keyAt (m : KM) (j : Nat) : Option (Str × Str) := m[j]?.map (·.1)
theorem keyAt_range (m : KM) : (List.range m.length).filterMap (keyAt m) = m.map (·.1) := by
 induction m with
 | nil => rfl
 | cons p m ih =>
  rw [List.length_cons, List.range_succ_eq_map, List.filterMap_cons]
  simp only [keyAt, List.getElem?_cons_zero, Option.map_some, List.map_cons, List.filterMap_map]
  congr 1
theorem keys_perm {m : KM} {seen : List Nat} (hn : seen.Nodup) (hlt : ∀ j ∈ seen, j < m.length) (hall : ∀ j, j < m.length → j ∈ seen) : (seen.filterMap (keyAt m)).Perm (m.map (·.1)) := by
 rw [← keyAt_range]
 refine List.Perm.filterMap _ ((List.perm_ext_iff_of_nodup hn List.nodup_range).2 fun a => ?_)
 rw [List.mem_range]
 exact ⟨hlt a, hall a⟩
theorem seen_len {n : Nat} {seen : List Nat} (hn : seen.Nodup) (hlt : ∀ j ∈ seen, j < n) : seen.length ≤ n := by
 have := List.Nodup.length_le_of_subset hn (l₂ := List.range n) (fun j hj => List.mem_range.2 (hlt j hj))
 simpa using this
theorem nodup_snoc {seen : List Nat} {j : Nat} (hn : seen.Nodup) (hj : j ∉ seen) : (seen ++ [j]).Nodup := by
 rw [List.nodup_append]
 exact ⟨hn, by simp, by simp; intro a ha e; subst e; exact hj ha⟩
theorem keyAt_snoc {m : KM} {seen : List Nat} {j : Nat} {k : Str × Str} {v : Str} (h : m[j]? = some (k, v)) : (seen ++ [j]).filterMap (keyAt m) = seen.filterMap (keyAt m) ++ [k] := by
 rw [List.filterMap_append]; simp [keyAt, h]
theorem lt_snoc {m : KM} {seen : List Nat} {j : Nat} {kv : (Str × Str) × Str} (h : m[j]? = some kv) (hlt : ∀ j ∈ seen, j < m.length) : ∀ i ∈ seen ++ [j], i < m.length := by
 intro i hi
 rcases List.mem_append.1 hi with hi | hi
 ·exact hlt i hi
 ·simp at hi; subst hi; exact (List.getElem?_eq_some_iff.1 h).1
theorem fm_len (m : KM) (seen : List Nat) : (seen.filterMap (keyAt m)).length ≤ seen.length := List.length_filterMap_le _ _
theorem mapsKeys_ok (m : KM) : Fc Tryz.prog 126 [imapG kPair D.str m] (.fn (.func 172) [] [.iptr [imapG kPair D.str m]]) := by
 refine Fc.mk' [2] Tryz.func126 rfl Tryz.ntmps126 rfl rfl rfl (fun t w => results_tmp Tryz.results126 t _ w) ?_
 refine Run.seq (Run.reg [.w, .p] ?_)
 refine .W rfl (q_box1 0 rfl rfl rfl) <| .ag rfl rfl <| .nil ?_
 refine Run.weak (Le.freezeB 1 0 rfl rfl rfl rfl) ?_
 refine Run.seq (Run.reg [.p, .p] ?_)
 refine .P rfl (q_makeFunc (xs := []) (ys := _) rfl rfl) <| .ag rfl rfl <| .nil ?_
 refine Run.ret (?_)
 exact ret1 rfl (by exact Sub.refl _)
structure keysY_ok_L0 (m : KM) where
 seen : List Nat
 acc : List (Str × Str)
 hnd : seen.Nodup
 hlt : ∀ j ∈ seen, j < m.length
 hacc : acc = seen.filterMap (keyAt m)
theorem keysY_ok (m : KM) : FcY (α := Str × Str) Tryz.prog 172 8000 [.iptr [imapG kPair D.str m]] [] (fun p => [kPair p]) (fun p => p.length ≤ m.length) (fun p => p.Perm (m.map (·.1))) := by
 refine FcY.mk' Tryz.func172 rfl Tryz.ntmps172 rfl (fun t w => results_none Tryz.results172 t _ w) (fun idL lb ids B X Y => ?_)
 refine Run.seq (Run.reg [.p, .w] ?_)
 refine .P rfl (q_loadI Tryz.isAgg107 rfl) <| .W rfl (q_rangeI 8000 Tryz.underlying107 rfl (Y.free _ 8000 (by decide) (by decide))) <| .nil ?_
 refine Run.block ?_
 refine Run.loop (ι := keysY_ok_L0 m) (fun sx => [(0, yv lb), (5, .box 8000 0)]) (fun sx => ([(8000, .mj (m.map fun p => kPair p.1) (m.map fun p => D.str p.2) sx.seen)] ++ B sx.acc)) (fun sx => unseen m.length sx.seen) ⟨[], [], List.nodup_nil, by simp, rfl⟩ ?_ ?_
 ·exact Le.mk (ps_ok (Y.has _) rfl) (.same rfl rfl (.same rfl rfl .nil)) (.eq rfl (by first | rfl | (simp; done)) rfl (.tail (tail_ok (own := [(8000, _)]) (own' := [(8000, _)]) rfl (Y.free _) (Y.okb _))))
 ·rintro ⟨seen, acc, hnd, hlt, hacc⟩
  show Run _ _ _ _ [(0, yv lb), (5, .box 8000 0)] ([(8000, .mj (m.map fun p => kPair p.1) (m.map fun p => D.str p.2) seen)] ++ B acc)
  refine Run.seq (Run.regT ?_)
  refine Tx.n rfl trivial (q_nextI tzKey (vD := D.str) rfl rfl) (fun nb hnb => ?_)
  rcases nb with _ | ⟨nj, nk, nv⟩
  ·dsimp only [nextGD, nextIO]
   refine Tx.q rfl trivial (q_extract rfl rfl _) ?_
   refine Tx.nil ?_
   refine Run.seq ?_
   refine Run.condF rfl rfl ?_
   refine Run.exit (tq_exit (bq_exit ?_))
   refine Run.nil ?_
   exact retY_fin (.inr rfl) (acc) (by rw [hacc]; exact keys_perm hnd hlt hnb) (own_get (own := [(8000, _)]) rfl (Y.free _))
  ·dsimp only [nextGD, nextIO]
   refine Tx.q rfl trivial (q_extract rfl rfl _) ?_
   refine Tx.nil ?_
   refine Run.seq ?_
   refine Run.condT rfl rfl ?_
   refine Run.skip ?_
   refine Run.block ?_
   refine Run.seq (Run.reg [.r, .p, .w, .w] ?_)
   refine .R rfl (q_entryI tzKey (vD := D.str) rfl rfl (And.left hnb)) <| .P rfl (q_extract rfl rfl) <| .W rfl (q_alloc 8001 Tryz.zeroValue110 (Y.free _ 8001 (by decide) (by decide))) <| .W rfl (q_storeW Tryz.sizeOf110 rfl rfl rfl rfl rfl rfl) <| .nil ?_
   refine Run.seq (Run.regT ?_)
   refine Tx.q rfl trivial (q_move rfl _) ?_
   refine Tx.q rfl trivial (q_loadW Tryz.isAgg110 Tryz.sizeOf110 rfl rfl rfl) ?_
   refine Tx.weak (Le.mk (obs' := [(8000, _)] ++ B (acc)) (ps_ok (Y.has _) rfl) (show EnvLe _ _ [(0, _), (5, _), (6, _), (7, _), (8, _), (9, _), (10, _), (11, _)] from (.same rfl rfl (.same rfl rfl (.same rfl rfl (.same rfl rfl (.same rfl rfl (.same rfl rfl (.same rfl rfl (.same rfl rfl .nil))))))))) (.cons (i := 8000) rfl rfl (.tail (tail_ok (own := [(8001, _), (8000, _)]) (own' := [(8000, _)]) rfl (Y.free _) (Y.okb _))))) ?_
   refine Tx.y2 Y (own := [(8000, _)]) (pre := acc) (env' := [(0, _), (5, _), (6, _), (7, _), (8, _), (9, _), (10, _), (11, _)]) nk rfl rfl rfl rfl trivial rfl rfl rfl (by have h1 := seen_len (nodup_snoc hnd (And.right hnb)) (lt_snoc (And.left hnb) hlt); have h2 := fm_len m seen; simp only [List.length_append, List.length_singleton] at *; rw [hacc]; omega) rfl rfl (.cons rfl rfl (.cons rfl rfl (.cons rfl rfl (.cons rfl rfl (.cons rfl rfl (.cons rfl rfl (.cons rfl rfl (.cons rfl rfl .nil)))))))) ?_ (fun o hX => ?_)
   ·skip
    refine Tx.q rfl trivial (q_not rfl _) ?_
    refine Tx.nil ?_
    refine Run.condF rfl rfl ?_
    refine Run.skip ?_
    refine Run.nil (bq_norm ?_)
    refine Run.nil (tq_norm ?_)
    exact ⟨⟨seen ++ [nj], acc ++ [nk], nodup_snoc hnd (And.right hnb), lt_snoc (And.left hnb) hlt, by rw [hacc, keyAt_snoc (And.left hnb)]⟩, by exact unseen_lt ((List.getElem?_eq_some_iff.1 (And.left hnb)).1) (And.right hnb), Le.mk (ps_ok (Y.has _) rfl) (.same rfl rfl (.same rfl rfl .nil)) (.eq rfl (by first | rfl | (simp; done)) rfl (.tail (tail_ok (own := [(8000, _)]) (own' := [(8000, _)]) rfl (Y.free _) (Y.okb _))))⟩
   ·skip
    refine Tx.q rfl trivial (q_not rfl _) ?_
    refine Tx.nil ?_
    refine Run.condT rfl rfl ?_
    refine Run.ret (bq_ret (tq_ret (bq_ret (?_))))
    exact retY_x (.inl rfl) o hX (own_get (own := [(8000, _)]) rfl (Y.freeX _ hX))
end Go.T
namespace Go.T
open Go
theorem lt_irrefl (a : Str) : Str.lt a a = false := by
  cases h : Str.lt a a with
  | false => rfl
  | true => have := lt_asymm a a h; rw [h] at this; cases this
theorem lt_trans' : ∀ a b c : Str, Str.lt a b = true → Str.lt b c = true → Str.lt a c = true
  | _, [], _, h, _ => by simp [Str.lt, Op.bytesLess] at h
  | _, _ :: _, [], _, h => by simp [Str.lt, Op.bytesLess] at h
  | [], _ :: _, _ :: _, _, _ => by simp [Str.lt, Op.bytesLess]
  | x :: a, y :: b, z :: c, h1, h2 => by
    rw [lt_cons] at *
    simp only [Bool.or_eq_true, Bool.and_eq_true, decide_eq_true_eq] at *
    rcases h1 with h1 | ⟨rfl, h1⟩
    · rcases h2 with h2 | ⟨rfl, h2⟩
      · exact .inl (by omega)
      · exact .inl h1
    · rcases h2 with h2 | ⟨rfl, h2⟩
      · exact .inl h2
      · exact .inr ⟨rfl, lt_trans' a b c h1 h2⟩
theorem lt_total : ∀ a b : Str, Str.lt a b = false → Str.lt b a = false → a = b
  | [], [], _, _ => rfl
  | [], _ :: _, h, _ => by simp [Str.lt, Op.bytesLess] at h
  | _ :: _, [], _, h => by simp [Str.lt, Op.bytesLess] at h
  | x :: a, y :: b, h1, h2 => by
    rw [lt_cons] at *
    simp only [Bool.or_eq_false_iff, Bool.and_eq_false_iff, decide_eq_false_iff_not] at *
    have e : x = y := UInt8.toNat_inj.1 (by omega)
    subst e
    have := lt_total a b (by rcases h1.2 with h | h; exact absurd rfl h; exact h) (by rcases h2.2 with h | h; exact absurd rfl h; exact h)
    rw [this]
/-! Keys. -/
abbrev Key := Str × Str
def klt (p q : Key) : Bool := Str.lt p.1 q.1 || (decide (p.1 = q.1) && Str.lt p.2 q.2)
theorem klt_iff {p q : Key} : klt p q = true ↔ Str.lt p.1 q.1 = true ∨ (p.1 = q.1 ∧ Str.lt p.2 q.2 = true) := by simp [klt]
theorem klt_irrefl (p : Key) : klt p p = false := by simp [klt, lt_irrefl]
theorem klt_trans {p q r : Key} (h1 : klt p q = true) (h2 : klt q r = true) : klt p r = true := by
  rw [klt_iff] at *
  rcases h1 with h1 | ⟨e1, h1⟩
  · rcases h2 with h2 | ⟨e2, h2⟩
    · exact .inl (lt_trans' _ _ _ h1 h2)
    · exact .inl (e2 ▸ h1)
  · rcases h2 with h2 | ⟨e2, h2⟩
    · exact .inl (e1 ▸ h2)
    · exact .inr ⟨e1.trans e2, lt_trans' _ _ _ h1 h2⟩
theorem klt_asymm {p q : Key} (h : klt p q = true) : klt q p = false := by
  cases h2 : klt q p with
  | false => rfl
  | true => have := klt_trans h h2; rw [klt_irrefl] at this; cases this
theorem klt_total {p q : Key} (h1 : klt p q = false) (h2 : klt q p = false) : p = q := by
  simp only [klt, Bool.or_eq_false_iff, Bool.and_eq_false_iff, decide_eq_false_iff_not] at h1 h2
  have e := lt_total p.1 q.1 h1.1 h2.1
  have e2 : p.2 = q.2 := lt_total p.2 q.2 (by rcases h1.2 with h | h; exact absurd e h; exact h) (by rcases h2.2 with h | h; exact absurd e.symm h; exact h)
  exact Prod.ext e e2
/-! Balances. -/
def bkey (b : Balance) : Key := (b.account, b.currency)
def lkey (l : Line) : Key := (l.account, l.currency)
def balK (k : Key) : List Balance → Int
  | [] => 0
  | b :: l => (if bkey b = k then val b.amount else 0) + balK k l
def sumK (k : Key) : List Line → Int
  | [] => 0
  | x :: l => (if lkey x = k then val x.amount else 0) + sumK k l
theorem balK_append (k : Key) (a b : List Balance) : balK k (a ++ b) = balK k a + balK k b := by
  induction a with
  | nil => simp [balK]
  | cons x a ih => simp only [List.cons_append, balK, ih]; omega
theorem sumK_append (k : Key) (a b : List Line) : sumK k (a ++ b) = sumK k a + sumK k b := by
  induction a with
  | nil => simp [sumK]
  | cons x a ih => simp only [List.cons_append, sumK, ih]; omega
/-- An amount as it is written, not 0. -/
def canon0 (s : Str) : Prop := s = ofInt (val s) ∧ val s ≠ 0
structure IsBal (l : List Balance) : Prop where
  sorted : l.Pairwise fun a b => klt (bkey a) (bkey b) = true
  amt : ∀ b ∈ l, canon0 b.amount
theorem IsBal.nil : IsBal [] := ⟨.nil, by simp⟩
theorem IsBal.tail {b : Balance} {l : List Balance} (h : IsBal (b :: l)) : IsBal l := ⟨(List.pairwise_cons.1 h.sorted).2, fun x hx => h.amt x (List.mem_cons_of_mem _ hx)⟩
theorem IsBal.cons {b : Balance} {l : List Balance} (h : IsBal l) (hb : canon0 b.amount) (hlt : ∀ x ∈ l, klt (bkey b) (bkey x) = true) : IsBal (b :: l) := ⟨List.pairwise_cons.2 ⟨hlt, h.sorted⟩, fun x hx => by
  rcases List.mem_cons.1 hx with rfl | hx
  · exact hb
  · exact h.amt x hx⟩
theorem balK_none {k : Key} {l : List Balance} (h : ∀ x ∈ l, bkey x ≠ k) : balK k l = 0 := by
  induction l with
  | nil => rfl
  | cons x l ih =>
    simp only [balK, if_neg (h x List.mem_cons_self), ih (fun y hy => h y (List.mem_cons_of_mem _ hy))]; rfl
theorem balK_lt {k : Key} {l : List Balance} (h : ∀ x ∈ l, klt k (bkey x) = true) : balK k l = 0 := balK_none fun x hx e => by
  have := h x hx; rw [e, klt_irrefl] at this; cases this
theorem IsBal.head_lt {b : Balance} {l : List Balance} (h : IsBal (b :: l)) : ∀ x ∈ l, klt (bkey b) (bkey x) = true := (List.pairwise_cons.1 h.sorted).1
theorem IsBal.head_val {b : Balance} {l : List Balance} (h : IsBal (b :: l)) : balK (bkey b) (b :: l) = val b.amount := by
  simp [balK, balK_lt h.head_lt]
theorem IsBal.ext : ∀ {a b : List Balance}, IsBal a → IsBal b → (∀ k, balK k a = balK k b) → a = b
  | [], [], _, _, _ => rfl
  | [], y :: b, _, hb, h => by
    have := h (bkey y); rw [hb.head_val] at this
    exact absurd this.symm (hb.amt y List.mem_cons_self).2
  | x :: a, [], ha, _, h => by
    have := h (bkey x); rw [ha.head_val] at this
    exact absurd this (ha.amt x List.mem_cons_self).2
  | x :: a, y :: b, ha, hb, h => by
    have hx := (ha.amt x List.mem_cons_self)
    have hy := (hb.amt y List.mem_cons_self)
    have e : bkey x = bkey y := by
      apply klt_total
      · cases hc : klt (bkey x) (bkey y) with
        | false => rfl
        | true =>
          have h1 := h (bkey x)
          rw [ha.head_val, balK_lt (l := y :: b) (fun z hz => by
            rcases List.mem_cons.1 hz with rfl | hz
            · exact hc
            · exact klt_trans hc (hb.head_lt z hz))] at h1
          exact absurd h1 hx.2
      · cases hc : klt (bkey y) (bkey x) with
        | false => rfl
        | true =>
          have h1 := h (bkey y)
          rw [hb.head_val, balK_lt (l := x :: a) (fun z hz => by
            rcases List.mem_cons.1 hz with rfl | hz
            · exact hc
            · exact klt_trans hc (ha.head_lt z hz))] at h1
          exact absurd h1.symm hy.2
    have hv : val x.amount = val y.amount := by
      have := h (bkey x); rw [ha.head_val] at this; rw [e, hb.head_val] at this; exact this
    have hxy : x = y := by
      have h1 : x.account = y.account := congrArg Prod.fst e
      have h2 : x.currency = y.currency := congrArg Prod.snd e
      have h3 : x.amount = y.amount := by rw [hx.1, hy.1, hv]
      cases x; cases y; simp only at *; subst h1; subst h2; subst h3; rfl
    subst hxy
    rw [IsBal.ext ha.tail hb.tail (fun k => by have := h k; simp only [balK] at this; omega)]
theorem canon0_ofInt {n : Int} (h : n ≠ 0) : canon0 (ofInt n) := ⟨by rw [val_ofInt], by rw [val_ofInt]; exact h⟩
/-! The reference's list of balances: one more is put. -/
/-! The program's map of sums. -/
def listK (ks : List Key) (f : Key → Str) : List Balance := ks.filterMap fun k => if f k ≠ [] then some ⟨k.1, k.2, f k⟩ else none
theorem listK_bal {ks : List Key} (hs : ks.Pairwise fun a b => klt a b = true) (f : Key → Int) (g : Key → Str) (hg : ∀ k, g k = ofInt (f k)) (h0 : ∀ k, k ∉ ks → f k = 0) : IsBal (listK ks g) ∧ ∀ k, balK k (listK ks g) = f k := by
  have key : ∀ ks : List Key, (ks.Pairwise fun a b => klt a b = true) → IsBal (listK ks g) ∧ (∀ b ∈ listK ks g, bkey b ∈ ks) ∧ ∀ k, balK k (listK ks g) = if k ∈ ks then f k else 0 := by
    intro ks
    induction ks with
    | nil => intro _; exact ⟨IsBal.nil, by simp [listK], by simp [listK, balK]⟩
    | cons q ks ih =>
      intro hs
      obtain ⟨h1, h2⟩ := List.pairwise_cons.1 hs
      obtain ⟨i1, i2, i3⟩ := ih h2
      have hq : q ∉ ks := fun hm => by have := h1 q hm; rw [klt_irrefl] at this; cases this
      by_cases e : f q = 0
      · have e1 : listK (q :: ks) g = listK ks g := by
          have hz : g q = [] := by rw [hg, e, ofInt_zero]
          simp [listK, List.filterMap_cons, hz]
        rw [e1]
        refine ⟨i1, fun b hb => List.mem_cons_of_mem _ (i2 b hb), fun k => ?_⟩
        rw [i3 k]
        by_cases ek : k = q
        · subst ek; simp [hq, e]
        · simp [ek]
      · have hne : g q ≠ [] := by rw [hg, ne_eq, ofInt_nil]; exact e
        have e1 : listK (q :: ks) g = ⟨q.1, q.2, g q⟩ :: listK ks g := by simp [listK, List.filterMap_cons, hne]
        rw [e1]
        refine ⟨i1.cons (by rw [hg]; exact canon0_ofInt e) (fun b hb => h1 _ (i2 b hb)), fun b hb => ?_, fun k => ?_⟩
        · rcases List.mem_cons.1 hb with rfl | hb
          · exact List.mem_cons_self
          · exact List.mem_cons_of_mem _ (i2 b hb)
        · simp only [balK]
          rw [i3 k]
          have eb : bkey ⟨q.1, q.2, g q⟩ = q := rfl
          rw [eb, hg, val_ofInt]
          by_cases ek : q = k
          · subst ek; simp [hq]
          · have : k ≠ q := fun h => ek h.symm
            simp [ek, this]
  obtain ⟨h1, _, h3⟩ := key ks hs
  refine ⟨h1, fun k => ?_⟩
  rw [h3 k]
  split
  · rfl
  · rename_i hk; exact (h0 k hk).symm
end Go.T
namespace Go.T
open Go
variable {κ β : Type} [DecidableEq κ]
theorem getG_setG (d : β) (k : κ) (v : β) (q : κ) : ∀ m : List (κ × β), getG d (setG m k v) q = if q = k then v else getG d m q
  | [] => by by_cases h : q = k <;> simp [setG, getG, h]
  | (a, u) :: r => by
    have ih := getG_setG d k v q r
    by_cases h : k = a
    · subst h
      by_cases h2 : q = k <;> simp [setG, getG, h2]
    · simp only [setG, if_neg h, getG, ih]
      by_cases h2 : q = a
      · subst h2
        have : q ≠ k := fun e => h e.symm
        simp [this]
      · simp [h2]
theorem keys_setG (k : κ) (v : β) : ∀ m : List (κ × β), (setG m k v).map (·.1) = if k ∈ m.map (·.1) then m.map (·.1) else m.map (·.1) ++ [k]
  | [] => by simp [setG]
  | (a, u) :: r => by
    have ih := keys_setG k v r
    by_cases h : k = a
    · subst h; simp [setG]
    · have e : setG ((a, u) :: r) k v = (a, u) :: setG r k v := by simp [setG, h]
      rw [e, List.map_cons, ih]
      by_cases hm : k ∈ r.map (·.1)
      · rw [if_pos hm, if_pos (by simp only [List.map_cons]; exact List.mem_cons_of_mem _ hm), List.map_cons]
      · rw [if_neg hm, if_neg (by simp only [List.map_cons, List.mem_cons, not_or]; exact ⟨h, hm⟩)]; rfl
theorem getG_none (d : β) {k : κ} : ∀ {m : List (κ × β)}, k ∉ m.map (·.1) → getG d m k = d
  | [], _ => rfl
  | (a, u) :: r, h => by
    simp only [List.map_cons, List.mem_cons, not_or] at h
    simp only [getG, if_neg h.1, getG_none d h.2]
theorem nodup_setG {k : κ} {v : β} {m : List (κ × β)} (h : (m.map (·.1)).Nodup) : ((setG m k v).map (·.1)).Nodup := by
  rw [keys_setG]
  split
  · exact h
  · rename_i hk
    rw [List.nodup_append]
    exact ⟨h, by simp, by simp; intro a b ha e; subst e; exact hk (List.mem_map.2 ⟨_, ha, rfl⟩)⟩
/-! Sums by keys. -/
structure MapV (m : List (κ × Str)) (f : κ → Int) : Prop where
  nodup : (m.map (·.1)).Nodup
  val : ∀ k, getG [] m k = ofInt (f k)
theorem MapV.nil : MapV ([] : List (κ × Str)) (fun _ => 0) := ⟨List.nodup_nil, fun k => by simp [getG, ofInt_zero]⟩
theorem MapV.out {m : List (κ × Str)} {f : κ → Int} (h : MapV m f) {k : κ} (hk : k ∉ m.map (·.1)) : f k = 0 := by
  have := h.val k
  rw [getG_none [] hk] at this
  exact ofInt_nil.1 this.symm
def addG (m : List (κ × Str)) (k : κ) (a : Str) : List (κ × Str) := setG m k (addS (getG [] m k) a)
theorem MapV.add {m : List (κ × Str)} {f : κ → Int} (h : MapV m f) (k : κ) (a : Str) : MapV (addG m k a) (fun q => f q + if k = q then Go.T.val a else 0) := ⟨nodup_setG h.nodup, fun q => by
  rw [addG, getG_setG]
  by_cases e : q = k
  · subst e; simp [h.val q, addS_ofInt]
  · have : k ≠ q := fun e' => e e'.symm
    simp [e, this, h.val q]⟩
theorem ofInt_len30 {n : Int} (h : -1000000000000000000000000000000 < n ∧ n < 1000000000000000000000000000000) : (ofInt n).length ≤ 31 := by
  have h3 := natDig_len 30 n.natAbs (by omega)
  unfold ofInt
  split <;> simp <;> omega
theorem MapV.len {m : List (κ × Str)} {f : κ → Int} (h : MapV m f) {k : κ} (hf : -1000000000000000000000000000000 < f k ∧ f k < 1000000000000000000000000000000) : (getG [] m k).length ≤ 31 := by
  rw [h.val k]; exact ofInt_len30 hf
end Go.T
namespace Go.T
open Go Go.Proofs Go.Sort
def kcmp (p q : Key) : Int := orI [cmpT p.1 q.1, cmpT p.2 q.2]
theorem kcmp_lt (p q : Key) : decide (kcmp p q < 0) = klt p q := by
  have a1 := lt_asymm p.1 q.1
  have a2 := lt_asymm p.2 q.2
  have t1 := lt_total p.1 q.1
  have i1 := lt_irrefl p.1
  unfold kcmp klt orI cmpT
  simp only [orI]
  by_cases e : p.1 = q.1
  · rw [← e, i1]
    cases h : Str.lt p.2 q.2 <;> cases h' : Str.lt q.2 p.2 <;> simp_all
  · cases h : Str.lt p.1 q.1 <;> cases h' : Str.lt q.1 p.1 <;> simp_all
abbrev KeyS := {p : Key // okPair p}
instance : Inhabited KeyS := ⟨⟨([], []), by simp [okPair, big]⟩⟩
def kcmpS (x y : KeyS) : Int := kcmp x.1 y.1
theorem ltOf_kcmpS (x y : KeyS) : ltOf kcmpS x y = klt x.1 y.1 := kcmp_lt x.1 y.1
theorem klt_ntrans {x y z : Key} (h1 : klt x y = false) (h2 : klt y z = false) : klt x z = false := by
  cases h : klt x z with
  | false => rfl
  | true =>
    cases h3 : klt y x with
    | true => have := klt_trans h3 h; rw [h2] at this; cases this
    | false => have := klt_total h1 h3; subst this; rw [h2] at h; cases h
theorem swo_kcmpS : SWO (ltOf kcmpS) := ⟨fun x => by rw [ltOf_kcmpS, klt_irrefl], fun x y z h1 h2 => by rw [ltOf_kcmpS] at *; exact klt_trans h1 h2, fun x y z h1 h2 => by rw [ltOf_kcmpS] at *; exact klt_ntrans h1 h2⟩
theorem tot_kcmpS (x y : KeyS) (h1 : ltOf kcmpS x y = false) (h2 : ltOf kcmpS y x = false) : x = y := by
  rw [ltOf_kcmpS] at *
  exact Subtype.ext (klt_total h1 h2)
theorem elemKey : Elem 2 (fun x : KeyS => [D.str x.1.1, D.str x.1.2]) (fun x => [vStr x.1.1, vStr x.1.2]) := by
  refine ⟨fun _ => rfl, fun _ => rfl, fun x v hv => ?_, fun x w O ρ vs h => ?_, fun x w O ρ => ?_⟩
  · simp only [List.mem_cons, List.not_mem_nil, or_false] at hv
    rcases hv with rfl | rfl <;> rfl
  · simp only [Vs, V] at h
    obtain ⟨_, _, rfl, h1, _, _, rfl, h2, rfl⟩ := h
    rw [h1.1, h2.1]
  · simp only [Vs, V]
    exact ⟨_, _, rfl, ⟨rfl, x.2.1⟩, _, _, rfl, ⟨rfl, x.2.2⟩, rfl⟩
theorem attach_val {α : Type} {P : α → Prop} {l : List α} (h : ∀ k ∈ l, P k) : (l.attachWith P h).map Subtype.val = l := by
  apply List.ext_getElem
  · simp
  · intro i h1 h2; simp
def sortK (l : List Key) : List Key := l.mergeSort (fun x y => !klt y x)
theorem kle_trans (a b c : Key) (h1 : (!klt b a) = true) (h2 : (!klt c b) = true) : (!klt c a) = true := by
  simp only [Bool.not_eq_true'] at *
  exact klt_ntrans h2 h1
theorem kle_total (a b : Key) : ((!klt b a) || (!klt a b)) = true := by
  cases h : klt b a with
  | false => rfl
  | true => simp [klt_asymm h]
theorem sortK_perm0 (l : List Key) : (sortK l).Perm l := List.mergeSort_perm l _
theorem sortK_sorted {l : List Key} (h : l.Nodup) : (sortK l).Pairwise fun a b => klt a b = true := by
  have h1 := List.pairwise_mergeSort (le := fun x y : Key => !klt y x) kle_trans kle_total l
  have h2 : (sortK l).Nodup := (sortK_perm0 l).nodup_iff.2 h
  refine (h1.and h2).imp ?_
  rintro a b ⟨g1, g2⟩
  cases h3 : klt a b with
  | true => rfl
  | false => exact absurd (klt_total h3 (by simpa using g1)) g2
theorem sorted_ext : ∀ {a b : List Key}, (a.Pairwise fun a b => klt a b = true) → (b.Pairwise fun a b => klt a b = true) → a.Perm b → a = b
  | [], b, _, _, h => (List.nil_perm.1 h).symm ▸ rfl
  | x :: a, [], _, _, h => by have := h.length_eq; simp at this
  | x :: a, y :: b, ha, hb, h => by
    obtain ⟨h1, h2⟩ := List.pairwise_cons.1 ha
    obtain ⟨g1, g2⟩ := List.pairwise_cons.1 hb
    have e : x = y := by
      have hx : x ∈ y :: b := h.subset List.mem_cons_self
      have hy : y ∈ x :: a := h.symm.subset List.mem_cons_self
      rcases List.mem_cons.1 hx with e | hx
      · exact e
      · rcases List.mem_cons.1 hy with e | hy
        · exact e.symm
        · have := klt_asymm (h1 y hy); rw [g1 x hx] at this; cases this
    subst e
    rw [sorted_ext h2 g2 (List.Perm.cons_inv h)]
theorem sortK_perm {a b : List Key} (h : a.Perm b) (hb : b.Nodup) : sortK a = sortK b :=
  sorted_ext (sortK_sorted (h.nodup_iff.2 hb)) (sortK_sorted hb) ((sortK_perm0 a).trans (h.trans (sortK_perm0 b).symm))
theorem sortK_attach {l : List Key} (h : ∀ k ∈ l, okPair k) : ((l.attachWith okPair h).mergeSort fun x y => !(ltOf kcmpS) y x).map (fun x : KeyS => [D.str x.1.1, D.str x.1.2]) = (sortK l).map fun k => [D.str k.1, D.str k.2] := by
  have e : ((l.attachWith okPair h).mergeSort fun x y => !(ltOf kcmpS) y x).map Subtype.val = sortK l := by
    unfold sortK
    rw [List.map_mergeSort (r := fun x y => !(ltOf kcmpS) y x) (s := fun x y => !klt y x) (fun a _ b _ => by rw [ltOf_kcmpS]), attach_val]
  rw [← e, List.map_map]; rfl
theorem attach_enc {l : List Key} (h : ∀ k ∈ l, okPair k) : (l.attachWith okPair h).map (fun x : KeyS => [D.str x.1.1, D.str x.1.2]) = l.map fun k => [D.str k.1, D.str k.2] := by
  have e := attach_val h
  conv => { rhs; rw [← e, List.map_map] }
  rfl
/-! The list of a map. -/
def listM (m : List (Key × Str)) : List Balance := listK (sortK (m.map (·.1))) (getG [] m)
theorem listM_bal {m : List (Key × Str)} {f : Key → Int} (h : MapV m f) : IsBal (listM m) ∧ ∀ k, balK k (listM m) = f k :=
  listK_bal (sortK_sorted h.nodup) f _ h.val (fun k hk => h.out (fun hm => hk ((sortK_perm0 _).symm.subset hm)))
end Go.T
namespace Go.T
open Go Go.Proofs
/-- The sum of a key over entries. -/
def sumE (k : Key) : List Entry → Int
  | [] => 0
  | e :: l => sumK k e.lines + sumE k l
theorem sumE_append (k : Key) (a b : List Entry) : sumE k (a ++ b) = sumE k a + sumE k b := by
  induction a with
  | nil => simp [sumE]
  | cons x a ih => simp only [List.cons_append, sumE, ih]; omega
theorem sumE_perm {k : Key} {a b : List Entry} (h : a.Perm b) : sumE k a = sumE k b := by
  induction h with
  | nil => rfl
  | cons _ _ ih => simp [sumE, ih]
  | swap => simp only [sumE]; omega
  | trans _ _ h1 h2 => rw [h1, h2]
theorem cmpT_zero {a b : Str} (h : cmpT a b = 0) : a = b := by
  unfold cmpT at h
  split at h
  · omega
  · split at h
    · omega
    · rename_i h1 h2; exact lt_total a b (by simpa using h1) (by simpa using h2)
theorem cmpLine_zero {a b : Line} (h : cmpLine a b = 0) : lkey a = lkey b := by
  unfold cmpLine at h
  split at h
  · rename_i h1; exact absurd h h1
  · rename_i h1
    exact Prod.ext (cmpT_zero (a := a.account) (b := b.account) (by simpa using h1)) (cmpT_zero h)
theorem cmpLines_zero (k : Key) : ∀ {a b : List Line}, cmpLines a b = 0 → sumK k a = sumK k b
  | [], [], _ => rfl
  | [], _ :: _, h => by simp [cmpLines] at h
  | _ :: _, [], h => by simp [cmpLines] at h
  | x :: a, y :: b, h => by
    simp only [cmpLines] at h
    split at h
    · rename_i h1; exact absurd h h1
    · rename_i h1
      split at h
      · rename_i h2; exact absurd h h2
      · rename_i h2
        have e := cmpLine_zero (a := x) (b := y) (by simpa using h1)
        have hv : val x.amount = val y.amount := by
          have := numCmp_sign x.amount y.amount
          have h3 : numCmp x.amount y.amount = 0 := by simpa using h2
          rw [h3] at this
          unfold signI at this
          split at this
          · omega
          · split at this <;> omega
        simp only [sumK, e, hv, cmpLines_zero k h]
theorem cmpE_zero (k : Key) {a b : Entry} (h : cmpE a b = 0) : sumK k a.lines = sumK k b.lines := by
  unfold cmpE at h
  split at h
  · split at h <;> omega
  · split at h
    · rename_i h1; exact absurd h h1
    · exact cmpLines_zero k h
theorem cmpT_refl (a : Str) : cmpT a a = 0 := by simp [cmpT, lt_irrefl]
theorem cmpLines_refl : ∀ a : List Line, cmpLines a a = 0
  | [] => rfl
  | x :: a => by
    have h1 : cmpLine x x = 0 := by simp [cmpLine, cmpT_refl]
    have h2 : numCmp x.amount x.amount = 0 := by rw [numCmp_sign]; simp [signI]
    simp [cmpLines, h1, h2, cmpLines_refl a]
theorem cmpE_refl (a : Entry) : cmpE a a = 0 := by simp [cmpE, cmpT_refl, cmpLines_refl]
theorem lessE_self : ∀ a : List Entry, lessE a a = []
  | [] => by simp [lessE]
  | x :: a => by rw [lessE_e0 (cmpE_refl x), lessE_self a]
theorem less_sum (k : Key) : ∀ (n : Nat) (a b : List Entry), a.length + b.length ≤ n → sumE k (lessE a b) - sumE k (lessE b a) = sumE k a - sumE k b
  | n, [], b, _ => by rw [lessE_n0]; simp [lessE, sumE]
  | n, x :: a, [], _ => by rw [lessE_n0]; simp [lessE, sumE]
  | 0, x :: a, y :: b, h => by simp at h
  | n + 1, x :: a, y :: b, h => by
    simp only [List.length_cons] at h
    have hn := cmpE_neg x y
    by_cases h1 : cmpE x y < 0
    · rw [lessE_g0 (x := x) (y := y) (by omega), lessE_l0 (x := y) (y := x) h1]
      have := less_sum k n a (y :: b) (by simp; omega)
      simp only [sumE] at *; omega
    · by_cases h2 : 0 < cmpE x y
      · rw [lessE_l0 (x := x) (y := y) (by omega), lessE_g0 (x := y) (y := x) h2]
        have := less_sum k n (x :: a) b (by simp; omega)
        simp only [sumE] at *; omega
      · rw [lessE_e0 (x := x) (y := y) (by omega), lessE_e0 (x := y) (y := x) (by omega)]
        have := less_sum k n a b (by omega)
        have h3 := cmpE_zero k (a := x) (b := y) (by omega)
        simp only [sumE] at *; omega
theorem sortE_perm (l : List Entry) : (sortE l).Perm l := by
  have ins : ∀ (r : List Entry) (x : Entry), (insR r x).Perm (x :: r) := by
    intro r x
    induction r with
    | nil => exact List.Perm.refl _
    | cons y r ih =>
      unfold insR
      split
      · exact (List.Perm.cons y ih).trans (List.Perm.swap x y r)
      · exact List.Perm.refl _
  have fold : ∀ (l r : List Entry), (l.foldl insR r).Perm (l ++ r) := by
    intro l
    induction l with
    | nil => intro r; exact List.Perm.refl _
    | cons x l ih =>
      intro r
      exact (ih (insR r x)).trans (((ins r x).append_left l).trans (by simpa using List.perm_middle (l₁ := l) (a := x) (l₂ := r)))
  exact (List.reverse_perm _).trans (by simpa using fold l [])
theorem minus_sum (k : Key) (a b : List Entry) : sumE k (minusE b a) - sumE k (minusE a b) = sumE k b - sumE k a := by
  have h := less_sum k _ (sortE b) (sortE a) (Nat.le_refl _)
  rwa [sumE_perm (sortE_perm a), sumE_perm (sortE_perm b)] at h
theorem sumE_opposite (k : Key) (l : List Entry) : sumE k (l.map opposite) = - sumE k l := by
  have one : ∀ ls : List Line, sumK k (ls.map fun l => { l with amount := negS l.amount }) = - sumK k ls := by
    intro ls
    induction ls with
    | nil => rfl
    | cons x ls ih =>
      simp only [List.map_cons, sumK, ih, val_negS]
      have e : lkey { x with amount := negS x.amount } = lkey x := rfl
      rw [e]; split <;> omega
  induction l with
  | nil => rfl
  | cons e l ih => simp only [List.map_cons, sumE, ih]; rw [show (opposite e).lines = e.lines.map (fun l => { l with amount := negS l.amount }) from rfl, one]; omega
theorem chg_eq (a b : List Entry) : chg a b = (minusE a b).map opposite ++ minusE b a := by unfold chg; rw [merge_minus]
theorem chg_sum (k : Key) (a b : List Entry) : sumE k (chg a b) = sumE k b - sumE k a := by
  rw [chg_eq, sumE_append, sumE_opposite]
  have := minus_sum k a b
  omega
theorem chg_self (a : List Entry) : chg a a = [] := by rw [chg_eq]; simp [minusE, lessE_self]
theorem chg_sym_len (a b : List Entry) : (chg a b).length = (chg b a).length := by rw [chg_eq, chg_eq]; simp; omega
end Go.T
namespace Go.T
open Go Go.Proofs
@[reducible] def encKey (k : Key) : List D := [.str k.1, .str k.2]
@[reducible] def sKeys (l : List Key) : D := .snap 2 false (l.map encKey)
@[reducible] def sBals (l : List Balance) : D := .snap 3 false (l.map encBalance)
def linesM (m : List (Key × Str)) (ls : List Line) : List (Key × Str) := ls.foldl (fun m l => addG m (lkey l) l.amount) m
theorem linesM_snoc (m : List (Key × Str)) (ls : List Line) (x : Line) : linesM m (ls ++ [x]) = addG (linesM m ls) (lkey x) x.amount := by simp [linesM]
theorem MapV.eqf {m : List (Key × Str)} {f g : Key → Int} (h : MapV m f) (e : ∀ k, f k = g k) : MapV m g := ⟨h.nodup, fun k => by rw [h.val, e]⟩
theorem MapV.lines {m : List (Key × Str)} {f : Key → Int} (h : MapV m f) (ls : List Line) : MapV (linesM m ls) (fun k => f k + sumK k ls) := by
  induction ls using rev_ind with
  | h0 => exact h.eqf (fun k => by simp [sumK])
  | h1 ls x ih =>
    rw [linesM_snoc]
    refine (ih.add _ _).eqf fun k => ?_
    rw [sumK_append]
    simp only [sumK]
    omega
def trM (d : Int) (es : List Entry) : List (Key × Str) := es.foldl (fun m e => if decide (e.day ≤ d) then linesM m e.lines else m) []
theorem trM_T {d : Int} {es : List Entry} {x : Entry} (h : x.day ≤ d) : trM d (es ++ [x]) = linesM (trM d es) x.lines := by simp [trM, h]
theorem trM_F {d : Int} {es : List Entry} {x : Entry} (h : ¬ x.day ≤ d) : trM d (es ++ [x]) = trM d es := by simp only [trM, List.foldl_append, List.foldl_cons, List.foldl_nil, h, decide_false]; rfl
theorem trM_val (d : Int) (es : List Entry) : MapV (trM d es) (fun k => sumE k (es.filter fun e => decide (e.day ≤ d))) := by
  induction es using rev_ind with
  | h0 => exact MapV.nil.eqf (fun k => by simp [sumE])
  | h1 es x ih =>
    by_cases h : x.day ≤ d
    · rw [trM_T h]
      refine (ih.lines _).eqf fun k => ?_
      simp [List.filter_append, h, sumE_append, sumE]
    · rw [trM_F h]
      refine ih.eqf fun k => ?_
      simp [List.filter_append, h]
theorem sumK_bound {k : Key} {ls : List Line} (h : ∀ l ∈ ls, l.amount.length ≤ 14) : -(ls.length * 100000000000000 : Int) ≤ sumK k ls ∧ sumK k ls ≤ ls.length * 100000000000000 := by
  induction ls with
  | nil => simp [sumK]
  | cons x ls ih =>
    have h1 := ih (fun l hl => h l (List.mem_cons_of_mem _ hl))
    have h2 := val_13 (h x List.mem_cons_self)
    simp only [sumK, List.length_cons]
    split <;> omega
theorem sumE_bound {k : Key} {es : List Entry} (h : ∀ e ∈ es, smallE e) : -(es.length * 6600000000000000 : Int) ≤ sumE k es ∧ sumE k es ≤ es.length * 6600000000000000 := by
  induction es with
  | nil => simp [sumE]
  | cons x es ih =>
    have h1 := ih (fun l hl => h l (List.mem_cons_of_mem _ hl))
    obtain ⟨_, g2, g3⟩ := h x List.mem_cons_self
    have h2 := sumK_bound (k := k) (ls := x.lines) (fun l hl => (g3 l hl).2.2)
    simp only [sumE, List.length_cons]
    omega
theorem trM_get {d : Int} {es : List Entry} {ls : List Line} (k : Key) (h : ∀ e ∈ es, smallE e) (hn : es.length ≤ 100000) (hl : ls.length ≤ 66) (h2 : ∀ l ∈ ls, l.amount.length ≤ 14) : (getG [] (linesM (trM d es) ls) k).length ≤ 31 := by
  refine ((trM_val d es).lines ls).len ?_
  have b1 := sumE_bound (k := k) (es := es.filter fun e => decide (e.day ≤ d)) (fun e he => h e ((List.mem_filter.1 he).1))
  have b2 := sumK_bound (k := k) h2
  have b3 := List.length_filter_le (fun e : Entry => decide (e.day ≤ d)) es
  constructor <;> omega
/-! Keys of maps that are short. -/
def okM (m : List (Key × Str)) (n : Nat) : Prop := (∀ k ∈ m.map (·.1), okPair k) ∧ m.length ≤ n
theorem okM.nil : okM [] 0 := ⟨by simp, by simp⟩
theorem okM.add {m : List (Key × Str)} {n : Nat} (h : okM m n) {k : Key} (hk : okPair k) (a : Str) : okM (addG m k a) (n + 1) := by
  refine ⟨fun q hq => ?_, ?_⟩
  · rw [addG, keys_setG] at hq
    split at hq
    · exact h.1 q hq
    · rcases List.mem_append.1 hq with hq | hq
      · exact h.1 q hq
      · simp at hq; subst hq; exact hk
  · have := setG_len ([] : Str) m k (addS (getG [] m k) a)
    have := h.2
    rw [addG]
    split at * <;> omega
theorem okPair_60 {k : Key} (h : k.1.length ≤ 60 ∧ k.2.length ≤ 60) : okPair k := by simp only [okPair, big]; omega
theorem okM.lines {m : List (Key × Str)} {n : Nat} (h : okM m n) {ls : List Line} (hl : ∀ l ∈ ls, smallLine l) : okM (linesM m ls) (n + ls.length) := by
  induction ls using rev_ind with
  | h0 => exact h
  | h1 ls x ih =>
    rw [linesM_snoc, List.length_append]
    have hx := hl x (by simp)
    exact (ih fun l hl' => hl l (by simp [hl'])).add (okPair_60 ⟨hx.1, hx.2.1⟩) _
theorem okM.le {m : List (Key × Str)} {n n' : Nat} (h : okM m n) (hn : n ≤ n') : okM m n' := ⟨h.1, Nat.le_trans h.2 hn⟩
theorem trM_ok {d : Int} {es : List Entry} (h : ∀ e ∈ es, smallE e) : okM (trM d es) (66 * es.length) := by
  induction es using rev_ind with
  | h0 => exact okM.nil
  | h1 es x ih =>
    have ih := ih fun e he => h e (by simp [he])
    have hx := h x (by simp)
    rw [List.length_append]
    by_cases hd : x.day ≤ d
    · rw [trM_T hd]; exact (ih.lines hx.2.2).le (by have := hx.2.1; simp; omega)
    · rw [trM_F hd]; exact ih.le (by simp; omega)
/-- The balances of entries up to a day. -/
def trialB (d : Int) (es : List Entry) : List Balance := listM (trM d es)
theorem trialB_bal (d : Int) (es : List Entry) : IsBal (trialB d es) ∧ ∀ k, balK k (trialB d es) = sumE k (es.filter fun e => decide (e.day ≤ d)) := listM_bal (trM_val d es)
theorem listK_snoc (ks : List Key) (f : Key → Str) (k : Key) : listK (ks ++ [k]) f = listK ks f ++ (if f k ≠ [] then [⟨k.1, k.2, f k⟩] else []) := by
  simp only [listK, List.filterMap_append, List.filterMap_cons, List.filterMap_nil]
  split <;> simp_all
theorem listK_len (ks : List Key) (f : Key → Str) : (listK ks f).length ≤ ks.length := List.length_filterMap_le _ _
end Go.T
namespace Go.T
open Go Go.Proofs
set_option maxRecDepth 20000
theorem sortKeys_ok (l : List Key) (h : ∀ k ∈ l, okPair k) (hl : l.length < 4611686018427387904) : FcO Tryz.prog 171 [.gs 7800 l.length, .fn (.func 124) [] []] [(7800, .arr 2 (l.map encKey))] (.tup []) [(7800, .arr 2 ((sortK l).map encKey))] := by
 have := sort_FcO (r := Tryz.sortKey_ren) Tryz.sortKey Tryz.isAgg110 Tryz.sizeOf110 elemKey (g := 124) (cf := kcmpS) Tryz.call124 (fun x y => @ledgerCmp_ok calm _ _ _ _) swo_kcmpS tot_kcmpS 7800 (l.attachWith okPair h) (by simpa using hl)
 rw [sortK_attach, attach_enc, List.length_attachWith] at this
 exact this
theorem appendKeys_ok (m : KM) (hm : m.length ≤ 1000000) : FcOE (ι := List Key) Tryz.prog 210 [.raw (.slice none 0 0), .fn (.func 172) [] [.iptr [imapG kPair D.str m]]] [] (fun p => p.Perm (m.map (·.1))) (fun p => .gs 7800 p.length) (fun p => [(7800, .arr 2 (p.map encKey))]) := by
 refine FcOE.mk' [4] Tryz.func210 rfl Tryz.ntmps210 rfl (fun _ => rfl) (fun _ => rfl) (fun t w => results_tmp Tryz.results210 t _ w) ?_
 refine Run.seq (Run.reg [.w, .p] ?_)
 refine .W rfl (q_box1 0 rfl rfl rfl) <| .ag rfl rfl <| .nil ?_
 refine Run.seq (Run.seq (Run.reg [.p] ?_))
 refine .mv rfl rfl <| .nil ?_
 refine Run.block ?_
 refine Run.rangeF (α := Key) 7900 [0] [(0, _), (1, _), (2, _), (4, _), (6, _)] (fun (pre : List (Key)) => [(0, .cells [.gs 7800 pre.length]), (7800, .arr 2 (pre.map encKey))]) (fun _ _ => False) rfl Tryz.call172 (keysY_ok m) (env1 := [(0, _), (1, _), (2, _), (4, _), (6, _)]) ((Le.own0 7800 2).trans <| (Le.subO 0 0 rfl rfl (Sub.gsNil 7800)).trans <| Le.mk (obs' := [] ++ (fun (pre : List (Key)) => [(0, .cells [.gs 7800 pre.length]), (7800, .arr 2 (pre.map encKey))]) []) rfl (show EnvLe _ _ [(0, _), (1, _), (2, _), (4, _), (6, _)] from (.same rfl rfl (.same rfl rfl (.same rfl rfl (.same rfl rfl (.same rfl rfl .nil)))))) (.eq rfl (by first | rfl | (simp; done)) rfl (.eq rfl (by first | rfl | (simp; done)) rfl .nil))) rfl rfl (fun _ => rfl) (.cons rfl rfl (.cons rfl rfl (.cons rfl rfl (.cons rfl rfl (.cons rfl rfl .nil))))) rfl (fun _ => rfl) (by rintro j o h; exact h.elim) (fun _ => Obs.okB_get rfl) (by rintro j o h; exact h.elim) (fun _ => freeB_get rfl) (by rintro j o h; exact h.elim) (by decide) rfl (fun pre x hok => ?_) (fun xs hfin => ?_) (fun _ _ h => h.elim)
 ·skip
  simp only [List.length_append, List.length_singleton] at hok
  refine Run.reg [.w, .w] ?_
  refine .W rfl (q_alloc 1 Tryz.zeroValue110 rfl) <| .W rfl (q_storeW Tryz.sizeOf110 rfl rfl rfl rfl rfl rfl) <| .nil ?_
  refine Run.nil ⟨rfl, ?_⟩
  refine Run.block ?_
  refine Run.reg [.r, .r, .p, .w, .w] ?_
  refine .R rfl (q_load1 Tryz.isAgg163 rfl rfl rfl) <| .R rfl (q_loadW Tryz.isAgg110 Tryz.sizeOf110 rfl rfl rfl) <| .P rfl (q_buildSlice' (n := 1) (rows := [encKey x]) Tryz.underlying163 Tryz.sizeOf110 rfl rfl rfl Tryz.zeroValue110 rfl rfl rfl rfl rfl rfl rfl) <| .W rfl (q_append 2 Tryz.underlying163 Tryz.underlying163 Tryz.sizeOf110 Tryz.typeInfo110 Tryz.zeroValue110 rfl (bt := 32) rfl rfl rfl rfl (by simp) rfl rfl (by simp; omega)) <| .W rfl (q_store1 Tryz.sizeOf163 rfl rfl rfl rfl (by first | (simp; done) | decide)) <| .nil ?_
  refine Run.nil (bq_norm ?_)
  refine Run.nil ?_
  exact ⟨rfl, (Le.mk (env' := []) (obs' := [(7900, _), (0, _), (2, _)]) rfl .nil (.cons (i := 7900) rfl rfl (.cons (i := 0) rfl rfl (.cons (i := 2) rfl rfl .nil)))).trans <| (Le.renO 0 0 2 7800 rfl rfl rfl (by simp) rfl).trans <| Le.mk rfl .nil (.cons rfl rfl (.eq rfl (by first | rfl | (simp; done) | (simp; omega)) rfl (.eq rfl (by first | rfl | (simp; done) | (simp; omega)) rfl .nil)))⟩
 ·skip
  refine Run.nil (bq_norm ?_)
  refine Run.seq (Run.reg [.r, .p] ?_)
  refine .R rfl (q_load1 Tryz.isAgg163 rfl rfl rfl) <| .ag rfl rfl <| .nil ?_
  refine Run.ret (?_)
  exact retOE1 (xs) (hfin) rfl (by exact Sub.gs (by simp)) (.eq rfl (by rfl) rfl .nil)
theorem collectKeys_ok (m : KM) (hm : m.length ≤ 1000000) : FcOE (ι := List Key) Tryz.prog 170 [.fn (.func 172) [] [.iptr [imapG kPair D.str m]]] [] (fun p => p.Perm (m.map (·.1))) (fun p => .gs 7800 p.length) (fun p => [(7800, .arr 2 (p.map encKey))]) := by
 refine FcOE.mk' [2] Tryz.func170 rfl Tryz.ntmps170 rfl (fun _ => rfl) (fun _ => rfl) (fun t w => results_tmp Tryz.results170 t _ w) ?_
 refine Run.seq (Run.reg [.p] ?_)
 refine .ag rfl rfl <| .nil ?_
 refine Run.seq (Run.regT ?_)
 refine Tx.q rfl trivial (q_move rfl _) ?_
 refine Tx.n rfl trivial (q_callOE Tryz.call210 rfl (appendKeys_ok m hm) .nil rfl (fun _ => rfl)) (fun nb hnb => ?_)
 dsimp only
 refine Tx.q rfl trivial (q_assign rfl _) ?_
 refine Tx.nil ?_
 refine Run.ret (?_)
 exact retOE1 (nb) (hnb) rfl (by exact Sub.gs (by simp)) (.eq rfl (by rfl) rfl .nil)
theorem sortedKeys_ok (m : KM) (hm : m.length ≤ 1000000) (hk : ∀ k ∈ m.map (·.1), okPair k) (hn : (m.map (·.1)).Nodup) : Fc Tryz.prog 125 [.fn (.func 172) [] [.iptr [imapG kPair D.str m]], .fn (.func 124) [] []] (sKeys (sortK (m.map (·.1)))) := by
 refine Fc.mk' [4] Tryz.func125 rfl Tryz.ntmps125 rfl rfl rfl (fun t w => results_tmp Tryz.results125 t _ w) ?_
 refine Run.seq (Run.reg [.p] ?_)
 refine .ag rfl rfl <| .nil ?_
 refine Run.seq (Run.regT ?_)
 refine Tx.q rfl trivial (q_move rfl _) ?_
 refine Tx.n rfl trivial (q_callOE Tryz.call170 rfl (collectKeys_ok m hm) .nil rfl (fun _ => rfl)) (fun nb hnb => ?_)
 dsimp only
 refine Tx.q rfl trivial (q_assign rfl _) ?_
 refine Tx.nil ?_
 refine Run.seq (Run.reg [.p, .p, .w] ?_)
 refine .mv rfl rfl <| .mv rfl rfl <| .W rfl (q_callO Tryz.call171 rfl (sortKeys_ok nb (fun k hk' => hk k (hnb.subset hk')) (by have := hnb.length_eq; simp at this; omega)) (.cons rfl rfl .nil) rfl rfl) <| .nil ?_
 refine Run.seq (Run.reg [.p, .p] ?_)
 refine .mv rfl rfl <| .ag rfl rfl <| .nil ?_
 refine Run.weak (Le.freeze 4 7800 rfl rfl (by have := (sortK_perm0 nb).length_eq; simp [this])) ?_
 refine Run.ret (?_)
 exact ret1 rfl (Sub.snap (by rw [sortK_perm hnb hn]))
structure list_ok_L0 (m : KM) where
 pre : List Key
 rest : List Key
 hx : sortK (m.map (·.1)) = pre ++ rest
theorem list_ok (m : KM) (hm : m.length ≤ 1000000) (hk : ∀ k ∈ m.map (·.1), okPair k) (hn : (m.map (·.1)).Nodup) : Fc Tryz.prog 76 [imapG kPair D.str m] (sBals (listM m)) := by
 refine Fc.mk' [2] Tryz.func76 rfl Tryz.ntmps76 rfl rfl rfl (fun t w => results_tmp Tryz.results76 t _ w) ?_
 have hsl : (sortK (m.map (·.1))).length = m.length := by rw [(sortK_perm0 _).length_eq]; simp
 refine Run.seq (Run.reg [.p] ?_)
 refine .ag rfl rfl <| .nil ?_
 refine Run.seq (Run.reg [.p] ?_)
 refine .ag rfl rfl <| .nil ?_
 refine Run.seq (Run.seq (Run.reg [.p, .p, .p, .p, .p] ?_))
 refine .mv rfl rfl <| .P rfl (q_call Tryz.call126 rfl (mapsKeys_ok _)) <| .P rfl (q_call Tryz.call125 rfl (sortedKeys_ok m hm hk hn)) <| .P rfl (q_lenI Tryz.underlying163 rfl) <| .mv rfl rfl <| .nil ?_
 refine Run.block ?_
 refine Run.loop (ι := list_ok_L0 m) (fun sx => [(0, imapG kPair D.str m), (3, .gs 0 (listK sx.pre (getG [] m)).length), (8, sKeys (sortK (m.map (·.1)))), (9, .i (sortK (m.map (·.1))).length), (10, .i sx.pre.length)]) (fun sx => [(0, .arr 3 ((listK sx.pre (getG [] m)).map encBalance))]) (fun sx => sx.rest.length) ⟨[], _, rfl⟩ ?_ ?_
 ·exact (Le.own0 0 3).trans <| Le.mk rfl (.same rfl rfl (.cons rfl (Sub.gsNil _) rfl (.same rfl rfl (.cons rfl Sub.intA rfl (.cons rfl Sub.intA rfl .nil))))) (.arr rfl (by first | rfl | (rw [listK_snoc, if_pos (by simpa using ph1)]; simp) | (rw [listK_snoc, if_neg (by simpa using ph1)]; simp)) .nil)
 ·rintro ⟨pre, rest, hx⟩
  show Run _ _ _ _ [(0, imapG kPair D.str m), (3, .gs 0 (listK pre (getG [] m)).length), (8, sKeys (sortK (m.map (·.1)))), (9, .i (sortK (m.map (·.1))).length), (10, .i pre.length)] [(0, .arr 3 ((listK pre (getG [] m)).map encBalance))]
  have hl := congrArg List.length hx
  simp only [List.length_append] at hl
  rcases rest with _ | ⟨x, rest⟩
  ·skip
   refine Run.seq (Run.reg [.p] ?_)
   refine .P rfl (q_lss rfl rfl) <| .nil ?_
   refine Run.seq ?_
   refine Run.condF rfl (by simp at hl ⊢; omega) ?_
   refine Run.exit (tq_exit (bq_exit ?_))
   refine Run.seq (Run.reg [.p, .p] ?_)
   refine .mv rfl rfl <| .ag rfl rfl <| .nil ?_
   refine Run.weak (Le.freeze 2 0 rfl rfl (by simp)) ?_
   refine Run.ret (?_)
   exact ret1 rfl (Sub.snap (by unfold listM; rw [hx, List.append_nil]))
  ·simp only [List.length_cons] at hl
   refine Run.seq (Run.reg [.p] ?_)
   refine .P rfl (q_lss rfl rfl) <| .nil ?_
   refine Run.seq ?_
   refine Run.condT rfl (by simp; omega) ?_
   refine Run.skip ?_
   refine Run.seq ?_
   refine Run.block ?_
   refine Run.seq (Run.reg [.p, .p, .w, .w] ?_)
   refine .P rfl (q_indexI Tryz.underlying163 Tryz.sizeOf110 rfl rfl (by omega) (idx_mid encKey hx rfl)) <| .P rfl (q_loadIA Tryz.isAgg110 Tryz.sizeOf110 rfl rfl) <| .W rfl (q_alloc 1 Tryz.zeroValue110 rfl) <| .W rfl (q_storeW Tryz.sizeOf110 rfl rfl rfl rfl rfl rfl) <| .nil ?_
   refine Run.seq (Run.reg [.p, .r, .p, .p] ?_)
   refine .mv rfl rfl <| .R rfl (q_loadW Tryz.isAgg110 Tryz.sizeOf110 rfl rfl rfl) <| .P rfl (fun _ => q_lookupI tzKey (vD := D.str) (m := m) (k := x) (d := []) Tryz.underlying107 Tryz.zeroValue54 vstr0 rfl rfl rfl rfl) <| .P rfl (q_neqS rfl rfl) <| .nil ?_
   refine Run.cond rfl (fun h1 => ?_) (fun h1 => ?_)
   ·have ph1 := h1
    try simp only [bs, bne_iff_ne, ne_eq, List.length_map] at ph1
    refine Run.regD [.p, .p, .r, .p, .r, .p, .r, .p, .p, .p, .w, .p] Tryz_mixed (by decide +kernel) ?_
    refine .mv rfl rfl <| .P rfl (q_fieldB (n := 0) 9 0 Tryz.underlying110 Tryz.sizeOf9 rfl rfl) <| .R rfl (q_load1 Tryz.isAgg9 rfl rfl rfl) <| .P rfl (q_fieldB (n := 0) 9 1 Tryz.underlying110 Tryz.sizeOf9 rfl rfl) <| .R rfl (q_load1 Tryz.isAgg9 rfl rfl rfl) <| .mv rfl rfl <| .R rfl (q_loadW Tryz.isAgg110 Tryz.sizeOf110 rfl rfl rfl) <| .P rfl (fun _ => q_lookupI tzKey (vD := D.str) (m := m) (k := x) (d := []) Tryz.underlying107 Tryz.zeroValue54 vstr0 rfl rfl rfl rfl) <| .P rfl (q_build (pl := #[(0, 1), (1, 1), (2, 1)]) Tryz.underlying56 Tryz.zeroValue56 (fun w => by kernel_rfl) rfl rfl) <| .P rfl (q_buildSlice' (n := 1) (rows := [encBalance ⟨x.1, x.2, getG [] m x⟩]) Tryz.underlying45 Tryz.sizeOf56 rfl rfl rfl Tryz.zeroValue56 rfl rfl rfl rfl rfl rfl rfl) <| .W rfl (q_append 2 Tryz.underlying45 Tryz.underlying45 Tryz.sizeOf56 Tryz.typeInfo56 Tryz.zeroValue56 rfl (bt := 48) rfl rfl rfl rfl (by simp) rfl rfl (by have := listK_len pre (getG [] m); simp; omega)) <| .ag rfl rfl <| .nil ?_
    refine Run.nil (bq_norm ?_)
    refine Run.reg [.p, .p] ?_
    refine .P rfl (q_add rfl rfl (wrap64_ok (by omega) (by omega))) <| .mv rfl rfl <| .nil ?_
    refine Run.nil (tq_norm ?_)
    exact ⟨⟨pre ++ [x], rest, by simp [hx]⟩, by simp, (Le.mk (obs' := [(2, _)]) rfl (show EnvLe _ _ [(0, _), (3, _), (8, _), (9, _), (10, _)] from (.same rfl rfl (.same rfl rfl (.same rfl rfl (.same rfl rfl (.same rfl rfl .nil)))))) (.cons (i := 2) rfl rfl .nil)).trans <| (Le.ren 3 2 0 rfl rfl (by simp) rfl).trans <| Le.mk rfl (.same rfl rfl (.cons rfl (Sub.gs (by first | rfl | (rw [listK_snoc, if_pos (by simpa using ph1)]; simp; done) | (rw [listK_snoc, if_neg (by simpa using ph1)]; simp))) rfl (.same rfl rfl (.cons rfl Sub.intA rfl (.cons rfl Sub.intA rfl .nil))))) (.arr rfl (by first | rfl | (rw [listK_snoc, if_pos (by simpa using ph1)]; simp) | (rw [listK_snoc, if_neg (by simpa using ph1)]; simp)) .nil)⟩
   ·have ph1 := h1
    try simp only [bs, bne_iff_ne, ne_eq, List.length_map] at ph1
    refine Run.skip ?_
    refine Run.nil (bq_norm ?_)
    refine Run.reg [.p, .p] ?_
    refine .P rfl (q_add rfl rfl (wrap64_ok (by omega) (by omega))) <| .mv rfl rfl <| .nil ?_
    refine Run.nil (tq_norm ?_)
    exact ⟨⟨pre ++ [x], rest, by simp [hx]⟩, by simp, Le.mk rfl (.same rfl rfl (.cons rfl (Sub.gs (by first | rfl | (rw [listK_snoc, if_pos (by simpa using ph1)]; simp; done) | (rw [listK_snoc, if_neg (by simpa using ph1)]; simp))) rfl (.same rfl rfl (.cons rfl Sub.intA rfl (.cons rfl Sub.intA rfl .nil))))) (.arr rfl (by first | rfl | (rw [listK_snoc, if_pos (by simpa using ph1)]; simp) | (rw [listK_snoc, if_neg (by simpa using ph1)]; simp)) .nil)⟩
end Go.T
