/-
  Contracts of the functions that the statement reaches, and the logic in which they are proved (no condition): parts S1, S2, S3, S4, Spec9, Spec10, Spec11, Spec12, Spec13, Spec14, Spec15, Spec16, Spec17, SpecD2, W3, W4, W5, W6, W7, W8, W9, W10, W11, W12, W13, W14, W15, W16, W17, W18, W19, W20, W21.
-/
import Derived.Test.YtapflgppmigcdaaGreatDoorA07
import Derived.WalkKit
import Derived.BigCall
import Derived.BigGuard
import Derived.Lib.ItoaMem
import Derived.Lib.Walk
import Derived.Shelf.Strings.SlTrimAscii
import Derived.Lib.Bytealg
set_option linter.all false
namespace Go.T
open Go Go.Proofs
theorem Keep.below {w w' : World} (h : Go.RowKit.Below w.heap.size w w') : Keep w w' := ⟨h.size, fun b hb => h.block b hb, h.os, h.output, .inr trivial⟩
theorem cutPrefix_ok (s : Str) : Fc Tryz.prog 324 [.str s, .str [45]] (.tup [.str (stripNeg s).1, .b (stripNeg s).2]) := .of_calls fun w O ρ vals _ hv => by
 obtain ⟨rfl, hb, _⟩ := hv.str2
 refine (Tryz.strings_CutPrefix ⟨s.toArray⟩ ⟨[45].toArray⟩ w).mono ?_
 rintro e w' ⟨rfl, rfl⟩
 have hs := stripNeg_len s
 refine ⟨_, rfl, ?_, Keep.refl _⟩
 have h1 : Lib.hasPrefix s [45] = (stripNeg s).2 := by
  cases s with
  | nil => rfl
  | cons c r =>
   by_cases h : c = 45
   ·subst h; simp [Lib.hasPrefix, stripNeg, List.isPrefixOf]
   ·have : stripNeg (c :: r) = (c :: r, false) := by unfold stripNeg; split <;> simp_all
    simp [Lib.hasPrefix, this, List.isPrefixOf]; exact fun e => h e.symm
 have h2 : Lib.trimPrefix s [45] = (stripNeg s).1 := by
  unfold Lib.trimPrefix
  rw [h1]
  cases s with
  | nil => rfl
  | cons c r =>
   by_cases h : c = 45
   ·subst h; simp [stripNeg]
   ·have : stripNeg (c :: r) = (c :: r, false) := by unfold stripNeg; split <;> simp_all
    simp [this]
 simp only [V]
 refine ⟨_, rfl, ?_⟩
 simp only [Vs]
 exact ⟨_, _, rfl, by simp only [V]; exact ⟨by rw [← h2], by omega⟩, _, _, rfl, by simp only [V]; rw [← h1], rfl⟩
theorem dropWhile_dropZ (s : Str) : s.dropWhile (· == 48) = dropZ s := by
 induction s with
 | nil => rfl
 | cons c r ih =>
  by_cases h : c = 48
  ·subst h; simpa [dropZ] using ih
  ·have : dropZ (c :: r) = c :: r := by unfold dropZ; split <;> simp_all
   rw [this]; simp [h]
theorem trimLeft0_ok (s : Str) : Fc Tryz.prog 325 [.str s, .str [48]] (.str (dropZ s)) := .of_calls fun w O ρ vals _ hv => by
 obtain ⟨rfl, hb, _⟩ := hv.str2
 refine (Tryz.strings_TrimLeft_one ⟨s.toArray⟩ 48 (by decide) w).mono ?_
 rintro e w' ⟨rfl, rfl⟩
 refine ⟨_, rfl, ?_, Keep.refl _⟩
 have := dropZ_len s
 simp only [V]
 exact ⟨by simp [Lib.trimLeftB, dropWhile_dropZ], by omega⟩
theorem parseM_ok : ∀ (s : Str) (acc : Nat), s.all isDig = true → acc * 10 ^ s.length + natVal s < 1000000000000000000 → Lib.parseUintM (2 ^ 64 - 1) acc s = .ok (acc * 10 ^ s.length + natVal s)
 | [], acc, _, _ => by simp [Lib.parseUintM, natVal]
 | c :: s, acc, h, hb => by
  simp only [List.all_cons, Bool.and_eq_true] at h
  have hd := h.1
  simp only [isDig, Bool.and_eq_true, decide_eq_true_eq] at hd
  have key : ∀ (s : Str) (a : Nat), s.foldl (fun a c => 10 * a + (c.toNat - 48)) a = a * 10 ^ s.length + natVal s := by
   intro s
   induction s with
   | nil => intro a; simp [natVal]
   | cons c r ih =>
    intro a
    rw [List.foldl_cons, ih]
    have : natVal (c :: r) = (c.toNat - 48) * 10 ^ r.length + natVal r := by
     show (c :: r).foldl _ 0 = _
     rw [List.foldl_cons, ih]; simp
    rw [this, List.length_cons, Nat.pow_succ, Nat.add_mul]
    have : 10 * a * 10 ^ r.length = a * (10 ^ r.length * 10) := by rw [Nat.mul_comm 10 a, Nat.mul_assoc, Nat.mul_comm 10]
    omega
  have hv : natVal (c :: s) = (c.toNat - 48) * 10 ^ s.length + natVal s := by
   show (c :: s).foldl _ 0 = _
   rw [List.foldl_cons, key]; simp
  have he : acc * 10 ^ (c :: s).length + natVal (c :: s) = (acc * 10 + (c.toNat - 48)) * 10 ^ s.length + natVal s := by
   rw [hv, List.length_cons, Nat.pow_succ, Nat.add_mul, ← Nat.mul_assoc, Nat.mul_right_comm]; omega
  rw [he] at hb ⊢
  have hp : 1 ≤ 10 ^ s.length := Nat.one_le_pow _ _ (by omega)
  have hb2 : acc * 10 + (c.toNat - 48) < 1000000000000000000 := by
   have : (acc * 10 + (c.toNat - 48)) * 1 ≤ (acc * 10 + (c.toNat - 48)) * 10 ^ s.length := Nat.mul_le_mul_left _ hp
   omega
  rw [Lib.parseUintM, if_pos hd, if_neg (by omega), if_neg (by omega)]
  exact parseM_ok s _ h.2 hb
theorem parseUint_ok (s : Str) (h0 : s ≠ []) (hd : s.all isDig = true) (hl : s.length ≤ 17) : Fc Tryz.prog 283 [.str s, .raw (.int .i64 10), .raw (.int .i64 64)] (.tup [.raw (.int .u64 (natVal s)), .raw .nilIface]) := .of_calls fun w O ρ vals _ hv => by
 simp only [Vs, V] at hv
 obtain ⟨u, us, rfl, ⟨rfl, hb⟩, u', us', rfl, rfl, u'', us'', rfl, rfl, rfl⟩ := hv
 have hsm := natVal_small hd hl
 refine (Tryz.strconv_ParseUint_10_at64_ok ⟨s.toArray⟩ (by simp [ByteArray.size]; omega) (natVal s) ?_ w).mono ?_
 ·have := parseM_ok s 0 hd (by omega)
  simp only [Lib.parseUintB, if_neg h0]
  simpa using this
 ·rintro e w' ⟨rfl, hw⟩
  refine ⟨_, rfl, ?_, ?_⟩
  ·simp only [V]; exact ⟨_, rfl, by simp only [Vs]; exact ⟨_, _, rfl, by simp [V], _, _, rfl, by simp [V], rfl⟩⟩
  ·rcases hw with rfl | rfl
   ·exact Keep.refl _
   ·exact Keep.below (Lib.below_freeze ((RowKit.Below.drew (RowKit.Below.refl _ w)).alloc (Nat.le_refl _) _) (p := ⟨w.heap.size, _, none⟩) (Nat.le_refl _) _)
theorem repeatL_one (c : UInt8) : ∀ n, Lib.repeatL [c] n = List.replicate n c
 | 0 => rfl
 | n + 1 => by simp [Lib.repeatL, repeatL_one c n, List.replicate_succ]
theorem repeat0_ok (n : Int) (h0 : 0 ≤ n) (h1 : n ≤ 1000) : Fc Tryz.prog 288 [.str [48], .i n] (.str (List.replicate n.toNat 48)) := .of_calls fun w O ρ vals _ hv => by
 simp only [Vs, V] at hv
 obtain ⟨u, us, rfl, ⟨rfl, hb⟩, u', us', rfl, rfl, rfl⟩ := hv
 obtain ⟨k, rfl⟩ : ∃ k : Nat, n = k := ⟨n.toNat, by omega⟩
 refine (Tryz.strings_Repeat ⟨[48].toArray⟩ k w (by omega) (by simp [ByteArray.size]; omega)).mono ?_
 rintro e w' ⟨rfl, hw⟩
 refine ⟨_, rfl, ?_, Keep.below hw⟩
 simp only [V]
 exact ⟨by simp [repeatL_one], by simp [big]; omega⟩
theorem index1_ok (s : Str) (c : UInt8) : Fc Tryz.prog 265 [.str s, .str [c]] (.i (Lib.indexByte s c)) := .of_calls fun w O ρ vals _ hv => by
 obtain ⟨rfl, hb, _⟩ := hv.str2
 refine (Tryz.stringslite_Index_one ⟨s.toArray⟩ c w).mono ?_
 rintro e w' ⟨rfl, rfl⟩
 exact ⟨_, rfl, by simp [V], Keep.refl _⟩
open Go.Shelf Go.RowKit Go.Sort Go.Lib
theorem holds_zero0 (w : World) (T : TypeId) (nd : Nat) (hs : nd ≤ 24) : Holds (fun (b : UInt8) => Value.int .u8 (b.toNat : Int)) (w.alloc (.cells Lib.zeros24 T)) w.heap.size 0 (Array.replicate nd (0 : UInt8)) := fun j hj => by
 have hj' : j < nd := by simpa using hj
 refine ⟨?_, World.frozen?_alloc_new _ _ _ _⟩
 rw [World.cell?_alloc_new, Lib.zeros24_at _ (by omega), getElem!_pos _ j hj]
 simp
theorem fin_pos0 (w : World) (o : Obj) (dk : Array UInt8) (k : Nat) : ∃ os, (putRow (fun (b : UInt8) => Value.int .u8 (b.toNat : Int)) (w.alloc o) w.heap.size 0 dk).drewN k = grow (w.drewN k) os := by
 rw [alloc_eq_grow]
 obtain ⟨os', _, e⟩ := putRow_grow_new (fun (b : UInt8) => Value.int .u8 (b.toNat : Int)) w #[o] w.heap.size 0 dk (Nat.le_refl _)
 exact ⟨os', by rw [e]; rfl⟩
theorem Tryz_mixed0 : Tryz.prog.follows .mixedOrders = true := by kernel_rfl
set_option maxHeartbeats 6400000 in
set_option maxRecDepth 100000 in
theorem formatUint_calls (u : Nat) (hu64 : u < 18446744073709551616) (w : World) (htab : Lib.TabIs Tryz.prog w "internal/strconv.uint64pow10" .u64 Lib.pow10Tab) :
  Calls Tryz.prog 328 #[.int .u64 u, .int .i64 10] w fun e w' => e = .returned (.string ⟨(Lib.decDigits u).toArray⟩) ∧ ∃ k os, w' = grow (w.drewN k) os := by
 have mixed := Tryz_mixed0
 by_cases hs : u < 100
 ·have iu : (u : Int) < 100 := by omega
  go_enter Tryz.func328, Tryz.ntmps328
  have hw : IntKind.i64.wrap (u : Int) = u := IntWalk.i64_in _ ⟨by omega, by omega⟩
  go_wp2_with (go_at_call 345; refine (Tryz.internal_strconv_small u hs _).mono ?_; rintro e w' ⟨rfl, rfl⟩)
  go_ret
  exact ⟨rfl, 0, #[], by simp [World.drewN_zero]⟩
 ·have hu1 : 1 ≤ u := by omega
  have hnd20 : Lib.nDigits u ≤ 20 := by have := Lib.numDigits_eq u hu1 hu64; split at this <;> omega
  have hal : Tryz.prog.arrayLen 333 = 24 := by simp [Program.arrayLen, Tryz.underlying333]
  have hsl1 : ∀ W, (Instr.sliceAt 333 (.pointer (some ⟨w.heap.size, 0, none⟩)) none (some (.int .i64 (Lib.nDigits u : Int))) none).run Tryz.prog W = .ok (.slice (some ⟨w.heap.size, 0, none⟩) (Lib.nDigits u) 24) W := fun W => by
   rw [run_sliceAt_array_h W 333 ⟨w.heap.size, 0, none⟩ (by simp [Program.arrayLen, Program.elem, Tryz.underlying333]) .i64 (Lib.nDigits u : Int) (by omega) (by rw [hal]; omega)]
   go_simp
   try omega
  have hH0 := holds_zero0 w 333 (Lib.nDigits u) (by omega)
  have hfmt := Tryz.internal_strconv_formatBase10 w.heap.size 0 24 u (Array.replicate (Lib.nDigits u) 0) (w.alloc (.cells Lib.zeros24 333)) hH0 (by rw [Array.size_replicate]; exact Lib.lt_pow_nDigits u) hu64 (by rw [Array.size_replicate]; omega)
  rw [Array.size_replicate] at hfmt
  have HH0 := Lib.hid hH0
  have iu : (100 : Int) ≤ (u : Int) := by omega
  clear hH0 hal
  go_enter Tryz.func328, Tryz.ntmps328
  go_wp2_with (first
   | (go_at_call 346; refine (Tryz.internal_strconv_numDigits u hu1 hu64 _ (Lib.tabIs_alloc htab _)).mono ?_; rintro e w' ⟨rfl, rfl⟩))
  go_at_call 347
  refine hfmt.mono ?_
  rintro e w' ⟨rfl, k, v', dk, rfl, hF⟩
  have hcv : (convert 152 9 (.slice (some ⟨w.heap.size, 0, none⟩) (Lib.nDigits u) 24)).run Tryz.prog ((putRow (fun (b : UInt8) => Value.int .u8 (b.toNat : Int)) (w.alloc (.cells Lib.zeros24 333)) w.heap.size 0 dk).drewN k) = .ok (.string ⟨(Lib.decDigits u).toArray⟩) ((putRow (fun (b : UInt8) => Value.int .u8 (b.toNat : Int)) (w.alloc (.cells Lib.zeros24 333)) w.heap.size 0 dk).drewN k) := by
   have h := run_convert_bytes_back (P := Tryz.prog) ((putRow (fun (b : UInt8) => Value.int .u8 (b.toNat : Int)) (w.alloc (.cells Lib.zeros24 333)) w.heap.size 0 dk).drewN k) 152 9 5 ⟨w.heap.size, 0, none⟩ 24 (Lib.decDigits u) Tryz.underlying152 Tryz.underlying5 Tryz.underlying9 (fun j hj => by
    rw [Lib.row_is_numeral hF j hj, Lib.add_plain, World.cell?_drewN]
    exact cell?_putRow (fun (b : UInt8) => Value.int .u8 (b.toNat : Int)) _ w.heap.size 0 _ dk HH0.out (by rw [hF.size, Array.size_replicate]) j (by rw [hF.size]; rw [Lib.decDigits_length] at hj; exact hj))
   rw [Lib.decDigits_length] at h
   exact h
  go_wp2
  go_ret
  obtain ⟨os, eo⟩ := fin_pos0 w (.cells Lib.zeros24 333) dk k
  exact ⟨rfl, k, os, eo⟩
theorem keep_grow (w : World) (k : Nat) (os : Array Obj) : Keep w (grow (w.drewN k) os) := by
 have h : (w.drewN k).heap = w.heap ∧ (w.drewN k).os = w.os ∧ (w.drewN k).output = w.output := by
  unfold World.drewN; exact ⟨rfl, rfl, rfl⟩
 refine ⟨?_, fun b hb => ?_, h.2.1, h.2.2, .inr trivial⟩
 ·show w.heap.size ≤ ((w.drewN k).heap ++ os).size
  rw [h.1, Array.size_append]; omega
 ·show ((w.drewN k).heap ++ os)[b]? = _
  rw [h.1, Array.getElem?_append_left hb]
theorem tab_of {w : World} {O : Nat → Prop} (h : Gl w O) : Lib.TabIs Tryz.prog w "internal/strconv.uint64pow10" .u64 Lib.pow10Tab := by
 obtain ⟨⟨T, fr, h1⟩, _⟩ := h.1 5 _ (List.mem_singleton.2 rfl)
 have hg : Tryz.prog.globalNamed "internal/strconv.uint64pow10" = some 5 := by kernel_rfl
 unfold Lib.TabIs World.var?
 rw [hg]
 have h10 : pow10s.map (fun (n : Nat) => (n : Int)) = Lib.pow10Tab := by decide +kernel
 have : (pow10s.map fun (n : Nat) => Value.int .u64 (n : Int)).toArray = (Lib.pow10Tab.map fun z => Value.int .u64 z).toArray := by rw [← h10, List.map_map]; rfl
 simp [h1, this]
theorem decDigits_natDig (u : Nat) (h : u ≠ 0) : Lib.decDigits u = natDig u := by
 induction u using Nat.strongRecOn with
 | _ u ih =>
  rw [Lib.decDigits, natDig_step h]
  split
  ·rename_i hu
   rw [Nat.div_eq_of_lt hu, natDig_zero, Nat.mod_eq_of_lt hu]; rfl
  ·rw [ih (u / 10) (by omega) (by omega)]
theorem formatUint180_ok (u : Nat) (hu : u < 18446744073709551616) : Fc Tryz.prog 328 [.raw (.int .u64 u), .i 10] (.str (Lib.decDigits u)) := .of_calls fun w O ρ vals hg hv => by
 simp only [Vs, V] at hv
 obtain ⟨_, _, rfl, rfl, _, _, rfl, rfl, rfl⟩ := hv
 refine (formatUint_calls u hu w (tab_of hg)).mono ?_
 rintro e w' ⟨rfl, k, os, rfl⟩
 refine ⟨_, rfl, ?_, keep_grow w k os⟩
 simp only [V]
 have : (Lib.decDigits u).length ≤ 20 := by
  rw [Lib.decDigits_length]
  by_cases h : u = 0
  ·subst h; rw [Lib.nDigits_small (by omega)]; omega
  ·have := Lib.numDigits_eq u (by omega) hu; split at this <;> omega
 exact ⟨trivial, by unfold big; omega⟩
end Go.T
namespace Go.T
open Go Go.Proofs Go.Shelf Go.RowKit
theorem bldSize : (Tryz.prog.info? 291).map (·.size) = some 2 := by kernel_rfl
theorem bldLies : liesAt Tryz.prog Tryz.prog.depth 291 (2 / Tryz.prog.cellsOf 291) 0 291 1 = true := by kernel_rfl
set_option maxHeartbeats 1000000 in
set_option maxRecDepth 100000 in
theorem copyCheck_used (b : Nat) (w : World) (h0 : w.cell? ⟨b, 0, none⟩ = some (.pointer (some ⟨b, 0, none⟩))) :
  Calls Tryz.prog 327 #[.pointer (some ⟨b, 0, none⟩)] w fun e w' => e = .returned (.tuple #[]) ∧ w' = w := by
 obtain ⟨j, hj, _⟩ := Option.map_eq_some_iff.1 bldSize
 go_enter Tryz.func327, Tryz.ntmps327
 go_wp2
 rw [Lib.run_neq_ptr_same w _ Tryz.underlying289 hj]
 go_wp2
 go_end0
 exact ⟨rfl, rfl⟩
set_option maxHeartbeats 1000000 in
set_option maxRecDepth 100000 in
theorem copyCheck_fresh (b : Nat) (w : World) (h0 : w.cell? ⟨b, 0, none⟩ = some (.pointer none)) (hsh : w.shape? b = some (291, 2)) (hfz : w.frozen? ⟨b, 0, none⟩ = false) :
  Calls Tryz.prog 327 #[.pointer (some ⟨b, 0, none⟩)] w fun e w' => e = .returned (.tuple #[]) ∧ w' = w.setCell ⟨b, 0, none⟩ (.pointer (some ⟨b, 0, none⟩)) := by
 obtain ⟨j, hj, hjs⟩ := Option.map_eq_some_iff.1 bldSize
 go_enter Tryz.func327, Tryz.ntmps327
 go_wp2
 rw [Lib.run_to_unsafe w ⟨b, 0, none⟩ Tryz.underlying289 Tryz.underlying338 hj (by rw [hjs]; decide) hsh (Nat.zero_lt_succ 1)]
 simp only [Result.andThen]
 rw [Oper.upon_value]
 go_wp2
 rw [run_callFunc_extern Tryz.func352 (by kernel_rfl) (by kernel_rfl) (by kernel_rfl) (e := Extern.AbiNoEscape.same) (by kernel_rfl)]
 rw [Lib.run_noEscape]
 simp only [Result.andThen]
 rw [Oper.upon_value]
 go_wp2
 rw [Lib.run_from_unsafe w ⟨b, 0, none⟩ Tryz.underlying338 Tryz.underlying289 hj hsh bldLies]
 simp only [Result.andThen]
 rw [Oper.upon_value]
 go_wp2
 go_end0
 exact ⟨rfl, rfl⟩
theorem copyCheck_ok (id j n : Nat) (s : Str) : FcO Tryz.prog 327 [.box id 0] [(id, .bld j n), (j, .ba s)] (.tup []) [(id, .bld j n), (j, .ba s)] := ⟨fun w O ρ vals hok _ hv => by
 simp only [Vs, V] at hv
 obtain ⟨_, _, rfl, ⟨l, hl, rfl⟩, rfl⟩ := hv
 have hg : Obs.get [(id, Ob.bld j n), (j, .ba s)] id = some (.bld j n) := by simp [Obs.get]
 obtain ⟨l', h1, h2, p, v, h3, h4, h5⟩ := hok.own id _ hg rfl
 rw [hl] at h1; cases h1
 have hr : V w (Ot O ρ [(id, .bld j n), (j, .ba s)]) ρ (.tup []) (.tuple #[]) := by simp [V, Vs]
 rcases h4 with rfl | rfl
 ·refine (copyCheck_fresh l.b w (by simp [World.cell?, h3]) (by simp [World.shape?, h3]) (by simp [World.frozen?, h3])).mono ?_
  rintro e w' ⟨rfl, rfl⟩
  have htr := Tr.upd (o' := .bld j n) hok hg rfl hl (.cells #[.pointer (some ⟨l.b, 0, none⟩), v] bldT (0, 0)) (fun _ => ⟨.pointer (some ⟨l.b, 0, none⟩), v, by simp [(Array.getElem?_eq_some_iff.1 h3).1], .inr rfl, h5⟩)
  have hset : Obs.set [(id, Ob.bld j n), (j, .ba s)] id (.bld j n) = [(id, .bld j n), (j, .ba s)] := by simp [Obs.set]
  rw [hset] at htr
  have hw : { w with heap := w.heap.setIfInBounds l.b (.cells #[.pointer (some ⟨l.b, 0, none⟩), v] bldT (0, 0)) } = w.setCell ⟨l.b, 0, none⟩ (.pointer (some ⟨l.b, 0, none⟩)) := by
   have hlt := (Array.getElem?_eq_some_iff.1 h3).1
   unfold World.setCell
   congr 1
   apply Array.ext (by simp)
   intro i g1 g2
   rw [Array.getElem_setIfInBounds, Array.getElem_modify]
   have hi : i < w.heap.size := by simpa using g1
   by_cases e : l.b = i
   ·subst e
    have : w.heap[l.b] = .cells #[.pointer none, v] bldT (0, 0) := Option.some.inj ((Array.getElem?_eq_getElem hlt).symm.trans h3)
    simp [this]
   ·simp [e]
   ·simpa using g1
  rw [hw] at htr
  exact ⟨_, ρ, rfl, htr, htr.V hr⟩
 ·refine (copyCheck_used l.b w (by simp [World.cell?, h3])).mono ?_
  rintro e w' ⟨rfl, rfl⟩
  exact ⟨_, ρ, rfl, Tr.refl hok, hr⟩⟩
set_option maxHeartbeats 1000000 in
set_option maxRecDepth 100000 in
theorem bldString_calls (b g cap : Nat) (p : Value) (cur : Array Value) (l : List UInt8) (w : World) (h0 : l ≠ []) (hbk : w.heap[b]? = some (.cells #[p, .slice (some ⟨g, 0, none⟩) l.length cap] 291 (0, 0))) (hg : w.heap[g]? = some (.cells cur 5 (0, 0))) (hnc : l.length ≤ cap) (hcm : cap ≤ 9223372036854775807) (hcs : cur.size = cap) (htake : cur.toList.take l.length = byteVals l) :
  Calls Tryz.prog 289 #[.pointer (some ⟨b, 0, none⟩)] w fun e w' => e = .returned (.string ⟨l.toArray⟩) ∧ w' = w.drew.freeze ⟨g, 0, none⟩ l.length := by
 have mixed := Tryz_mixed0
 have hl0 : l.length ≠ 0 := by simpa using h0
 have c1 : w.drew.cell? ⟨b, 1, none⟩ = some (.slice (some ⟨g, 0, none⟩) l.length cap) := by
  have : w.drew.heap[b]? = some (.cells #[p, .slice (some ⟨g, 0, none⟩) l.length cap] 291 (0, 0)) := hbk
  rw [Lib.cell_of_heap this]; rfl
 have hSD : (Builtin.unsafeSliceData_ #[152] 316 #[.slice (some ⟨g, 0, none⟩) l.length cap]).run Tryz.prog w.drew = .ok (.pointer (some ⟨g, 0, none⟩)) w.drew :=
  Lib.run_unsafeSliceData_row _ _ _ _ _ _ (by omega)
 have hUS : (Builtin.unsafeString_ #[316, 3] 9 #[.pointer (some ⟨g, 0, none⟩), .int .i64 l.length]).run Tryz.prog w.drew = .ok (.string ⟨l.toArray⟩) (w.drew.freeze ⟨g, 0, none⟩ l.length) := by
  refine Lib.run_unsafeString_row w.drew 316 3 9 5 Tryz.underlying316 (by kernel_rfl) g cur.size (by have hg' : w.drew.heap[g]? = some (.cells cur 5 (0, 0)) := hg; simp [World.shape?, hg']) l h0 (by omega) (by omega) ?_
  intro j x hx
  have hlt : j < l.length := (List.getElem?_eq_some_iff.1 hx).1
  have h1 : (cur.toList.take l.length)[j]? = some (Value.int .u8 x.toNat) := by rw [htake]; simp [byteVals, hx]
  rw [List.getElem?_take, if_pos hlt] at h1
  have hg' : w.drew.heap[g]? = some (.cells cur 5 (0, 0)) := hg
  rw [addr_add']
  simp only [World.cell?, hg']
  simpa using h1
 go_enter Tryz.func289, Tryz.ntmps289
 go_wp2
 go_region_o
 all_goals (go_wp2; go_ret; exact ⟨rfl, rfl⟩)
theorem bldString_ok (id j n : Nat) (s : Str) (hs : s ≠ []) (hn : s.length = n) (hb : n ≤ big) (hne : Nat.beq id j = false) : FcO Tryz.prog 289 [.box id 0] [(id, .bld j n), (j, .ba s)] (.str s) [(id, .dead), (j, .dead)] := ⟨fun w O ρ vals hok _ hv => by
 simp only [Vs, V] at hv
 obtain ⟨_, _, rfl, ⟨l, hl, rfl⟩, rfl⟩ := hv
 have hne' : id ≠ j := by rintro rfl; simp at hne
 have hg : Obs.get [(id, Ob.bld j n), (j, .ba s)] id = some (.bld j n) := by simp [Obs.get]
 have hgj : Obs.get [(id, Ob.bld j n), (j, .ba s)] j = some (.ba s) := by simp [Obs.get, hne]
 obtain ⟨l', h1, h2, p, v, h3, h4, h5⟩ := hok.own id _ hg rfl
 rw [hl] at h1; cases h1
 have hlive : (Ob.ba s).live = true := by
  cases s with
  | nil => exact absurd rfl hs
  | cons r rs => rfl
 have hn0 : n ≠ 0 := by rw [← hn]; exact fun e => hs (List.length_eq_zero_iff.1 e)
 obtain ⟨lj, g1, g2, c, g3, g4, g5, g6, g7, g8⟩ := hok.own j _ hgj hlive
 obtain ⟨_, lj', k1, rfl⟩ : n ≠ 0 ∧ ∃ lj, ρ j = some lj ∧ v = .slice (some ⟨lj.b, 0, none⟩) n lj.cap := by
  rcases h5 with ⟨e, _⟩ | h5
  ·exact absurd e hn0
  ·exact h5
 rw [g1] at k1; cases k1
 subst hn
 refine (bldString_calls l.b lj.b lj.cap p c s w hs h3 g3 g6 g7 g5 g8).mono ?_
 rintro e w' ⟨rfl, rfl⟩
 have hfz : (w.drew.freeze ⟨lj.b, 0, none⟩ s.length).heap = w.heap.setIfInBounds lj.b (.cells c byteT (0, s.length)) := by
  have hlt := (Array.getElem?_eq_some_iff.1 g3).1
  unfold World.freeze
  rw [if_neg hn0]
  have hdh : w.drew.heap = w.heap := rfl
  apply Array.ext (by simp)
  intro i q1 q2
  rw [Array.getElem_setIfInBounds]
  simp only [hdh, Array.getElem_modify]
  by_cases e : lj.b = i
  ·subst e
   have : w.heap[lj.b] = .cells c byteT (0, 0) := Option.some.inj ((Array.getElem?_eq_getElem hlt).symm.trans g3)
   simp [this]
  ·simp [e]
  ·simpa [hdh] using q1
 have hos : (w.drew.freeze ⟨lj.b, 0, none⟩ s.length).os = w.os ∧ (w.drew.freeze ⟨lj.b, 0, none⟩ s.length).output = w.output ∧ Clk w (w.drew.freeze ⟨lj.b, 0, none⟩ s.length) := by
  unfold World.freeze; rw [if_neg hn0]; exact ⟨rfl, rfl, .inr trivial⟩
 have hdead : ∀ i x, Obs.get [(id, Ob.dead), (j, .dead)] i = some x → x.live = false := by
  intro i x hx
  simp only [Obs.get_cons] at hx
  split at hx
  ·cases hx; rfl
  ·split at hx
   ·cases hx; rfl
   ·simp [Obs.get] at hx
 have hno : ∀ b, ¬ Owned ρ [(id, .dead), (j, .dead)] b := by
  rintro b ⟨i, x, l2, q1, q2, _⟩
  rw [hdead i x q1] at q2; cases q2
 refine ⟨_, ρ, rfl, ⟨RhoLe.refl _, by rw [hfz]; simp, fun b hb ho => ?_, fun b hb => absurd hb (hno b), ⟨fun b hb => by rw [hfz]; simpa using hok.lt b hb, fun i hi => hok.fresh i ?_, fun i x q1 q2 => ?_, fun i j' x x' l1 l2 q1 q2 q3 => ?_⟩, hos⟩, ?_⟩
 ·rw [hfz, Array.getElem?_setIfInBounds, if_neg]
  rintro rfl
  exact ho ⟨j, _, lj, hgj, hlive, g1, rfl⟩
 ·simp only [Obs.get_cons] at hi ⊢
  split at hi
  ·cases hi
  ·split at hi
   ·cases hi
   ·rename_i q1 q2; rw [if_neg q1, if_neg q2]; rfl
 ·rw [hdead i x q1] at q2; cases q2
 ·rw [hdead i x q1] at q3; cases q3
 ·simp only [V]; exact ⟨trivial, hb⟩⟩
@[reducible] def digs : Str := [48, 49, 50, 51, 52, 53, 54, 55, 56, 57]
theorem digs_dig (c : UInt8) : digs.contains c = isDig c := by
 have h : ∀ n : Fin 256, digs.contains (UInt8.ofNat n.1) = isDig (UInt8.ofNat n.1) := by decide +kernel
 have := h ⟨c.toNat, c.toNat_lt⟩
 simpa using this
def trimD (s : Str) : Str := Lib.trimS s digs
theorem dw_nil (p : UInt8 → Bool) (s : Str) : s.dropWhile p = [] ↔ s.all p = true := by
 induction s with
 | nil => simp
 | cons c r ih =>
  by_cases h : p c = true
  ·rw [List.dropWhile_cons_of_pos h, ih]; simp [h]
  ·rw [List.dropWhile_cons_of_neg h]; simp [h]
theorem dw_len (p : UInt8 → Bool) (s : Str) : (s.dropWhile p).length ≤ s.length := by
 induction s with
 | nil => simp
 | cons c r ih =>
  by_cases h : p c = true
  ·rw [List.dropWhile_cons_of_pos h]; simp; omega
  ·rw [List.dropWhile_cons_of_neg h]; simp
theorem dw_all (p : UInt8 → Bool) (s : Str) (h : (s.dropWhile p).all p = true) : s.all p = true := by
 induction s with
 | nil => rfl
 | cons c r ih =>
  by_cases hc : p c = true
  ·rw [List.dropWhile_cons_of_pos hc] at h; simp only [List.all_cons, hc, ih h, Bool.and_self]
  ·rw [List.dropWhile_cons_of_neg hc] at h; exact h
theorem trimD_nil (s : Str) : trimD s = [] ↔ s.all isDig = true := by
 have hp : (digs.contains ·) = isDig := funext digs_dig
 unfold trimD Lib.trimS Lib.trimLeftS Lib.trimRightS
 rw [hp, dw_nil, List.all_reverse]
 constructor
 ·intro h
  have := dw_all isDig s.reverse h
  rwa [List.all_reverse] at this
 ·intro h
  rw [(dw_nil isDig s.reverse).2 (by rwa [List.all_reverse])]; rfl
theorem trimD_len (s : Str) : (trimD s).length ≤ s.length := by
 unfold trimD Lib.trimS Lib.trimLeftS Lib.trimRightS
 refine Nat.le_trans (dw_len _ _) ?_
 rw [List.length_reverse]
 refine Nat.le_trans (dw_len _ _) (by simp)
theorem trimDigits_ok (s : Str) : Fc Tryz.prog 180 [.str s, .str digs] (.str (trimD s)) := .of_calls fun w O ρ vals _ hv => by
 obtain ⟨rfl, hb, _⟩ := hv.str2
 refine (Any.strings_Trim_laid Tryz.lays160 (by kernel_rfl) ⟨s.toArray⟩ ⟨digs.toArray⟩ w (by simp [ByteArray.size]; unfold big at hb; omega) (by decide) (ascii_of_all (by decide))).mono ?_
 rintro e w' ⟨rfl, hw⟩
 refine ⟨_, rfl, ?_, Keep.below hw⟩
 have := trimD_len s
 simp only [V]
 exact ⟨rfl, by omega⟩
end Go.T
namespace Go.T
open Go
def lastN (l : List Nat) : Nat := l.getLastD default
theorem idx_lastN {l pre rest : List Nat} {n : Int} (h : l = pre ++ rest) (h0 : 0 < pre.length) (hn : n = (pre.length : Int) - 1) : (encMag l)[n.toNat]? = some [.raw (.int .u64 (lastN pre : Int))] := idx_last (fun (n : Nat) => [D.raw (.int .u64 (n : Int))]) h h0 hn
def pad9 (y : Nat) : Str := List.replicate (9 - (Lib.decDigits y).length) 48 ++ Lib.decDigits y
def padAll (lo : List Nat) : Str := (lo.reverse.map pad9).flatten
theorem padAll_nil : padAll [] = [] := rfl
theorem padAll_snoc (i : List Nat) (x : Nat) : padAll (i ++ [x]) = pad9 x ++ padAll i := by simp [padAll]
theorem padAll_step {lo : List Nat} (h : lo.length ≠ 0) : padAll lo = pad9 (lastN lo) ++ padAll lo.dropLast := by
 rcases snoc_cases lo with rfl | ⟨i, x, rfl⟩
 ·simp at h
 ·rw [padAll_snoc]; simp [lastN]
def textM (neg : Bool) (m : List Nat) : Str := if (cutM m).length = 0 then [] else (if neg then [45] else []) ++ Lib.decDigits (lastN (cutM m)) ++ padAll (cutM m).dropLast
theorem dec9 {y : Nat} (h : y < gB) : (Lib.decDigits y).length ≤ 9 := by
 by_cases e : y = 0
 ·subst e; rw [Lib.decDigits_length, Lib.nDigits_small (by omega)]; omega
 ·rw [decDigits_natDig y e]; exact natDig_len 9 y (by unfold gB at h; omega)
theorem pad9_len {y : Nat} (h : y < gB) : (pad9 y).length = 9 := by
 have := dec9 h
 simp [pad9]; omega
theorem last_mem {l : List Nat} (h : l.length ≠ 0) : lastN l ∈ l := by
 rcases snoc_cases l with rfl | ⟨i, x, rfl⟩
 ·simp at h
 ·simp [lastN]
theorem dropLast_eq {l : List Nat} (h : l.length ≠ 0) : l = l.dropLast ++ [lastN l] := by
 rcases snoc_cases l with rfl | ⟨i, x, rfl⟩
 ·simp at h
 ·simp [lastN]
theorem dec_ne (y : Nat) : Lib.decDigits y ≠ [] := by
 intro h
 have := congrArg List.length h
 rw [Lib.decDigits_length] at this
 rw [Lib.nDigits] at this
 split at this <;> simp at this
theorem natVal_zeros (k : Nat) : natVal (List.replicate k 48) = 0 := by
 induction k with
 | zero => rfl
 | succ k ih => rw [List.replicate_succ', natVal_snoc, ih]; rfl
theorem natVal_dec (y : Nat) : natVal (Lib.decDigits y) = y := by
 by_cases e : y = 0
 ·subst e; rw [Lib.decDigits]; rfl
 ·rw [decDigits_natDig y e, natVal_natDig]
theorem natVal_pad9 (y : Nat) : natVal (pad9 y) = y := by
 unfold pad9
 rw [natVal_append, natVal_zeros, natVal_dec]; omega
theorem padAll_len {lo : List Nat} (h : magOK lo) : (padAll lo).length = 9 * lo.length := by
 induction lo using rev_ind with
 | h0 => rfl
 | h1 i x ih =>
  rw [padAll_snoc, List.length_append, pad9_len (h x (by simp)), ih (fun y hy => h y (by simp [hy]))]
  simp; omega
theorem natVal_padAll {lo : List Nat} (h : magOK lo) : natVal (padAll lo) = mVa lo := by
 induction lo using rev_ind with
 | h0 => rfl
 | h1 i x ih =>
  have hi : magOK i := fun y hy => h y (by simp [hy])
  rw [padAll_snoc, natVal_append, natVal_pad9, ih hi, magVal_append, padAll_len hi]
  have : (10 : Nat) ^ (9 * i.length) = gB ^ i.length := by rw [Nat.pow_mul]; rfl
  rw [this]
  simp only [mVa, Nat.mul_zero, Nat.add_zero]
  rw [Nat.mul_comm x]; omega
theorem dec_dig (y : Nat) : (Lib.decDigits y).all isDig = true := by
 by_cases e : y = 0
 ·subst e; rw [Lib.decDigits]; decide
 ·rw [decDigits_natDig y e]; exact natDig_dig y
theorem padAll_dig (lo : List Nat) : (padAll lo).all isDig = true := by
 induction lo using rev_ind with
 | h0 => rfl
 | h1 i x ih =>
  rw [padAll_snoc, List.all_append, ih, Bool.and_true]
  unfold pad9
  rw [List.all_append, dec_dig, Bool.and_true]
  simp [isDig]
theorem natDig_unique {s : Str} (hd : s.all isDig = true) (h0 : dropZ s = s) : s = natDig (natVal s) := by
 induction s using rev_ind with
 | h0 => rw [show natVal [] = 0 from rfl, natDig_zero]
 | h1 i x ih =>
  rw [List.all_append, Bool.and_eq_true] at hd
  have hx := hd.2
  simp only [List.all_cons, List.all_nil, Bool.and_true, isDig, Bool.and_eq_true, decide_eq_true_eq] at hx
  rw [natVal_snoc]
  have hxe : UInt8.ofNat (48 + (x.toNat - 48)) = x := by
   rw [show 48 + (x.toNat - 48) = x.toNat by omega]; simp
  cases i with
  | nil =>
   have hne : x.toNat ≠ 48 := by
    intro e
    have := dropZ_T (s := [x]) (by simp) (by simpa using e)
    simp only [List.nil_append] at h0
    rw [h0] at this; simp [dropZ] at this
   rw [show natVal ([] : Str) = 0 from rfl, natDig_step (by omega)]
   have h1 : (10 * 0 + (x.toNat - 48)) / 10 = 0 := by omega
   have h2 : (10 * 0 + (x.toNat - 48)) % 10 = x.toNat - 48 := by omega
   rw [h1, h2, natDig_zero, hxe]
  | cons c r =>
   have hc : dropZ (c :: r) = c :: r := by
    apply dropZ_F
    rintro ⟨_, e⟩
    have := dropZ_T (s := c :: r ++ [x]) (by simp) (by simpa using e)
    rw [h0] at this
    have h3 := dropZ_len ((c :: r ++ [x]).drop 1)
    rw [← this] at h3
    simp at h3
    omega
   have hi := ih hd.1 hc
   have hpos : natVal (c :: r) ≠ 0 := by
    intro e
    rw [e, natDig_zero] at hi; cases hi
   rw [natDig_step (by omega)]
   have h1 : (10 * natVal (c :: r) + (x.toNat - 48)) / 10 = natVal (c :: r) := by omega
   have h2 : (10 * natVal (c :: r) + (x.toNat - 48)) % 10 = x.toNat - 48 := by omega
   rw [h1, h2, ← hi, hxe]
theorem textM_ofInt (neg : Bool) {m : List Nat} (h : magOK m) : textM neg m = ofInt (if neg then -(mVa m : Int) else mVa m) := by
 unfold textM
 have hc := cutM_ok h
 have hv := cutM_val m
 split
 ·rename_i h0
  have : cutM m = [] := List.length_eq_zero_iff.1 h0
  rw [this] at hv
  rw [← hv]
  simp [mVa, ofInt_zero]
 ·rename_i h0
  have e := dropLast_eq h0
  have hlast : lastN (cutM m) ≠ 0 := by
   rcases snoc_cases (cutM m) with e2 | ⟨i, x, e2⟩
   ·rw [e2] at h0; simp at h0
   ·rw [e2]; simp only [lastN, List.getLastD_eq_getLast?, List.getLast?_append, List.getLast?_singleton, Option.some_or, Option.getD_some]
    intro ex
    subst ex
    have : cutM (cutM m) = cutM m := by
     unfold cutM
     rw [List.reverse_reverse]
     have : ∀ l : List Nat, (l.dropWhile (· == 0)).dropWhile (· == 0) = l.dropWhile (· == 0) := by
      intro l
      induction l with
      | nil => rfl
      | cons a l ih => by_cases ha : a = 0 <;> simp [ha, ih]
     rw [this]
    rw [e2, cutM_zero] at this
    have h3 := cutM_len i
    rw [this] at h3
    simp at h3
    omega
  have hdl : magOK (cutM m).dropLast := fun y hy => hc y (List.dropLast_subset _ hy)
  have hmv : mVa m = natVal (Lib.decDigits (lastN (cutM m)) ++ padAll (cutM m).dropLast) := by
   rw [natVal_append, natVal_dec, natVal_padAll hdl, padAll_len hdl, ← hv]
   conv => lhs; rw [e]
   rw [magVal_append]
   have : (10 : Nat) ^ (9 * (cutM m).dropLast.length) = gB ^ (cutM m).dropLast.length := by rw [Nat.pow_mul]; rfl
   rw [this]
   simp only [mVa, Nat.mul_zero, Nat.add_zero]
   rw [Nat.mul_comm (lastN (cutM m))]; omega
  have hdig : (Lib.decDigits (lastN (cutM m)) ++ padAll (cutM m).dropLast).all isDig = true := by rw [List.all_append, dec_dig, padAll_dig]; rfl
  have hz : dropZ (Lib.decDigits (lastN (cutM m)) ++ padAll (cutM m).dropLast) = Lib.decDigits (lastN (cutM m)) ++ padAll (cutM m).dropLast := by
   rw [decDigits_natDig _ hlast]
   apply dropZ_F
   rintro ⟨_, e3⟩
   cases hd : natDig (lastN (cutM m)) with
   | nil => exact hlast (natDig_nil.1 hd)
   | cons c r => rw [hd] at e3; exact natDig_head _ c r hd (by simpa using e3)
  have hpos : mVa m ≠ 0 := by
   intro e3
   have h4 := natDig_unique hdig hz
   rw [← hmv, e3, natDig_zero] at h4
   have := dec_ne (lastN (cutM m))
   exact this (List.append_eq_nil_iff.1 h4).1
  have hu := natDig_unique hdig hz
  rw [← hmv] at hu
  cases neg with
  | false =>
   simp only [Bool.false_eq_true, if_false, List.nil_append, hu]
   unfold ofInt
   rw [if_neg (by omega)]; simp
  | true =>
   simp only [if_true, List.append_assoc, hu]
   unfold ofInt
   rw [if_pos (by omega)]; simp
def addC : List Nat → List Nat → Nat → List Nat
 | [], _, c => if 0 < c then [c] else []
 | a :: x, [], c => (a + c) % gB :: addC x [] ((a + c) / gB)
 | a :: x, b :: y, c => (a + c + b) % gB :: addC x y ((a + c + b) / gB)
theorem gB_pos : 0 < gB := by unfold gB; omega
theorem addC_val : ∀ (x y : List Nat) (c : Nat), y.length ≤ x.length → mVa (addC x y c) = mVa x + mVa y + c
 | [], y, c, h => by
  have : y = [] := List.length_eq_zero_iff.1 (by simpa using h)
  subst this
  simp only [addC]
  split
  ·simp [mVa]
  ·simp [mVa]; omega
 | a :: x, [], c, h => by
  simp only [addC, mVa, addC_val x [] _ (by simp)]
  have := Nat.mod_add_div (a + c) gB
  rw [Nat.mul_add, Nat.mul_add]; omega
 | a :: x, b :: y, c, h => by
  simp only [addC, mVa, addC_val x y _ (by simpa using h)]
  have := Nat.mod_add_div (a + c + b) gB
  rw [Nat.mul_add, Nat.mul_add]; omega
theorem addC_ok : ∀ (x y : List Nat) (c : Nat), magOK x → magOK y → c ≤ 1 → magOK (addC x y c)
 | [], y, c, hx, hy, hc => by
  simp only [addC]
  split
  ·intro z hz; simp at hz; subst hz; unfold gB; omega
  ·intro z hz; simp at hz
 | a :: x, [], c, hx, hy, hc => by
  have ha := hx a (by simp)
  simp only [addC]
  intro z hz
  rcases List.mem_cons.1 hz with rfl | hz
  ·exact Nat.mod_lt _ gB_pos
  ·exact addC_ok x [] _ (fun u hu => hx u (by simp [hu])) hy (by rw [Nat.div_le_iff_le_mul_add_pred gB_pos]; unfold gB at *; omega) z hz
 | a :: x, b :: y, c, hx, hy, hc => by
  have ha := hx a (by simp)
  have hb := hy b (by simp)
  simp only [addC]
  intro z hz
  rcases List.mem_cons.1 hz with rfl | hz
  ·exact Nat.mod_lt _ gB_pos
  ·exact addC_ok x y _ (fun u hu => hx u (by simp [hu])) (fun u hu => hy u (by simp [hu])) (by rw [Nat.div_le_iff_le_mul_add_pred gB_pos]; unfold gB at *; omega) z hz
theorem addC_len : ∀ (x y : List Nat) (c : Nat), (addC x y c).length ≤ x.length + 1
 | [], y, c => by simp only [addC]; split <;> simp
 | a :: x, [], c => by simp only [addC, List.length_cons]; have := addC_len x [] ((a + c) / gB); omega
 | a :: x, b :: y, c => by simp only [addC, List.length_cons]; have := addC_len x y ((a + c + b) / gB); omega
def plusM (x y : List Nat) : List Nat := if x.length < y.length then addC y x 0 else addC x y 0
theorem plusM_val (x y : List Nat) : mVa (plusM x y) = mVa x + mVa y := by
 unfold plusM; split
 ·rw [addC_val _ _ _ (by omega)]; omega
 ·rw [addC_val _ _ _ (by omega)]; omega
theorem plusM_ok {x y : List Nat} (hx : magOK x) (hy : magOK y) : magOK (plusM x y) := by
 unfold plusM; split
 ·exact addC_ok _ _ _ hy hx (by omega)
 ·exact addC_ok _ _ _ hx hy (by omega)
theorem plusM_len (x y : List Nat) : (plusM x y).length ≤ x.length + y.length + 1 := by
 unfold plusM; split
 ·have := addC_len y x 0; omega
 ·have := addC_len x y 0; omega
def subC : List Nat → List Nat → Nat → List Nat
 | [], _, _ => []
 | a :: x, [], c => (if a < c then a + gB - c else a - c) :: subC x [] (if a < c then 1 else 0)
 | a :: x, b :: y, c => (if a < c + b then a + gB - (c + b) else a - (c + b)) :: subC x y (if a < c + b then 1 else 0)
theorem subC_val : ∀ (x y : List Nat) (c : Nat), magOK x → magOK y → c ≤ 1 → mVa y + c ≤ mVa x → mVa (subC x y c) = mVa x - (mVa y + c)
 | [], y, c, hx, hy, hc, h => by
  simp only [mVa] at h
  simp [subC, mVa]
 | a :: x, [], c, hx, hy, hc, h => by
  have ha := hx a (by simp)
  have hx' : magOK x := fun u hu => hx u (by simp [hu])
  simp only [mVa] at h
  simp only [subC, mVa]
  by_cases hl : a < c
  ·rw [if_pos hl, if_pos hl]
   have h1 : 1 ≤ mVa x := by
    rcases Nat.eq_zero_or_pos (mVa x) with e | e
    ·rw [e] at h; omega
    ·exact e
   rw [subC_val x [] 1 hx' hy (by omega) (by simp only [mVa]; omega)]
   simp only [mVa]
   have : gB * (mVa x - (0 + 1)) = gB * mVa x - gB := by rw [Nat.mul_sub]; omega
   rw [this]
   have : gB * 1 ≤ gB * mVa x := Nat.mul_le_mul_left _ h1
   unfold gB at *; omega
  ·rw [if_neg hl, if_neg hl, subC_val x [] 0 hx' hy (by omega) (by simp only [mVa]; omega)]
   simp only [mVa]; rw [show mVa x - (0 + 0) = mVa x from by omega]; omega
 | a :: x, b :: y, c, hx, hy, hc, h => by
  have ha := hx a (by simp)
  have hb := hy b (by simp)
  have hx' : magOK x := fun u hu => hx u (by simp [hu])
  have hy' : magOK y := fun u hu => hy u (by simp [hu])
  simp only [mVa] at h
  simp only [subC, mVa]
  by_cases hl : a < c + b
  ·rw [if_pos hl, if_pos hl]
   have h1 : mVa y + 1 ≤ mVa x := by
    rcases Nat.lt_or_ge (mVa y) (mVa x) with e | e
    ·omega
    ·have := Nat.mul_le_mul_left gB e; omega
   rw [subC_val x y 1 hx' hy' (by omega) h1]
   have e1 : gB * (mVa x - (mVa y + 1)) = gB * mVa x - (gB * mVa y + gB) := by rw [Nat.mul_sub, Nat.mul_add, Nat.mul_one]
   have e2 := Nat.mul_le_mul_left gB h1
   rw [Nat.mul_add, Nat.mul_one] at e2
   rw [e1]; omega
  ·rw [if_neg hl, if_neg hl]
   have h1 : mVa y ≤ mVa x := by
    rcases Nat.lt_or_ge (mVa x) (mVa y) with e | e
    ·have := Nat.mul_le_mul_left gB (show mVa x + 1 ≤ mVa y from e)
     rw [Nat.mul_add] at this; unfold gB at *; omega
    ·exact e
   rw [subC_val x y 0 hx' hy' (by omega) h1, Nat.add_zero, Nat.mul_sub]
   have := Nat.mul_le_mul_left gB h1
   omega
theorem subC_ok : ∀ (x y : List Nat) (c : Nat), magOK x → magOK y → c ≤ 1 → magOK (subC x y c)
 | [], y, c, hx, hy, hc => by intro z hz; simp [subC] at hz
 | a :: x, [], c, hx, hy, hc => by
  have ha := hx a (by simp)
  intro z hz
  simp only [subC, List.mem_cons] at hz
  rcases hz with rfl | hz
  ·split <;> omega
  ·exact subC_ok x [] _ (fun u hu => hx u (by simp [hu])) hy (by split <;> omega) z hz
 | a :: x, b :: y, c, hx, hy, hc => by
  have ha := hx a (by simp)
  have hb := hy b (by simp)
  intro z hz
  simp only [subC, List.mem_cons] at hz
  rcases hz with rfl | hz
  ·split <;> omega
  ·exact subC_ok x y _ (fun u hu => hx u (by simp [hu])) (fun u hu => hy u (by simp [hu])) (by split <;> omega) z hz
theorem subC_len : ∀ (x y : List Nat) (c : Nat), (subC x y c).length = x.length
 | [], y, c => by simp [subC]
 | a :: x, [], c => by simp [subC, subC_len x]
 | a :: x, b :: y, c => by simp [subC, subC_len x]
def cmpR : List Nat → List Nat → Int
 | a :: x, b :: y => if a < b then -1 else if b < a then 1 else cmpR x y
 | _, _ => 0
def cmpM (x y : List Nat) : Int := if x.length ≠ y.length then (x.length : Int) - y.length else cmpR x.reverse y.reverse
theorem cmpR_step {x y : List Nat} (hx : x.length ≠ 0) (he : x.length = y.length) : cmpR x.reverse y.reverse = if lastN x < lastN y then -1 else if lastN y < lastN x then 1 else cmpR x.dropLast.reverse y.dropLast.reverse := by
 rcases snoc_cases x with rfl | ⟨i, a, rfl⟩
 ·simp at hx
 rcases snoc_cases y with rfl | ⟨j, b, rfl⟩
 ·simp at he
 simp [cmpR, lastN]
theorem cmpR_nil {x y : List Nat} (hx : x.length = 0) : cmpR x.reverse y.reverse = 0 := by
 rw [List.length_eq_zero_iff.1 hx]; rfl
theorem cmpM_eq {x y : List Nat} (h : x.length = y.length) : cmpM x y = cmpR x.reverse y.reverse := by unfold cmpM; rw [if_neg (by omega)]
theorem cmpM_bd (x y : List Nat) (hx : x.length ≤ 20000) (hy : y.length ≤ 20000) : -20000 ≤ cmpM x y ∧ cmpM x y ≤ 20000 := by
 unfold cmpM
 split
 ·omega
 ·have : ∀ a b : List Nat, -1 ≤ cmpR a b ∧ cmpR a b ≤ 1 := by
   intro a
   induction a with
   | nil => intro b; simp [cmpR]
   | cons a x ih =>
    intro b
    cases b with
    | nil => simp [cmpR]
    | cons b y =>
     simp only [cmpR]
     split
     ·omega
     ·split
      ·omega
      ·exact ih y
  have := this x.reverse y.reverse
  omega
theorem cmpR_spec : ∀ (n : Nat) (x y : List Nat), x.length = n → y.length = n → magOK x → magOK y →
  (cmpR x.reverse y.reverse < 0 ↔ mVa x < mVa y) ∧ (0 < cmpR x.reverse y.reverse ↔ mVa y < mVa x)
 | 0, x, y, hx, hy, _, _ => by
  rw [List.length_eq_zero_iff.1 hx, List.length_eq_zero_iff.1 hy]; simp [cmpR, mVa]
 | n + 1, x, y, hx, hy, ox, oy => by
  rcases snoc_cases x with rfl | ⟨i, a, rfl⟩
  ·simp at hx
  rcases snoc_cases y with rfl | ⟨j, b, rfl⟩
  ·simp at hy
  have hi : i.length = n := by simpa using hx
  have hj : j.length = n := by simpa using hy
  have oi : magOK i := fun u hu => ox u (by simp [hu])
  have oj : magOK j := fun u hu => oy u (by simp [hu])
  have ih := cmpR_spec n i j hi hj oi oj
  have li := magVal_lt oi
  have lj := magVal_lt oj
  rw [hi] at li; rw [hj] at lj
  simp only [List.reverse_append, List.reverse_singleton, List.singleton_append, cmpR, magVal_append, mVa, hi, hj, Nat.mul_zero, Nat.add_zero]
  by_cases h1 : a < b
  ·rw [if_pos h1]
   have := Nat.mul_le_mul_left (gB ^ n) (show a + 1 ≤ b from h1)
   rw [Nat.mul_add, Nat.mul_one] at this
   constructor <;> constructor <;> intro h <;> omega
  ·rw [if_neg h1]
   by_cases h2 : b < a
   ·rw [if_pos h2]
    have := Nat.mul_le_mul_left (gB ^ n) (show b + 1 ≤ a from h2)
    rw [Nat.mul_add, Nat.mul_one] at this
    constructor <;> constructor <;> intro h <;> omega
   ·rw [if_neg h2]
    have : a = b := by omega
    subst this
    constructor
    ·rw [ih.1]; omega
    ·rw [ih.2]; omega
theorem magVal_ge {x : List Nat} (hc : cutM x = x) (h0 : x.length ≠ 0) : gB ^ (x.length - 1) ≤ mVa x := by
 rcases snoc_cases x with rfl | ⟨i, a, rfl⟩
 ·simp at h0
 have ha : a ≠ 0 := by
  rintro rfl
  rw [cutM_zero] at hc
  have := cutM_len i
  rw [hc] at this; simp at this; omega
 rw [magVal_append]
 simp only [mVa, Nat.mul_zero, Nat.add_zero, List.length_append, List.length_singleton, Nat.add_sub_cancel]
 have := Nat.mul_le_mul_left (gB ^ i.length) (show 1 ≤ a by omega)
 omega
theorem magVal_short {x y : List Nat} (ox : magOK x) (cy : cutM y = y) (h : x.length < y.length) : mVa x < mVa y := by
 have h1 := magVal_lt ox
 have h2 := magVal_ge cy (by omega)
 have h3 : gB ^ x.length ≤ gB ^ (y.length - 1) := Nat.pow_le_pow_right gB_pos (by omega)
 omega
theorem cmpM_spec {x y : List Nat} (ox : magOK x) (oy : magOK y) (cx : cutM x = x) (cy : cutM y = y) :
  (cmpM x y < 0 ↔ mVa x < mVa y) ∧ (0 < cmpM x y ↔ mVa y < mVa x) := by
 unfold cmpM
 split
 ·rename_i h
  rcases Nat.lt_or_ge x.length y.length with hl | hl
  ·have := magVal_short ox cy hl
   constructor <;> constructor <;> intro h <;> omega
  ·have := magVal_short oy cx (show y.length < x.length by omega)
   constructor <;> constructor <;> intro h <;> omega
 ·rename_i h
  exact cmpR_spec y.length x y (by omega) rfl ox oy
theorem cutM_id {x : List Nat} (h : x.length ≠ 0 → lastN x ≠ 0) : cutM x = x := by
 rcases snoc_cases x with rfl | ⟨i, a, rfl⟩
 ·rfl
 ·exact cutM_pos i (by simpa [lastN] using h (by simp))
theorem natVal_head {c : UInt8} {r : Str} (hc : isDig c = true) (h : c ≠ 48) : natVal (c :: r) ≠ 0 := by
 have e : natVal (c :: r) = natVal ([c] ++ r) := rfl
 rw [e, natVal_append]
 have h1 : natVal [c] = c.toNat - 48 := by simp [natVal]
 have h2 : c.toNat ≠ 48 := fun e => h (UInt8.toNat_inj.1 e)
 have h3 : 48 ≤ c.toNat := by simp [isDig] at hc; exact hc.1
 rw [h1]
 have : 0 < (c.toNat - 48) * 10 ^ r.length := Nat.mul_pos (by omega) (Nat.pow_pos (by omega))
 omega
theorem lastN_cons {a : Nat} {l : List Nat} (h : l.length ≠ 0) : lastN (a :: l) = lastN l := by
 cases l with
 | nil => simp at h
 | cons b l => simp [lastN]
theorem groupsOf_ne {d : Str} (h : d.length ≠ 0) : (groupsOf d).length ≠ 0 := by rw [groupsOf_step h]; simp
theorem groupsOf_last (d : Str) (hd : d.all isDig = true) (h0 : d.head? ≠ some 48) (hn : d.length ≠ 0) : lastN (groupsOf d) ≠ 0 := by
 induction h : d.length using Nat.strongRecOn generalizing d with
 | _ n ih =>
  rw [groupsOf_step hn]
  by_cases hl : d.length ≤ 9
  ·have e1 : d.length - 9 = 0 := by omega
   rw [e1, List.take_zero, List.drop_zero, groupsOf_nil]
   show natVal d ≠ 0
   cases d with
   | nil => simp at hn
   | cons c r => exact natVal_head (by simp at hd; exact hd.1) (by simpa using h0)
  ·have hl2 : (d.take (d.length - 9)).length = d.length - 9 := by simp
   rw [lastN_cons (groupsOf_ne (by omega))]
   refine ih (d.length - 9) (by omega) _ ?_ ?_ (by omega) hl2
   ·rw [List.all_eq_true] at hd ⊢
    exact fun x hx => hd x (List.mem_of_mem_take hx)
   ·rw [List.head?_take, if_neg (by omega)]; exact h0
theorem dropZ_head (s : Str) : (dropZ s).head? ≠ some 48 := by
 induction s with
 | nil => simp [dropZ]
 | cons c r ih =>
  unfold dropZ
  split
  ·rename_i heq; simp at heq; rw [← heq.2]; exact ih
  ·rename_i hne
   simp only [List.head?_cons]
   intro h
   injection h with h
   subst h
   exact hne r rfl
theorem digits_head (s : Str) : (digits s).1.head? ≠ some 48 := by
 unfold digits; split
 ·exact dropZ_head _
 ·simp
theorem digits_cut (s : Str) : cutM (groupsOf (digits s).1) = groupsOf (digits s).1 := cutM_id fun h => groupsOf_last _ (digits_dig s) (digits_head s) (by intro e; apply h; rw [List.length_eq_zero_iff.1 e, groupsOf_nil]; rfl)
theorem digits_neg (s : Str) (h : (digits s).2 = true) : (groupsOf (digits s).1).length ≠ 0 := by
 apply groupsOf_ne
 unfold digits at h ⊢
 split at h
 ·rename_i hd
  rw [if_pos hd]
  simp only [Bool.and_eq_true, decide_eq_true_eq] at h
  intro e; exact h.2 (List.length_eq_zero_iff.1 e)
 ·simp at h
def numV (neg : Bool) (m : List Nat) : Int := if neg then -(mVa m : Int) else mVa m
theorem numV_digits (s : Str) : numV (digits s).2 (groupsOf (digits s).1) = val s := by
 unfold numV val
 rw [(groupsOf_spec _ (digits_dig s)).2]
def signI (n : Int) : Int := if n < 0 then -1 else if 0 < n then 1 else 0
theorem magVal_pos {x : List Nat} (hc : cutM x = x) (h0 : x.length ≠ 0) : 0 < mVa x := Nat.lt_of_lt_of_le (Nat.pow_pos gB_pos) (magVal_ge hc h0)
structure numOK (neg : Bool) (m : List Nat) : Prop where
 ok : magOK m
 cut : cutM m = m
 neg0 : neg = true → m.length ≠ 0
theorem numOK_digits (s : Str) : numOK (digits s).2 (groupsOf (digits s).1) := ⟨(groupsOf_spec _ (digits_dig s)).1, digits_cut s, digits_neg s⟩
theorem addN {a b : Nat} (h : a + b < 18446744073709551616) : IntKind.u64.wrap ((a : Int) + (b : Int)) = ((a + b : Nat) : Int) := by
 rw [wrapu64_ok (by omega) (by omega)]; simp
theorem subN {a b : Nat} (hb : b ≤ a) (h : a < 18446744073709551616) : IntKind.u64.wrap ((a : Int) - (b : Int)) = ((a - b : Nat) : Int) := by
 rw [wrapu64_ok (by omega) (by omega)]; omega
theorem quoN {a : Nat} (h : a < 18446744073709551616) : IntKind.u64.wrap ((a : Int).tdiv 1000000000) = ((a / gB : Nat) : Int) := by
 have e : (a : Int).tdiv 1000000000 = ((a / gB : Nat) : Int) := by
  rw [Int.tdiv_eq_ediv_of_nonneg (by omega)]; unfold gB; omega
 rw [e]
 have : a / gB ≤ a := Nat.div_le_self _ _
 generalize a / gB = q at this ⊢
 exact wrapu64_ok (by omega) (by omega)
theorem remN (a : Nat) : (a : Int).tmod 1000000000 = ((a % gB : Nat) : Int) := by
 rw [Int.tmod_eq_emod_of_nonneg (by omega)]; unfold gB; omega
theorem enc_mid (o : List Nat) (a : Nat) (r : List Nat) : (encMag (o ++ a :: r))[o.length]? = some [.raw (.int .u64 (a : Int))] := by simp [encMag]
theorem row_set {rows : List (List D)} {j : Nat} {r r' : List D} (h : rows[j]? = some r) : (rows.set j r')[j]? = some r' := by
 have := (List.getElem?_eq_some_iff.1 h).1
 simp [this]
theorem enc_set (o : List Nat) (a x : Nat) (r : List Nat) : (encMag (o ++ a :: r)).set o.length [.raw (.int .u64 (x : Int))] = encMag (o ++ x :: r) := by
 simp [encMag, List.set_append]
theorem idx_mag {l : List Nat} {n : Int} {k b : Nat} {r : List Nat} (hd : l.drop k = b :: r) (hn : n = (k : Int)) : (encMag l)[n.toNat]? = some [.raw (.int .u64 (b : Int))] := by
 subst hn
 have : l[k]? = some b := by
  have := congrArg (fun x => x[0]?) hd
  simpa using this
 simp [encMag, this]
def nthN (l : List Nat) (k : Nat) : Nat := l.getD k 0
theorem nthN_drop {l : List Nat} {k : Nat} (h : k < l.length) : l.drop k = nthN l k :: l.drop (k + 1) := by
 rw [List.drop_eq_getElem_cons h]; simp [nthN, h]
theorem nthN_ok {l : List Nat} {k : Nat} (hm : magOK l) : nthN l k < gB := by
 unfold nthN
 rcases Nat.lt_or_ge k l.length with h | h
 ·simp only [List.getD_eq_getElem?_getD, List.getElem?_eq_getElem h, Option.getD_some]; exact hm _ (List.getElem_mem h)
 ·simp only [List.getD_eq_getElem?_getD, List.getElem?_eq_none h, Option.getD_none]; exact gB_pos
theorem subC_stepT {a : Nat} {rest y : List Nat} {k c : Nat} (h : k < y.length) : subC (a :: rest) (y.drop k) c = (if a < c + nthN y k then a + gB - (c + nthN y k) else a - (c + nthN y k)) :: subC rest (y.drop (k + 1)) (if a < c + nthN y k then 1 else 0) := by rw [nthN_drop h]; rfl
theorem subC_stepF {a : Nat} {rest y : List Nat} {k c : Nat} (h : y.length ≤ k) : subC (a :: rest) (y.drop k) c = (if a < c then a + gB - c else a - c) :: subC rest (y.drop (k + 1)) (if a < c then 1 else 0) := by
 rw [List.drop_of_length_le h, List.drop_of_length_le (by omega)]; rfl
theorem addC_stepT {a : Nat} {rest y : List Nat} {k c : Nat} (h : k < y.length) : addC (a :: rest) (y.drop k) c = (a + c + nthN y k) % gB :: addC rest (y.drop (k + 1)) ((a + c + nthN y k) / gB) := by rw [nthN_drop h]; rfl
theorem addC_stepF {a : Nat} {rest y : List Nat} {k c : Nat} (h : y.length ≤ k) : addC (a :: rest) (y.drop k) c = (a + c) % gB :: addC rest (y.drop (k + 1)) ((a + c) / gB) := by
 rw [List.drop_of_length_le h, List.drop_of_length_le (by omega)]; rfl
theorem plusM_T {x y : List Nat} (h : x.length < y.length) : plusM x y = addC y x 0 := by unfold plusM; rw [if_pos h]
theorem plusM_F {x y : List Nat} (h : y.length ≤ x.length) : plusM x y = addC x y 0 := by unfold plusM; rw [if_neg (by omega)]
def addM (n1 : Bool) (x : List Nat) (n2 : Bool) (y : List Nat) : Bool × List Nat :=
 if (n1 == n2) = true then (n1, plusM x y) else if cmpM x y < 0 then (n2, cutM (subC y x 0)) else (n1, cutM (subC x y 0))
theorem cmpM_ne2 {x y : List Nat} (h : cmpM x y < 0) : y.length ≠ 0 := by
 intro e
 unfold cmpM at h
 split at h
 ·omega
 ·rw [cmpR_nil (by omega)] at h; omega
theorem cmpM_nil {x y : List Nat} (hx : x.length = 0) (hy : y.length ≠ 0) : cmpM x y < 0 := by
 unfold cmpM; rw [if_pos (by omega)]; omega
theorem cmpM_ne1 {n1 n2 : Bool} {x y : List Nat} (h1 : numOK n1 x) (h2 : numOK n2 y) (hn : (n1 == n2) = false) (h : ¬ cmpM x y < 0) : x.length ≠ 0 := by
 intro e
 cases n1 with
 | true => exact h1.neg0 rfl e
 | false =>
  cases n2 with
  | false => simp at hn
  | true => exact h (cmpM_nil e (h2.neg0 rfl))
theorem addM_ok {n1 n2 : Bool} {x y : List Nat} (h1 : numOK n1 x) (h2 : numOK n2 y) : magOK (addM n1 x n2 y).2 := by
 unfold addM
 split
 ·exact plusM_ok h1.ok h2.ok
 ·split
  ·exact cutM_ok (subC_ok _ _ _ h2.ok h1.ok (by omega))
  ·exact cutM_ok (subC_ok _ _ _ h1.ok h2.ok (by omega))
theorem addM_len (n1 n2 : Bool) (x y : List Nat) : (addM n1 x n2 y).2.length ≤ x.length + y.length + 1 := by
 unfold addM
 split
 ·exact plusM_len x y
 ·split
  ·have := cutM_len (subC y x 0); rw [subC_len] at this; simp only; omega
  ·have := cutM_len (subC x y 0); rw [subC_len] at this; simp only; omega
theorem addM_val {n1 n2 : Bool} {x y : List Nat} (h1 : numOK n1 x) (h2 : numOK n2 y) : numV (addM n1 x n2 y).1 (addM n1 x n2 y).2 = numV n1 x + numV n2 y := by
 unfold addM
 have hs := cmpM_spec h1.ok h2.ok h1.cut h2.cut
 split
 ·rename_i h
  have : n1 = n2 := by simpa using h
  subst this
  simp only [numV, plusM_val]
  cases n1 <;> simp <;> omega
 ·rename_i h
  split
  ·rename_i hl
   have := hs.1.1 hl
   simp only [numV]
   rw [cutM_val, subC_val _ _ _ h2.ok h1.ok (by omega) (by omega)]
   cases n1 <;> cases n2 <;> simp at h ⊢ <;> omega
  ·rename_i hl
   have : ¬ mVa x < mVa y := fun e => hl (hs.1.2 e)
   simp only [numV]
   rw [cutM_val, subC_val _ _ _ h1.ok h2.ok (by omega) (by omega)]
   cases n1 <;> cases n2 <;> simp at h ⊢ <;> omega
def cmpN (n1 : Bool) (x : List Nat) (n2 : Bool) (y : List Nat) : Int :=
 max (-1) (min (if (n1 != n2) = true then (if n1 = true then -1 else 1) else if n1 = true then 0 - cmpM x y else cmpM x y) 1)
theorem cmpN_sign {n1 n2 : Bool} {x y : List Nat} (h1 : numOK n1 x) (h2 : numOK n2 y) : cmpN n1 x n2 y = signI (numV n1 x - numV n2 y) := by
 have hs := cmpM_spec h1.ok h2.ok h1.cut h2.cut
 unfold cmpN signI numV
 cases n1 <;> cases n2 <;> simp only [bne_self_eq_false, Bool.false_bne, Bool.true_bne, Bool.not_false, Bool.not_true, if_true, if_false, Bool.false_eq_true]
 ·split
  ·rename_i h
   have := hs.1.2 (by omega); omega
  ·split
   ·have := hs.2.2 (by omega); omega
   ·have a1 : ¬ cmpM x y < 0 := fun e => by have := hs.1.1 e; omega
    have a2 : ¬ 0 < cmpM x y := fun e => by have := hs.2.1 e; omega
    omega
 ·have := magVal_pos h2.cut (h2.neg0 rfl)
  rw [if_neg (by omega), if_pos (by omega)]; rfl
 ·have := magVal_pos h1.cut (h1.neg0 rfl)
  rw [if_pos (by omega)]; rfl
 ·split
  ·have := hs.2.2 (by omega); omega
  ·split
   ·have := hs.1.2 (by omega); omega
   ·have a1 : ¬ cmpM x y < 0 := fun e => by have := hs.1.1 e; omega
    have a2 : ¬ 0 < cmpM x y := fun e => by have := hs.2.1 e; omega
    omega
def cutI (s : Str) (c : UInt8) : Str × Str × Bool := if 0 ≤ Lib.indexByte s c then (s.take (Lib.indexByte s c).toNat, s.drop ((Lib.indexByte s c).toNat + 1), true) else (s, [], false)
theorem indexByte_spec (c : UInt8) : ∀ s : Str, (0 ≤ Lib.indexByte s c ∧ Lib.indexByte s c < s.length ∧ s = s.take (Lib.indexByte s c).toNat ++ c :: s.drop ((Lib.indexByte s c).toNat + 1) ∧ ∀ x ∈ s.take (Lib.indexByte s c).toNat, x ≠ c) ∨ (Lib.indexByte s c = -1 ∧ ∀ x ∈ s, x ≠ c)
 | [] => .inr ⟨rfl, by simp⟩
 | b :: s => by
  unfold Lib.indexByte
  by_cases h : b = c
  ·subst h
   left; simp
  ·have hb : (b == c) = false := by simpa using h
   simp only [hb, Bool.false_eq_true, if_false]
   rcases indexByte_spec c s with ⟨h1, h2, h3, h4⟩ | ⟨h1, h2⟩
   ·left
    have hne : (Lib.indexByte s c == -1) = false := by simp; omega
    simp only [hne, Bool.false_eq_true, if_false]
    have e : (Lib.indexByte s c + 1).toNat = (Lib.indexByte s c).toNat + 1 := by omega
    rw [e]
    refine ⟨by omega, by simp; omega, ?_, ?_⟩
    ·simp only [List.take_succ_cons, List.cons_append, List.drop_succ_cons]
     rw [← h3]
    ·intro x hx
     simp only [List.take_succ_cons, List.mem_cons] at hx
     rcases hx with rfl | hx
     ·exact h
     ·exact h4 x hx
   ·right
    simp only [h1, beq_self_eq_true, if_true, true_and]
    intro x hx
    rcases List.mem_cons.1 hx with rfl | hx
    ·exact h
    ·exact h2 x hx
theorem okB_SM (f : Nat → Bool) (m : SM) : Ob.okB f (.mp (encSM m)) = true := by
 have h : ∀ l : List Str, D.okB.okL f (l.map .str) = true := by
  intro l
  induction l with
  | nil => rfl
  | cons a l ih => simp only [List.map_cons, D.okB.okL, D.okB, ih]; rfl
 have e1 : (encSM m).map (·.1) = (m.map (·.1)).map .str := by simp [encSM]
 have e2 : (encSM m).map (·.2) = (m.map (·.2)).map .str := by simp [encSM]
 simp only [Ob.okB]
 rw [e1, e2, h, h]; rfl
theorem val_bd (s : Str) : -((10 ^ s.length : Nat) : Int) < val s ∧ val s < ((10 ^ s.length : Nat) : Int) := by
 have h1 := natVal_lt _ (digits_dig s)
 have h2 : 10 ^ (digits s).1.length ≤ 10 ^ s.length := Nat.pow_le_pow_right (by omega) (digits_len s)
 unfold val
 split <;> omega
theorem ofInt_len {n : Int} {k : Nat} (h1 : -((10 ^ k : Nat) : Int) < n) (h2 : n < ((10 ^ k : Nat) : Int)) : (ofInt n).length ≤ k + 1 := by
 have := natDig_len k n.natAbs (by omega)
 unfold ofInt
 split
 ·simp; omega
 ·omega
theorem addS_len (a b : Str) : (addS a b).length ≤ a.length + b.length + 2 := by
 have h1 := val_bd a
 have h2 := val_bd b
 have h3 : 10 ^ a.length ≤ 10 ^ (a.length + b.length) := Nat.pow_le_pow_right (by omega) (by omega)
 have h4 : 10 ^ b.length ≤ 10 ^ (a.length + b.length) := Nat.pow_le_pow_right (by omega) (by omega)
 have h5 : 10 ^ (a.length + b.length + 1) = 10 ^ (a.length + b.length) * 10 := Nat.pow_succ ..
 unfold addS
 exact ofInt_len (k := a.length + b.length + 1) (by omega) (by omega)
def unseen (n : Nat) (seen : List Nat) : Nat := ((List.range n).filter fun j => !seen.contains j).length
theorem unseen_lt {n j : Nat} {seen : List Nat} (hj : j < n) (hs : j ∉ seen) : unseen n (seen ++ [j]) < unseen n seen := by
 unfold unseen
 have key : ∀ l : List Nat, ((l.filter fun i => !(seen ++ [j]).contains i).length ≤ (l.filter fun i => !seen.contains i).length) ∧ (j ∈ l → (l.filter fun i => !(seen ++ [j]).contains i).length < (l.filter fun i => !seen.contains i).length) := by
  intro l
  induction l with
  | nil => simp
  | cons a l ih =>
   by_cases ha : a = j
   ·subst ha
    simp [List.filter_cons, hs]
    have := ih.1
    simp at this
    omega
   ·by_cases hb : a ∈ seen
    ·simp [List.filter_cons, hb, Ne.symm ha]
     simpa using ih
    ·simp [List.filter_cons, hb, ha, Ne.symm ha]
     simpa using ih
 exact (key _).2 (by simpa using hj)
theorem find_T {α : Type} {l pre rest : List α} {x : α} {p : α → Bool} (hx : l = pre ++ x :: rest) (hp : pre.any p = false) (h : p x = true) : (pre.length : Int) = if l.any p = true then (l.findIdx p : Int) else -1 := by
 subst hx
 have : (pre ++ x :: rest).any p = true := by simp [h]
 rw [if_pos this, List.findIdx_append]
 have hn : ¬ List.findIdx p pre < pre.length := by
  rw [List.findIdx_lt_length]
  rintro ⟨y, hy, hpy⟩
  rw [List.any_eq_false] at hp
  exact hp y hy hpy
 rw [if_neg hn]
 simp [List.findIdx_cons, h]
theorem find_F {α : Type} {l pre : List α} {p : α → Bool} (hx : l = pre ++ []) (hp : pre.any p = false) : -1 = if l.any p = true then (l.findIdx p : Int) else -1 := by
 rw [hx, List.append_nil, hp]; rfl
def findI {α : Type} (P : α → Bool) (l : List α) : Int := if l.any P = true then (l.findIdx P : Int) else -1
theorem findI_ge {α : Type} (P : α → Bool) (l : List α) : decide (0 ≤ findI P l) = l.any P := by
 unfold findI
 cases h : l.any P <;> simp
def findCur (code : Str) : List Cur → Cur × Bool
 | [] => (⟨[], 0⟩, false)
 | c :: r => if c.code = code then (c, true) else findCur code r
theorem findCur_T {code : Str} {l pre rest : List Cur} {x : Cur} (hx : l = pre ++ x :: rest) (hp : ∀ c ∈ pre, c.code ≠ code) (h : x.code = code) : findCur code l = (x, true) := by
 subst hx
 induction pre with
 | nil => simp [findCur, h]
 | cons c pre ih => rw [List.cons_append, findCur, if_neg (hp c (by simp))]; exact ih (fun d hd => hp d (by simp [hd]))
theorem findCur_F {code : Str} {l pre : List Cur} (hx : l = pre ++ []) (hp : ∀ c ∈ pre, c.code ≠ code) : findCur code l = (⟨[], 0⟩, false) := by
 subst hx
 induction pre with
 | nil => rfl
 | cons c pre ih => rw [List.cons_append, findCur, if_neg (hp c (by simp))]; exact ih (fun d hd => hp d (by simp [hd]))
theorem findCur_snd (code : Str) (l : List Cur) : (findCur code l).2 = l.any (fun c => decide (c.code = code)) := by
 induction l with
 | nil => rfl
 | cons c l ih =>
  by_cases h : c.code = code <;> simp [findCur, h, ih]
def curErr (pre : List Cur) (c : Cur) : Int := if !isCode c.code then 23 else if decide (c.places < 0) || decide (12 < c.places) then 2 else if pre.any (fun d => decide (d.code = c.code)) then 5 else 0
def checkTabFrom (pre : List Cur) : List Cur → Int
 | [] => 0
 | c :: r => if curErr pre c ≠ 0 then curErr pre c else checkTabFrom (pre ++ [c]) r
def checkTab (l : List Cur) : Int := if 16 < l.length then 4 else checkTabFrom [] l
theorem curErr1 {pre : List Cur} {c : Cur} (h : (!isCode c.code) = true) : curErr pre c = 23 := by simp [curErr, h]
theorem curErr2 {pre : List Cur} {c : Cur} (h : (!isCode c.code) = false) (h2 : (decide (c.places < 0) || decide (12 < c.places)) = true) : curErr pre c = 2 := by simp only [curErr, h, h2]; rfl
theorem curErr3 {pre : List Cur} {c : Cur} (h : (!isCode c.code) = false) (h2 : (decide (c.places < 0) || decide (12 < c.places)) = false) (h3 : (findCur c.code pre).2 = true) : curErr pre c = 5 := by rw [findCur_snd] at h3; simp only [curErr, h, h2, h3]; rfl
theorem curErr0 {pre : List Cur} {c : Cur} (h : (!isCode c.code) = false) (h2 : (decide (c.places < 0) || decide (12 < c.places)) = false) (h3 : (findCur c.code pre).2 = false) : curErr pre c = 0 := by rw [findCur_snd] at h3; simp only [curErr, h, h2, h3]; rfl
theorem checkTab_err {l pre rest : List Cur} {x : Cur} {n : Int} (h : checkTab l = checkTabFrom pre (x :: rest)) (he : curErr pre x = n) (hn : n ≠ 0) : n = checkTab l := by rw [h, checkTabFrom, he, if_pos hn]
theorem checkTab_next {l pre rest : List Cur} {x : Cur} (h : checkTabFrom [] l = checkTabFrom pre (x :: rest)) (he : curErr pre x = 0) : checkTabFrom [] l = checkTabFrom (pre ++ [x]) rest := by rw [h, checkTabFrom, he, if_neg (by simp)]
open Go.Proofs Go.Proofs.Tryz
set_option maxRecDepth 20000
variable [Noise]
structure isCode_ok_L0 (s : Str) where
 pre : List UInt8
 rest : List UInt8
 hx : s = pre ++ rest
 hp : pre.all (fun c => 65 ≤ c.toNat && c.toNat ≤ 90) = true
theorem isCode_ok (s : Str) : Fc Tryz.prog 169 [.str s] (.b (isCode s)) := by
 refine Fc.mk' [2] func169 rfl ntmps169 rfl rfl rfl (fun t w => results_tmp results169 t _ w) ?_
 refine Run.bStr 0 rfl (fun hb => ?_)
 simp only [big] at hb
 refine go [] ?_
 refine Run.loop (ι := isCode_ok_L0 s) (fun sx => [(0, .str s), (5, .i s.length), (6, .i sx.pre.length)]) (fun sx => []) (fun sx => sx.rest.length) ⟨[], s, rfl, rfl⟩ ?_ ?_
 ·exact Le.mk rfl (.s rfl rfl (.s rfl rfl (.s rfl rfl .nil))) .nil
 ·rintro ⟨pre, rest, hx, hp⟩
  show Run _ _ _ _ [(0, .str s), (5, .i s.length), (6, .i pre.length)] []
  have hl := congrArg List.length hx
  simp only [List.length_append] at hl
  rcases rest with _ | ⟨x, rest⟩
  ·skip
   refine go [] ?_
   refine brF (by simp at hl ⊢; omega) ?_
   refine go [] ?_
   exact rx1 rfl (Sub.bool (by grind [isCode]))
  ·simp only [List.length_cons] at hl
   refine go [] ?_
   refine brT (by simp; omega) ?_
   refine ixS (by omega) (idx_midS hx rfl) ?_
   refine ixSG (fun hg => And.intro (by omega) (idx_midS hx rfl)) ?_
   refine br (fun h1 => ?_) (fun h1 => ?_)
   ·exact rx1 rfl (Sub.bool (by grind [isCode]))
   ·refine sd (w64 (by omega)) ?_
    exact nx ⟨pre ++ [x], rest, by simp [hx], by grind⟩ (by simp) (Le.mk rfl (.s rfl rfl (.s rfl rfl (.cons rfl (Sub.int (by simp)) rfl .nil))) .nil)
theorem isNaNS_ok (s : Str) : Fc Tryz.prog 188 [.str s] (.b false) := by
 refine Fc.mk' [2] func188 rfl ntmps188 rfl rfl rfl (fun t w => results_tmp results188 t _ w) ?_
 refine go [] ?_
 exact rx1 rfl (Sub.bool (by simp))
theorem cmpS_ok (a b : Str) : Fc Tryz.prog 132 [.str a, .str b] (.i (cmpT a b)) := by
 refine Fc.mk' [4] func132 rfl ntmps132 rfl rfl rfl (fun t w => results_tmp results132 t _ w) ?_
 refine go [] ?_
 refine oP (qCa call188 rfl (isNaNS_ok _)) ?_
 refine oP (qCa call188 rfl (isNaNS_ok _)) ?_
 refine brF rfl ?_
 refine brF rfl ?_
 refine br (fun h1 => ?_) (fun h1 => ?_)
 ·exact rx1 rfl (Sub.int (by grind [cmpT]))
 ·refine br (fun h2 => ?_) (fun h2 => ?_)
  ·exact rx1 rfl (Sub.int (by grind [cmpT]))
  ·exact rx1 rfl (Sub.int (by grind [cmpT]))
end Go.T
namespace Go.T
open Go Go.Proofs Go.Proofs.Tryz
set_option maxRecDepth 20000
theorem bldWriteString_ok (s t : Str) (hl : s.length + t.length ≤ 140737488355328) : FcO Tryz.prog 286 [.box 7000 0, .str t] [(7000, .bld 7001 s.length), (7001, .ba s)] (.tup [.i t.length, .raw .nilIface]) [(7000, .bld 7002 (s ++ t).length), (7002, .ba (s ++ t)), (7001, .dead)] := by
 refine FcO.mk' [4, 5] func286 rfl ntmps286 rfl rfl rfl (fun t w => results_tmp2 results286 t _ w) ?_
 refine Run.seq (Run.reg [.p, .p] ?_)
 refine .ag rfl rfl <| .ag rfl rfl <| .nil ?_
 refine Run.seq (Run.reg [.p, .w] ?_)
 refine .mv rfl rfl <| .W rfl (q_callO call327 rfl (copyCheck_ok 7000 7001 _ _) (.cons rfl rfl (.cons rfl rfl .nil)) rfl rfl) <| .nil ?_
 refine Run.seq (Run.reg [.p, .p, .p, .p, .r, .p, .w, .p, .p, .w] ?_)
 refine .mv rfl rfl <| .mv rfl rfl <| .P rfl (q_nilCheckBox rfl) <| .P rfl (q_fieldB (n := 0) 152 1 underlying291 sizeOf152 rfl rfl) <| .R rfl (q_loadBld (e := 0) isAgg152 rfl rfl rfl rfl) <| .mv rfl rfl <| .W rfl (q_appendB 7002 underlying152 underlying9 (by simp) sizeOf5 typeInfo5 rfl zeroValue5 rfl rfl rfl rfl (.inl rfl) rfl hl) <| .P rfl (q_nilCheckBox rfl) <| .P rfl (q_fieldB (n := 0) 152 1 underlying291 sizeOf152 rfl rfl) <| .W rfl (q_storeBld sizeOf152 rfl rfl rfl rfl (by simp)) <| .nil ?_
 refine Run.seq (Run.reg [.p, .p, .p, .p] ?_)
 refine .mv rfl rfl <| .P rfl (q_lenS underlying9 rfl) <| .ag rfl rfl <| .ag rfl rfl <| .nil ?_
 refine Run.ret (?_)
 exact retO2 rfl rfl (Sub.refl _) (by exact Sub.refl _) (.eq rfl (by simp) rfl (.cons rfl rfl (.cons rfl rfl .nil)))
theorem bldWriteByte_ok (s : Str) (c : UInt8) (hl : s.length + 1 ≤ 140737488355328) : FcO Tryz.prog 285 [.box 7000 0, .raw (.int .u8 c.toNat)] [(7000, .bld 7001 s.length), (7001, .ba s)] (.raw .nilIface) [(7000, .bld 7002 (s ++ [c]).length), (7002, .ba (s ++ [c])), (7001, .dead)] := by
 refine FcO.mk' [4] func285 rfl ntmps285 rfl rfl rfl (fun t w => results_tmp results285 t _ w) ?_
 refine Run.seq (Run.reg [.p] ?_)
 refine .ag rfl rfl <| .nil ?_
 refine Run.seq (Run.reg [.p, .w] ?_)
 refine .mv rfl rfl <| .W rfl (q_callO call327 rfl (copyCheck_ok 7000 7001 _ _) (.cons rfl rfl (.cons rfl rfl .nil)) rfl rfl) <| .nil ?_
 refine Run.seq (Run.reg [.p, .p, .p, .p, .r, .p, .p, .w, .p, .p, .w] ?_)
 refine .mv rfl rfl <| .mv rfl rfl <| .P rfl (q_nilCheckBox rfl) <| .P rfl (q_fieldB (n := 0) 152 1 underlying291 sizeOf152 rfl rfl) <| .R rfl (q_loadBld (e := 0) isAgg152 rfl rfl rfl rfl) <| .mv rfl rfl <| .P rfl (qBu (n := 1) (rows := byteRows [c]) underlying152 sizeOf5 rfl rfl rfl zeroValue5 rfl rfl rfl rfl rfl rfl rfl) <| .W rfl (q_appendB 7002 underlying152 underlying152 (by simp) sizeOf5 typeInfo5 rfl zeroValue5 rfl rfl rfl rfl (.inr ⟨_, rfl⟩) rfl hl) <| .P rfl (q_nilCheckBox rfl) <| .P rfl (q_fieldB (n := 0) 152 1 underlying291 sizeOf152 rfl rfl) <| .W rfl (q_storeBld sizeOf152 rfl rfl rfl rfl (by simp)) <| .nil ?_
 refine Run.seq (Run.reg [.p] ?_)
 refine .ag rfl rfl <| .nil ?_
 refine Run.ret (?_)
 exact retO1 rfl (by exact Sub.refl _) (.eq rfl (by simp) rfl (.cons rfl rfl (.cons rfl rfl .nil)))
theorem bldWriteString_ok2 (s t : Str) (hl : s.length + t.length ≤ 140737488355328) : FcO Tryz.prog 286 [.box 7000 0, .str t] [(7000, .bld 7002 s.length), (7002, .ba s)] (.tup [.i t.length, .raw .nilIface]) [(7000, .bld 7001 (s ++ t).length), (7001, .ba (s ++ t)), (7002, .dead)] := by
 refine FcO.mk' [4, 5] func286 rfl ntmps286 rfl rfl rfl (fun t w => results_tmp2 results286 t _ w) ?_
 refine Run.seq (Run.reg [.p, .p] ?_)
 refine .ag rfl rfl <| .ag rfl rfl <| .nil ?_
 refine Run.seq (Run.reg [.p, .w] ?_)
 refine .mv rfl rfl <| .W rfl (q_callO call327 rfl (copyCheck_ok 7000 7002 _ _) (.cons rfl rfl (.cons rfl rfl .nil)) rfl rfl) <| .nil ?_
 refine Run.seq (Run.reg [.p, .p, .p, .p, .r, .p, .w, .p, .p, .w] ?_)
 refine .mv rfl rfl <| .mv rfl rfl <| .P rfl (q_nilCheckBox rfl) <| .P rfl (q_fieldB (n := 0) 152 1 underlying291 sizeOf152 rfl rfl) <| .R rfl (q_loadBld (e := 0) isAgg152 rfl rfl rfl rfl) <| .mv rfl rfl <| .W rfl (q_appendB 7001 underlying152 underlying9 (by simp) sizeOf5 typeInfo5 rfl zeroValue5 rfl rfl rfl rfl (.inl rfl) rfl hl) <| .P rfl (q_nilCheckBox rfl) <| .P rfl (q_fieldB (n := 0) 152 1 underlying291 sizeOf152 rfl rfl) <| .W rfl (q_storeBld sizeOf152 rfl rfl rfl rfl (by simp)) <| .nil ?_
 refine Run.seq (Run.reg [.p, .p, .p, .p] ?_)
 refine .mv rfl rfl <| .P rfl (q_lenS underlying9 rfl) <| .ag rfl rfl <| .ag rfl rfl <| .nil ?_
 refine Run.ret (?_)
 exact retO2 rfl rfl (Sub.refl _) (by exact Sub.refl _) (.eq rfl (by simp) rfl (.cons rfl rfl (.cons rfl rfl .nil)))
theorem formatUint_ok (u : Nat) (hu : u < 18446744073709551616) : Fc Tryz.prog 287 [.raw (.int .u64 u), .i 10] (.str (Lib.decDigits u)) := by
 refine Fc.mk' [4] func287 rfl ntmps287 rfl rfl rfl (fun t w => results_tmp results287 t _ w) ?_
 refine go [] ?_
 refine oP (qCa call328 rfl (formatUint180_ok _ (by assumption))) ?_
 exact rx1 rfl (Sub.refl _)
structure cut_ok_L0 (m : List Nat) where
 cur : List Nat
 hx : cutM cur = cutM m
 hl : cur.length ≤ m.length
theorem cut_ok (m : List Nat) : Fc Tryz.prog 284 [sMag m] (sMag (cutM m)) := by
 refine Fc.mk' [2] func284 rfl ntmps284 rfl rfl rfl (fun t w => results_tmp results284 t _ w) ?_
 refine Run.bSnap 0 rfl (fun hb => ?_)
 simp only [List.length_map, big] at hb
 refine Run.seq (Run.reg [.p] ?_)
 refine .ag rfl rfl <| .nil ?_
 refine Run.seq ?_
 refine Run.block ?_
 refine Run.loop (ι := cut_ok_L0 m) (fun sx => [(0, sMag sx.cur)]) (fun sx => []) (fun sx => sx.cur.length) ⟨m, rfl, by omega⟩ ?_ ?_
 ·exact Le.mk rfl (.s rfl rfl .nil) .nil
 ·rintro ⟨cur, hx, hl⟩
  show Run _ _ _ _ [(0, sMag cur)] []
  rcases snoc_cases cur with rfl | ⟨i, x, rfl⟩
  ·skip
   refine Run.seq (Run.seq (Run.reg [.p, .p, .p, .p, .p, .p, .p, .p, .p, .p, .p, .p] ?_))
   refine .mv rfl rfl <| .P rfl (qLe underlying244 rfl) <| .P rfl (q_gtr rfl rfl) <| .mv rfl rfl ?_
   refine .off rfl (off_of rfl rfl rfl (by simp)) ?_
   refine .off rfl (off_of rfl rfl rfl (by simp)) ?_
   refine .off rfl (off_of rfl rfl rfl (by simp)) ?_
   refine .off rfl (off_of rfl rfl rfl (by simp)) ?_
   refine .off rfl (off_of rfl rfl rfl (by simp)) ?_
   refine .off rfl (off_of rfl rfl rfl (by simp)) ?_
   refine .off rfl (off_of rfl rfl rfl (by simp)) ?_
   refine .P rfl (q_pickF rfl (by simp) rfl) <| .nil ?_
   refine Run.condF rfl rfl ?_
   refine Run.exit (tX0 (bX0 ?_))
   refine Run.seq (Run.reg [.p, .p] ?_)
   refine .mv rfl rfl <| .ag rfl rfl <| .nil ?_
   refine Run.ret (?_)
   exact ret1 rfl (Sub.snap (by rw [← hx]; rfl))
  ·skip
   refine Run.seq (Run.seq (Run.reg [.p, .p, .p, .p, .p, .p, .p, .p, .p, .p, .p, .p] ?_))
   refine .mv rfl rfl <| .P rfl (qLe underlying244 rfl) <| .P rfl (q_gtr rfl rfl) <| .mv rfl rfl <| .p rfl (on_of rfl rfl rfl (by simp)) (fun _ => qMv rfl _) <| .p rfl (on_of rfl rfl rfl (by simp)) (fun _ => qMv rfl _) <| .p rfl (on_of rfl rfl rfl (by simp)) (fun _ => qLe underlying244 rfl _) <| .p rfl (on_of rfl rfl rfl (by simp)) (fun _ => q_sub rfl rfl (wrap64_ok (by omega) (by simp at *; omega)) _) <| .p rfl (on_of rfl rfl rfl (by simp)) (fun _ => qIi underlying244 sizeOf184 rfl rfl (by simp) (idx_end (fun (n : Nat) => [D.raw (.int .u64 (n : Int))]) i x rfl) _) <| .p rfl (on_of rfl rfl rfl (by simp)) (fun _ => qLo isAgg184 rfl _) <| .p rfl (on_of rfl rfl rfl (by simp)) (fun _ => q_eql rfl rfl _) <| .P rfl (q_pickT rfl (by simp) rfl) <| .nil ?_
   refine Run.cond rfl (fun h1 => ?_) (fun h1 => ?_)
   ·have ph1 := h1; try simp only [bs] at ph1
    refine Run.skip ?_
    refine Run.block ?_
    refine Run.reg [.p, .p, .p, .p, .p, .p] ?_
    refine .mv rfl rfl <| .mv rfl rfl <| .P rfl (qLe underlying244 rfl) <| .P rfl (q_sub rfl rfl (wrap64_ok (by omega) (by simp at *; omega))) <| .P rfl (q_sliceI underlying244 sizeOf184 rfl (h := i.length) (r := encMag i) (.inl ⟨rfl, rfl⟩) (.inr ⟨_, _, rfl, (opI rfl (by simp))⟩) (by omega) (by simp) (by simp)) <| .ag rfl rfl <| .nil ?_
    refine Run.nil (bN0 ?_)
    refine Run.nil (tN0 ?_)
    exact ⟨⟨i, by rw [← hx, show x = 0 by omega, cutM_zero], by simp at hl; omega⟩, by simp, Le.mk rfl (.s rfl rfl .nil) .nil⟩
   ·have ph1 := h1; try simp only [bs] at ph1
    refine Run.exit (tX0 (bX0 ?_))
    refine Run.seq (Run.reg [.p, .p] ?_)
    refine .mv rfl rfl <| .ag rfl rfl <| .nil ?_
    refine Run.ret (?_)
    exact ret1 rfl (Sub.snap (by (rw [← hx, cutM_pos i (by omega)])))
theorem digits_ok (s : Str) : Fc Tryz.prog 282 [.str s] (.tup [.str (digits s).1, .b (digits s).2]) := by
 refine Fc.mk' [2, 3] func282 rfl ntmps282 rfl rfl rfl (fun t w => results_tmp2 results282 t _ w) ?_
 refine go [] ?_
 refine oP (qCa call324 rfl (cutPrefix_ok _)) ?_
 refine oP (qCa call180 rfl (trimDigits_ok _)) ?_
 refine br (fun h1 => ?_) (fun h1 => ?_)
 ·exact rx2 rfl rfl (Sub.str (by grind [digits, trimD_nil])) (Sub.bool (by grind [digits, trimD_nil]))
 ·refine oP (qCa call325 rfl (trimLeft0_ok _)) ?_
  exact rx2 rfl rfl (Sub.str (by grind [digits, trimD_nil])) (Sub.bool (by grind [digits, trimD_nil]))
structure read_ok_L0 (s : Str) where
 rest : Str
 tl : Str
 e : Int
 done : List Nat
 hr : (digits s).1 = rest ++ tl
 he : (0 < e → e = rest.length) ∧ (e ≤ 0 → rest = [])
 hx : done ++ groupsOf rest = groupsOf (digits s).1
theorem read_ok (s : Str) (hs : s.length ≤ 100000) : Fc Tryz.prog 238 [.str s] (.agg (encNum (digits s).2 (groupsOf (digits s).1))) := by
 refine Fc.mkR func238 rfl ntmps238 rfl rfl rfl ?_
 have hdl := digits_len s
 have hdd := digits_dig s
 have hgl := groupsOf_len (digits s).1
 refine go [99999] ?_
 refine oP (qCa call282 rfl (digits_ok _)) ?_
 refine Run.loop (ι := read_ok_L0 s) (fun sx => [(2, .box 0 0), (3, .str (digits s).1), (4, .b (digits s).2), (5, .gs 1 sx.done.length), (6, .i sx.e)]) (fun sx => [(0, .cells [.b false, .raw (.slice none 0 0)]), (1, .arr 1 (encMag sx.done))]) (fun sx => sx.rest.length) ⟨(digits s).1, [], (digits s).1.length, [], by simp, ⟨fun _ => rfl, fun h => List.length_eq_zero_iff.1 (by omega)⟩, rfl⟩ ?_ ?_
 ·exact (Le.own0 1 1).trans <| Le.mk rfl (.s rfl rfl (.s rfl rfl (.s rfl rfl (.cons rfl (Sub.gsNil _) rfl (.s rfl rfl .nil))))) (.cons rfl rfl (.arr rfl (by simp) .nil))
 ·rintro ⟨rest, tl, e, done, hr, he, hx⟩
  show Run _ _ _ _ [(2, .box 0 0), (3, .str (digits s).1), (4, .b (digits s).2), (5, .gs 1 done.length), (6, .i e)] [(0, .cells [.b false, .raw (.slice none 0 0)]), (1, .arr 1 (encMag done))]
  have hrl := congrArg List.length hr
  simp only [List.length_append] at hrl
  have hxl := congrArg List.length hx
  simp only [List.length_append] at hxl
  refine go [99999] ?_
  refine br (fun h1 => ?_) (fun h1 => ?_)
  ·have ph1 := h1; try simp only [bs] at ph1
   refine sd (w64 (by omega)) ?_
   refine oP (q_sliceS underlying9 rfl (l := rest.length - 9) (h := rest.length) (r := rest.drop (rest.length - 9)) (.inr ⟨_, _, rfl, opI rfl (by omega)⟩) (.inr ⟨_, _, rfl, opI rfl (by omega)⟩) (by omega) (by rw [hr]; simp) (by rw [hr]; simp [List.drop_append, List.take_append] <;> omega)) ?_
   refine oP (qCa call283 rfl (parseUint_ok _ (by intro e; have := congrArg List.length e; simp at this; omega) (by rw [hr, List.all_append, Bool.and_eq_true] at hdd; have := hdd.1; rw [← List.take_append_drop (rest.length - 9) rest, List.all_append, Bool.and_eq_true] at this; exact this.2) (by simp; omega))) ?_
   refine oP (qBu (n := 1) (rows := encMag [natVal (rest.drop (rest.length - 9))]) underlying244 sizeOf184 rfl rfl rfl zeroValue184 rfl rfl rfl rfl rfl rfl rfl) ?_
   refine oW (q_append 2 underlying244 underlying244 sizeOf184 typeInfo184 zeroValue184 rfl (bt := 8) rfl rfl rfl rfl (by simp) rfl rfl (by simp; omega)) ?_
   refine sd (w64 (by omega)) ?_
   exact nx ⟨rest.take (rest.length - 9), rest.drop (rest.length - 9) ++ tl, e - 9, done ++ [natVal (rest.drop (rest.length - 9))], by rw [hr, ← List.append_assoc, List.take_append_drop], ⟨fun h => by simp; omega, fun h => List.length_eq_zero_iff.1 (by simp; omega)⟩, by rw [← hx, groupsOf_step (s := rest) (by omega)]; simp⟩ (by simp; omega) ((Le.mk (obs' := [(0, _), (2, _)]) rfl (show EnvLe _ _ [(2, _), (3, _), (4, _), (5, _), (6, _)] from (.s rfl rfl (.s rfl rfl (.s rfl rfl (.s rfl rfl (.s rfl rfl .nil)))))) (.cons (i := 0) rfl rfl (.cons (i := 2) rfl rfl .nil))).trans <| (Le.ren 5 2 1 rfl rfl (by simp) rfl).trans <| Le.mk rfl (.s rfl rfl (.s rfl rfl (.s rfl rfl (.cons rfl (Sub.gs (by simp)) rfl (.s rfl rfl .nil))))) (.cons rfl rfl (.arr rfl (by simp) .nil)))
  ·have ph1 := h1; try simp only [bs] at ph1
   refine go [99999] ?_
   refine Run.weak (Le.freezeO 0 1 1 rfl rfl rfl (by simp)) ?_
   refine Run.ret (?_)
   exact Rd.cA results238 isAgg246 sizeOf246 rfl rfl rfl (Sub.agg (.r (.cons (Sub.snap (by rw [← hx, he.2 (by omega), groupsOf_nil, List.append_nil])) .nil)))
structure text_ok_L0 (neg : Bool) (m : List Nat) where
 lo : List Nat
 hi : List Nat
 st : Str
 hx : cutM m = lo ++ hi
 ht : st ++ padAll lo = textM neg m
 hne : st ≠ []
 hst : st.length ≤ 21 + 9 * hi.length
theorem text_ok (neg : Bool) (m : List Nat) (hm : magOK m) (hs : m.length ≤ 20000) : Fc Tryz.prog 239 [.agg (encNum neg m)] (.str (textM neg m)) := by
 refine Fc.mk' [2] func239 rfl ntmps239 rfl rfl rfl (fun t w => results_tmp results239 t _ w) ?_
 have hcl := cutM_len m
 have hcm := cutM_ok hm
 have hd0 : (cutM m).length ≠ 0 → (Lib.decDigits (lastN (cutM m))).length ≤ 9 := fun h => dec9 (hcm _ (last_mem h))
 refine Run.seq (Run.reg [.w, .p] ?_)
 refine .W rfl (q_boxA 0 rfl rfl) <| .ag rfl rfl <| .nil ?_
 refine Run.seq (Run.reg [.p, .r, .p, .p] ?_)
 refine .P rfl (q_fieldB (n := 0) 244 1 underlying246 sizeOf244 rfl rfl) <| .R rfl (q_load1 isAgg244 rfl rfl rfl) <| .P rfl (qCa call284 rfl (cut_ok _)) <| .ag rfl rfl <| .nil ?_
 refine Run.seq (Run.seq (Run.reg [.p, .p, .p] ?_))
 refine .mv rfl rfl <| .P rfl (qLe underlying244 rfl) <| .P rfl (q_eql rfl rfl) <| .nil ?_
 refine Run.cond rfl (fun h1 => ?_) (fun h1 => ?_)
 ·refine Run.seq (Run.reg [.p] ?_)
  refine .ag rfl rfl <| .nil ?_
  refine Run.ret (?_)
  exact ret1 rfl (Sub.str (by grind [textM]))
 ·have ph1 := h1; try simp only [bs] at ph1
  refine Run.skip ?_
  refine Run.seq (Run.reg [.w] ?_)
  refine .W rfl (q_allocBld 7000 7001 zeroValue291 rfl) <| .nil ?_
  refine Run.seq (Run.seq (Run.reg [.p, .r] ?_))
  refine .P rfl (q_fieldB (n := 0) 4 0 underlying246 sizeOf4 rfl rfl) <| .R rfl (q_load1 isAgg4 rfl rfl rfl) <| .nil ?_
  refine Run.cond rfl (fun h2 => ?_) (fun h2 => ?_)
  ·refine Run.reg [.w] ?_
   refine .W rfl (q_callO call285 rfl (bldWriteByte_ok _ 45 (by simp)) (.cons rfl rfl (.cons rfl rfl .nil)) rfl rfl) <| .nil ?_
   refine Run.weak (Le.mk (obs' := [(0, _), (7000, _), (7002, _)]) rfl (show EnvLe _ _ [(0, _), (1, _), (2, _), (7, _), (8, _), (9, _), (3, _), (10, _), (11, _), (12, _), (4, _), (13, _), (14, _)] from (.s rfl rfl (.s rfl rfl (.s rfl rfl (.s rfl rfl (.s rfl rfl (.s rfl rfl (.s rfl rfl (.s rfl rfl (.s rfl rfl (.s rfl rfl (.s rfl rfl (.s rfl rfl (.s rfl rfl .nil)))))))))))))) (.cons (i := 0) rfl rfl (.cons (i := 7000) rfl rfl (.cons (i := 7002) rfl rfl .nil)))) ?_
   refine Run.seq (Run.reg [.p, .p, .p, .p, .p, .p, .p, .w] ?_)
   refine .mv rfl rfl <| .mv rfl rfl <| .P rfl (qLe underlying244 rfl) <| .P rfl (q_sub rfl rfl (wrap64_ok (by omega) (by simp; omega))) <| .P rfl (qIi underlying244 sizeOf184 rfl rfl (by simp; omega) (idx_lastN (pre := cutM m) (rest := []) (by simp) (by omega) (by simp))) <| .P rfl (qLo isAgg184 rfl) <| .P rfl (qCa call287 rfl (formatUint_ok _ (by have := hcm _ (last_mem (l := cutM m) (by omega)); unfold gB at this; omega))) <| .W rfl (q_callO call286 rfl (bldWriteString_ok2 _ _ (by simp; omega)) (.cons rfl rfl (.cons rfl rfl .nil)) rfl rfl) <| .nil ?_
   refine Run.weak (Le.mk (obs' := [(0, _), (7000, _), (7001, _)]) rfl (show EnvLe _ _ [(0, _), (1, _), (2, _), (7, _), (8, _), (9, _), (3, _), (10, _), (11, _), (12, _), (4, _), (13, _), (14, _), (16, _), (17, _), (18, _), (19, _), (20, _), (21, _), (22, _)] from (.s rfl rfl (.s rfl rfl (.s rfl rfl (.s rfl rfl (.s rfl rfl (.s rfl rfl (.s rfl rfl (.s rfl rfl (.s rfl rfl (.s rfl rfl (.s rfl rfl (.s rfl rfl (.s rfl rfl (.s rfl rfl (.s rfl rfl (.s rfl rfl (.s rfl rfl (.s rfl rfl (.s rfl rfl (.s rfl rfl .nil))))))))))))))))))))) (.cons (i := 0) rfl rfl (.cons (i := 7000) rfl rfl (.cons (i := 7001) rfl rfl .nil)))) ?_
   refine Run.seq (Run.seq (Run.reg [.p, .p, .p, .p] ?_))
   refine .mv rfl rfl <| .P rfl (qLe underlying244 rfl) <| .P rfl (q_sub rfl rfl (wrap64_ok (by omega) (by simp; omega))) <| .ag rfl rfl <| .nil ?_
   refine Run.block ?_
   refine Run.loop (ι := text_ok_L0 neg m) (fun sx => [(1, .box 0 0), (3, sMag (cutM m)), (4, .box 7000 0), (5, .i ((sx.lo.length : Int) - 1))]) (fun sx => [(0, .cells (encNum neg m)), (7000, .bld 7001 sx.st.length), (7001, .ba sx.st)]) (fun sx => sx.lo.length) ⟨(cutM m).dropLast, [lastN (cutM m)], ([] ++ [45]) ++ Lib.decDigits (lastN (cutM m)), dropLast_eq (by omega), by unfold textM; rw [if_neg (by omega)]; simp at *; simp [*], by simp [dec_ne], by have := dec9 (hcm _ (last_mem (l := cutM m) (by omega))); simp; omega⟩ ?_ ?_
   ·exact Le.mk rfl (.s rfl rfl (.s rfl rfl (.s rfl rfl (.cons rfl (Sub.int (by simp; omega)) rfl .nil)))) (.cons rfl rfl (.cons rfl rfl (.cons rfl rfl .nil)))
   ·rintro ⟨lo, hi, st, hx, ht, hne, hst⟩
    show Run _ _ _ _ [(1, .box 0 0), (3, sMag (cutM m)), (4, .box 7000 0), (5, .i ((lo.length : Int) - 1))] [(0, .cells (encNum neg m)), (7000, .bld 7001 st.length), (7001, .ba st)]
    have hxl := congrArg List.length hx
    simp only [List.length_append] at hxl
    have hy : lo.length ≠ 0 → lastN lo < gB := fun h => hcm _ (by rw [hx]; exact List.mem_append_left _ (last_mem h))
    have hd9 : lo.length ≠ 0 → (Lib.decDigits (lastN lo)).length ≤ 9 := fun h => dec9 (hy h)
    refine Run.seq (Run.seq (Run.reg [.p, .p] ?_))
    refine .mv rfl rfl <| .P rfl (q_geq rfl rfl) <| .nil ?_
    refine Run.cond rfl (fun h3 => ?_) (fun h3 => ?_)
    ·have ph3 := h3; try simp only [bs] at ph3
     refine Run.skip ?_
     refine Run.seq ?_
     refine Run.block ?_
     refine Run.seq (Run.reg [.p, .p, .p, .p, .p, .p] ?_)
     refine .mv rfl rfl <| .mv rfl rfl <| .P rfl (qIi underlying244 sizeOf184 rfl rfl (by omega) (idx_lastN hx (by omega) rfl)) <| .P rfl (qLo isAgg184 rfl) <| .P rfl (qCa call287 rfl (formatUint_ok _ (by unfold gB at hy; omega))) <| .ag rfl rfl <| .nil ?_
     refine Run.reg [.p, .p, .p, .p, .p, .p, .w] ?_
     refine .mv rfl rfl <| .P rfl (q_lenS underlying9 rfl) <| .P rfl (q_sub rfl rfl (w64 (by omega))) <| .P rfl (qCa call288 rfl (repeat0_ok _ (by omega) (by omega))) <| .mv rfl rfl <| .P rfl (q_addS rfl rfl (by unfold big; simp; omega) rfl) <| .W rfl (q_callO call286 rfl (bldWriteString_ok _ _ (by simp; omega)) (.cons rfl rfl (.cons rfl rfl .nil)) rfl rfl) <| .nil ?_
     refine Run.nil (bN0 ?_)
     refine Run.weak (Le.mk (obs' := [(0, _), (7000, _), (7002, _)]) rfl (show EnvLe _ _ [(1, _), (3, _), (4, _), (5, _), (27, _), (28, _), (31, _), (32, _), (33, _), (34, _), (35, _), (6, _), (36, _), (37, _), (38, _), (39, _), (40, _), (41, _)] from (.s rfl rfl (.s rfl rfl (.s rfl rfl (.s rfl rfl (.s rfl rfl (.s rfl rfl (.s rfl rfl (.s rfl rfl (.s rfl rfl (.s rfl rfl (.s rfl rfl (.s rfl rfl (.s rfl rfl (.s rfl rfl (.s rfl rfl (.s rfl rfl (.s rfl rfl (.s rfl rfl .nil))))))))))))))))))) (.cons (i := 0) rfl rfl (.cons (i := 7000) rfl rfl (.cons (i := 7002) rfl rfl .nil)))) ?_
     refine Run.reg [.p, .p, .p] ?_
     refine .mv rfl rfl <| .P rfl (q_sub rfl rfl (w64 (by omega))) <| .ag rfl rfl <| .nil ?_
     refine Run.nil (tN0 ?_)
     exact ⟨⟨lo.dropLast, lastN lo :: hi, st ++ (List.replicate (9 - (Lib.decDigits (lastN lo)).length) 48 ++ Lib.decDigits (lastN lo)), by rw [hx]; conv => { lhs; rw [dropLast_eq (l := lo) (by omega)] }; simp, by rw [← ht, padAll_step (lo := lo) (by omega)]; simp [pad9], by simp [hne], by simp; omega⟩, by simp; omega, (Le.mk (obs' := [(0, _), (7000, _), (7002, _)]) rfl (show EnvLe _ _ [(1, _), (3, _), (4, _), (5, _)] from (.s rfl rfl (.s rfl rfl (.s rfl rfl (.s rfl rfl .nil))))) (.cons (i := 0) rfl rfl (.cons (i := 7000) rfl rfl (.cons (i := 7002) rfl rfl .nil)))).trans <| (Le.renB 7000 7002 7001 rfl rfl (by simp) rfl).trans <| Le.mk rfl (.s rfl rfl (.s rfl rfl (.s rfl rfl (.cons rfl (Sub.int (by simp; omega)) rfl .nil)))) (.cons rfl rfl (.eq rfl (by simp) rfl (.eq rfl (by simp) rfl .nil)))⟩
    ·have ph3 := h3; try simp only [bs] at ph3
     refine Run.exit (tX0 (bX0 ?_))
     refine Run.seq (Run.reg [.w, .p] ?_)
     refine .W rfl (q_callO call289 rfl (bldString_ok 7000 7001 _ _ hne rfl (by unfold big; omega) rfl) (.cons rfl rfl (.cons rfl rfl .nil)) rfl rfl) <| .ag rfl rfl <| .nil ?_
     refine Run.ret (?_)
     exact ret1 rfl (Sub.str (by have e : lo = [] := List.length_eq_zero_iff.mp (by omega); rw [e] at ht; rw [← ht]; simp [padAll_nil]))
  ·refine Run.skip ?_
   refine Run.seq (Run.reg [.p, .p, .p, .p, .p, .p, .p, .w] ?_)
   refine .mv rfl rfl <| .mv rfl rfl <| .P rfl (qLe underlying244 rfl) <| .P rfl (q_sub rfl rfl (wrap64_ok (by omega) (by simp; omega))) <| .P rfl (qIi underlying244 sizeOf184 rfl rfl (by simp; omega) (idx_lastN (pre := cutM m) (rest := []) (by simp) (by omega) (by simp))) <| .P rfl (qLo isAgg184 rfl) <| .P rfl (qCa call287 rfl (formatUint_ok _ (by have := hcm _ (last_mem (l := cutM m) (by omega)); unfold gB at this; omega))) <| .W rfl (q_callO call286 rfl (bldWriteString_ok _ _ (by simp; omega)) (.cons rfl rfl (.cons rfl rfl .nil)) rfl rfl) <| .nil ?_
   refine Run.weak (Le.mk (obs' := [(0, _), (7000, _), (7002, _)]) rfl (show EnvLe _ _ [(0, _), (1, _), (2, _), (7, _), (8, _), (9, _), (3, _), (10, _), (11, _), (12, _), (4, _), (13, _), (14, _), (16, _), (17, _), (18, _), (19, _), (20, _), (21, _), (22, _)] from (.s rfl rfl (.s rfl rfl (.s rfl rfl (.s rfl rfl (.s rfl rfl (.s rfl rfl (.s rfl rfl (.s rfl rfl (.s rfl rfl (.s rfl rfl (.s rfl rfl (.s rfl rfl (.s rfl rfl (.s rfl rfl (.s rfl rfl (.s rfl rfl (.s rfl rfl (.s rfl rfl (.s rfl rfl (.s rfl rfl .nil))))))))))))))))))))) (.cons (i := 0) rfl rfl (.cons (i := 7000) rfl rfl (.cons (i := 7002) rfl rfl .nil)))) ?_
   refine Run.seq (Run.seq (Run.reg [.p, .p, .p, .p] ?_))
   refine .mv rfl rfl <| .P rfl (qLe underlying244 rfl) <| .P rfl (q_sub rfl rfl (wrap64_ok (by omega) (by simp; omega))) <| .ag rfl rfl <| .nil ?_
   refine Run.block ?_
   refine Run.loop (ι := text_ok_L0 neg m) (fun sx => [(1, .box 0 0), (3, sMag (cutM m)), (4, .box 7000 0), (5, .i ((sx.lo.length : Int) - 1))]) (fun sx => [(0, .cells (encNum neg m)), (7000, .bld 7001 sx.st.length), (7001, .ba sx.st)]) (fun sx => sx.lo.length) ⟨(cutM m).dropLast, [lastN (cutM m)], [] ++ Lib.decDigits (lastN (cutM m)), dropLast_eq (by omega), by unfold textM; rw [if_neg (by omega)]; simp at *; simp [*], by simp [dec_ne], by have := dec9 (hcm _ (last_mem (l := cutM m) (by omega))); simp; omega⟩ ?_ ?_
   ·exact (Le.mk (obs' := [(0, _), (7000, _), (7002, _)]) rfl (show EnvLe _ _ [(1, _), (3, _), (4, _), (5, _)] from (.s rfl rfl (.s rfl rfl (.s rfl rfl (.s rfl rfl .nil))))) (.cons (i := 0) rfl rfl (.cons (i := 7000) rfl rfl (.cons (i := 7002) rfl rfl .nil)))).trans <| (Le.renB 7000 7002 7001 rfl rfl (by simp) rfl).trans <| Le.mk rfl (.s rfl rfl (.s rfl rfl (.s rfl rfl (.cons rfl (Sub.int (by simp; omega)) rfl .nil)))) (.cons rfl rfl (.cons rfl rfl (.cons rfl rfl .nil)))
   ·rintro ⟨lo, hi, st, hx, ht, hne, hst⟩
    show Run _ _ _ _ [(1, .box 0 0), (3, sMag (cutM m)), (4, .box 7000 0), (5, .i ((lo.length : Int) - 1))] [(0, .cells (encNum neg m)), (7000, .bld 7001 st.length), (7001, .ba st)]
    have hxl := congrArg List.length hx
    simp only [List.length_append] at hxl
    have hy : lo.length ≠ 0 → lastN lo < gB := fun h => hcm _ (by rw [hx]; exact List.mem_append_left _ (last_mem h))
    have hd9 : lo.length ≠ 0 → (Lib.decDigits (lastN lo)).length ≤ 9 := fun h => dec9 (hy h)
    refine Run.seq (Run.seq (Run.reg [.p, .p] ?_))
    refine .mv rfl rfl <| .P rfl (q_geq rfl rfl) <| .nil ?_
    refine Run.cond rfl (fun h4 => ?_) (fun h4 => ?_)
    ·have ph4 := h4; try simp only [bs] at ph4
     refine Run.skip ?_
     refine Run.seq ?_
     refine Run.block ?_
     refine Run.seq (Run.reg [.p, .p, .p, .p, .p, .p] ?_)
     refine .mv rfl rfl <| .mv rfl rfl <| .P rfl (qIi underlying244 sizeOf184 rfl rfl (by omega) (idx_lastN hx (by omega) rfl)) <| .P rfl (qLo isAgg184 rfl) <| .P rfl (qCa call287 rfl (formatUint_ok _ (by unfold gB at hy; omega))) <| .ag rfl rfl <| .nil ?_
     refine Run.reg [.p, .p, .p, .p, .p, .p, .w] ?_
     refine .mv rfl rfl <| .P rfl (q_lenS underlying9 rfl) <| .P rfl (q_sub rfl rfl (w64 (by omega))) <| .P rfl (qCa call288 rfl (repeat0_ok _ (by omega) (by omega))) <| .mv rfl rfl <| .P rfl (q_addS rfl rfl (by unfold big; simp; omega) rfl) <| .W rfl (q_callO call286 rfl (bldWriteString_ok _ _ (by simp; omega)) (.cons rfl rfl (.cons rfl rfl .nil)) rfl rfl) <| .nil ?_
     refine Run.nil (bN0 ?_)
     refine Run.weak (Le.mk (obs' := [(0, _), (7000, _), (7002, _)]) rfl (show EnvLe _ _ [(1, _), (3, _), (4, _), (5, _), (27, _), (28, _), (31, _), (32, _), (33, _), (34, _), (35, _), (6, _), (36, _), (37, _), (38, _), (39, _), (40, _), (41, _)] from (.s rfl rfl (.s rfl rfl (.s rfl rfl (.s rfl rfl (.s rfl rfl (.s rfl rfl (.s rfl rfl (.s rfl rfl (.s rfl rfl (.s rfl rfl (.s rfl rfl (.s rfl rfl (.s rfl rfl (.s rfl rfl (.s rfl rfl (.s rfl rfl (.s rfl rfl (.s rfl rfl .nil))))))))))))))))))) (.cons (i := 0) rfl rfl (.cons (i := 7000) rfl rfl (.cons (i := 7002) rfl rfl .nil)))) ?_
     refine Run.reg [.p, .p, .p] ?_
     refine .mv rfl rfl <| .P rfl (q_sub rfl rfl (w64 (by omega))) <| .ag rfl rfl <| .nil ?_
     refine Run.nil (tN0 ?_)
     exact ⟨⟨lo.dropLast, lastN lo :: hi, st ++ (List.replicate (9 - (Lib.decDigits (lastN lo)).length) 48 ++ Lib.decDigits (lastN lo)), by rw [hx]; conv => { lhs; rw [dropLast_eq (l := lo) (by omega)] }; simp, by rw [← ht, padAll_step (lo := lo) (by omega)]; simp [pad9], by simp [hne], by simp; omega⟩, by simp; omega, (Le.mk (obs' := [(0, _), (7000, _), (7002, _)]) rfl (show EnvLe _ _ [(1, _), (3, _), (4, _), (5, _)] from (.s rfl rfl (.s rfl rfl (.s rfl rfl (.s rfl rfl .nil))))) (.cons (i := 0) rfl rfl (.cons (i := 7000) rfl rfl (.cons (i := 7002) rfl rfl .nil)))).trans <| (Le.renB 7000 7002 7001 rfl rfl (by simp) rfl).trans <| Le.mk rfl (.s rfl rfl (.s rfl rfl (.s rfl rfl (.cons rfl (Sub.int (by simp; omega)) rfl .nil)))) (.cons rfl rfl (.eq rfl (by simp) rfl (.eq rfl (by simp) rfl .nil)))⟩
    ·have ph4 := h4; try simp only [bs] at ph4
     refine Run.exit (tX0 (bX0 ?_))
     refine Run.seq (Run.reg [.w, .p] ?_)
     refine .W rfl (q_callO call289 rfl (bldString_ok 7000 7001 _ _ hne rfl (by unfold big; omega) rfl) (.cons rfl rfl (.cons rfl rfl .nil)) rfl rfl) <| .ag rfl rfl <| .nil ?_
     refine Run.ret (?_)
     exact ret1 rfl (Sub.str (by have e : lo = [] := List.length_eq_zero_iff.mp (by omega); rw [e] at ht; rw [← ht]; simp [padAll_nil]))
end Go.T
