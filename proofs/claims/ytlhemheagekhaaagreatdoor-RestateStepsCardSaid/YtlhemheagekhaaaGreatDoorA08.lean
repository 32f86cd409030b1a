/-
  Contracts of the functions that the statement reaches, and the logic in which they are proved (no condition): parts S1, S2, S3, S4, Spec8, Spec9, Core23, Spec10, Spec11, Spec12, Spec13, Spec14, Core24, Core25.
-/
import Derived.Test.YtlhemheagekhaaaGreatDoorA07
import Derived.WalkKit
import Derived.BigCall
import Derived.BigGuard
import Derived.Lib.ItoaMem
import Derived.Lib.Walk
import Derived.Shelf.Strings.SlTrimAscii
import Derived.Laws.MakeOwn
import Derived.Lib.Bytealg
set_option linter.all false
namespace Go.T
open Go Go.Proofs
theorem Keep.below {w w' : World} (h : Go.RowKit.Below w.heap.size w w') : Keep w w' := ⟨h.size, fun b hb => h.block b hb, h.os, h.output, .inr trivial⟩
/-- strings.CutPrefix at a sign. -/
theorem cutPrefix_ok (s : Str) : Fc Tryz.prog 174 [.str s, .str [45]] (.tup [.str (stripNeg s).1, .b (stripNeg s).2]) := .of_calls fun w O ρ vals _ hv => by
  obtain ⟨rfl, hb, _⟩ := hv.str2
  refine (Tryz.strings_CutPrefix ⟨s.toArray⟩ ⟨[45].toArray⟩ w).mono ?_
  rintro e w' ⟨rfl, rfl⟩
  have hs := stripNeg_len s
  refine ⟨_, rfl, ?_, Keep.refl _⟩
  have h1 : Lib.hasPrefix s [45] = (stripNeg s).2 := by
    cases s with
    | nil => rfl
    | cons c r =>
      by_cases h : c = 45
      · subst h; simp [Lib.hasPrefix, stripNeg, List.isPrefixOf]
      · have : stripNeg (c :: r) = (c :: r, false) := by unfold stripNeg; split <;> simp_all
        simp [Lib.hasPrefix, this, List.isPrefixOf]; exact fun e => h e.symm
  have h2 : Lib.trimPrefix s [45] = (stripNeg s).1 := by
    unfold Lib.trimPrefix
    rw [h1]
    cases s with
    | nil => rfl
    | cons c r =>
      by_cases h : c = 45
      · subst h; simp [stripNeg]
      · have : stripNeg (c :: r) = (c :: r, false) := by unfold stripNeg; split <;> simp_all
        simp [this]
  simp only [V]
  refine ⟨_, rfl, ?_⟩
  simp only [Vs]
  exact ⟨_, _, rfl, by simp only [V]; exact ⟨by rw [← h2], by omega⟩, _, _, rfl, by simp only [V]; rw [← h1], rfl⟩
theorem dropWhile_dropZ (s : Str) : s.dropWhile (· == 48) = dropZ s := by
  induction s with
  | nil => rfl
  | cons c r ih =>
    by_cases h : c = 48
    · subst h; simpa [dropZ] using ih
    · have : dropZ (c :: r) = c :: r := by unfold dropZ; split <;> simp_all
      rw [this]; simp [h]
/-- strings.TrimLeft at zeros. -/
theorem trimLeft0_ok (s : Str) : Fc Tryz.prog 176 [.str s, .str [48]] (.str (dropZ s)) := .of_calls fun w O ρ vals _ hv => by
  obtain ⟨rfl, hb, _⟩ := hv.str2
  refine (Tryz.strings_TrimLeft_one ⟨s.toArray⟩ 48 (by decide) w).mono ?_
  rintro e w' ⟨rfl, rfl⟩
  refine ⟨_, rfl, ?_, Keep.refl _⟩
  have := dropZ_len s
  simp only [V]
  exact ⟨by simp [Lib.trimLeftB, dropWhile_dropZ], by omega⟩
theorem parseM_ok : ∀ (s : Str) (acc : Nat), s.all isDig = true → acc * 10 ^ s.length + natVal s < 1000000000000000000 → Lib.parseUintM (2 ^ 64 - 1) acc s = .ok (acc * 10 ^ s.length + natVal s)
  | [], acc, _, _ => by simp [Lib.parseUintM, natVal]
  | c :: s, acc, h, hb => by
    simp only [List.all_cons, Bool.and_eq_true] at h
    have hd := h.1
    simp only [isDig, Bool.and_eq_true, decide_eq_true_eq] at hd
    have key : ∀ (s : Str) (a : Nat), s.foldl (fun a c => 10 * a + (c.toNat - 48)) a = a * 10 ^ s.length + natVal s := by
      intro s
      induction s with
      | nil => intro a; simp [natVal]
      | cons c r ih =>
        intro a
        rw [List.foldl_cons, ih]
        have : natVal (c :: r) = (c.toNat - 48) * 10 ^ r.length + natVal r := by
          show (c :: r).foldl _ 0 = _
          rw [List.foldl_cons, ih]; simp
        rw [this, List.length_cons, Nat.pow_succ, Nat.add_mul]
        have : 10 * a * 10 ^ r.length = a * (10 ^ r.length * 10) := by rw [Nat.mul_comm 10 a, Nat.mul_assoc, Nat.mul_comm 10]
        omega
    have hv : natVal (c :: s) = (c.toNat - 48) * 10 ^ s.length + natVal s := by
      show (c :: s).foldl _ 0 = _
      rw [List.foldl_cons, key]; simp
    have he : acc * 10 ^ (c :: s).length + natVal (c :: s) = (acc * 10 + (c.toNat - 48)) * 10 ^ s.length + natVal s := by
      rw [hv, List.length_cons, Nat.pow_succ, Nat.add_mul, ← Nat.mul_assoc, Nat.mul_right_comm]; omega
    rw [he] at hb ⊢
    have hp : 1 ≤ 10 ^ s.length := Nat.one_le_pow _ _ (by omega)
    have hb2 : acc * 10 + (c.toNat - 48) < 1000000000000000000 := by
      have : (acc * 10 + (c.toNat - 48)) * 1 ≤ (acc * 10 + (c.toNat - 48)) * 10 ^ s.length := Nat.mul_le_mul_left _ hp
      omega
    rw [Lib.parseUintM, if_pos hd, if_neg (by omega), if_neg (by omega)]
    exact parseM_ok s _ h.2 hb
/-- strconv.ParseUint at up to 17 digits. -/
theorem parseUint_ok (s : Str) (h0 : s ≠ []) (hd : s.all isDig = true) (hl : s.length ≤ 17) : Fc Tryz.prog 130 [.str s, .raw (.int .i64 10), .raw (.int .i64 64)] (.tup [.raw (.int .u64 (natVal s)), .raw .nilIface]) := .of_calls fun w O ρ vals _ hv => by
  simp only [Vs, V] at hv
  obtain ⟨u, us, rfl, ⟨rfl, hb⟩, u', us', rfl, rfl, u'', us'', rfl, rfl, rfl⟩ := hv
  have hsm := natVal_small hd hl
  refine (Tryz.strconv_ParseUint_10_at64_ok ⟨s.toArray⟩ (by simp [ByteArray.size]; omega) (natVal s) ?_ w).mono ?_
  · have := parseM_ok s 0 hd (by omega)
    simp only [Lib.parseUintB, if_neg h0]
    simpa using this
  · rintro e w' ⟨rfl, hw⟩
    refine ⟨_, rfl, ?_, ?_⟩
    · simp only [V]; exact ⟨_, rfl, by simp only [Vs]; exact ⟨_, _, rfl, by simp [V], _, _, rfl, by simp [V], rfl⟩⟩
    · rcases hw with rfl | rfl
      · exact Keep.refl _
      · exact Keep.below (Lib.below_freeze ((RowKit.Below.drew (RowKit.Below.refl _ w)).alloc (Nat.le_refl _) _) (p := ⟨w.heap.size, _, none⟩) (Nat.le_refl _) _)
theorem repeatL_one (c : UInt8) : ∀ n, Lib.repeatL [c] n = List.replicate n c
  | 0 => rfl
  | n + 1 => by simp [Lib.repeatL, repeatL_one c n, List.replicate_succ]
/-- strings.Repeat of a zero. -/
theorem repeat0_ok (n : Int) (h0 : 0 ≤ n) (h1 : n ≤ 1000) : Fc Tryz.prog 135 [.str [48], .i n] (.str (List.replicate n.toNat 48)) := .of_calls fun w O ρ vals _ hv => by
  simp only [Vs, V] at hv
  obtain ⟨u, us, rfl, ⟨rfl, hb⟩, u', us', rfl, rfl, rfl⟩ := hv
  obtain ⟨k, rfl⟩ : ∃ k : Nat, n = k := ⟨n.toNat, by omega⟩
  refine (Tryz.strings_Repeat ⟨[48].toArray⟩ k w (by omega) (by simp [ByteArray.size]; omega)).mono ?_
  rintro e w' ⟨rfl, hw⟩
  refine ⟨_, rfl, ?_, Keep.below hw⟩
  simp only [V]
  exact ⟨by simp [repeatL_one], by simp [big]; omega⟩
/-- internal/stringslite.Index at one byte. -/
theorem index1_ok (s : Str) (c : UInt8) : Fc Tryz.prog 289 [.str s, .str [c]] (.i (Lib.indexByte s c)) := .of_calls fun w O ρ vals _ hv => by
  obtain ⟨rfl, hb, _⟩ := hv.str2
  refine (Tryz.stringslite_Index_one ⟨s.toArray⟩ c w).mono ?_
  rintro e w' ⟨rfl, rfl⟩
  exact ⟨_, rfl, by simp [V], Keep.refl _⟩
end Go.T
namespace Go.T
open Go Go.Proofs Go.Shelf Go.RowKit Go.Sort Go.Lib
theorem holds_zero0 (w : World) (T : TypeId) (nd : Nat) (hs : nd ≤ 24) : Holds (fun (b : UInt8) => Value.int .u8 (b.toNat : Int)) (w.alloc (.cells Lib.zeros24 T)) w.heap.size 0 (Array.replicate nd (0 : UInt8)) := fun j hj => by
  have hj' : j < nd := by simpa using hj
  refine ⟨?_, World.frozen?_alloc_new _ _ _ _⟩
  rw [World.cell?_alloc_new, Lib.zeros24_at _ (by omega), getElem!_pos _ j hj]
  simp
theorem fin_pos0 (w : World) (o : Obj) (dk : Array UInt8) (k : Nat) : ∃ os, (putRow (fun (b : UInt8) => Value.int .u8 (b.toNat : Int)) (w.alloc o) w.heap.size 0 dk).drewN k = grow (w.drewN k) os := by
  rw [alloc_eq_grow]
  obtain ⟨os', _, e⟩ := putRow_grow_new (fun (b : UInt8) => Value.int .u8 (b.toNat : Int)) w #[o] w.heap.size 0 dk (Nat.le_refl _)
  exact ⟨os', by rw [e]; rfl⟩
theorem Tryz_mixed0 : Tryz.prog.follows .mixedOrders = true := by kernel_rfl
set_option maxHeartbeats 6400000 in
set_option maxRecDepth 100000 in
theorem formatUint_calls (u : Nat) (hu64 : u < 18446744073709551616) (w : World) (htab : Lib.TabIs Tryz.prog w "internal/strconv.uint64pow10" .u64 Lib.pow10Tab) :
    Calls Tryz.prog 180 #[.int .u64 u, .int .i64 10] w fun e w' => e = .returned (.string ⟨(Lib.decDigits u).toArray⟩) ∧ ∃ k os, w' = grow (w.drewN k) os := by
  have mixed := Tryz_mixed0
  by_cases hs : u < 100
  · have iu : (u : Int) < 100 := by omega
    go_enter Tryz.func180, Tryz.ntmps180
    have hw : IntKind.i64.wrap (u : Int) = u := IntWalk.i64_in _ ⟨by omega, by omega⟩
    go_wp2_with (go_at_call 227; refine (Tryz.internal_strconv_small u hs _).mono ?_; rintro e w' ⟨rfl, rfl⟩)
    go_ret
    exact ⟨rfl, 0, #[], by simp [World.drewN_zero]⟩
  · have hu1 : 1 ≤ u := by omega
    have hnd20 : Lib.nDigits u ≤ 20 := by have := Lib.numDigits_eq u hu1 hu64; split at this <;> omega
    have hal : Tryz.prog.arrayLen 259 = 24 := by simp [Program.arrayLen, Tryz.underlying259]
    have hsl1 : ∀ W, (Instr.sliceAt 259 (.pointer (some ⟨w.heap.size, 0, none⟩)) none (some (.int .i64 (Lib.nDigits u : Int))) none).run Tryz.prog W = .ok (.slice (some ⟨w.heap.size, 0, none⟩) (Lib.nDigits u) 24) W := fun W => by
      rw [run_sliceAt_array_h W 259 ⟨w.heap.size, 0, none⟩ (by simp [Program.arrayLen, Program.elem, Tryz.underlying259]) .i64 (Lib.nDigits u : Int) (by omega) (by rw [hal]; omega)]
      go_simp
      try omega
    have hH0 := holds_zero0 w 259 (Lib.nDigits u) (by omega)
    have hfmt := Tryz.internal_strconv_formatBase10 w.heap.size 0 24 u (Array.replicate (Lib.nDigits u) 0) (w.alloc (.cells Lib.zeros24 259)) hH0 (by rw [Array.size_replicate]; exact Lib.lt_pow_nDigits u) hu64 (by rw [Array.size_replicate]; omega)
    rw [Array.size_replicate] at hfmt
    have HH0 := Lib.hid hH0
    have iu : (100 : Int) ≤ (u : Int) := by omega
    clear hH0 hal
    go_enter Tryz.func180, Tryz.ntmps180
    go_wp2_with (first
      | (go_at_call 228; refine (Tryz.internal_strconv_numDigits u hu1 hu64 _ (Lib.tabIs_alloc htab _)).mono ?_; rintro e w' ⟨rfl, rfl⟩))
    go_at_call 229
    refine hfmt.mono ?_
    rintro e w' ⟨rfl, k, v', dk, rfl, hF⟩
    have hcv : (convert 140 9 (.slice (some ⟨w.heap.size, 0, none⟩) (Lib.nDigits u) 24)).run Tryz.prog ((putRow (fun (b : UInt8) => Value.int .u8 (b.toNat : Int)) (w.alloc (.cells Lib.zeros24 259)) w.heap.size 0 dk).drewN k) = .ok (.string ⟨(Lib.decDigits u).toArray⟩) ((putRow (fun (b : UInt8) => Value.int .u8 (b.toNat : Int)) (w.alloc (.cells Lib.zeros24 259)) w.heap.size 0 dk).drewN k) := by
      have h := run_convert_bytes_back (P := Tryz.prog) ((putRow (fun (b : UInt8) => Value.int .u8 (b.toNat : Int)) (w.alloc (.cells Lib.zeros24 259)) w.heap.size 0 dk).drewN k) 140 9 5 ⟨w.heap.size, 0, none⟩ 24 (Lib.decDigits u) Tryz.underlying140 Tryz.underlying5 Tryz.underlying9 (fun j hj => by
        rw [Lib.row_is_numeral hF j hj, Lib.add_plain, World.cell?_drewN]
        exact cell?_putRow (fun (b : UInt8) => Value.int .u8 (b.toNat : Int)) _ w.heap.size 0 _ dk HH0.out (by rw [hF.size, Array.size_replicate]) j (by rw [hF.size]; rw [Lib.decDigits_length] at hj; exact hj))
      rw [Lib.decDigits_length] at h
      exact h
    go_wp2
    go_ret
    obtain ⟨os, eo⟩ := fin_pos0 w (.cells Lib.zeros24 259) dk k
    exact ⟨rfl, k, os, eo⟩
theorem keep_grow (w : World) (k : Nat) (os : Array Obj) : Keep w (grow (w.drewN k) os) := by
  have h : (w.drewN k).heap = w.heap ∧ (w.drewN k).os = w.os ∧ (w.drewN k).output = w.output := by
    unfold World.drewN; exact ⟨rfl, rfl, rfl⟩
  refine ⟨?_, fun b hb => ?_, h.2.1, h.2.2, .inr trivial⟩
  · show w.heap.size ≤ ((w.drewN k).heap ++ os).size
    rw [h.1, Array.size_append]; omega
  · show ((w.drewN k).heap ++ os)[b]? = _
    rw [h.1, Array.getElem?_append_left hb]
theorem tab_of {w : World} {O : Nat → Prop} (h : Gl w O) : Lib.TabIs Tryz.prog w "internal/strconv.uint64pow10" .u64 Lib.pow10Tab := by
  obtain ⟨⟨T, fr, h1⟩, _⟩ := h 2 _ (List.mem_singleton.2 rfl)
  have hg : Tryz.prog.globalNamed "internal/strconv.uint64pow10" = some 2 := by kernel_rfl
  unfold Lib.TabIs World.var?
  rw [hg]
  have h10 : pow10s.map (fun (n : Nat) => (n : Int)) = Lib.pow10Tab := by decide +kernel
  have : (pow10s.map fun (n : Nat) => Value.int .u64 (n : Int)).toArray = (Lib.pow10Tab.map fun z => Value.int .u64 z).toArray := by rw [← h10, List.map_map]; rfl
  simp [h1, this]
theorem decDigits_natDig (u : Nat) (h : u ≠ 0) : Lib.decDigits u = natDig u := by
  induction u using Nat.strongRecOn with
  | _ u ih =>
    rw [Lib.decDigits, natDig_step h]
    split
    · rename_i hu
      rw [Nat.div_eq_of_lt hu, natDig_zero, Nat.mod_eq_of_lt hu]; rfl
    · rw [ih (u / 10) (by omega) (by omega)]
theorem formatUint180_ok (u : Nat) (hu : u < 18446744073709551616) : Fc Tryz.prog 180 [.raw (.int .u64 u), .i 10] (.str (Lib.decDigits u)) := .of_calls fun w O ρ vals hg hv => by
  simp only [Vs, V] at hv
  obtain ⟨_, _, rfl, rfl, _, _, rfl, rfl, rfl⟩ := hv
  refine (formatUint_calls u hu w (tab_of hg)).mono ?_
  rintro e w' ⟨rfl, k, os, rfl⟩
  refine ⟨_, rfl, ?_, keep_grow w k os⟩
  simp only [V]
  have : (Lib.decDigits u).length ≤ 20 := by
    rw [Lib.decDigits_length]
    by_cases h : u = 0
    · subst h; rw [Lib.nDigits_small (by omega)]; omega
    · have := Lib.numDigits_eq u (by omega) hu; split at this <;> omega
  exact ⟨trivial, by unfold big; omega⟩
end Go.T
namespace Go.T
open Go Go.Proofs Go.Shelf Go.RowKit
theorem bldSize : (Tryz.prog.info? 179).map (·.size) = some 2 := by kernel_rfl
theorem bldLies : liesAt Tryz.prog Tryz.prog.depth 179 (2 / Tryz.prog.cellsOf 179) 0 179 1 = true := by kernel_rfl
set_option maxHeartbeats 1000000 in
set_option maxRecDepth 100000 in
theorem copyCheck_used (b : Nat) (w : World) (h0 : w.cell? ⟨b, 0, none⟩ = some (.pointer (some ⟨b, 0, none⟩))) :
    Calls Tryz.prog 179 #[.pointer (some ⟨b, 0, none⟩)] w fun e w' => e = .returned (.tuple #[]) ∧ w' = w := by
  obtain ⟨j, hj, _⟩ := Option.map_eq_some_iff.1 bldSize
  go_enter Tryz.func179, Tryz.ntmps179
  go_wp2
  rw [Lib.run_neq_ptr_same w _ Tryz.underlying177 hj]
  go_wp2
  go_end0
  exact ⟨rfl, rfl⟩
set_option maxHeartbeats 1000000 in
set_option maxRecDepth 100000 in
theorem copyCheck_fresh (b : Nat) (w : World) (h0 : w.cell? ⟨b, 0, none⟩ = some (.pointer none)) (hsh : w.shape? b = some (179, 2)) (hfz : w.frozen? ⟨b, 0, none⟩ = false) :
    Calls Tryz.prog 179 #[.pointer (some ⟨b, 0, none⟩)] w fun e w' => e = .returned (.tuple #[]) ∧ w' = w.setCell ⟨b, 0, none⟩ (.pointer (some ⟨b, 0, none⟩)) := by
  obtain ⟨j, hj, hjs⟩ := Option.map_eq_some_iff.1 bldSize
  go_enter Tryz.func179, Tryz.ntmps179
  go_wp2
  rw [Lib.run_to_unsafe w ⟨b, 0, none⟩ Tryz.underlying177 Tryz.underlying257 hj (by rw [hjs]; decide) hsh (Nat.zero_lt_succ 1)]
  simp only [Result.andThen]
  rw [Oper.upon_value]
  go_wp2
  rw [run_callFunc_extern Tryz.func226 (by kernel_rfl) (by kernel_rfl) (by kernel_rfl) (e := Extern.AbiNoEscape.same) (by kernel_rfl)]
  rw [Lib.run_noEscape]
  simp only [Result.andThen]
  rw [Oper.upon_value]
  go_wp2
  rw [Lib.run_from_unsafe w ⟨b, 0, none⟩ Tryz.underlying257 Tryz.underlying177 hj hsh bldLies]
  simp only [Result.andThen]
  rw [Oper.upon_value]
  go_wp2
  go_end0
  exact ⟨rfl, rfl⟩
theorem copyCheck_ok (id j n : Nat) (s : Str) : FcO Tryz.prog 179 [.box id 0] [(id, .bld j n), (j, .ba s)] (.tup []) [(id, .bld j n), (j, .ba s)] := ⟨fun w O ρ vals hok _ hv => by
  simp only [Vs, V] at hv
  obtain ⟨_, _, rfl, ⟨l, hl, rfl⟩, rfl⟩ := hv
  have hg : Obs.get [(id, Ob.bld j n), (j, .ba s)] id = some (.bld j n) := by simp [Obs.get]
  obtain ⟨l', h1, h2, p, v, h3, h4, h5⟩ := hok.own id _ hg rfl
  rw [hl] at h1; cases h1
  have hr : V w (Ot O ρ [(id, .bld j n), (j, .ba s)]) ρ (.tup []) (.tuple #[]) := by simp [V, Vs]
  rcases h4 with rfl | rfl
  · refine (copyCheck_fresh l.b w (by simp [World.cell?, h3]) (by simp [World.shape?, h3]) (by simp [World.frozen?, h3])).mono ?_
    rintro e w' ⟨rfl, rfl⟩
    have htr := Tr.upd (o' := .bld j n) hok hg rfl hl (.cells #[.pointer (some ⟨l.b, 0, none⟩), v] bldT (0, 0)) (fun _ => ⟨.pointer (some ⟨l.b, 0, none⟩), v, by simp [(Array.getElem?_eq_some_iff.1 h3).1], .inr rfl, h5⟩)
    have hset : Obs.set [(id, Ob.bld j n), (j, .ba s)] id (.bld j n) = [(id, .bld j n), (j, .ba s)] := by simp [Obs.set]
    rw [hset] at htr
    have hw : { w with heap := w.heap.setIfInBounds l.b (.cells #[.pointer (some ⟨l.b, 0, none⟩), v] bldT (0, 0)) } = w.setCell ⟨l.b, 0, none⟩ (.pointer (some ⟨l.b, 0, none⟩)) := by
      have hlt := (Array.getElem?_eq_some_iff.1 h3).1
      unfold World.setCell
      congr 1
      apply Array.ext (by simp)
      intro i g1 g2
      rw [Array.getElem_setIfInBounds, Array.getElem_modify]
      have hi : i < w.heap.size := by simpa using g1
      by_cases e : l.b = i
      · subst e
        have : w.heap[l.b] = .cells #[.pointer none, v] bldT (0, 0) := Option.some.inj ((Array.getElem?_eq_getElem hlt).symm.trans h3)
        simp [this]
      · simp [e]
      · simpa using g1
    rw [hw] at htr
    exact ⟨_, ρ, rfl, htr, htr.V hr⟩
  · refine (copyCheck_used l.b w (by simp [World.cell?, h3])).mono ?_
    rintro e w' ⟨rfl, rfl⟩
    exact ⟨_, ρ, rfl, Tr.refl hok, hr⟩⟩
set_option maxHeartbeats 1000000 in
set_option maxRecDepth 100000 in
theorem bldString_calls (b g cap : Nat) (p : Value) (cur : Array Value) (l : List UInt8) (w : World) (h0 : l ≠ []) (hbk : w.heap[b]? = some (.cells #[p, .slice (some ⟨g, 0, none⟩) l.length cap] 179 (0, 0))) (hg : w.heap[g]? = some (.cells cur 5 (0, 0))) (hnc : l.length ≤ cap) (hcm : cap ≤ 9223372036854775807) (hcs : cur.size = cap) (htake : cur.toList.take l.length = byteVals l) :
    Calls Tryz.prog 136 #[.pointer (some ⟨b, 0, none⟩)] w fun e w' => e = .returned (.string ⟨l.toArray⟩) ∧ w' = w.drew.freeze ⟨g, 0, none⟩ l.length := by
  have mixed := Tryz_mixed0
  have hl0 : l.length ≠ 0 := by simpa using h0
  have c1 : w.drew.cell? ⟨b, 1, none⟩ = some (.slice (some ⟨g, 0, none⟩) l.length cap) := by
    have : w.drew.heap[b]? = some (.cells #[p, .slice (some ⟨g, 0, none⟩) l.length cap] 179 (0, 0)) := hbk
    rw [Lib.cell_of_heap this]; rfl
  have hSD : (Builtin.unsafeSliceData_ #[140] 221 #[.slice (some ⟨g, 0, none⟩) l.length cap]).run Tryz.prog w.drew = .ok (.pointer (some ⟨g, 0, none⟩)) w.drew :=
    Lib.run_unsafeSliceData_row _ _ _ _ _ _ (by omega)
  have hUS : (Builtin.unsafeString_ #[221, 3] 9 #[.pointer (some ⟨g, 0, none⟩), .int .i64 l.length]).run Tryz.prog w.drew = .ok (.string ⟨l.toArray⟩) (w.drew.freeze ⟨g, 0, none⟩ l.length) := by
    refine Lib.run_unsafeString_row w.drew 221 3 9 5 Tryz.underlying221 (by kernel_rfl) g cur.size (by have hg' : w.drew.heap[g]? = some (.cells cur 5 (0, 0)) := hg; simp [World.shape?, hg']) l h0 (by omega) (by omega) ?_
    intro j x hx
    have hlt : j < l.length := (List.getElem?_eq_some_iff.1 hx).1
    have h1 : (cur.toList.take l.length)[j]? = some (Value.int .u8 x.toNat) := by rw [htake]; simp [byteVals, hx]
    rw [List.getElem?_take, if_pos hlt] at h1
    have hg' : w.drew.heap[g]? = some (.cells cur 5 (0, 0)) := hg
    rw [addr_add']
    simp only [World.cell?, hg']
    simpa using h1
  go_enter Tryz.func136, Tryz.ntmps136
  go_wp2
  go_region_o
  all_goals (go_wp2; go_ret; exact ⟨rfl, rfl⟩)
/-- The text of a Builder that holds something. -/
theorem bldString_ok (id j n : Nat) (s : Str) (hs : s ≠ []) (hn : s.length = n) (hb : n ≤ big) (hne : Nat.beq id j = false) : FcO Tryz.prog 136 [.box id 0] [(id, .bld j n), (j, .ba s)] (.str s) [(id, .dead), (j, .dead)] := ⟨fun w O ρ vals hok _ hv => by
  simp only [Vs, V] at hv
  obtain ⟨_, _, rfl, ⟨l, hl, rfl⟩, rfl⟩ := hv
  have hne' : id ≠ j := by rintro rfl; simp at hne
  have hg : Obs.get [(id, Ob.bld j n), (j, .ba s)] id = some (.bld j n) := by simp [Obs.get]
  have hgj : Obs.get [(id, Ob.bld j n), (j, .ba s)] j = some (.ba s) := by simp [Obs.get, hne]
  obtain ⟨l', h1, h2, p, v, h3, h4, h5⟩ := hok.own id _ hg rfl
  rw [hl] at h1; cases h1
  have hlive : (Ob.ba s).live = true := by
    cases s with
    | nil => exact absurd rfl hs
    | cons r rs => rfl
  have hn0 : n ≠ 0 := by rw [← hn]; exact fun e => hs (List.length_eq_zero_iff.1 e)
  obtain ⟨lj, g1, g2, c, g3, g4, g5, g6, g7, g8⟩ := hok.own j _ hgj hlive
  obtain ⟨_, lj', k1, rfl⟩ : n ≠ 0 ∧ ∃ lj, ρ j = some lj ∧ v = .slice (some ⟨lj.b, 0, none⟩) n lj.cap := by
    rcases h5 with ⟨e, _⟩ | h5
    · exact absurd e hn0
    · exact h5
  rw [g1] at k1; cases k1
  subst hn
  refine (bldString_calls l.b lj.b lj.cap p c s w hs h3 g3 g6 g7 g5 g8).mono ?_
  rintro e w' ⟨rfl, rfl⟩
  have hfz : (w.drew.freeze ⟨lj.b, 0, none⟩ s.length).heap = w.heap.setIfInBounds lj.b (.cells c byteT (0, s.length)) := by
    have hlt := (Array.getElem?_eq_some_iff.1 g3).1
    unfold World.freeze
    rw [if_neg hn0]
    have hdh : w.drew.heap = w.heap := rfl
    apply Array.ext (by simp)
    intro i q1 q2
    rw [Array.getElem_setIfInBounds]
    simp only [hdh, Array.getElem_modify]
    by_cases e : lj.b = i
    · subst e
      have : w.heap[lj.b] = .cells c byteT (0, 0) := Option.some.inj ((Array.getElem?_eq_getElem hlt).symm.trans g3)
      simp [this]
    · simp [e]
    · simpa [hdh] using q1
  have hos : (w.drew.freeze ⟨lj.b, 0, none⟩ s.length).os = w.os ∧ (w.drew.freeze ⟨lj.b, 0, none⟩ s.length).output = w.output ∧ Clk w (w.drew.freeze ⟨lj.b, 0, none⟩ s.length) := by
    unfold World.freeze; rw [if_neg hn0]; exact ⟨rfl, rfl, .inr trivial⟩
  have hdead : ∀ i x, Obs.get [(id, Ob.dead), (j, .dead)] i = some x → x.live = false := by
    intro i x hx
    simp only [Obs.get_cons] at hx
    split at hx
    · cases hx; rfl
    · split at hx
      · cases hx; rfl
      · simp [Obs.get] at hx
  have hno : ∀ b, ¬ Owned ρ [(id, .dead), (j, .dead)] b := by
    rintro b ⟨i, x, l2, q1, q2, _⟩
    rw [hdead i x q1] at q2; cases q2
  refine ⟨_, ρ, rfl, ⟨RhoLe.refl _, by rw [hfz]; simp, fun b hb ho => ?_, fun b hb => absurd hb (hno b), ⟨fun b hb => by rw [hfz]; simpa using hok.lt b hb, fun i hi => hok.fresh i ?_, fun i x q1 q2 => ?_, fun i j' x x' l1 l2 q1 q2 q3 => ?_⟩, hos⟩, ?_⟩
  · rw [hfz, Array.getElem?_setIfInBounds, if_neg]
    rintro rfl
    exact ho ⟨j, _, lj, hgj, hlive, g1, rfl⟩
  · simp only [Obs.get_cons] at hi ⊢
    split at hi
    · cases hi
    · split at hi
      · cases hi
      · rename_i q1 q2; rw [if_neg q1, if_neg q2]; rfl
  · rw [hdead i x q1] at q2; cases q2
  · rw [hdead i x q1] at q3; cases q3
  · simp only [V]; exact ⟨trivial, hb⟩⟩
end Go.T
namespace Go.T
open Go Go.Proofs Go.Shelf Go.RowKit
@[reducible] def digs : Str := [48, 49, 50, 51, 52, 53, 54, 55, 56, 57]
theorem digs_dig (c : UInt8) : digs.contains c = isDig c := by
  have h : ∀ n : Fin 256, digs.contains (UInt8.ofNat n.1) = isDig (UInt8.ofNat n.1) := by decide +kernel
  have := h ⟨c.toNat, c.toNat_lt⟩
  simpa using this
/-- What is left of a text without the digits at its ends. -/
def trimD (s : Str) : Str := Lib.trimS s digs
theorem dw_nil (p : UInt8 → Bool) (s : Str) : s.dropWhile p = [] ↔ s.all p = true := by
  induction s with
  | nil => simp
  | cons c r ih =>
    by_cases h : p c = true
    · rw [List.dropWhile_cons_of_pos h, ih]; simp [h]
    · rw [List.dropWhile_cons_of_neg h]; simp [h]
theorem dw_len (p : UInt8 → Bool) (s : Str) : (s.dropWhile p).length ≤ s.length := by
  induction s with
  | nil => simp
  | cons c r ih =>
    by_cases h : p c = true
    · rw [List.dropWhile_cons_of_pos h]; simp; omega
    · rw [List.dropWhile_cons_of_neg h]; simp
theorem dw_all (p : UInt8 → Bool) (s : Str) (h : (s.dropWhile p).all p = true) : s.all p = true := by
  induction s with
  | nil => rfl
  | cons c r ih =>
    by_cases hc : p c = true
    · rw [List.dropWhile_cons_of_pos hc] at h; simp only [List.all_cons, hc, ih h, Bool.and_self]
    · rw [List.dropWhile_cons_of_neg hc] at h; exact h
theorem trimD_nil (s : Str) : trimD s = [] ↔ s.all isDig = true := by
  have hp : (digs.contains ·) = isDig := funext digs_dig
  unfold trimD Lib.trimS Lib.trimLeftS Lib.trimRightS
  rw [hp, dw_nil, List.all_reverse]
  constructor
  · intro h
    have := dw_all isDig s.reverse h
    rwa [List.all_reverse] at this
  · intro h
    rw [(dw_nil isDig s.reverse).2 (by rwa [List.all_reverse])]; rfl
theorem trimD_len (s : Str) : (trimD s).length ≤ s.length := by
  unfold trimD Lib.trimS Lib.trimLeftS Lib.trimRightS
  refine Nat.le_trans (dw_len _ _) ?_
  rw [List.length_reverse]
  refine Nat.le_trans (dw_len _ _) (by simp)
theorem trimDigits_ok (s : Str) : Fc Tryz.prog 175 [.str s, .str digs] (.str (trimD s)) := .of_calls fun w O ρ vals _ hv => by
  obtain ⟨rfl, hb, _⟩ := hv.str2
  refine (Any.strings_Trim_laid Tryz.lays160 (by kernel_rfl) ⟨s.toArray⟩ ⟨digs.toArray⟩ w (by simp [ByteArray.size]; unfold big at hb; omega) (by decide) (ascii_of_all (by decide))).mono ?_
  rintro e w' ⟨rfl, hw⟩
  refine ⟨_, rfl, ?_, Keep.below hw⟩
  have := trimD_len s
  simp only [V]
  exact ⟨rfl, by omega⟩
end Go.T
namespace Go.T
open Go
@[reducible] def encMag (m : List Nat) : List (List D) := m.map fun (n : Nat) => [.raw (.int .u64 (n : Int))]
@[reducible] def sMag (m : List Nat) : D := .snap 1 false (encMag m)
@[reducible] def encNum (neg : Bool) (m : List Nat) : List D := [.b neg, sMag m]
theorem idx_end {α β : Type} (f : α → β) (i : List α) (x : α) {n : Int} (hn : n = ((i ++ [x]).map f).length - 1) : ((i ++ [x]).map f)[n.toNat]? = some (f x) := by
  have : n.toNat = i.length := by rw [hn]; simp
  rw [this]; simp
theorem opI {env : Env} {x : Operand} {k : IntKind} {n m : Int} (h : env.op x = some (.raw (.int k n))) (e : n = m) : env.op x = some (.raw (.int k m)) := by rw [h, e]
def gB : Nat := 1000000000
def magVal : List Nat → Nat
  | [] => 0
  | x :: r => x + gB * magVal r
def magOK (m : List Nat) : Prop := ∀ x ∈ m, x < gB
def cutM (m : List Nat) : List Nat := (m.reverse.dropWhile (· == 0)).reverse
theorem snoc_cases {α : Type} (l : List α) : l = [] ∨ ∃ i x, l = i ++ [x] := by
  rcases List.eq_nil_or_concat l with h | ⟨i, x, h⟩
  · exact .inl h
  · exact .inr ⟨i, x, by rw [h, List.concat_eq_append]⟩
theorem cutM_zero (i : List Nat) : cutM (i ++ [0]) = cutM i := by simp [cutM]
theorem cutM_pos (i : List Nat) {x : Nat} (h : x ≠ 0) : cutM (i ++ [x]) = i ++ [x] := by simp [cutM, h]
theorem magVal_append (a b : List Nat) : magVal (a ++ b) = magVal a + gB ^ a.length * magVal b := by
  induction a with
  | nil => simp [magVal]
  | cons x a ih => simp only [List.cons_append, magVal, ih, List.length_cons, Nat.pow_succ]; rw [Nat.mul_add, Nat.mul_comm (gB ^ a.length) gB, Nat.mul_assoc]; omega
theorem magVal_lt {m : List Nat} (h : magOK m) : magVal m < gB ^ m.length := by
  induction m with
  | nil => simp [magVal]
  | cons x m ih =>
    have h1 := ih (fun y hy => h y (List.mem_cons_of_mem _ hy))
    have h2 := h x List.mem_cons_self
    simp only [magVal, List.length_cons, Nat.pow_succ]
    have : gB * (magVal m + 1) ≤ gB * gB ^ m.length := Nat.mul_le_mul_left _ h1
    rw [Nat.mul_comm (gB ^ m.length)]
    rw [Nat.mul_add] at this
    omega
theorem cutM_val (m : List Nat) : magVal (cutM m) = magVal m := by
  induction m using rev_ind with
  | h0 => rfl
  | h1 i x ih =>
    by_cases h : x = 0
    · subst h; rw [cutM_zero, ih, magVal_append]; simp [magVal]
    · rw [cutM_pos i h]
theorem cutM_mem (m : List Nat) : ∀ x ∈ cutM m, x ∈ m := by
  intro x hx
  unfold cutM at hx
  rw [List.mem_reverse] at hx
  have := (List.dropWhile_sublist _).mem hx
  simpa using this
theorem cutM_ok {m : List Nat} (h : magOK m) : magOK (cutM m) := fun x hx => h x (cutM_mem m x hx)
theorem cutM_len (m : List Nat) : (cutM m).length ≤ m.length := by
  unfold cutM
  rw [List.length_reverse]
  exact Nat.le_trans (List.dropWhile_sublist _).length_le (by simp)
/-- The groups of a row of digits, the lowest first. -/
def groupsOf (s : Str) : List Nat := if h : s.length = 0 then [] else natVal (s.drop (s.length - 9)) :: groupsOf (s.take (s.length - 9))
termination_by s.length
decreasing_by simp; omega
theorem groupsOf_nil : groupsOf [] = [] := by rw [groupsOf]; simp
theorem groupsOf_step {s : Str} (h : s.length ≠ 0) : groupsOf s = natVal (s.drop (s.length - 9)) :: groupsOf (s.take (s.length - 9)) := by rw [groupsOf, dif_neg h]
theorem natVal_append (a b : Str) : natVal (a ++ b) = natVal a * 10 ^ b.length + natVal b := by
  induction b using rev_ind with
  | h0 => simp [natVal]
  | h1 i x ih => rw [← List.append_assoc, natVal_snoc, ih, natVal_snoc, List.length_append, List.length_singleton, Nat.pow_succ, Nat.mul_add, ← Nat.mul_assoc]; have : 10 * natVal a * 10 ^ i.length = natVal a * (10 ^ i.length * 10) := by rw [Nat.mul_comm 10 (natVal a), Nat.mul_assoc, Nat.mul_comm 10]
                 omega
theorem groupsOf_len (s : Str) : (groupsOf s).length ≤ s.length := by
  induction h : s.length using Nat.strongRecOn generalizing s with
  | _ n ih =>
    by_cases h0 : s.length = 0
    · have : s = [] := List.length_eq_zero_iff.1 h0
      subst this; rw [groupsOf_nil]; simp
    · rw [groupsOf_step h0, List.length_cons]
      have := ih (s.take (s.length - 9)).length (by simp; omega) (s.take (s.length - 9)) rfl
      simp at this ⊢; omega
theorem groupsOf_spec (s : Str) (hd : s.all isDig = true) : magOK (groupsOf s) ∧ magVal (groupsOf s) = natVal s := by
  induction h : s.length using Nat.strongRecOn generalizing s with
  | _ n ih =>
    by_cases h0 : s.length = 0
    · have : s = [] := List.length_eq_zero_iff.1 h0
      subst this; rw [groupsOf_nil]; exact ⟨fun x hx => absurd hx (by simp), rfl⟩
    · rw [groupsOf_step h0]
      have hs : s = s.take (s.length - 9) ++ s.drop (s.length - 9) := (List.take_append_drop ..).symm
      have hd2 : (s.take (s.length - 9)).all isDig = true ∧ (s.drop (s.length - 9)).all isDig = true := by
        rw [hs, List.all_append, Bool.and_eq_true] at hd; exact hd
      obtain ⟨h1, h2⟩ := ih (s.take (s.length - 9)).length (by simp; omega) (s.take (s.length - 9)) hd2.1 rfl
      have hl : (s.drop (s.length - 9)).length ≤ 9 := by simp; omega
      have h3 := natVal_lt _ hd2.2
      have h4 : 10 ^ (s.drop (s.length - 9)).length ≤ 10 ^ 9 := Nat.pow_le_pow_right (by omega) hl
      have h5 : natVal (s.drop (s.length - 9)) < gB := by unfold gB; omega
      refine ⟨fun x hx => ?_, ?_⟩
      · rcases List.mem_cons.1 hx with rfl | hx
        · exact h5
        · exact h1 x hx
      · simp only [magVal, h2]
        conv => rhs; rw [hs, natVal_append]
        by_cases h9 : s.length ≤ 9
        · have : s.length - 9 = 0 := by omega
          rw [this]; simp [natVal]
        · have : (s.drop (s.length - 9)).length = 9 := by simp; omega
          rw [this, Nat.mul_comm (natVal (s.take (s.length - 9)))]; unfold gB; omega
end Go.T
namespace Go.T
open Go
def lastN (l : List Nat) : Nat := l.getLastD default
theorem idx_lastN {l pre rest : List Nat} {n : Int} (h : l = pre ++ rest) (h0 : 0 < pre.length) (hn : n = (pre.length : Int) - 1) : (encMag l)[n.toNat]? = some [.raw (.int .u64 (lastN pre : Int))] := idx_last (fun (n : Nat) => [D.raw (.int .u64 (n : Int))]) h h0 hn
def pad9 (y : Nat) : Str := List.replicate (9 - (Lib.decDigits y).length) 48 ++ Lib.decDigits y
def padAll (lo : List Nat) : Str := (lo.reverse.map pad9).flatten
theorem padAll_nil : padAll [] = [] := rfl
theorem padAll_snoc (i : List Nat) (x : Nat) : padAll (i ++ [x]) = pad9 x ++ padAll i := by simp [padAll]
theorem padAll_step {lo : List Nat} (h : lo.length ≠ 0) : padAll lo = pad9 (lastN lo) ++ padAll lo.dropLast := by
  rcases snoc_cases lo with rfl | ⟨i, x, rfl⟩
  · simp at h
  · rw [padAll_snoc]; simp [lastN]
def textM (neg : Bool) (m : List Nat) : Str := if (cutM m).length = 0 then [] else (if neg then [45] else []) ++ Lib.decDigits (lastN (cutM m)) ++ padAll (cutM m).dropLast
theorem dec9 {y : Nat} (h : y < gB) : (Lib.decDigits y).length ≤ 9 := by
  by_cases e : y = 0
  · subst e; rw [Lib.decDigits_length, Lib.nDigits_small (by omega)]; omega
  · rw [decDigits_natDig y e]; exact natDig_len 9 y (by unfold gB at h; omega)
theorem pad9_len {y : Nat} (h : y < gB) : (pad9 y).length = 9 := by
  have := dec9 h
  simp [pad9]; omega
theorem last_mem {l : List Nat} (h : l.length ≠ 0) : lastN l ∈ l := by
  rcases snoc_cases l with rfl | ⟨i, x, rfl⟩
  · simp at h
  · simp [lastN]
theorem dropLast_eq {l : List Nat} (h : l.length ≠ 0) : l = l.dropLast ++ [lastN l] := by
  rcases snoc_cases l with rfl | ⟨i, x, rfl⟩
  · simp at h
  · simp [lastN]
theorem dec_ne (y : Nat) : Lib.decDigits y ≠ [] := by
  intro h
  have := congrArg List.length h
  rw [Lib.decDigits_length] at this
  rw [Lib.nDigits] at this
  split at this <;> simp at this
theorem natVal_zeros (k : Nat) : natVal (List.replicate k 48) = 0 := by
  induction k with
  | zero => rfl
  | succ k ih => rw [List.replicate_succ', natVal_snoc, ih]; rfl
theorem natVal_dec (y : Nat) : natVal (Lib.decDigits y) = y := by
  by_cases e : y = 0
  · subst e; rw [Lib.decDigits]; rfl
  · rw [decDigits_natDig y e, natVal_natDig]
theorem natVal_pad9 (y : Nat) : natVal (pad9 y) = y := by
  unfold pad9
  rw [natVal_append, natVal_zeros, natVal_dec]; omega
theorem padAll_len {lo : List Nat} (h : magOK lo) : (padAll lo).length = 9 * lo.length := by
  induction lo using rev_ind with
  | h0 => rfl
  | h1 i x ih =>
    rw [padAll_snoc, List.length_append, pad9_len (h x (by simp)), ih (fun y hy => h y (by simp [hy]))]
    simp; omega
theorem natVal_padAll {lo : List Nat} (h : magOK lo) : natVal (padAll lo) = magVal lo := by
  induction lo using rev_ind with
  | h0 => rfl
  | h1 i x ih =>
    have hi : magOK i := fun y hy => h y (by simp [hy])
    rw [padAll_snoc, natVal_append, natVal_pad9, ih hi, magVal_append, padAll_len hi]
    have : (10 : Nat) ^ (9 * i.length) = gB ^ i.length := by rw [Nat.pow_mul]; rfl
    rw [this]
    simp only [magVal, Nat.mul_zero, Nat.add_zero]
    rw [Nat.mul_comm x]; omega
theorem dec_dig (y : Nat) : (Lib.decDigits y).all isDig = true := by
  by_cases e : y = 0
  · subst e; rw [Lib.decDigits]; decide
  · rw [decDigits_natDig y e]; exact natDig_dig y
theorem padAll_dig (lo : List Nat) : (padAll lo).all isDig = true := by
  induction lo using rev_ind with
  | h0 => rfl
  | h1 i x ih =>
    rw [padAll_snoc, List.all_append, ih, Bool.and_true]
    unfold pad9
    rw [List.all_append, dec_dig, Bool.and_true]
    simp [isDig]
/-- Two rows of digits of one number that do not begin with 0 are one. -/
theorem natDig_unique {s : Str} (hd : s.all isDig = true) (h0 : dropZ s = s) : s = natDig (natVal s) := by
  induction s using rev_ind with
  | h0 => rw [show natVal [] = 0 from rfl, natDig_zero]
  | h1 i x ih =>
    rw [List.all_append, Bool.and_eq_true] at hd
    have hx := hd.2
    simp only [List.all_cons, List.all_nil, Bool.and_true, isDig, Bool.and_eq_true, decide_eq_true_eq] at hx
    rw [natVal_snoc]
    have hxe : UInt8.ofNat (48 + (x.toNat - 48)) = x := by
      rw [show 48 + (x.toNat - 48) = x.toNat by omega]; simp
    cases i with
    | nil =>
      have hne : x.toNat ≠ 48 := by
        intro e
        have := dropZ_T (s := [x]) (by simp) (by simpa using e)
        simp only [List.nil_append] at h0
        rw [h0] at this; simp [dropZ] at this
      rw [show natVal ([] : Str) = 0 from rfl, natDig_step (by omega)]
      have h1 : (10 * 0 + (x.toNat - 48)) / 10 = 0 := by omega
      have h2 : (10 * 0 + (x.toNat - 48)) % 10 = x.toNat - 48 := by omega
      rw [h1, h2, natDig_zero, hxe]
    | cons c r =>
      have hc : dropZ (c :: r) = c :: r := by
        apply dropZ_F
        rintro ⟨_, e⟩
        have := dropZ_T (s := c :: r ++ [x]) (by simp) (by simpa using e)
        rw [h0] at this
        have h3 := dropZ_len ((c :: r ++ [x]).drop 1)
        rw [← this] at h3
        simp at h3
        omega
      have hi := ih hd.1 hc
      have hpos : natVal (c :: r) ≠ 0 := by
        intro e
        rw [e, natDig_zero] at hi; cases hi
      rw [natDig_step (by omega)]
      have h1 : (10 * natVal (c :: r) + (x.toNat - 48)) / 10 = natVal (c :: r) := by omega
      have h2 : (10 * natVal (c :: r) + (x.toNat - 48)) % 10 = x.toNat - 48 := by omega
      rw [h1, h2, ← hi, hxe]
theorem textM_ofInt (neg : Bool) {m : List Nat} (h : magOK m) : textM neg m = ofInt (if neg then -(magVal m : Int) else magVal m) := by
  unfold textM
  have hc := cutM_ok h
  have hv := cutM_val m
  split
  · rename_i h0
    have : cutM m = [] := List.length_eq_zero_iff.1 h0
    rw [this] at hv
    rw [← hv]
    simp [magVal, ofInt_zero]
  · rename_i h0
    have e := dropLast_eq h0
    have hlast : lastN (cutM m) ≠ 0 := by
      rcases snoc_cases (cutM m) with e2 | ⟨i, x, e2⟩
      · rw [e2] at h0; simp at h0
      · rw [e2]; simp only [lastN, List.getLastD_eq_getLast?, List.getLast?_append, List.getLast?_singleton, Option.some_or, Option.getD_some]
        intro ex
        subst ex
        have : cutM (cutM m) = cutM m := by
          unfold cutM
          rw [List.reverse_reverse]
          have : ∀ l : List Nat, (l.dropWhile (· == 0)).dropWhile (· == 0) = l.dropWhile (· == 0) := by
            intro l
            induction l with
            | nil => rfl
            | cons a l ih => by_cases ha : a = 0 <;> simp [ha, ih]
          rw [this]
        rw [e2, cutM_zero] at this
        have h3 := cutM_len i
        rw [this] at h3
        simp at h3
        omega
    have hdl : magOK (cutM m).dropLast := fun y hy => hc y (List.dropLast_subset _ hy)
    have hmv : magVal m = natVal (Lib.decDigits (lastN (cutM m)) ++ padAll (cutM m).dropLast) := by
      rw [natVal_append, natVal_dec, natVal_padAll hdl, padAll_len hdl, ← hv]
      conv => lhs; rw [e]
      rw [magVal_append]
      have : (10 : Nat) ^ (9 * (cutM m).dropLast.length) = gB ^ (cutM m).dropLast.length := by rw [Nat.pow_mul]; rfl
      rw [this]
      simp only [magVal, Nat.mul_zero, Nat.add_zero]
      rw [Nat.mul_comm (lastN (cutM m))]; omega
    have hdig : (Lib.decDigits (lastN (cutM m)) ++ padAll (cutM m).dropLast).all isDig = true := by rw [List.all_append, dec_dig, padAll_dig]; rfl
    have hz : dropZ (Lib.decDigits (lastN (cutM m)) ++ padAll (cutM m).dropLast) = Lib.decDigits (lastN (cutM m)) ++ padAll (cutM m).dropLast := by
      rw [decDigits_natDig _ hlast]
      apply dropZ_F
      rintro ⟨_, e3⟩
      cases hd : natDig (lastN (cutM m)) with
      | nil => exact hlast (natDig_nil.1 hd)
      | cons c r => rw [hd] at e3; exact natDig_head _ c r hd (by simpa using e3)
    have hpos : magVal m ≠ 0 := by
      intro e3
      have h4 := natDig_unique hdig hz
      rw [← hmv, e3, natDig_zero] at h4
      have := dec_ne (lastN (cutM m))
      exact this (List.append_eq_nil_iff.1 h4).1
    have hu := natDig_unique hdig hz
    rw [← hmv] at hu
    cases neg with
    | false =>
      simp only [Bool.false_eq_true, if_false, List.nil_append, hu]
      unfold ofInt
      rw [if_neg (by omega)]; simp
    | true =>
      simp only [if_true, List.append_assoc, hu]
      unfold ofInt
      rw [if_pos (by omega)]; simp
end Go.T
namespace Go.T
open Go
variable [Noise]
section
variable {P : Program} {env : Env} {dst : Option Tmp} {ty : TypeId} {pos : String} {aft : Array Edge} {g : Option (Nat × Bool)}
theorem made1 {z : Value} (hz : z.cells = #[z]) (n k : Nat) : madeCells z.cells (n + k) = (List.replicate n z).toArray ++ (List.replicate k z).toArray := by
  rw [hz]
  apply Array.ext
  · simp [madeCells]
  · intro i h1 h2
    simp only [madeCells, Array.getElem_map, Array.getElem_range]
    have : i % (#[z] : Array Value).size = 0 := by simp [Nat.mod_one]
    rw [this]
    simp only [Array.size_append, List.size_toArray, List.length_replicate] at h2
    by_cases h : i < n
    · rw [Array.getElem_append_left (by simpa using h)]; simp
    · rw [Array.getElem_append_right (by simp; omega)]; simp
theorem run_make1 {t e : TypeId} {ti : TypeInfo} {z : Value} {n m : Nat} (hu : P.underlying t = some (.slice e)) (hs : ∀ w, (sizeOf e).run P w = .ok 1 w) (hti : ∀ w, (typeInfo e).run P w = .ok ti w) (hz : ∀ w, (zeroValue e).run P w = .ok z w)
    (hnm : n ≤ m) (h0 : m ≠ 0) (hb : ti.bytes * m ≤ 281474976710656) (h63 : m ≤ 9223372036854775807) (w : World) :
    (Instr.makeSlice t (.int .i64 n) (.int .i64 m)).run P w = .ok (.slice (some ⟨w.heap.size, 0, none⟩) n m) (w.alloc (.cells (madeCells z.cells m) e)) := by
  have wl : IntKind.i64.wrap (n : Int) = n := by rw [IntKind.wrap_i64]; omega
  have wc : IntKind.i64.wrap (m : Int) = m := by rw [IntKind.wrap_i64]; omega
  have n1 : ¬ (m : Int) < 0 := by omega
  have n2 : ¬ (281474976710656 < (ti.bytes : Int) * (m : Int)) := by rw [← Int.natCast_mul]; omega
  have n3 : ¬ (n : Int) < 0 := by omega
  have n4 : ¬ (m : Int) < n := by omega
  simp [Instr.makeSlice, run_underlying hu, asInt, asIntOf, hti, hs, hz, wl, wc, n1, n2, n3, n4, h0, newRow, madeCells]
theorem q_makeSlice1 {t e : TypeId} {ti : TypeInfo} {z : Value} {x y : Operand} {m bt : Nat} {nx ny : Int} {obs : Obs} (id n : Nat) (hu : P.underlying t = some (.slice e)) (hs : ∀ w, (sizeOf e).run P w = .ok 1 w) (hti : ∀ w, (typeInfo e).run P w = .ok ti w) (hz : ∀ w, (zeroValue e).run P w = .ok z w)
    (hzc : z.cells = #[z]) (hz1 : z.oneCell' = true) (hbt : ti.bytes = bt) (hx : env.op x = some (.raw (.int .i64 nx))) (hy : env.op y = some (.raw (.int .i64 ny))) (hnx : nx = (n : Int)) (hny : ny = (m : Int)) (hnm : n ≤ m) (hn0 : n ≠ 0) (hb : bt * m ≤ 281474976710656) (h63 : m ≤ 1000000000000) (hid : obs.get id = none) :
    QStep P ⟨dst, .makeSlice t x y, ty, pos, aft, g⟩ env obs (.gs id n) ((id, .arr 1 (List.replicate n [.raw z])) :: obs) :=
  .step fun O ρ a w hok hv => by
    have hvx := hv x (by simp [Op.operands]) _ hx
    have hvy := hv y (by simp [Op.operands]) _ hy
    simp only [V] at hvx hvy
    subst hnx; subst hny
    have hr := run_make1 (n := n) (m := m) hu hs hti hz hnm (by omega) (by rw [hbt]; exact hb) (by omega) w
    obtain ⟨k, rfl⟩ := Nat.exists_eq_add_of_le hnm
    rw [made1 hzc] at hr
    refine ⟨.slice (some ⟨w.heap.size, 0, none⟩) n (n + k), _, T.upd ρ id ⟨w.heap.size, 0, n + k⟩, .inl ?_, Tr.born hok hid (.cells ((List.replicate n z).toArray ++ (List.replicate k z).toArray) e) rfl (fun i x h _ => h) (fun i h => h) ?_, ?_⟩
    · simp only [execOp, hvx, hvy]
      rw [Sem.run_bind, hr]
      rfl
    · intro hk
      refine Own.grown (w := w) (T := e) (O := Ot O ρ obs) (vs := List.replicate n z) (zs := (List.replicate k z).toArray) (by simp) (by simp) (by simp) (by simp) (by simp [big]; omega) (by intro r hr; rw [List.eq_of_mem_replicate hr]; rfl) ?_ ?_ hk
      · have : ∀ n, Vs w (Ot O ρ obs) rho0 (List.replicate n [D.raw z]).flatten (List.replicate n z) := by
          intro n
          induction n with
          | zero => simp [Vs]
          | succ n ih => rw [List.replicate_succ, List.replicate_succ]; exact ⟨_, _, rfl, by simp [V], ih⟩
        exact this n
      · intro v hv'; rw [List.eq_of_mem_replicate hv']; exact hz1
    · simp only [V]
      exact .inr ⟨hn0, ⟨w.heap.size, 0, n + k⟩, by simp [T.upd], rfl⟩
/-- A made slice without elements is not written. -/
theorem q_makeSlice0 {t e : TypeId} {ti : TypeInfo} {z : Value} {x y : Operand} {m bt : Nat} {nx ny : Int} (hu : P.underlying t = some (.slice e)) (hs : ∀ w, (sizeOf e).run P w = .ok 1 w) (hti : ∀ w, (typeInfo e).run P w = .ok ti w) (hz : ∀ w, (zeroValue e).run P w = .ok z w)
    (hbt : ti.bytes = bt) (hx : env.op x = some (.raw (.int .i64 nx))) (hy : env.op y = some (.raw (.int .i64 ny))) (hnx : nx = 0) (hny : ny = (m : Int)) (h0 : m ≠ 0) (hb : bt * m ≤ 281474976710656) (h63 : m ≤ 1000000000000) (obs : Obs) :
    QStep P ⟨dst, .makeSlice t x y, ty, pos, aft, g⟩ env obs (.snap 1 false []) obs :=
  .step fun O ρ a w hok hv => by
    have hvx := hv x (by simp [Op.operands]) _ hx
    have hvy := hv y (by simp [Op.operands]) _ hy
    simp only [V] at hvx hvy
    subst hnx; subst hny
    have hr := run_make1 (n := 0) (m := m) hu hs hti hz (by omega) h0 (by rw [hbt]; exact hb) (by omega) w
    refine ⟨.slice (some ⟨w.heap.size, 0, none⟩) 0 m, w.alloc (.cells (madeCells z.cells m) e), ρ, .inl ?_, Tr.of_keep ⟨by simp, fun b hb => by show (w.heap.push _)[b]? = _; rw [Array.getElem?_push, if_neg (Nat.ne_of_lt hb)], rfl, rfl, Clk.eq rfl rfl⟩ hok, ?_⟩
    · simp only [execOp, hvx, hvy]
      rw [Sem.run_bind]
      have hr' : (Instr.makeSlice t (.int .i64 0) (.int .i64 (m : Int))).run P w = .ok (.slice (some ⟨w.heap.size, 0, none⟩) 0 m) (w.alloc (.cells (madeCells z.cells m) e)) := hr
      rw [hr']
      rfl
    · simp [V, big]
/-- Elements are copied over as many. -/
theorem q_copy1 {t e xt : TypeId} {x y : Operand} {id n : Nat} {full : Bool} {rows new : List (List D)} {obs : Obs} (hu : P.underlying t = some (.slice e)) (hs : ∀ w, (sizeOf e).run P w = .ok 1 w)
    (hx : env.op x = some (.gs id n)) (hy : env.op y = some (.snap 1 full new)) (ho : obs.get id = some (.arr 1 rows)) (hn : rows.length = n) (hm : new.length = n) (hn0 : n ≠ 0) :
    QStep P ⟨dst, .call ⟨.builtin .copy, #[x, y], #[t, xt]⟩, ty, pos, aft, g⟩ env obs (.raw (.int .i64 n)) (obs.set id (.arr 1 new)) :=
  .step fun O ρ a w hok hv => by
    have hvx := hv x (by simp [Op.operands, Call.operands]) _ hx
    have hvy := hv y (by simp [Op.operands, Call.operands]) _ hy
    obtain ⟨hlen, us, hfu, hus, hone, hul, hrl⟩ := run_firstSnap (P := P) hvy
    simp only [V] at hvx
    rcases hvx with ⟨e0, _⟩ | ⟨_, l, h2, e1⟩
    · exact absurd e0 hn0
    have hlive : (Ob.arr 1 rows).live = true := by
      cases rows with
      | nil => exact absurd hn.symm hn0
      | cons => rfl
    obtain ⟨l', h3, _, c, T, h4, hc, hrl', h5⟩ := hok.own id _ ho hlive
    rw [h2] at h3; cases h3
    have hul' : us.length = n := by rw [hul, hm, Nat.mul_one]
    have h6 := run_storeCells (P := P) us w c l.off 0 h4 (by omega) hone
    rw [hm] at hlen hfu
    refine ⟨.int .i64 n, _, ρ, .inl ?_, Tr.upd (o' := .arr 1 new) hok ho hlive h2 (.cells (setMany c (l.off + 0) us) T (0, 0)) ?_, by simp [V]⟩
    · simp [execOp, resolve, invoke, builtin, Builtin.copy_, run_underlying hu, e1, hlen, hs, hfu w rfl, h6, goInt, Nat.min_self]
    · intro hk
      refine ⟨setMany c l.off us, T, by simp [(Array.getElem?_eq_some_iff.1 h4).1], by rw [setMany_size]; exact hc, by rw [hm, ← hn]; exact hrl', ?_⟩
      have hfl : new.flatten.length = us.length := hus.length.symm
      have hseg : ((setMany c l.off us).toList.drop l.off).take new.flatten.length = us := by
        rw [hfl, setMany_toList us c l.off (by omega), List.append_assoc, List.drop_append_of_le_length (by simp; omega), List.drop_of_length_le (by simp; omega)]; simp
      refine Vr.of_blk (c := setMany c l.off us) (T := T) (fr := (0, 0)) (by simp [(Array.getElem?_eq_some_iff.1 h4).1]) new l.off hrl ?_ ?_
      · rw [hseg]; exact Vs.mono hk (RhoLe.refl _) _ _ hus
      · rw [hseg]; exact hone
theorem q_copy0 {t e xt : TypeId} {x y : Operand} {full full' : Bool} {sz : Nat} (hu : P.underlying t = some (.slice e)) (hs : ∀ w, (sizeOf e).run P w = .ok sz w)
    (hx : env.op x = some (.snap sz full [])) (hy : env.op y = some (.snap sz full' [])) (obs : Obs) :
    QStep P ⟨dst, .call ⟨.builtin .copy, #[x, y], #[t, xt]⟩, ty, pos, aft, g⟩ env obs (.raw (.int .i64 0)) obs :=
  .step fun O ρ a w hok hv => by
    have hvx := hv x (by simp [Op.operands, Call.operands]) _ hx
    have hvy := hv y (by simp [Op.operands, Call.operands]) _ hy
    obtain ⟨hlen, us, hfu, hus, hone, hul, hrl⟩ := run_firstSnap (P := P) hvy
    simp only [V] at hvx
    obtain ⟨b, cap, e1, _⟩ := hvx
    have hus0 : us = [] := List.length_eq_zero_iff.1 (by simpa using hul)
    subst hus0
    have hf := hfu w rfl
    simp only [List.length_nil] at hlen hf e1
    refine ⟨.int .i64 0, w, ρ, .inl ?_, Tr.refl hok, by simp [V]⟩
    cases b with
    | none => simp [execOp, resolve, invoke, builtin, Builtin.copy_, run_underlying hu, e1, hlen, hs, hf, goInt]
    | some b => simp [execOp, resolve, invoke, builtin, Builtin.copy_, run_underlying hu, e1, hlen, hs, hf, goInt, storeCells]
theorem run_eqNil {t e : TypeId} {op : BinOp} (hu : P.underlying t = some (.slice e)) (b : Option Addr) (n m : Nat) (w : World) : (Op.equal t (.slice b n m) (.slice none 0 0)).run P w = .ok b.isNone w := by
  show (Op.equalIn (9999 + 1) t (.slice b n m) (.slice none 0 0)).run P w = _
  rw [Op.equalIn]
  cases b <;> simp [run_und hu]
theorem q_eqlNilN {t t' e : TypeId} {x y : Operand} {sz : Nat} {full : Bool} {rows : List (List D)} (hu : P.underlying t = some (.slice e)) (hx : env.op x = some (.snap sz full rows)) (hy : env.op y = some (.raw (.slice none 0 0))) (obs : Obs) :
    QStepN P ⟨dst, .binOp .eql t x y t', ty, pos, aft, g⟩ env obs (fun b : Bool => rows ≠ [] → b = false) (fun b => .raw (.bool b)) (fun _ => obs) := by
  intro O ρ a w hok hgl hv
  have hvx := hv x (by simp [Op.operands]) _ hx
  have hvy := hv y (by simp [Op.operands]) _ hy
  simp only [V] at hvx hvy
  obtain ⟨b, cap, e1, _, _, h3⟩ := hvx
  have hr : (execOp a.eval ⟨dst, .binOp .eql t x y t', ty, pos, aft, g⟩).run P w = .ok (.value (.bool b.isNone)) w := by
    simp [execOp, e1, hvy, eqGuard, binOp, run_eqNil (op := .eql) hu]
  unfold Oper.wp
  rw [hr]
  refine ⟨b.isNone, ρ, _, ?_, rfl, Tr.refl hok, by simp [V]⟩
  intro hne
  obtain ⟨b', off, rfl, _⟩ := h3 hne
  rfl
theorem q_eqlNilF {t t' e : TypeId} {x y : Operand} {sz : Nat} {full : Bool} {rows : List (List D)} (hu : P.underlying t = some (.slice e)) (hx : env.op x = some (.snap sz full rows)) (hy : env.op y = some (.raw (.slice none 0 0))) (hne : rows ≠ []) (obs : Obs) :
    QStep P ⟨dst, .binOp .eql t x y t', ty, pos, aft, g⟩ env obs (.raw (.bool false)) obs := by
  intro O ρ a w hok hgl hv
  refine Oper.wp_mono ?_ (q_eqlNilN hu hx hy obs O ρ a w hok hgl hv)
  rintro a' w' ⟨i, ρ', v, hA, h⟩
  cases hA hne
  exact ⟨ρ', v, h⟩
end
end Go.T
namespace Go.T
open Go
def addC : List Nat → List Nat → Nat → List Nat
  | [], _, c => if 0 < c then [c] else []
  | a :: x, [], c => (a + c) % gB :: addC x [] ((a + c) / gB)
  | a :: x, b :: y, c => (a + c + b) % gB :: addC x y ((a + c + b) / gB)
theorem gB_pos : 0 < gB := by unfold gB; omega
theorem addC_val : ∀ (x y : List Nat) (c : Nat), y.length ≤ x.length → magVal (addC x y c) = magVal x + magVal y + c
  | [], y, c, h => by
    have : y = [] := List.length_eq_zero_iff.1 (by simpa using h)
    subst this
    simp only [addC]
    split
    · simp [magVal]
    · simp [magVal]; omega
  | a :: x, [], c, h => by
    simp only [addC, magVal, addC_val x [] _ (by simp)]
    have := Nat.mod_add_div (a + c) gB
    rw [Nat.mul_add, Nat.mul_add]; omega
  | a :: x, b :: y, c, h => by
    simp only [addC, magVal, addC_val x y _ (by simpa using h)]
    have := Nat.mod_add_div (a + c + b) gB
    rw [Nat.mul_add, Nat.mul_add]; omega
theorem addC_ok : ∀ (x y : List Nat) (c : Nat), magOK x → magOK y → c ≤ 1 → magOK (addC x y c)
  | [], y, c, hx, hy, hc => by
    simp only [addC]
    split
    · intro z hz; simp at hz; subst hz; unfold gB; omega
    · intro z hz; simp at hz
  | a :: x, [], c, hx, hy, hc => by
    have ha := hx a (by simp)
    simp only [addC]
    intro z hz
    rcases List.mem_cons.1 hz with rfl | hz
    · exact Nat.mod_lt _ gB_pos
    · exact addC_ok x [] _ (fun u hu => hx u (by simp [hu])) hy (by rw [Nat.div_le_iff_le_mul_add_pred gB_pos]; unfold gB at *; omega) z hz
  | a :: x, b :: y, c, hx, hy, hc => by
    have ha := hx a (by simp)
    have hb := hy b (by simp)
    simp only [addC]
    intro z hz
    rcases List.mem_cons.1 hz with rfl | hz
    · exact Nat.mod_lt _ gB_pos
    · exact addC_ok x y _ (fun u hu => hx u (by simp [hu])) (fun u hu => hy u (by simp [hu])) (by rw [Nat.div_le_iff_le_mul_add_pred gB_pos]; unfold gB at *; omega) z hz
theorem addC_len : ∀ (x y : List Nat) (c : Nat), (addC x y c).length ≤ x.length + 1
  | [], y, c => by simp only [addC]; split <;> simp
  | a :: x, [], c => by simp only [addC, List.length_cons]; have := addC_len x [] ((a + c) / gB); omega
  | a :: x, b :: y, c => by simp only [addC, List.length_cons]; have := addC_len x y ((a + c + b) / gB); omega
def plusM (x y : List Nat) : List Nat := if x.length < y.length then addC y x 0 else addC x y 0
theorem plusM_val (x y : List Nat) : magVal (plusM x y) = magVal x + magVal y := by
  unfold plusM; split
  · rw [addC_val _ _ _ (by omega)]; omega
  · rw [addC_val _ _ _ (by omega)]; omega
theorem plusM_ok {x y : List Nat} (hx : magOK x) (hy : magOK y) : magOK (plusM x y) := by
  unfold plusM; split
  · exact addC_ok _ _ _ hy hx (by omega)
  · exact addC_ok _ _ _ hx hy (by omega)
theorem plusM_len (x y : List Nat) : (plusM x y).length ≤ x.length + y.length + 1 := by
  unfold plusM; split
  · have := addC_len y x 0; omega
  · have := addC_len x y 0; omega
/-- x less y, where it is not negative. -/
def subC : List Nat → List Nat → Nat → List Nat
  | [], _, _ => []
  | a :: x, [], c => (if a < c then a + gB - c else a - c) :: subC x [] (if a < c then 1 else 0)
  | a :: x, b :: y, c => (if a < c + b then a + gB - (c + b) else a - (c + b)) :: subC x y (if a < c + b then 1 else 0)
theorem subC_val : ∀ (x y : List Nat) (c : Nat), magOK x → magOK y → c ≤ 1 → magVal y + c ≤ magVal x → magVal (subC x y c) = magVal x - (magVal y + c)
  | [], y, c, hx, hy, hc, h => by
    simp only [magVal] at h
    simp [subC, magVal]
  | a :: x, [], c, hx, hy, hc, h => by
    have ha := hx a (by simp)
    have hx' : magOK x := fun u hu => hx u (by simp [hu])
    simp only [magVal] at h
    simp only [subC, magVal]
    by_cases hl : a < c
    · rw [if_pos hl, if_pos hl]
      have h1 : 1 ≤ magVal x := by
        rcases Nat.eq_zero_or_pos (magVal x) with e | e
        · rw [e] at h; omega
        · exact e
      rw [subC_val x [] 1 hx' hy (by omega) (by simp only [magVal]; omega)]
      simp only [magVal]
      have : gB * (magVal x - (0 + 1)) = gB * magVal x - gB := by rw [Nat.mul_sub]; omega
      rw [this]
      have : gB * 1 ≤ gB * magVal x := Nat.mul_le_mul_left _ h1
      unfold gB at *; omega
    · rw [if_neg hl, if_neg hl, subC_val x [] 0 hx' hy (by omega) (by simp only [magVal]; omega)]
      simp only [magVal]; rw [show magVal x - (0 + 0) = magVal x from by omega]; omega
  | a :: x, b :: y, c, hx, hy, hc, h => by
    have ha := hx a (by simp)
    have hb := hy b (by simp)
    have hx' : magOK x := fun u hu => hx u (by simp [hu])
    have hy' : magOK y := fun u hu => hy u (by simp [hu])
    simp only [magVal] at h
    simp only [subC, magVal]
    by_cases hl : a < c + b
    · rw [if_pos hl, if_pos hl]
      have h1 : magVal y + 1 ≤ magVal x := by
        rcases Nat.lt_or_ge (magVal y) (magVal x) with e | e
        · omega
        · have := Nat.mul_le_mul_left gB e; omega
      rw [subC_val x y 1 hx' hy' (by omega) h1]
      have e1 : gB * (magVal x - (magVal y + 1)) = gB * magVal x - (gB * magVal y + gB) := by rw [Nat.mul_sub, Nat.mul_add, Nat.mul_one]
      have e2 := Nat.mul_le_mul_left gB h1
      rw [Nat.mul_add, Nat.mul_one] at e2
      rw [e1]; omega
    · rw [if_neg hl, if_neg hl]
      have h1 : magVal y ≤ magVal x := by
        rcases Nat.lt_or_ge (magVal x) (magVal y) with e | e
        · have := Nat.mul_le_mul_left gB (show magVal x + 1 ≤ magVal y from e)
          rw [Nat.mul_add] at this; unfold gB at *; omega
        · exact e
      rw [subC_val x y 0 hx' hy' (by omega) h1, Nat.add_zero, Nat.mul_sub]
      have := Nat.mul_le_mul_left gB h1
      omega
theorem subC_ok : ∀ (x y : List Nat) (c : Nat), magOK x → magOK y → c ≤ 1 → magOK (subC x y c)
  | [], y, c, hx, hy, hc => by intro z hz; simp [subC] at hz
  | a :: x, [], c, hx, hy, hc => by
    have ha := hx a (by simp)
    intro z hz
    simp only [subC, List.mem_cons] at hz
    rcases hz with rfl | hz
    · split <;> omega
    · exact subC_ok x [] _ (fun u hu => hx u (by simp [hu])) hy (by split <;> omega) z hz
  | a :: x, b :: y, c, hx, hy, hc => by
    have ha := hx a (by simp)
    have hb := hy b (by simp)
    intro z hz
    simp only [subC, List.mem_cons] at hz
    rcases hz with rfl | hz
    · split <;> omega
    · exact subC_ok x y _ (fun u hu => hx u (by simp [hu])) (fun u hu => hy u (by simp [hu])) (by split <;> omega) z hz
theorem subC_len : ∀ (x y : List Nat) (c : Nat), (subC x y c).length = x.length
  | [], y, c => by simp [subC]
  | a :: x, [], c => by simp [subC, subC_len x]
  | a :: x, b :: y, c => by simp [subC, subC_len x]
/-- As magnitude.compare answers. -/
def cmpR : List Nat → List Nat → Int
  | a :: x, b :: y => if a < b then -1 else if b < a then 1 else cmpR x y
  | _, _ => 0
def cmpM (x y : List Nat) : Int := if x.length ≠ y.length then (x.length : Int) - y.length else cmpR x.reverse y.reverse
end Go.T
namespace Go.T
open Go
theorem cmpR_step {x y : List Nat} (hx : x.length ≠ 0) (he : x.length = y.length) : cmpR x.reverse y.reverse = if lastN x < lastN y then -1 else if lastN y < lastN x then 1 else cmpR x.dropLast.reverse y.dropLast.reverse := by
  rcases snoc_cases x with rfl | ⟨i, a, rfl⟩
  · simp at hx
  rcases snoc_cases y with rfl | ⟨j, b, rfl⟩
  · simp at he
  simp [cmpR, lastN]
theorem cmpR_nil {x y : List Nat} (hx : x.length = 0) : cmpR x.reverse y.reverse = 0 := by
  rw [List.length_eq_zero_iff.1 hx]; rfl
theorem cmpM_eq {x y : List Nat} (h : x.length = y.length) : cmpM x y = cmpR x.reverse y.reverse := by unfold cmpM; rw [if_neg (by omega)]
theorem cmpM_bd (x y : List Nat) (hx : x.length ≤ 20000) (hy : y.length ≤ 20000) : -20000 ≤ cmpM x y ∧ cmpM x y ≤ 20000 := by
  unfold cmpM
  split
  · omega
  · have : ∀ a b : List Nat, -1 ≤ cmpR a b ∧ cmpR a b ≤ 1 := by
      intro a
      induction a with
      | nil => intro b; simp [cmpR]
      | cons a x ih =>
        intro b
        cases b with
        | nil => simp [cmpR]
        | cons b y =>
          simp only [cmpR]
          split
          · omega
          · split
            · omega
            · exact ih y
    have := this x.reverse y.reverse
    omega
theorem cmpR_spec : ∀ (n : Nat) (x y : List Nat), x.length = n → y.length = n → magOK x → magOK y →
    (cmpR x.reverse y.reverse < 0 ↔ magVal x < magVal y) ∧ (0 < cmpR x.reverse y.reverse ↔ magVal y < magVal x)
  | 0, x, y, hx, hy, _, _ => by
    rw [List.length_eq_zero_iff.1 hx, List.length_eq_zero_iff.1 hy]; simp [cmpR, magVal]
  | n + 1, x, y, hx, hy, ox, oy => by
    rcases snoc_cases x with rfl | ⟨i, a, rfl⟩
    · simp at hx
    rcases snoc_cases y with rfl | ⟨j, b, rfl⟩
    · simp at hy
    have hi : i.length = n := by simpa using hx
    have hj : j.length = n := by simpa using hy
    have oi : magOK i := fun u hu => ox u (by simp [hu])
    have oj : magOK j := fun u hu => oy u (by simp [hu])
    have ih := cmpR_spec n i j hi hj oi oj
    have li := magVal_lt oi
    have lj := magVal_lt oj
    rw [hi] at li; rw [hj] at lj
    simp only [List.reverse_append, List.reverse_singleton, List.singleton_append, cmpR, magVal_append, magVal, hi, hj, Nat.mul_zero, Nat.add_zero]
    by_cases h1 : a < b
    · rw [if_pos h1]
      have := Nat.mul_le_mul_left (gB ^ n) (show a + 1 ≤ b from h1)
      rw [Nat.mul_add, Nat.mul_one] at this
      constructor <;> constructor <;> intro h <;> omega
    · rw [if_neg h1]
      by_cases h2 : b < a
      · rw [if_pos h2]
        have := Nat.mul_le_mul_left (gB ^ n) (show b + 1 ≤ a from h2)
        rw [Nat.mul_add, Nat.mul_one] at this
        constructor <;> constructor <;> intro h <;> omega
      · rw [if_neg h2]
        have : a = b := by omega
        subst this
        constructor
        · rw [ih.1]; omega
        · rw [ih.2]; omega
theorem magVal_ge {x : List Nat} (hc : cutM x = x) (h0 : x.length ≠ 0) : gB ^ (x.length - 1) ≤ magVal x := by
  rcases snoc_cases x with rfl | ⟨i, a, rfl⟩
  · simp at h0
  have ha : a ≠ 0 := by
    rintro rfl
    rw [cutM_zero] at hc
    have := cutM_len i
    rw [hc] at this; simp at this; omega
  rw [magVal_append]
  simp only [magVal, Nat.mul_zero, Nat.add_zero, List.length_append, List.length_singleton, Nat.add_sub_cancel]
  have := Nat.mul_le_mul_left (gB ^ i.length) (show 1 ≤ a by omega)
  omega
theorem magVal_short {x y : List Nat} (ox : magOK x) (cy : cutM y = y) (h : x.length < y.length) : magVal x < magVal y := by
  have h1 := magVal_lt ox
  have h2 := magVal_ge cy (by omega)
  have h3 : gB ^ x.length ≤ gB ^ (y.length - 1) := Nat.pow_le_pow_right gB_pos (by omega)
  omega
theorem cmpM_spec {x y : List Nat} (ox : magOK x) (oy : magOK y) (cx : cutM x = x) (cy : cutM y = y) :
    (cmpM x y < 0 ↔ magVal x < magVal y) ∧ (0 < cmpM x y ↔ magVal y < magVal x) := by
  unfold cmpM
  split
  · rename_i h
    rcases Nat.lt_or_ge x.length y.length with hl | hl
    · have := magVal_short ox cy hl
      constructor <;> constructor <;> intro h <;> omega
    · have := magVal_short oy cx (show y.length < x.length by omega)
      constructor <;> constructor <;> intro h <;> omega
  · rename_i h
    exact cmpR_spec y.length x y (by omega) rfl ox oy
theorem cutM_id {x : List Nat} (h : x.length ≠ 0 → lastN x ≠ 0) : cutM x = x := by
  rcases snoc_cases x with rfl | ⟨i, a, rfl⟩
  · rfl
  · exact cutM_pos i (by simpa [lastN] using h (by simp))
theorem natVal_head {c : UInt8} {r : Str} (hc : isDig c = true) (h : c ≠ 48) : natVal (c :: r) ≠ 0 := by
  have e : natVal (c :: r) = natVal ([c] ++ r) := rfl
  rw [e, natVal_append]
  have h1 : natVal [c] = c.toNat - 48 := by simp [natVal]
  have h2 : c.toNat ≠ 48 := fun e => h (UInt8.toNat_inj.1 e)
  have h3 : 48 ≤ c.toNat := by simp [isDig] at hc; exact hc.1
  rw [h1]
  have : 0 < (c.toNat - 48) * 10 ^ r.length := Nat.mul_pos (by omega) (Nat.pow_pos (by omega))
  omega
theorem lastN_cons {a : Nat} {l : List Nat} (h : l.length ≠ 0) : lastN (a :: l) = lastN l := by
  cases l with
  | nil => simp at h
  | cons b l => simp [lastN]
theorem groupsOf_ne {d : Str} (h : d.length ≠ 0) : (groupsOf d).length ≠ 0 := by rw [groupsOf_step h]; simp
theorem groupsOf_last (d : Str) (hd : d.all isDig = true) (h0 : d.head? ≠ some 48) (hn : d.length ≠ 0) : lastN (groupsOf d) ≠ 0 := by
  induction h : d.length using Nat.strongRecOn generalizing d with
  | _ n ih =>
    rw [groupsOf_step hn]
    by_cases hl : d.length ≤ 9
    · have e1 : d.length - 9 = 0 := by omega
      rw [e1, List.take_zero, List.drop_zero, groupsOf_nil]
      show natVal d ≠ 0
      cases d with
      | nil => simp at hn
      | cons c r => exact natVal_head (by simp at hd; exact hd.1) (by simpa using h0)
    · have hl2 : (d.take (d.length - 9)).length = d.length - 9 := by simp
      rw [lastN_cons (groupsOf_ne (by omega))]
      refine ih (d.length - 9) (by omega) _ ?_ ?_ (by omega) hl2
      · rw [List.all_eq_true] at hd ⊢
        exact fun x hx => hd x (List.mem_of_mem_take hx)
      · rw [List.head?_take, if_neg (by omega)]; exact h0
theorem dropZ_head (s : Str) : (dropZ s).head? ≠ some 48 := by
  induction s with
  | nil => simp [dropZ]
  | cons c r ih =>
    unfold dropZ
    split
    · rename_i heq; simp at heq; rw [← heq.2]; exact ih
    · rename_i hne
      simp only [List.head?_cons]
      intro h
      injection h with h
      subst h
      exact hne r rfl
theorem digits_head (s : Str) : (digits s).1.head? ≠ some 48 := by
  unfold digits; split
  · exact dropZ_head _
  · simp
theorem digits_cut (s : Str) : cutM (groupsOf (digits s).1) = groupsOf (digits s).1 := cutM_id fun h => groupsOf_last _ (digits_dig s) (digits_head s) (by intro e; apply h; rw [List.length_eq_zero_iff.1 e, groupsOf_nil]; rfl)
theorem digits_neg (s : Str) (h : (digits s).2 = true) : (groupsOf (digits s).1).length ≠ 0 := by
  apply groupsOf_ne
  unfold digits at h ⊢
  split at h
  · rename_i hd
    rw [if_pos hd]
    simp only [Bool.and_eq_true, decide_eq_true_eq] at h
    intro e; exact h.2 (List.length_eq_zero_iff.1 e)
  · simp at h
def numV (neg : Bool) (m : List Nat) : Int := if neg then -(magVal m : Int) else magVal m
theorem numV_digits (s : Str) : numV (digits s).2 (groupsOf (digits s).1) = val s := by
  unfold numV val
  rw [(groupsOf_spec _ (digits_dig s)).2]
def signI (n : Int) : Int := if n < 0 then -1 else if 0 < n then 1 else 0
theorem magVal_pos {x : List Nat} (hc : cutM x = x) (h0 : x.length ≠ 0) : 0 < magVal x := Nat.lt_of_lt_of_le (Nat.pow_pos gB_pos) (magVal_ge hc h0)
/-- A number as it is read. -/
structure numOK (neg : Bool) (m : List Nat) : Prop where
  ok : magOK m
  cut : cutM m = m
  neg0 : neg = true → m.length ≠ 0
theorem numOK_digits (s : Str) : numOK (digits s).2 (groupsOf (digits s).1) := ⟨(groupsOf_spec _ (digits_dig s)).1, digits_cut s, digits_neg s⟩
end Go.T
namespace Go.T
open Go
theorem addN {a b : Nat} (h : a + b < 18446744073709551616) : IntKind.u64.wrap ((a : Int) + (b : Int)) = ((a + b : Nat) : Int) := by
  rw [wrapu64_ok (by omega) (by omega)]; simp
theorem subN {a b : Nat} (hb : b ≤ a) (h : a < 18446744073709551616) : IntKind.u64.wrap ((a : Int) - (b : Int)) = ((a - b : Nat) : Int) := by
  rw [wrapu64_ok (by omega) (by omega)]; omega
theorem quoN {a : Nat} (h : a < 18446744073709551616) : IntKind.u64.wrap ((a : Int).tdiv 1000000000) = ((a / gB : Nat) : Int) := by
  have e : (a : Int).tdiv 1000000000 = ((a / gB : Nat) : Int) := by
    rw [Int.tdiv_eq_ediv_of_nonneg (by omega)]; unfold gB; omega
  rw [e]
  have : a / gB ≤ a := Nat.div_le_self _ _
  generalize a / gB = q at this ⊢
  exact wrapu64_ok (by omega) (by omega)
theorem remN (a : Nat) : (a : Int).tmod 1000000000 = ((a % gB : Nat) : Int) := by
  rw [Int.tmod_eq_emod_of_nonneg (by omega)]; unfold gB; omega
theorem enc_mid (o : List Nat) (a : Nat) (r : List Nat) : (encMag (o ++ a :: r))[o.length]? = some [.raw (.int .u64 (a : Int))] := by simp [encMag]
theorem row_set {rows : List (List D)} {j : Nat} {r r' : List D} (h : rows[j]? = some r) : (rows.set j r')[j]? = some r' := by
  have := (List.getElem?_eq_some_iff.1 h).1
  simp [this]
theorem enc_set (o : List Nat) (a x : Nat) (r : List Nat) : (encMag (o ++ a :: r)).set o.length [.raw (.int .u64 (x : Int))] = encMag (o ++ x :: r) := by
  simp [encMag, List.set_append]
theorem idx_mag {l : List Nat} {n : Int} {k b : Nat} {r : List Nat} (hd : l.drop k = b :: r) (hn : n = (k : Int)) : (encMag l)[n.toNat]? = some [.raw (.int .u64 (b : Int))] := by
  subst hn
  have : l[k]? = some b := by
    have := congrArg (fun x => x[0]?) hd
    simpa using this
  simp [encMag, this]
def nthN (l : List Nat) (k : Nat) : Nat := l.getD k 0
theorem nthN_drop {l : List Nat} {k : Nat} (h : k < l.length) : l.drop k = nthN l k :: l.drop (k + 1) := by
  rw [List.drop_eq_getElem_cons h]; simp [nthN, h]
theorem nthN_ok {l : List Nat} {k : Nat} (hm : magOK l) : nthN l k < gB := by
  unfold nthN
  rcases Nat.lt_or_ge k l.length with h | h
  · simp only [List.getD_eq_getElem?_getD, List.getElem?_eq_getElem h, Option.getD_some]; exact hm _ (List.getElem_mem h)
  · simp only [List.getD_eq_getElem?_getD, List.getElem?_eq_none h, Option.getD_none]; exact gB_pos
theorem subC_stepT {a : Nat} {rest y : List Nat} {k c : Nat} (h : k < y.length) : subC (a :: rest) (y.drop k) c = (if a < c + nthN y k then a + gB - (c + nthN y k) else a - (c + nthN y k)) :: subC rest (y.drop (k + 1)) (if a < c + nthN y k then 1 else 0) := by rw [nthN_drop h]; rfl
theorem subC_stepF {a : Nat} {rest y : List Nat} {k c : Nat} (h : y.length ≤ k) : subC (a :: rest) (y.drop k) c = (if a < c then a + gB - c else a - c) :: subC rest (y.drop (k + 1)) (if a < c then 1 else 0) := by
  rw [List.drop_of_length_le h, List.drop_of_length_le (by omega)]; rfl
theorem addC_stepT {a : Nat} {rest y : List Nat} {k c : Nat} (h : k < y.length) : addC (a :: rest) (y.drop k) c = (a + c + nthN y k) % gB :: addC rest (y.drop (k + 1)) ((a + c + nthN y k) / gB) := by rw [nthN_drop h]; rfl
theorem addC_stepF {a : Nat} {rest y : List Nat} {k c : Nat} (h : y.length ≤ k) : addC (a :: rest) (y.drop k) c = (a + c) % gB :: addC rest (y.drop (k + 1)) ((a + c) / gB) := by
  rw [List.drop_of_length_le h, List.drop_of_length_le (by omega)]; rfl
theorem plusM_T {x y : List Nat} (h : x.length < y.length) : plusM x y = addC y x 0 := by unfold plusM; rw [if_pos h]
theorem plusM_F {x y : List Nat} (h : y.length ≤ x.length) : plusM x y = addC x y 0 := by unfold plusM; rw [if_neg (by omega)]
end Go.T
namespace Go.T
open Go
def addM (n1 : Bool) (x : List Nat) (n2 : Bool) (y : List Nat) : Bool × List Nat :=
  if (n1 == n2) = true then (n1, plusM x y) else if cmpM x y < 0 then (n2, cutM (subC y x 0)) else (n1, cutM (subC x y 0))
theorem cmpM_ne2 {x y : List Nat} (h : cmpM x y < 0) : y.length ≠ 0 := by
  intro e
  unfold cmpM at h
  split at h
  · omega
  · rw [cmpR_nil (by omega)] at h; omega
theorem cmpM_nil {x y : List Nat} (hx : x.length = 0) (hy : y.length ≠ 0) : cmpM x y < 0 := by
  unfold cmpM; rw [if_pos (by omega)]; omega
theorem cmpM_ne1 {n1 n2 : Bool} {x y : List Nat} (h1 : numOK n1 x) (h2 : numOK n2 y) (hn : (n1 == n2) = false) (h : ¬ cmpM x y < 0) : x.length ≠ 0 := by
  intro e
  cases n1 with
  | true => exact h1.neg0 rfl e
  | false =>
    cases n2 with
    | false => simp at hn
    | true => exact h (cmpM_nil e (h2.neg0 rfl))
theorem addM_ok {n1 n2 : Bool} {x y : List Nat} (h1 : numOK n1 x) (h2 : numOK n2 y) : magOK (addM n1 x n2 y).2 := by
  unfold addM
  split
  · exact plusM_ok h1.ok h2.ok
  · split
    · exact cutM_ok (subC_ok _ _ _ h2.ok h1.ok (by omega))
    · exact cutM_ok (subC_ok _ _ _ h1.ok h2.ok (by omega))
theorem addM_len (n1 n2 : Bool) (x y : List Nat) : (addM n1 x n2 y).2.length ≤ x.length + y.length + 1 := by
  unfold addM
  split
  · exact plusM_len x y
  · split
    · have := cutM_len (subC y x 0); rw [subC_len] at this; simp only; omega
    · have := cutM_len (subC x y 0); rw [subC_len] at this; simp only; omega
theorem addM_val {n1 n2 : Bool} {x y : List Nat} (h1 : numOK n1 x) (h2 : numOK n2 y) : numV (addM n1 x n2 y).1 (addM n1 x n2 y).2 = numV n1 x + numV n2 y := by
  unfold addM
  have hs := cmpM_spec h1.ok h2.ok h1.cut h2.cut
  split
  · rename_i h
    have : n1 = n2 := by simpa using h
    subst this
    simp only [numV, plusM_val]
    cases n1 <;> simp <;> omega
  · rename_i h
    split
    · rename_i hl
      have := hs.1.1 hl
      simp only [numV]
      rw [cutM_val, subC_val _ _ _ h2.ok h1.ok (by omega) (by omega)]
      cases n1 <;> cases n2 <;> simp at h ⊢ <;> omega
    · rename_i hl
      have : ¬ magVal x < magVal y := fun e => hl (hs.1.2 e)
      simp only [numV]
      rw [cutM_val, subC_val _ _ _ h1.ok h2.ok (by omega) (by omega)]
      cases n1 <;> cases n2 <;> simp at h ⊢ <;> omega
def cmpN (n1 : Bool) (x : List Nat) (n2 : Bool) (y : List Nat) : Int :=
  max (-1) (min (if (n1 != n2) = true then (if n1 = true then -1 else 1) else if n1 = true then 0 - cmpM x y else cmpM x y) 1)
theorem cmpN_sign {n1 n2 : Bool} {x y : List Nat} (h1 : numOK n1 x) (h2 : numOK n2 y) : cmpN n1 x n2 y = signI (numV n1 x - numV n2 y) := by
  have hs := cmpM_spec h1.ok h2.ok h1.cut h2.cut
  unfold cmpN signI numV
  cases n1 <;> cases n2 <;> simp only [bne_self_eq_false, Bool.false_bne, Bool.true_bne, Bool.not_false, Bool.not_true, if_true, if_false, Bool.false_eq_true]
  · split
    · rename_i h
      have := hs.1.2 (by omega); omega
    · split
      · have := hs.2.2 (by omega); omega
      · have a1 : ¬ cmpM x y < 0 := fun e => by have := hs.1.1 e; omega
        have a2 : ¬ 0 < cmpM x y := fun e => by have := hs.2.1 e; omega
        omega
  · have := magVal_pos h2.cut (h2.neg0 rfl)
    rw [if_neg (by omega), if_pos (by omega)]; rfl
  · have := magVal_pos h1.cut (h1.neg0 rfl)
    rw [if_pos (by omega)]; rfl
  · split
    · have := hs.2.2 (by omega); omega
    · split
      · have := hs.1.2 (by omega); omega
      · have a1 : ¬ cmpM x y < 0 := fun e => by have := hs.1.1 e; omega
        have a2 : ¬ 0 < cmpM x y := fun e => by have := hs.2.1 e; omega
        omega
end Go.T
namespace Go.T
open Go
theorem segsFrom_app (cur a : Str) (s : Str) (h : ∀ c ∈ a, c ≠ 46) : segsFrom cur (a ++ s) = segsFrom (cur ++ a) s := by
  induction a generalizing cur with
  | nil => simp
  | cons c a ih =>
    have hc : c.toNat ≠ 46 := fun e => h c (by simp) (UInt8.toNat_inj.1 e)
    rw [List.cons_append, segsFrom, if_neg hc, ih _ (fun x hx => h x (by simp [hx]))]
    simp
/-- As strings.Cut answers. -/
def cutI (s : Str) (c : UInt8) : Str × Str × Bool := if 0 ≤ Lib.indexByte s c then (s.take (Lib.indexByte s c).toNat, s.drop ((Lib.indexByte s c).toNat + 1), true) else (s, [], false)
theorem indexByte_spec (c : UInt8) : ∀ s : Str, (0 ≤ Lib.indexByte s c ∧ Lib.indexByte s c < s.length ∧ s = s.take (Lib.indexByte s c).toNat ++ c :: s.drop ((Lib.indexByte s c).toNat + 1) ∧ ∀ x ∈ s.take (Lib.indexByte s c).toNat, x ≠ c) ∨ (Lib.indexByte s c = -1 ∧ ∀ x ∈ s, x ≠ c)
  | [] => .inr ⟨rfl, by simp⟩
  | b :: s => by
    unfold Lib.indexByte
    by_cases h : b = c
    · subst h
      left; simp
    · have hb : (b == c) = false := by simpa using h
      simp only [hb, Bool.false_eq_true, if_false]
      rcases indexByte_spec c s with ⟨h1, h2, h3, h4⟩ | ⟨h1, h2⟩
      · left
        have hne : (Lib.indexByte s c == -1) = false := by simp; omega
        simp only [hne, Bool.false_eq_true, if_false]
        have e : (Lib.indexByte s c + 1).toNat = (Lib.indexByte s c).toNat + 1 := by omega
        rw [e]
        refine ⟨by omega, by simp; omega, ?_, ?_⟩
        · simp only [List.take_succ_cons, List.cons_append, List.drop_succ_cons]
          rw [← h3]
        · intro x hx
          simp only [List.take_succ_cons, List.mem_cons] at hx
          rcases hx with rfl | hx
          · exact h
          · exact h4 x hx
      · right
        simp only [h1, beq_self_eq_true, if_true, true_and]
        intro x hx
        rcases List.mem_cons.1 hx with rfl | hx
        · exact h
        · exact h2 x hx
theorem segments_T {s : Str} (h : (cutI s 46).2.2 = true) : segments s = (cutI s 46).1 :: segments (cutI s 46).2.1 := by
  unfold cutI at h ⊢
  split at h
  · rename_i h0
    rw [if_pos h0]
    rcases indexByte_spec 46 s with ⟨_, _, h3, h4⟩ | ⟨h1, _⟩
    · simp only
      conv => lhs; rw [h3]
      unfold segments
      rw [segsFrom_app _ _ _ h4, segsFrom]
      simp
    · omega
  · simp at h
theorem segments_F {s : Str} (h : (cutI s 46).2.2 = false) : segments s = [(cutI s 46).1] := by
  unfold cutI at h ⊢
  split at h
  · simp at h
  · rename_i h0
    rw [if_neg h0]
    rcases indexByte_spec 46 s with ⟨h1, _⟩ | ⟨_, h2⟩
    · omega
    · unfold segments
      have := segsFrom_app [] s [] h2
      rw [List.append_nil] at this
      rw [this, segsFrom]; simp
theorem segs_pre (pre : List Str) (r : Str) : pre ++ [(cutI r 46).1] <+: pre ++ segments r := by
  cases h : (cutI r 46).2.2 with
  | true => rw [segments_T h]; exact ⟨segments (cutI r 46).2.1, by simp⟩
  | false => rw [segments_F h]; exact List.prefix_refl _
theorem cutI_len (s : Str) (c : UInt8) (h : (cutI s c).2.2 = true) : (cutI s c).2.1.length < s.length := by
  unfold cutI at h ⊢
  split at h
  · rename_i h0
    rw [if_pos h0]
    rcases indexByte_spec c s with ⟨_, h2, _⟩ | ⟨h1, _⟩
    · simp; omega
    · omega
  · simp at h
theorem segments_len (s : Str) : (segments s).length ≤ s.length + 1 := by
  have : ∀ (s cur : Str), (segsFrom cur s).length ≤ s.length + 1 := by
    intro s
    induction s with
    | nil => intro cur; simp [segsFrom]
    | cons c r ih =>
      intro cur
      simp only [segsFrom]
      split
      · have := ih []; simp; omega
      · have := ih (cur ++ [c]); simp; omega
  exact this s []
theorem pre_bad {p : Str → Bool} {l pre : List Str} {x : Str} (h : pre ++ [x] <+: l) (hb : 6 < pre.length + 1 ∨ p x = false) : (l.all p && decide (l.length ≤ 6)) = false := by
  rw [Bool.and_eq_false_iff]
  rcases hb with hb | hb
  · right
    have := h.length_le
    simp only [List.length_append, List.length_singleton] at this
    simp; omega
  · left
    obtain ⟨r, rfl⟩ := h
    simp [hb]
end Go.T
namespace Go.T
open Go
variable [Noise]
def ghostR (b : Bool) : List (List D) := match b with
  | true => []
  | false => [[.box 0 0]]
@[reducible] def ghost (b : Bool) : Ob := .arr 1 (ghostR b)
theorem ghost_false {F : Fr} {C : Ctx} {env : Env} {obs : Obs} {a : Act} {w : World} {i : Nat} (h : obs.get i = some (ghost false)) (hs : St F C env obs a w) : False := by
  obtain ⟨ρ, hs⟩ := hs
  obtain ⟨l, _, _, c, T, _, _, _, h5⟩ := hs.tr.ok.own i _ h rfl
  simp only [ghostR, Vr, Vc, V] at h5
  obtain ⟨⟨_, ⟨u, _, l', h6, _⟩, _⟩, _⟩ := h5
  simp [rho0] at h6
theorem Run.ghost {P : Program} {F : Fr} {Q : Exit → Env → Obs → Prop} {c : Code} {cs : List Code} {env : Env} {obs : Obs} (i : Nat) {b : Bool} (h : obs.get i = some (T.ghost b)) (k : b = true → Run P F (c :: cs) Q env obs) : Run P F (c :: cs) Q env obs := by
  cases b with
  | true => exact k rfl
  | false => exact ⟨⟨fun C a w hs => (ghost_false h hs).elim⟩⟩
theorem ghost_step {a b : Bool} (h1 : a = true) (h2 : b = true) : T.ghost a = T.ghost b := by rw [h1, h2]
def freeB (lo idL : Nat) (o : Obs) : Bool := o.all fun p => !(Nat.ble lo p.1 && Nat.blt p.1 (lo + 100)) && !(Nat.beq p.1 idL)
theorem freeB_get {lo idL : Nat} : ∀ {o : Obs}, freeB lo idL o = true → ∀ i, (lo ≤ i ∧ i < lo + 100) ∨ i = idL → o.get i = none
  | [], _, i, _ => rfl
  | (t, d) :: r, h, i, hi => by
    simp only [freeB, List.all_cons, Bool.and_eq_true] at h
    rw [Obs.get_cons, if_neg, freeB_get (o := r) h.2 i hi]
    rintro rfl
    obtain ⟨⟨h1, h2⟩, _⟩ := h
    rcases hi with ⟨a, b⟩ | rfl
    · have e1 : Nat.ble lo t = true := by rw [Nat.ble_eq]; exact a
      have e2 : Nat.blt t (lo + 100) = true := by rw [Nat.blt_eq]; exact b
      simp [e1, e2] at h1
    · simp at h2
end Go.T
namespace Go.T
open Go
variable [Noise]
structure TxA (P : Program) (F : Fr) (ops : Array Oper) (K : Env → Obs → Prop) (fuel : Nat) (listed : Array Bool) (env : Env) (obs : Obs) : Prop where
  out : ∀ (C : Ctx) (Q : Exit → Act → World → Prop), (∀ a w env' obs', K env' obs' → St F C env' obs' a w → Q .normal a w) → ∀ a w, St F C env obs a w → wpAnyIn (fz C.ro) 0 P .any ops Q fuel listed a w
section
variable {P : Program} {F : Fr} {ops : Array Oper} {K : Env → Obs → Prop} {fuel : Nat} {listed : Array Bool} {env : Env} {obs : Obs}
theorem TxA.nil (hr : Region.ready .any ops listed = []) (h : K env obs) : TxA P F ops K 0 listed env obs := ⟨fun _ _ hQ a w hs => ⟨hr, hQ a w env obs h hs⟩⟩
/-- One operation, then the rest. -/
structure AStep (P : Program) (F : Fr) (ops : Array Oper) (K : Env → Obs → Prop) (fuel : Nat) (listed : Array Bool) (env : Env) (obs : Obs) (i : Nat) : Prop where
  out : ∃ o d obs', ops[i]? = some o ∧ dstB F.N o.dst = true ∧ On ops env o ∧ QStep P o env obs d obs' ∧ TxA P F ops K fuel (listed.setIfInBounds i true) (env.put o.dst d) obs'
theorem AStep.mk' {i : Nat} {o : Oper} {d : D} {obs' : Obs} (ho : ops[i]? = some o) (hd : dstB F.N o.dst = true) (hg : On ops env o) (hq : QStep P o env obs d obs') (k : TxA P F ops K fuel (listed.setIfInBounds i true) (env.put o.dst d) obs') : AStep P F ops K fuel listed env obs i := ⟨o, d, obs', ho, hd, hg, hq, k⟩
theorem TxA.step {l : List Nat} (hr : Region.ready .any ops listed = l) (hn : l ≠ []) (h : ∀ i ∈ l, AStep P F ops K fuel listed env obs i) : TxA P F ops K (fuel + 1) listed env obs := ⟨fun C Q hQ a w hs => by
  refine ⟨fun e => absurd (hr ▸ e) hn, fun i hi => ?_⟩
  rw [hr] at hi
  obtain ⟨o, d, obs', ho, hd, hg, hq, k⟩ := (h i hi).out
  obtain ⟨ρ, hst⟩ := hs
  unfold wpOpIn
  simp only [ho]
  rw [if_pos (wanted_on hg fun g b t _ _ d hd => hst.env t d hd)]
  have := hq C.O ρ a w hst.tr.ok hst.glob (fun x _ d' h => op_of_env hst.env x d' h)
  refine Oper.wpIn_mono ?_ (wp_toIn C.ro this (by rintro a' w' ⟨ρ', v, rfl, _⟩; exact Act.put_def ..))
  rintro a' w' ⟨ρ', v, rfl, htr', hv⟩
  exact k.out C Q hQ _ _ ⟨ρ', hst.step htr' (env_put hst.size hd (fun t d h => htr'.V (hst.env t d h)) hv) (Act.size_put _ _ _) (Act.put_def ..)⟩⟩
theorem TxA.one {i : Nat} (hr : Region.ready .any ops listed = [i]) (h : AStep P F ops K fuel listed env obs i) : TxA P F ops K (fuel + 1) listed env obs := TxA.step hr (by simp) (by simpa using h)
theorem TxA.two {i j : Nat} (hr : Region.ready .any ops listed = [i, j]) (h : AStep P F ops K fuel listed env obs i) (h' : AStep P F ops K fuel listed env obs j) : TxA P F ops K (fuel + 1) listed env obs := TxA.step hr (by simp) (by simpa using ⟨h, h'⟩)
theorem Run.regA {Q : Exit → Env → Obs → Prop} {cs : List Code} {id : Nat} {l : List Oper} {c : Code} (env1 : Env) (obs1 : Obs) (hm : P.follows .mixedOrders = true)
    (h : TxA P F l.toArray (fun e o => Le F e o env1 obs1) l.length (Array.replicate l.length false) env obs) (k : Run P F (c :: cs) Q env1 obs1) : Run P F (.region id l.toArray true :: c :: cs) Q env obs := ⟨⟨fun C a w hs => by
  refine wpIn_region_any hm ?_
  have := h.out C (fun e a' w' => ∃ env' obs', thenQ (WPd P F (c :: cs) Q) Q e env' obs' ∧ St F C env' obs' a' w') (fun a w env' obs' hk hs => ⟨env1, obs1, k.out, hk.out C a w hs⟩) a _ hs.drew
  simpa using this⟩⟩
end
end Go.T
