/- Part 12 of what the closing text rests on. -/
import Derived.Test.YtlbfenfepmmihaaI10
import Derived.Test.YtlbfenfepmmihaaI11
import Derived.Test.YtlbfenfepmmihaaRows
namespace Go.ZR
open Go.Proofs
open Go.Z Go.ZM Go.RowKit
set_option maxRecDepth 100000
theorem size359 : Try.prog.types[(359 : Nat)].size = 16 := by kernel_rfl
theorem iv_one : iv 1#32 = 1 := rfl
theorem iv_15 : iv 15#32 = 15 := rfl
theorem iv_poly : iv poly = 2197175160 := rfl
theorem and_one (c : BitVec 32) : bits .and .u32 (iv c) 1 = if c.getLsbD 0 then 1 else 0 := by
  rw [← iv_one, and_iv, BitVec.and_one_eq_setWidth_ofBool_getLsbD]
  cases c.getLsbD 0 <;> rfl
theorem shr1 (c : BitVec 32) : Int.fdiv (iv c) (2 ^ min (Int.toNat 1) (IntKind.bits .u32)) = iv (c >>> 1) := shr_iv c 1 (by decide)
theorem shr4 (c : BitVec 32) : Int.fdiv (iv c) (2 ^ min (Int.toNat 4) (IntKind.bits .u32)) = iv (c >>> 4) := shr_iv c 4 (by decide)
theorem step_neg (c : BitVec 32) : bits .xor .u32 (iv (c >>> 1)) (bits .and .u32 2197175160 (IntKind.u32.wrap (0 - bits .and .u32 (iv c) 1))) = iv (s1 c) := by
  rw [and_one]
  unfold s1
  cases c.getLsbD 0 with
  | true =>
    rw [if_pos rfl, if_pos rfl]
    have : bits .and .u32 2197175160 (IntKind.u32.wrap (0 - 1)) = iv poly := by decide
    rw [this, xor_iv]
  | false =>
    rw [if_neg (by decide), if_neg (by decide)]
    have : bits .and .u32 2197175160 (IntKind.u32.wrap (0 - 0)) = iv 0#32 := by decide
    rw [this, xor_iv]
theorem tab_ok : tabL 16 = tabF := by decide +kernel
theorem tabL_zero : tabL 0 = List.replicate 16 0 := by decide +kernel
theorem tabL_set : ∀ i : Fin 16, (tabL i).set i (iv (sN 4 (bv (i : Nat)))) = tabL (i + 1) := by decide +kernel
theorem wrap_byte {x : Int} (h0 : 0 ≤ x) (h1 : x ≤ 255) : IntKind.u32.wrap x = iv (bv x) := by
  rw [iv_bv h0 (by omega), IntKind.wrap_u32]; omega
theorem and15 (d : BitVec 32) : bits .and .u32 (iv d) 15 = iv (d &&& 15#32) := by rw [← iv_15, and_iv]
theorem and15_rng (d : BitVec 32) : 0 ≤ iv (d &&& 15#32) ∧ iv (d &&& 15#32) < 16 := by
  have : (d &&& 15#32).toNat ≤ 15 := by rw [BitVec.toNat_and]; exact Nat.and_le_right
  unfold iv
  omega
theorem tab_get (d : BitVec 32) : tabF.getD (iv (d &&& 15#32)).toNat 0 = iv (sN 4 (d &&& 15#32)) := by
  have h := and15_rng d
  have key : ∀ i : Fin 16, tabF.getD i 0 = iv (sN 4 (bv (i : Nat))) := by decide +kernel
  have := key ⟨(iv (d &&& 15#32)).toNat, by omega⟩
  simp only [show (((iv (d &&& 15#32)).toNat : Nat) : Int) = iv (d &&& 15#32) by omega, bv_iv] at this
  exact this
theorem nib (d : BitVec 32) : (d >>> 4) ^^^ sN 4 (d &&& 15#32) = sN 4 d := by
  have e : d = (d &&& ~~~15#32) ^^^ (d &&& 15#32) := by
    apply BitVec.eq_of_getLsbD_eq
    intro i hi
    rw [BitVec.getLsbD_xor, BitVec.getLsbD_and, BitVec.getLsbD_and, BitVec.getLsbD_not]
    cases d.getLsbD i <;> cases (15#32).getLsbD i <;> simp [hi]
  have z : ∀ i, i < 4 → (d &&& ~~~15#32).getLsbD i = false := by
    intro i hi
    rw [BitVec.getLsbD_and, BitVec.getLsbD_not]
    have : (15#32).getLsbD i = true := by
      have : ∀ i : Fin 4, (15#32).getLsbD i = true := by decide
      exact this ⟨i, hi⟩
    rw [this]; simp
  conv => rhs; rw [e, sN_xor, sN_shr 4 _ z]
  congr 1
  apply BitVec.eq_of_getLsbD_eq
  intro i hi
  rw [BitVec.getLsbD_ushiftRight, BitVec.getLsbD_ushiftRight, BitVec.getLsbD_and, BitVec.getLsbD_not]
  have : (15#32).getLsbD (4 + i) = false := by
    have : ∀ i : Fin 32, (15#32).getLsbD (4 + i) = false := by decide
    exact this ⟨i, hi⟩
  rw [this]
  cases h : d.getLsbD (4 + i) with
  | false => rfl
  | true => have := BitVec.lt_of_getLsbD h; simp [this]
theorem byte_nibs (c : BitVec 32) (x : Int) : sN 4 (sN 4 (c ^^^ bv x)) = byteR c x := by
  rw [← sN_add]; rfl
theorem ckR_zero (c : BitVec 32) (x : Int) : ckR c x 0 = c := by
  unfold ckR
  simp [sN, BitVec.xor_assoc]
theorem ckR_end (c : BitVec 32) {x : Int} (h0 : 0 ≤ x) (h1 : x ≤ 255) : ckR c x 8 = byteR c x := by
  unfold ckR byteR
  have : bv x >>> 8 = 0#32 := by
    apply BitVec.eq_of_toNat_eq
    have := iv_bv h0 (show x ≤ 4294967295 by omega)
    unfold iv at this
    rw [BitVec.toNat_ushiftRight, Nat.shiftRight_eq_div_pow]
    simp
    omega
  rw [this]; simp
theorem ckR_succ (c : BitVec 32) (x : Int) (k : Nat) : ckR c x (k + 1) = (ckR c x k >>> 1) ^^^ (if (bv x >>> k ^^^ ckR c x k).getLsbD 0 then poly else 0#32) := by
  have e : bv x >>> k ^^^ ckR c x k = sN k (c ^^^ bv x) := by
    unfold ckR
    rw [BitVec.xor_comm, BitVec.xor_assoc]; simp
  rw [e]
  unfold ckR
  rw [sN_succ, BitVec.ushiftRight_xor_distrib, ← BitVec.shiftRight_add]
  generalize sN k (c ^^^ bv x) = d
  unfold s1
  rw [BitVec.xor_assoc, BitVec.xor_assoc]
  congr 1
  rw [BitVec.xor_comm]
theorem shrk {x : Int} (h0 : 0 ≤ x) (h1 : x ≤ 255) {k : Nat} (hk : k < 8) : Int.fdiv (IntKind.u32.wrap x) (2 ^ min (IntKind.u64.wrap (k : Int)).toNat (IntKind.bits .u32)) = iv (bv x >>> k) := by
  rw [wrap_byte h0 h1, show (IntKind.u64.wrap (k : Int)).toNat = k by rw [IntKind.wrap_u64]; omega]
  exact shr_iv _ k (by omega)
theorem sub_not {s : Int} (h : 0 ≤ s ∧ s ≤ 4294967295) : IntKind.u32.wrap (4294967295 - s) = iv (~~~ bv s) := by
  have := iv_bv h.1 h.2
  unfold iv at *
  rw [BitVec.toNat_not, IntKind.wrap_u32]
  omega
theorem xor_not {s : Int} (h : 0 ≤ s ∧ s ≤ 4294967295) : bits .xor .u32 IntKind.u32.max s = iv (~~~ bv s) := by
  have e : IntKind.u32.max = iv (BitVec.allOnes 32) := rfl
  rw [e, ← iv_bv h.1 h.2, xor_iv, bv_iv, BitVec.allOnes_xor]
theorem iv_sub (c : BitVec 32) : IntKind.u32.wrap (4294967295 - iv c) = iv (~~~ c) := by
  rw [sub_not (iv_rng c), bv_iv]
theorem iv_not (c : BitVec 32) : bits .xor .u32 IntKind.u32.max (iv c) = iv (~~~ c) := by
  rw [xor_not (iv_rng c), bv_iv]
noncomputable def code273 : Code := match Try.f273.body with | some c => c | none => .skip
@[reducible] noncomputable def q273_0 (x0 : Nat) : Int := (↑x0 : Int)
@[reducible] def q273_1 (x0 : Nat) : Prop := some (SV.c (Value.int IntKind.i64 (q273_0 x0))) = some (SV.c (Value.int IntKind.i64 (q273_0 x0)))
@[reducible] noncomputable def q273_2 (x0 : Nat) : Option SV := some (SV.c (Value.bool (decide (q273_0 x0 < (16 : Int)))))
@[reducible] def q273_4 : Prop := Try.prog.types[359].size = (16 : Nat)
set_option maxHeartbeats 4000000 in
theorem vc273 : ∃ (g0 : Nat), g0 ≤ (16 : Nat) ∧ (0 : Int) = q273_0 g0 ∧ List.replicate (16 : Nat) (0 : Int) = tabL g0 ∧ (true && true && true) = true ∧
  ∀ (g : Nat), g ≤ (16 : Nat) → True ∧ sw (decide (q273_0 g < (16 : Int))) (∃ (p : Nat), ∃ (g0_1 : Nat), g0_1 ≤ (4 : Nat) ∧ (0 : Int) = q273_0 g0_1 ∧ IntKind.u32.wrap (q273_0 g) = iv (sN g0_1 (bv (q273_0 p))) ∧
  true = true ∧ ∀ (g_1 : Nat), g_1 ≤ (4 : Nat) → True ∧ sw (decide (q273_0 g_1 < (4 : Int))) ((0 : Int) ≤ (1 : Int) ∧ True ∧ True ∧ True ∧ True ∧
  ∃ (g' : Nat), g' ≤ (4 : Nat) ∧ (4 : Nat) - g' < (4 : Nat) - g_1 ∧ (IntKind.i64.wrap (q273_0 g_1 + (1 : Int)) = q273_0 g' ∧ bits BinOp.xor IntKind.u32 ((iv (sN g_1 (bv (q273_0 p)))).fdiv ((2 : Int) ^ min (Int.toNat (1 : Int)) IntKind.u32.bits)) (bits BinOp.and IntKind.u32 (2197175160 : Int) (IntKind.u32.wrap ((0 : Int) - bits BinOp.and IntKind.u32 (iv (sN g_1 (bv (q273_0 p)))) (1 : Int)))) = iv (sN g' (bv (q273_0 p))) ∧
  (true && true && true) = true) ∧ (some (SV.c (Value.int IntKind.u32 (IntKind.u32.wrap (q273_0 g)))) = some (SV.c (Value.int IntKind.u32 (IntKind.u32.wrap (q273_0 g)))) ∧
  q273_1 g ∧ q273_1 g ∧ q273_1 g ∧ q273_2 g = q273_2 g ∧ q273_1 g ∧ some (SV.q (1 : Nat)) = some (SV.q (1 : Nat)) ∧ True) ∧ some (R.own (359 : Nat) (D.ints IntKind.u32 (tabL g))) = some (R.own (359 : Nat) (D.ints IntKind.u32 (tabL g))) ∧
  some R.dead = some R.dead ∧ True) (((0 : Int) ≤ q273_0 g ∧ q273_0 g < (↑(16 : Nat) : Int) ∧ (16 : Nat) = (16 : Nat)) ∧ IntKind.u32 = IntKind.u32 ∧ True ∧
  ∃ (g' : Nat), g' ≤ (16 : Nat) ∧ (16 : Nat) - g' < (16 : Nat) - g ∧ (IntKind.i64.wrap (q273_0 g + (1 : Int)) = q273_0 g' ∧ (tabL g).set (q273_0 g).toNat (iv (sN g_1 (bv (q273_0 p)))) = tabL g' ∧
  (true && true && true && true) = true) ∧ True ∧ True)) (q273_4 ∧ (IntKind.u32 = IntKind.u32 ∧
  q273_4 ∧ (16 : Nat) = (16 : Nat)) ∧ q273_4 ∧ tabL g = tabF ∧ true = true) := by
  delta q273_0 q273_1 q273_2 q273_4
  simp only [↓sw_iff, ↓Bool.and_eq_true, ↓decide_eq_true_eq, ↓decide_eq_false_iff_not, true_and, and_true, Int.toNat_natCast, size359, shr1, step_neg]
  refine ⟨0, by omega, rfl, tabL_zero.symm, fun g hg => ⟨fun h => ?_, fun h => ?_⟩⟩
  · refine ⟨g, 0, by omega, rfl, ?_, fun k hk => ⟨fun h' => ?_, fun h' => ?_⟩⟩
    · show _ = iv (bv (g : Int)); exact (wrap_byte (by omega) (by omega))
    · exact ⟨by omega, k + 1, by omega, by omega, by rw [wrap_i64_id (by omega) (by omega)]; omega, by rw [sN_succ]⟩
    · have : k = 4 := by omega
      subst this
      exact ⟨⟨by omega, by omega⟩, g + 1, by omega, by omega, by rw [wrap_i64_id (by omega) (by omega)]; omega, by have := tabL_set ⟨g, by omega⟩; simpa using this⟩
  · have : g = 16 := by omega
    subst this
    exact tab_ok
set_option maxRecDepth 100000 in
theorem ok273 : FnIs Try.prog 273 tableC := by
  refine fnIs (C := (ctrs c0)) (by kernel_rfl) c0_ok Try.func273 (code := code273) (by kernel_rfl) (by kernel_rfl) ?_
  rintro a rfl
  exact ⟨anns [(2, tabAnn 3 0), (6, tabBit 8 2)], kcast (vc273) (by kernel_rfl)⟩

theorem k1_ok : COk Try.prog (ctrs k1) := cok_cons ok273 cok_nil

noncomputable def code263 : Code := match Try.f263.body with | some c => c | none => .skip
@[reducible] noncomputable def q263_1 (x0 : Nat) : Int := (↑x0 : Int)
@[reducible] noncomputable def q263_2 (x0 : Int) (x1 : Nat) (x2 : List Int) : Int := bits BinOp.xor IntKind.u32 (iv (crcR (~~~bv x0) (List.take x1 x2))) (IntKind.u32.wrap (x2.getD (q263_1 x1).toNat (0 : Int)))
@[reducible] noncomputable def q263_3 (x0 : Int) (x1 : Nat) (x2 : List Int) : Int := bits BinOp.xor IntKind.u32 ((q263_2 x0 x1 x2).fdiv ((2 : Int) ^ min (Int.toNat (4 : Int)) IntKind.u32.bits)) (tabF.getD (bits BinOp.and IntKind.u32 (q263_2 x0 x1 x2) (15 : Int)).toNat (0 : Int))
@[reducible] noncomputable def q263_4 (x0 : List Int) : Option SV := some (SV.c (Value.int IntKind.i64 (↑x0.length : Int)))
@[reducible] def q263_5 : Prop := some (SV.a (0 : Nat)) = some (SV.a (0 : Nat))
@[reducible] noncomputable def q263_6 (x0 : Int) : Option SV := some (SV.c (Value.int IntKind.u32 (bits BinOp.xor IntKind.u32 IntKind.u32.max x0)))
@[reducible] def q263_7 (x0 : Int) : Prop := some (SV.c (Value.int IntKind.u32 x0)) = some (SV.c (Value.int IntKind.u32 x0))
set_option maxHeartbeats 4000000 in
theorem vc263 : ∀ (s : Int) (b : List Int), (0 : Int) ≤ s ∧ s ≤ (4294967295 : Int) → sm b.length → okB b → ([] : List O) = [] ∧ (IntKind.u32 = IntKind.u32 ∧
  Try.prog.types[359].size = (16 : Nat) ∧ (16 : Nat) = (16 : Nat)) ∧ ∃ (g0 : Nat), g0 ≤ b.length ∧ (0 : Int) = q263_1 g0 ∧ bits BinOp.xor IntKind.u32 IntKind.u32.max s = iv (crcR (~~~bv s) (List.take g0 b)) ∧
  true = true ∧ ∀ (g : Nat), g ≤ b.length → True ∧ sw (decide (q263_1 g < (↑b.length : Int))) (((0 : Int) ≤ q263_1 g ∧ q263_1 g < (↑b.length : Int)) ∧
  True ∧ (0 : Int) ≤ (4 : Int) ∧ True ∧ ((0 : Int) ≤ bits BinOp.and IntKind.u32 (q263_2 s g b) (15 : Int) ∧ bits BinOp.and IntKind.u32 (q263_2 s g b) (15 : Int) < (↑(16 : Nat) : Int) ∧
  (16 : Nat) = (16 : Nat)) ∧ True ∧ (0 : Int) ≤ (4 : Int) ∧ True ∧ ((0 : Int) ≤ bits BinOp.and IntKind.u32 (q263_3 s g b) (15 : Int) ∧ bits BinOp.and IntKind.u32 (q263_3 s g b) (15 : Int) < (↑(16 : Nat) : Int) ∧
  (16 : Nat) = (16 : Nat)) ∧ True ∧ True ∧ ∃ (g' : Nat), g' ≤ b.length ∧ b.length - g' < b.length - g ∧ (IntKind.i64.wrap (q263_1 g + (1 : Int)) = q263_1 g' ∧
  bits BinOp.xor IntKind.u32 ((q263_3 s g b).fdiv ((2 : Int) ^ min (Int.toNat (4 : Int)) IntKind.u32.bits)) (tabF.getD (bits BinOp.and IntKind.u32 (q263_3 s g b) (15 : Int)).toNat (0 : Int)) = iv (crcR (~~~bv s) (List.take g' b)) ∧
  (true && true && true) = true) ∧ (q263_4 b = q263_4 b ∧ q263_5 ∧ q263_6 s = q263_6 s ∧ q263_7 s ∧ some (SV.q (1 : Nat)) = some (SV.q (1 : Nat)) ∧ some (SV.arr IntKind.u32 tabF) = some (SV.arr IntKind.u32 tabF) ∧
  some (SV.c (Value.int IntKind.u32 (0 : Int))) = some (SV.c (Value.int IntKind.u32 (0 : Int))) ∧ q263_7 s ∧ q263_5 ∧ True) ∧ some (R.own (359 : Nat) (D.ints IntKind.u32 tabF)) = some (R.own (359 : Nat) (D.ints IntKind.u32 tabF)) ∧
  some (R.ro (D.ints IntKind.u8 b)) = some (R.ro (D.ints IntKind.u8 b)) ∧ True) (bits BinOp.xor IntKind.u32 IntKind.u32.max (iv (crcR (~~~bv s) (List.take g b))) = moreF s b ∧
  true = true) := by
  delta q263_1 q263_2 q263_3 q263_4 q263_5 q263_6 q263_7
  simp only [↓sw_iff, ↓Bool.and_eq_true, ↓decide_eq_true_eq, ↓decide_eq_false_iff_not, true_and, and_true, Int.toNat_natCast, size359]
  intro s b hs h hb
  unfold sm at h
  refine ⟨0, by omega, rfl, by rw [xor_not hs]; rfl, fun g hg => ⟨fun hl => ?_, fun hl => ?_⟩⟩
  · obtain ⟨x0, x1⟩ := okB_getD hb g
    rw [wrap_byte x0 x1, xor_iv]
    generalize hd : crcR (~~~bv s) (List.take g b) ^^^ bv (b.getD g 0) = d
    simp only [shr4, and15, tab_get, xor_iv, nib]
    have r1 := and15_rng d
    have r2 := and15_rng (sN 4 d)
    refine ⟨by omega, by omega, by omega, by omega, by omega, g + 1, by omega, by omega, ?_, ?_⟩
    · rw [wrap_i64_id (by omega) (by omega)]; omega
    · rw [← hd, byte_nibs, crcR_take (by omega)]
  · have : g = b.length := by omega
    subst this
    rw [List.take_of_length_le (Nat.le_refl _), iv_not]
    rfl
set_option maxRecDepth 100000 in
theorem ok263 : FnIs Try.prog 263 moreC := by
  refine fnIs (C := (ctrs k1)) (by kernel_rfl) k1_ok Try.func263 (code := code263) (by kernel_rfl) (by kernel_rfl) ?_
  rintro a ⟨s, b, rfl, hs, h, hb⟩
  exact ⟨anns [(4, moreAnn 14 6 (~~~ bv s) b)], kcast (vc263 s b hs h hb) (by kernel_rfl)⟩

theorem k2_ok : COk Try.prog (ctrs k2) := cok_cons ok263 cok_nil

noncomputable def code265 : Code := match Try.f265.body with | some c => c | none => .skip
@[reducible] noncomputable def q265_0 (x0 : Nat) : Int := (↑x0 : Int)
@[reducible] def q265_1 : Prop := true = true
@[reducible] noncomputable def q265_2 (x0 : Nat) (x1 : List Int) : Bool := decide (q265_0 x0 < (↑x1.length : Int))
@[reducible] noncomputable def q265_3 (x0 : Int) (x1 : Nat) (x2 : List Int) (x3 : Nat) : Int := iv (ckR (crcR (~~~bv x0) (List.take x1 x2)) (x2.getD x1 (0 : Int)) x3)
@[reducible] noncomputable def q265_4 (x0 : List Int) (x1 : Nat) (x2 : Nat) (x3 : Int) (x4 : Nat) : Int := bits BinOp.and IntKind.u32 (bits BinOp.xor IntKind.u32 ((IntKind.u32.wrap (x0.getD (q265_0 x1).toNat (0 : Int))).fdiv ((2 : Int) ^ min (IntKind.u64.wrap (q265_0 x2)).toNat IntKind.u32.bits)) (q265_3 x3 x4 x0 x2)) (1 : Int)
@[reducible] def q265_5 : Prop := (true && true && true) = true
@[reducible] noncomputable def q265_6 (x0 : List Int) : Option SV := some (SV.c (Value.int IntKind.i64 (↑x0.length : Int)))
@[reducible] def q265_7 : Prop := some (SV.a (0 : Nat)) = some (SV.a (0 : Nat))
@[reducible] def q265_8 (x0 : Nat) : Prop := some (SV.c (Value.int IntKind.i64 (q265_0 x0))) = some (SV.c (Value.int IntKind.i64 (q265_0 x0)))
@[reducible] def q265_9 (x0 : Int) : Prop := some (SV.c (Value.int IntKind.u32 x0)) = some (SV.c (Value.int IntKind.u32 x0))
@[reducible] def q265_10 (x0 : Int) : Prop := some (SV.c (Value.int IntKind.u32 (IntKind.u32.wrap ((4294967295 : Int) - x0)))) = some (SV.c (Value.int IntKind.u32 (IntKind.u32.wrap ((4294967295 : Int) - x0)))) ∧
  q265_9 x0 ∧ some (SV.c (Value.int IntKind.u32 (0 : Int))) = some (SV.c (Value.int IntKind.u32 (0 : Int))) ∧ q265_9 x0 ∧ q265_7 ∧ True
@[reducible] def q265_11 (x0 : List Int) : Prop := some (R.ro (D.ints IntKind.u8 x0)) = some (R.ro (D.ints IntKind.u8 x0)) ∧ True
@[reducible] def q265_12 (x0 : Nat) (x1 : List Int) (x2 : Int) : Prop := (some (SV.c (Value.bool (q265_2 x0 x1))) = some (SV.c (Value.bool (q265_2 x0 x1))) ∧
  q265_6 x1 = q265_6 x1 ∧ q265_7 ∧ q265_8 x0 ∧ q265_8 x0 ∧ q265_10 x2) ∧ q265_11 x1
set_option maxHeartbeats 4000000 in
theorem vc265 : ∀ (s : Int) (b : List Int), (0 : Int) ≤ s ∧ s ≤ (4294967295 : Int) → sm b.length → okB b → True ∧ ∃ (g0 : Nat), g0 ≤ b.length ∧ (0 : Int) = q265_0 g0 ∧
  IntKind.u32.wrap ((4294967295 : Int) - s) = iv (crcR (~~~bv s) (List.take g0 b)) ∧ q265_1 ∧ ∀ (g : Nat), g ≤ b.length → True ∧ sw (q265_2 g b) (∃ (p : Nat), ∃ (g0_1 : Nat), g0_1 ≤ (8 : Nat) ∧
  (0 : Int) = q265_0 g0_1 ∧ iv (crcR (~~~bv s) (List.take g b)) = q265_3 s p b g0_1 ∧ q265_1 ∧ ∀ (g_1 : Nat), g_1 ≤ (8 : Nat) → True ∧ sw (decide (q265_0 g_1 < (8 : Int))) (((0 : Int) ≤ q265_0 g ∧
  q265_0 g < (↑b.length : Int)) ∧ (0 : Int) ≤ IntKind.u64.wrap (q265_0 g_1) ∧ True ∧ True ∧ (0 : Int) ≤ (1 : Int) ∧ True ∧ sw (decide (q265_4 b g g_1 s p = (1 : Int))) (True ∧
  True ∧ ∃ (g' : Nat), g' ≤ (8 : Nat) ∧ (8 : Nat) - g' < (8 : Nat) - g_1 ∧ (IntKind.i64.wrap (q265_0 g_1 + (1 : Int)) = q265_0 g' ∧ bits BinOp.xor IntKind.u32 ((q265_3 s p b g_1).fdiv ((2 : Int) ^ min (Int.toNat (1 : Int)) IntKind.u32.bits)) (2197175160 : Int) = q265_3 s p b g' ∧
  q265_5) ∧ q265_12 g b s) (True ∧ ∃ (g' : Nat), g' ≤ (8 : Nat) ∧ (8 : Nat) - g' < (8 : Nat) - g_1 ∧ (IntKind.i64.wrap (q265_0 g_1 + (1 : Int)) = q265_0 g' ∧
  (q265_3 s p b g_1).fdiv ((2 : Int) ^ min (Int.toNat (1 : Int)) IntKind.u32.bits) = q265_3 s p b g' ∧ q265_5) ∧ q265_12 g b s)) (True ∧ ∃ (g' : Nat), g' ≤ b.length ∧
  b.length - g' < b.length - g ∧ (IntKind.i64.wrap (q265_0 g + (1 : Int)) = q265_0 g' ∧ q265_3 s p b g_1 = iv (crcR (~~~bv s) (List.take g' b)) ∧ q265_5) ∧
  q265_10 s ∧ q265_11 b)) (True ∧ IntKind.u32.wrap ((4294967295 : Int) - iv (crcR (~~~bv s) (List.take g b))) = moreF s b ∧ q265_1) := by
  delta q265_0 q265_1 q265_2 q265_3 q265_4 q265_5 q265_6 q265_7 q265_8 q265_9 q265_10 q265_11 q265_12
  simp only [↓sw_iff, ↓Bool.and_eq_true, ↓decide_eq_true_eq, ↓decide_eq_false_iff_not, true_and, and_true, Int.toNat_natCast, shr1]
  intro s b hs h hb
  unfold sm at h
  refine ⟨0, by omega, rfl, by rw [sub_not hs]; rfl, fun g hg => ⟨fun hl => ?_, fun hl => ?_⟩⟩
  · obtain ⟨x0, x1⟩ := okB_getD hb g
    refine ⟨g, 0, by omega, rfl, by rw [ckR_zero], fun k hk => ⟨fun h' => ?_, fun h' => ?_⟩⟩
    · rw [shrk x0 x1 (by omega), xor_iv, and_one]
      have e := ckR_succ (crcR (~~~bv s) (List.take g b)) (b.getD g 0) k
      have w : IntKind.u64.wrap (k : Int) = k := by rw [IntKind.wrap_u64]; omega
      have w2 : IntKind.i64.wrap ((k : Int) + 1) = ((k + 1 : Nat) : Int) := by rw [wrap_i64_id (by omega) (by omega)]; omega
      refine ⟨⟨by omega, by omega⟩, by omega, by omega, fun q => ⟨k + 1, by omega, by omega, w2, ?_⟩, fun q => ⟨k + 1, by omega, by omega, w2, ?_⟩⟩
      · rw [e, ← iv_poly, xor_iv]
        cases hb : (bv (b.getD g 0) >>> k ^^^ ckR (crcR (~~~bv s) (List.take g b)) (b.getD g 0) k).getLsbD 0 with
        | true => rw [if_pos rfl]
        | false => rw [hb] at q; simp at q
      · rw [e]
        cases hb : (bv (b.getD g 0) >>> k ^^^ ckR (crcR (~~~bv s) (List.take g b)) (b.getD g 0) k).getLsbD 0 with
        | true => rw [hb] at q; simp at q
        | false => simp
    · have : k = 8 := by omega
      subst this
      refine ⟨g + 1, by omega, by omega, by rw [wrap_i64_id (by omega) (by omega)]; omega, ?_⟩
      rw [ckR_end _ x0 x1, crcR_take (by omega)]
  · have : g = b.length := by omega
    subst this
    rw [List.take_of_length_le (Nat.le_refl _), iv_sub]
    rfl
set_option maxRecDepth 100000 in
theorem ok265 : FnIs Try.prog 265 moreC := by
  refine fnIs (C := (ctrs c0)) (by kernel_rfl) c0_ok Try.func265 (code := code265) (by kernel_rfl) (by kernel_rfl) ?_
  rintro a ⟨s, b, rfl, hs, h, hb⟩
  exact ⟨anns [(3, moreAnn 6 5 (~~~ bv s) b), (6, bitAnn 7 5 (~~~ bv s) b)], kcast (vc265 s b hs h hb) (by kernel_rfl)⟩

theorem k3_ok : COk Try.prog (ctrs k3) := cok_cons ok265 cok_nil

noncomputable def code242 : Code := match Try.f242.body with | some c => c | none => .skip
set_option maxHeartbeats 4000000 in
theorem vc242 : ∀ (b : List Int), sm b.length → okB b → (∃ (s : Int), ∃ (b_1 : List Int), [iO .u32 (0 : Int), O.d (D.ints IntKind.u8 b)] = [iO .u32 s, O.d (D.ints IntKind.u8 b_1)] ∧
  ((0 : Int) ≤ s ∧ s ≤ (4294967295 : Int)) ∧ sm b_1.length ∧ okB b_1) ∧ moreF (0 : Int) b = sumF b ∧ true = true := by
  delta iO
  simp only [and_true]
  intro b h hb
  exact ⟨⟨0, b, rfl, by omega, h, hb⟩, rfl⟩
set_option maxRecDepth 100000 in
theorem ok242 : FnIs Try.prog 242 csumC := by
  refine fnIs (C := (ctrs k2)) (by kernel_rfl) k2_ok Try.func242 (code := code242) (by kernel_rfl) (by kernel_rfl) ?_
  rintro a ⟨b, rfl, h, hb⟩
  exact ⟨anns [], kcast (vc242 b h hb) (by kernel_rfl)⟩

noncomputable def code244 : Code := match Try.f244.body with | some c => c | none => .skip
set_option maxHeartbeats 4000000 in
theorem vc244 : ∀ (b : List Int), sm b.length → okB b → (∃ (s : Int), ∃ (b_1 : List Int), [iO .u32 (0 : Int), O.d (D.ints IntKind.u8 b)] = [iO .u32 s, O.d (D.ints IntKind.u8 b_1)] ∧
  ((0 : Int) ≤ s ∧ s ≤ (4294967295 : Int)) ∧ sm b_1.length ∧ okB b_1) ∧ moreF (0 : Int) b = sumF b ∧ true = true := by
  delta iO
  simp only [and_true]
  intro b h hb
  exact ⟨⟨0, b, rfl, by omega, h, hb⟩, rfl⟩
set_option maxRecDepth 100000 in
theorem ok244 : FnIs Try.prog 244 csumC := by
  refine fnIs (C := (ctrs k3)) (by kernel_rfl) k3_ok Try.func244 (code := code244) (by kernel_rfl) (by kernel_rfl) ?_
  rintro a ⟨b, rfl, h, hb⟩
  exact ⟨anns [], kcast (vc244 b h hb) (by kernel_rfl)⟩

end Go.ZR

namespace Go.ZM
open Go.Z Go.ZR

structure ChR where
  t : Int
  f : Int
  v : List Int
def noCh : ChR := ⟨0, 0, []⟩
theorem range_getD {α : Type} (l : List α) (d : α) : (List.range l.length).map (fun i => l.getD i d) = l := by
  apply List.ext_getElem
  · simp
  · intro i h1 h2; simp [List.getD, List.getElem?_eq_getElem h2]
def sameCh (c d : ChR) : Bool := decide (c.t = d.t) && decide (c.f = d.f) && decide (bstr c.v = bstr d.v)
def okCh (c : ChR) : Prop := sm c.v.length
end Go.ZM
namespace Go.ZR
open Go.Z Go.ZM
def chO (c : ChR) : O := .agg [iO .u8 c.t, iO .u8 c.f, bsO c.v]
def chN (c : ChR) : O := .agg [iO .u8 c.t, iO .u8 c.f, bsN c.v]
def chOf : O → ChR
  | .agg [t, f, v] => ⟨vi (dO t), vi (dO f), vl (dO v)⟩
  | _ => noCh
def sameC : Ctr := nC 2 true (fun a => ∃ c d, a = [chO c, chO d]) fun a => [bO (sameCh (chOf (at_ a 0)) (chOf (at_ a 1)))]
def c4 : List (Nat × Ctr) := [(241, padC)]
def c5 : List (Nat × Ctr) := [(198, putC), (199, paddedC)]
def c6 : List (Nat × Ctr) := [(65, putC), (156, paddedC)]
def c7 : List (Nat × Ctr) := [(205, getC 8), (241, padC), (201, partC), (82, cloneC)]
def c8 : List (Nat × Ctr) := []
def c9 : List (Nat × Ctr) := [(212, numC)]
def c10 : List (Nat × Ctr) := [(118, sameC)]
end Go.ZR

namespace Go.ZR
open Go.Proofs
open Go.Z Go.ZM Go.RowKit
set_option maxRecDepth 100000

theorem bytes_dec (a b : ByteArray) : decide (a.data.toList = b.data.toList) = decide (a = b) := by
  rw [decide_eq_decide]
  constructor
  · intro h
    cases a; cases b
    simp only [ByteArray.mk.injEq]
    exact Array.ext' h
  · rintro rfl; rfl
theorem toNat2 : Int.toNat 2 = 2 := rfl
theorem toNat4 : Int.toNat 4 = 4 := rfl
theorem wrap_len {n : Nat} (h : n ≤ 1099511627776) : IntKind.u64.wrap (IntKind.i64.wrap (4 + (n : Int))) = 4 + (n : Int) := by
  rw [wrap_i64_id (by omega) (by omega), IntKind.wrap_u64]; omega
noncomputable def code118 : Code := match Try.f118.body with | some c => c | none => .skip
set_option maxHeartbeats 4000000 in
theorem vc118 : ∀ (c d : ChR), True ∧ sw (decide (c.t = d.t)) (SV.p (2 : Nat) (1 : Nat) = SV.p (2 : Nat) (1 : Nat)) True ∧ sw (decide (c.t = d.t)) ([decide (c.t = d.t)] = [decide (c.t = d.t)] ∧
  SV.c (Value.int IntKind.u8 c.f) = SV.c (Value.int IntKind.u8 c.f)) True ∧ sw (decide (c.t = d.t)) (SV.p (3 : Nat) (1 : Nat) = SV.p (3 : Nat) (1 : Nat)) True ∧
  sw (decide (c.t = d.t)) ([decide (c.t = d.t)] = [decide (c.t = d.t)] ∧ SV.c (Value.int IntKind.u8 d.f) = SV.c (Value.int IntKind.u8 d.f)) True ∧ sw (decide (c.t = d.t)) ([decide (c.t = d.t)] = [decide (c.t = d.t)] ∧
  [decide (c.t = d.t)] = [decide (c.t = d.t)] ∧ True ∧ SV.c (Value.bool (decide (c.f = d.f))) = SV.c (Value.bool (decide (c.f = d.f)))) True ∧ [decide (c.t = d.t)] = [decide (c.t = d.t)] ∧
  sw (decide (c.t = d.t) && decide (c.f = d.f)) (SV.p (2 : Nat) (2 : Nat) = SV.p (2 : Nat) (2 : Nat)) True ∧ sw (decide (c.t = d.t) && decide (c.f = d.f)) ([decide (c.t = d.t) && decide (c.f = d.f)] = [decide (c.t = d.t) && decide (c.f = d.f)] ∧
  SV.a (0 : Nat) = SV.a (0 : Nat)) True ∧ sw (decide (c.t = d.t) && decide (c.f = d.f)) ([decide (c.t = d.t) && decide (c.f = d.f)] = [decide (c.t = d.t) && decide (c.f = d.f)] ∧
  SV.c (Value.string (bstr c.v)) = SV.c (Value.string (bstr c.v))) True ∧ sw (decide (c.t = d.t) && decide (c.f = d.f)) (SV.p (3 : Nat) (2 : Nat) = SV.p (3 : Nat) (2 : Nat)) True ∧
  sw (decide (c.t = d.t) && decide (c.f = d.f)) ([decide (c.t = d.t) && decide (c.f = d.f)] = [decide (c.t = d.t) && decide (c.f = d.f)] ∧ SV.a (1 : Nat) = SV.a (1 : Nat)) True ∧
  sw (decide (c.t = d.t) && decide (c.f = d.f)) ([decide (c.t = d.t) && decide (c.f = d.f)] = [decide (c.t = d.t) && decide (c.f = d.f)] ∧ SV.c (Value.string (bstr d.v)) = SV.c (Value.string (bstr d.v))) True ∧
  sw (decide (c.t = d.t) && decide (c.f = d.f)) ([decide (c.t = d.t) && decide (c.f = d.f)] = [decide (c.t = d.t) && decide (c.f = d.f)] ∧ [decide (c.t = d.t) && decide (c.f = d.f)] = [decide (c.t = d.t) && decide (c.f = d.f)] ∧
  True ∧ SV.c (Value.bool (decide ((bstr c.v).data.toList = (bstr d.v).data.toList))) = SV.c (Value.bool (decide ((bstr c.v).data.toList = (bstr d.v).data.toList)))) True ∧
  [decide (c.t = d.t) && decide (c.f = d.f)] = [decide (c.t = d.t) && decide (c.f = d.f)] ∧ (decide (c.t = d.t) && decide (c.f = d.f) && decide ((bstr c.v).data.toList = (bstr d.v).data.toList)) = sameCh (ChR.mk c.t c.f c.v) (ChR.mk d.t d.f d.v) ∧
  true = true := by
  simp only [↓sw_iff, ↓Bool.and_eq_true, ↓Bool.and_eq_false_iff, ↓decide_eq_true_eq, ↓decide_eq_false_iff_not, true_and, and_true, implies_true, bytes_dec]
  intro c d
  rfl
set_option maxRecDepth 100000 in
theorem ok118 : FnIs Try.prog 118 sameC := by
  refine fnIs (C := (ctrs c0)) (by kernel_rfl) c0_ok Try.func118 (code := code118) (by kernel_rfl) (by kernel_rfl) ?_
  rintro a ⟨c, d, rfl⟩
  exact ⟨anns [], kcast (vc118 c d) (by kernel_rfl)⟩

end Go.ZR

namespace Go.ZM
open Go.Z Go.ZR
end Go.ZM
namespace Go.ZR
open Go.Z Go.ZM Go.Proofs
def c11 : List (Nat × Ctr) := []
end Go.ZR
