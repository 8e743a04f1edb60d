/- Part 6 of what the closing text rests on. -/
import Derived.Test.YtonfaeenoifomaaDoorG5
import Derived.Lib.EndianBits
/- Bytes, numbers, chunks: plain functions and their laws. -/
namespace Go.ZM
open Go.Z

/-- The lowest k bytes of a number, the highest first. -/
def be (n : Int) : Nat → List Int
  | 0 => []
  | k + 1 => (n / 256 ^ k) % 256 :: be n k
def valF (l : List Int) : Int := l.foldl (fun a x => a * 256 + x) 0
def padN (n : Nat) : Nat := (4 - n % 4) % 4
def padF (v : List Int) : List Int := v ++ List.replicate (padN v.length) 0
def okB (l : List Int) : Prop := ∀ x, x ∈ l → 0 ≤ x ∧ x ≤ 255

theorem be_len (n : Int) : ∀ k, (be n k).length = k
  | 0 => rfl
  | k + 1 => by simp [be, be_len n k]
theorem be_get (n : Int) : ∀ {k j : Nat}, j < k → (be n k).getD j 0 = (n / 256 ^ (k - 1 - j)) % 256
  | 0, _, h => absurd h (Nat.not_lt_zero _)
  | k + 1, 0, _ => by simp [be]
  | k + 1, j + 1, h => by
    have := be_get n (k := k) (j := j) (by omega)
    simp only [be, List.getD_cons_succ]
    rw [this, show k + 1 - 1 - (j + 1) = k - 1 - j by omega]
theorem be_ok (n : Int) : ∀ k, okB (be n k)
  | 0, x, h => by cases h
  | k + 1, x, h => by
    rcases List.mem_cons.1 h with rfl | h
    · omega
    · exact be_ok n k x h
theorem take_succ_getD {l : List Int} {j : Nat} (h : j < l.length) : l.take (j + 1) = l.take j ++ [l.getD j 0] := by
  rw [List.take_succ_eq_append_getElem h, show l.getD j 0 = l[j] by simp [List.getD, List.getElem?_eq_getElem h]]

theorem foldl_val (l : List Int) : ∀ a, l.foldl (fun a x => a * 256 + x) a = a * 256 ^ l.length + valF l := by
  induction l with
  | nil => intro a; simp [valF]
  | cons x l ih =>
    intro a
    simp only [List.foldl_cons, valF, List.length_cons]
    rw [ih (a * 256 + x), ih (0 * 256 + x)]
    rw [Int.pow_succ, Int.zero_mul, Int.zero_add, Int.add_mul, Int.mul_assoc, Int.mul_comm 256, Int.add_assoc]
theorem val_nil : valF [] = 0 := rfl
theorem val_cons (x : Int) (l : List Int) : valF (x :: l) = x * 256 ^ l.length + valF l := by
  rw [valF, List.foldl_cons, foldl_val]; simp
theorem val_append (l m : List Int) : valF (l ++ m) = valF l * 256 ^ m.length + valF m := by
  rw [valF, List.foldl_append, foldl_val m]; rfl
theorem val_snoc (l : List Int) (x : Int) : valF (l ++ [x]) = valF l * 256 + x := by
  rw [val_append]; simp [val_cons, val_nil]
theorem pow_pos' (k : Nat) : (0 : Int) < 256 ^ k := Int.pow_pos (by decide)
theorem val_nonneg {l : List Int} (h : okB l) : 0 ≤ valF l := by
  induction l with
  | nil => simp [val_nil]
  | cons x l ih =>
    rw [val_cons]
    have h1 := (h x (List.mem_cons_self ..)).1
    have h2 := ih fun y hy => h y (List.mem_cons_of_mem _ hy)
    have := Int.mul_nonneg h1 (Int.le_of_lt (pow_pos' l.length))
    omega
theorem val_lt {l : List Int} (h : okB l) : valF l < 256 ^ l.length := by
  induction l with
  | nil => simp [val_nil]
  | cons x l ih =>
    rw [val_cons, List.length_cons, Int.pow_succ]
    have h1 := (h x (List.mem_cons_self ..)).2
    have h2 := ih fun y hy => h y (List.mem_cons_of_mem _ hy)
    have h3 : x * 256 ^ l.length ≤ 255 * 256 ^ l.length := Int.mul_le_mul_of_nonneg_right h1 (Int.le_of_lt (pow_pos' _))
    rw [Int.mul_comm _ 256]
    omega
theorem okB_take {l : List Int} (h : okB l) (k : Nat) : okB (l.take k) := fun x hx => h x (List.mem_of_mem_take hx)
theorem okB_drop {l : List Int} (h : okB l) (k : Nat) : okB (l.drop k) := fun x hx => h x (List.mem_of_mem_drop hx)
theorem okB_append {l m : List Int} (h : okB l) (h' : okB m) : okB (l ++ m) := fun x hx => (List.mem_append.1 hx).elim (h x) (h' x)
theorem okB_getD {l : List Int} (h : okB l) (i : Nat) : 0 ≤ l.getD i 0 ∧ l.getD i 0 ≤ 255 := by
  by_cases hi : i < l.length
  · rw [show l.getD i 0 = l[i] by simp [List.getD, List.getElem?_eq_getElem hi]]
    exact h _ (List.getElem_mem hi)
  · rw [show l.getD i 0 = 0 by simp [List.getD, List.getElem?_eq_none (by omega : l.length ≤ i)]]
    omega

/-- What is written is read. -/
theorem val_be (n : Int) : ∀ k, valF (be n k) = n % 256 ^ k
  | 0 => by simp [be, val_nil, Int.emod_one]
  | k + 1 => by
    rw [be, val_cons, be_len, val_be n k, Int.pow_succ, Int.mul_comm (256 ^ k) 256]
    have h1 := Int.emod_add_mul_ediv n (256 ^ k)
    have h2 := Int.emod_add_mul_ediv (n / 256 ^ k) 256
    have h3 := Int.emod_add_mul_ediv n (256 * 256 ^ k)
    have h4 : n / (256 * 256 ^ k) = n / 256 ^ k / 256 := by
      rw [Int.mul_comm, Int.ediv_ediv, if_neg (by have := pow_pos' k; omega), Int.sub_zero]
    rw [h4] at h3
    have e : 256 ^ k * (n / 256 ^ k) = 256 ^ k * ((n / 256 ^ k) % 256) + 256 * 256 ^ k * (n / 256 ^ k / 256) := by
      conv => lhs; rw [← h2]
      rw [Int.mul_add, ← Int.mul_assoc, Int.mul_comm (256 ^ k) 256]
    rw [Int.mul_comm ((n / 256 ^ k) % 256)]
    omega
theorem be_val : ∀ {l : List Int}, okB l → be (valF l) l.length = l
  | [], _ => rfl
  | x :: l, h => by
    have h1 := h x (List.mem_cons_self ..)
    have hl : okB l := fun y hy => h y (List.mem_cons_of_mem _ hy)
    have hlt := val_lt hl
    have h0 := val_nonneg hl
    have key : ∀ k, k ≤ l.length → be (valF (x :: l)) k = be (valF l) k := by
      intro k
      induction k with
      | zero => intro _; rfl
      | succ k ih =>
        intro hk
        rw [be, be, ih (by omega)]
        congr 1
        rw [val_cons]
        have : (256 : Int) ^ l.length = 256 ^ k * (256 * 256 ^ (l.length - 1 - k)) := by
          rw [← Int.mul_assoc, ← Int.pow_succ, ← Int.pow_add]
          congr 1; omega
        rw [this, ← Int.mul_assoc, Int.mul_comm x, Int.mul_assoc, Int.add_comm, Int.add_mul_ediv_left _ _ (by have := pow_pos' k; omega)]
        rw [show x * (256 * 256 ^ (l.length - 1 - k)) = 256 * (x * 256 ^ (l.length - 1 - k)) by rw [← Int.mul_assoc, Int.mul_comm x, Int.mul_assoc]]
        rw [Int.add_mul_emod_self_left]
    rw [List.length_cons, be, key _ (Nat.le_refl _), be_val hl]
    congr 1
    rw [val_cons, Int.add_comm, Int.add_mul_ediv_right _ _ (by have := pow_pos' l.length; omega), Int.ediv_eq_zero_of_lt h0 hlt]
    omega

theorem padF_len (v : List Int) : (padF v).length = v.length + padN v.length := by simp [padF]
theorem padN_le (n : Nat) : padN n ≤ 3 := by unfold padN; omega
theorem okB_padF {v : List Int} (h : okB v) : okB (padF v) := okB_append h fun x hx => by
  have := List.eq_of_mem_replicate hx
  omega
end Go.ZM
namespace Go.ZR
open Go.Z Go.ZM

theorem shr_byte {n : Int} (m : Nat) (hm : m ≤ 7) : IntKind.u8.wrap (n.fdiv (2 ^ min (((8 * m : Nat) : Int)).toNat (IntKind.bits .u64))) = (n / 256 ^ m) % 256 := by
  rw [IntKind.wrap_u8, Int.toNat_natCast, show min (8 * m) (IntKind.bits .u64) = 8 * m from Nat.min_eq_left (by show 8 * m ≤ 64; omega), Int.fdiv_eq_ediv_of_nonneg _ (Int.le_of_lt (Int.pow_pos (by decide))), Int.pow_mul]
  rfl
theorem or_byte {a x : Int} (h0 : 0 ≤ a) (h1 : a < 256 ^ 7) (hx : 0 ≤ x) (hx' : x ≤ 255) : bits .or .u64 (IntKind.u64.wrap (a * 2 ^ min (Int.toNat 8) (IntKind.bits .u64))) (IntKind.u64.wrap x) = a * 256 + x := by
  have e : (2 : Int) ^ min (Int.toNat 8) (IntKind.bits .u64) = 256 := rfl
  have h1' : a < 72057594037927936 := h1
  rw [e, IntKind.wrap_u64, IntKind.wrap_u64, Int.emod_eq_of_lt (by omega) (by omega), Int.emod_eq_of_lt (by omega) (by omega)]
  exact bits_join .u64 64 (by decide) wraps_u64 8 (a * 256) x (by omega) (by omega) (by omega) hx (by omega) (by omega)
theorem and_three {n : Nat} : bits .and .i64 (IntKind.i64.wrap (0 - (n : Int))) 3 = (padN n : Nat) := by
  have h2 : (BitVec.ofInt 64 3).toNat = 3 := by decide
  have h3 : ∀ a : Nat, a &&& 3 = a % 4 := fun a => Nat.and_two_pow_sub_one_eq_mod a 2
  show IntKind.i64.wrap ((BitVec.ofInt 64 _ &&& BitVec.ofInt 64 3).toNat : Int) = _
  rw [BitVec.toNat_and, h2, h3, BitVec.toNat_ofInt, IntKind.wrap_i64, IntKind.wrap_i64]
  unfold padN
  omega
theorem wrap_i64_id {n : Int} (h0 : -9223372036854775808 ≤ n) (h1 : n ≤ 9223372036854775807) : IntKind.i64.wrap n = n := by
  rw [IntKind.wrap_i64]; omega
end Go.ZR

/- The sum of bytes: a register of 32 bits, bit by bit; its laws. -/
set_option maxRecDepth 100000
namespace Go.ZM
open Go.Z

def bv (n : Int) : BitVec 32 := BitVec.ofInt 32 n
def iv (c : BitVec 32) : Int := c.toNat
theorem iv_bv {n : Int} (h0 : 0 ≤ n) (h1 : n ≤ 4294967295) : iv (bv n) = n := by
  unfold iv bv
  rw [BitVec.toNat_ofInt]
  omega
theorem bv_iv (c : BitVec 32) : bv (iv c) = c := by
  unfold iv bv
  rw [BitVec.ofInt_natCast, BitVec.ofNat_toNat, BitVec.setWidth_eq]
theorem iv_rng (c : BitVec 32) : 0 ≤ iv c ∧ iv c ≤ 4294967295 := by
  have := c.isLt
  unfold iv
  omega
theorem wrap_iv (c : BitVec 32) : IntKind.u32.wrap (iv c) = iv c := by
  have := iv_rng c
  rw [IntKind.wrap_u32]; omega
theorem xor_iv (a b : BitVec 32) : bits .xor .u32 (iv a) (iv b) = iv (a ^^^ b) := by
  show IntKind.u32.wrap ((bv (iv a) ^^^ bv (iv b)).toNat : Int) = _
  rw [bv_iv, bv_iv]; exact wrap_iv _
theorem and_iv (a b : BitVec 32) : bits .and .u32 (iv a) (iv b) = iv (a &&& b) := by
  show IntKind.u32.wrap ((bv (iv a) &&& bv (iv b)).toNat : Int) = _
  rw [bv_iv, bv_iv]; exact wrap_iv _
theorem shr_iv (c : BitVec 32) (n : Nat) (hn : n ≤ 32) : Int.fdiv (iv c) (2 ^ min n 32) = iv (c >>> n) := by
  unfold iv
  rw [Nat.min_eq_left hn, Int.fdiv_eq_ediv_of_nonneg _ (Int.le_of_lt (Int.pow_pos (by decide))), BitVec.toNat_ushiftRight, Nat.shiftRight_eq_div_pow]
  simp

/-- One step. -/
def poly : BitVec 32 := 0x82F63B78#32
def s1 (c : BitVec 32) : BitVec 32 := (c >>> 1) ^^^ (if c.getLsbD 0 then poly else 0#32)
def sN : Nat → BitVec 32 → BitVec 32
  | 0, c => c
  | n + 1, c => sN n (s1 c)
theorem sN_add (m : Nat) : ∀ (n : Nat) (c : BitVec 32), sN (m + n) c = sN m (sN n c)
  | 0, c => rfl
  | n + 1, c => by show sN (m + n) (s1 c) = _; rw [sN_add m n]; rfl
theorem sN_succ (n : Nat) (c : BitVec 32) : sN (n + 1) c = s1 (sN n c) := by
  rw [Nat.add_comm, sN_add]; rfl
theorem s1_xor (a b : BitVec 32) : s1 (a ^^^ b) = s1 a ^^^ s1 b := by
  unfold s1
  rw [BitVec.getLsbD_xor, BitVec.ushiftRight_xor_distrib]
  cases a.getLsbD 0 <;> cases b.getLsbD 0 <;> simp
  · rw [BitVec.xor_assoc]
  · rw [BitVec.xor_assoc _ poly, BitVec.xor_comm poly, BitVec.xor_assoc]
  · rw [show a >>> 1 ^^^ poly ^^^ (b >>> 1 ^^^ poly) = a >>> 1 ^^^ b >>> 1 ^^^ (poly ^^^ poly) by
      rw [BitVec.xor_assoc, BitVec.xor_assoc, ← BitVec.xor_assoc poly, BitVec.xor_comm poly (b >>> 1), BitVec.xor_assoc (b >>> 1)]]
    simp
theorem sN_xor (a b : BitVec 32) : ∀ n, sN n (a ^^^ b) = sN n a ^^^ sN n b := by
  intro n
  induction n generalizing a b with
  | zero => rfl
  | succ n ih => show sN n (s1 (a ^^^ b)) = sN n (s1 a) ^^^ sN n (s1 b); rw [s1_xor, ih]
theorem s1_shl {c : BitVec 32} (h : c.getLsbD 0 = false) : s1 c = c >>> 1 := by
  unfold s1
  rw [h]; simp
theorem s1_zero : s1 0#32 = 0#32 := by decide
theorem sN_zero : ∀ n, sN n 0#32 = 0#32
  | 0 => rfl
  | n + 1 => by show sN n (s1 0#32) = _; rw [s1_zero]; exact sN_zero n
/-- Low bits that are all zero are only pushed out. -/
theorem sN_shr : ∀ (n : Nat) (c : BitVec 32), (∀ i, i < n → c.getLsbD i = false) → sN n c = c >>> n
  | 0, c, _ => by simp [sN]
  | n + 1, c, h => by
    show sN n (s1 c) = _
    rw [s1_shl (h 0 (by omega)), sN_shr n _ (fun i hi => by rw [BitVec.getLsbD_ushiftRight]; exact h (1 + i) (by omega)), ← BitVec.shiftRight_add, Nat.add_comm]
/-- A step forgets nothing. -/
theorem s1_inj {a : BitVec 32} (h : s1 a = 0#32) : a = 0#32 := by
  unfold s1 at h
  cases hb : a.getLsbD 0 with
  | true =>
    rw [hb] at h
    have := congrArg (fun c : BitVec 32 => c.getLsbD 31) h
    simp [poly] at this
  | false =>
    rw [hb] at h
    simp at h
    apply BitVec.eq_of_getLsbD_eq
    intro i hi
    by_cases h0 : i = 0
    · subst h0; rw [hb]; simp
    · have := congrArg (fun c : BitVec 32 => c.getLsbD (i - 1)) h
      simp only [BitVec.getLsbD_ushiftRight] at this
      rw [show 1 + (i - 1) = i by omega] at this
      rw [this]; simp
theorem sN_inj : ∀ (n : Nat) {a : BitVec 32}, sN n a = 0#32 → a = 0#32
  | 0, _, h => h
  | n + 1, _, h => s1_inj (sN_inj n h)

/-- A byte more. -/
def byteR (c : BitVec 32) (x : Int) : BitVec 32 := sN 8 (c ^^^ bv x)
def crcR (c : BitVec 32) (l : List Int) : BitVec 32 := l.foldl byteR c
def moreF (sum : Int) (l : List Int) : Int := iv (~~~ crcR (~~~ bv sum) l)
def sumF (l : List Int) : Int := moreF 0 l
theorem crcR_append (c : BitVec 32) (l m : List Int) : crcR c (l ++ m) = crcR (crcR c l) m := List.foldl_append
theorem crcR_take {c : BitVec 32} {l : List Int} {i : Nat} (h : i < l.length) : crcR c (l.take (i + 1)) = byteR (crcR c (l.take i)) (l.getD i 0) := by
  rw [take_succ_getD h, crcR_append]; rfl
theorem moreF_more (sum : Int) (l m : List Int) : moreF (moreF sum l) m = moreF sum (l ++ m) := by
  unfold moreF
  rw [bv_iv, BitVec.not_not, crcR_append]
/-- Another register in the beginning: another one in the end. -/
theorem crcR_xor (c d : BitVec 32) : ∀ l : List Int, crcR (c ^^^ d) l = crcR c l ^^^ sN (8 * l.length) d := by
  intro l
  induction l generalizing c d with
  | nil => rfl
  | cons x l ih =>
    show crcR (byteR (c ^^^ d) x) l = crcR (byteR c x) l ^^^ _
    have : byteR (c ^^^ d) x = byteR c x ^^^ sN 8 d := by
      unfold byteR
      rw [BitVec.xor_assoc, BitVec.xor_comm d, ← BitVec.xor_assoc, sN_xor]
    rw [this, ih, List.length_cons, show 8 * (l.length + 1) = 8 * l.length + 8 by omega, sN_add]
theorem crcR_inj {c d : BitVec 32} {l : List Int} (h : crcR c l = crcR d l) : c = d := by
  have h1 := crcR_xor c (c ^^^ d) l
  rw [← BitVec.xor_assoc, BitVec.xor_self, BitVec.zero_xor] at h1
  rw [h] at h1
  have h2 : sN (8 * l.length) (c ^^^ d) = 0#32 := by
    have := congrArg (fun z => crcR d l ^^^ z) h1
    simpa [← BitVec.xor_assoc] using this.symm
  have h3 := sN_inj _ h2
  have := congrArg (fun z => c ^^^ z) h3
  simpa [← BitVec.xor_assoc] using this.symm
end Go.ZM
