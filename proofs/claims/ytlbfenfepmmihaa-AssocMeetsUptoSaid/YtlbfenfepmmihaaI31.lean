/- Part 31 of what the closing text rests on. -/
import Derived.Test.YtlbfenfepmmihaaI16
import Derived.Test.YtlbfenfepmmihaaI29
import Derived.Test.YtlbfenfepmmihaaI30
import Derived.Test.YtlbfenfepmmihaaRows
import Derived.KernelRfl
set_option maxRecDepth 100000
namespace Go.ZR
open Go.Z Go.ZM Go.Proofs
def lawC (n : Nat) (pre : List O → Prop) : Ctr := nC n false pre fun _ => [bO true]
end Go.ZR

namespace Go.ZR
open Go.Proofs
open Go.Z Go.ZM Go.RowKit
set_option maxRecDepth 100000
end Go.ZR

set_option maxRecDepth 100000
namespace Go.ZM
open Go.Z Go.ZR
theorem nAt_in {v a r : List Int} {n : Int} {k : Nat} (i : Nat) (h : v = a ++ (be n k ++ r)) (hi : a.length = i) : nAt v (i : Int) k = n % 256 ^ k := by
  subst hi
  have hl : v.length = a.length + (k + r.length) := by rw [h, List.length_append, List.length_append, be_len]
  unfold nAt getF
  rw [part_get (by omega) (by omega) (by omega) (by omega)]
  simp only [Int.toNat_natCast]
  rw [h, List.drop_append_of_le_length (Nat.le_refl _), List.drop_of_length_le (Nat.le_refl _), List.nil_append, List.take_append_of_le_length (by rw [be_len]; exact Nat.le_refl _), List.take_of_length_le (by rw [be_len]; exact Nat.le_refl _), val_be]
theorem sealB_len (k : Int) (c : CruR) : (sealB k c).length = 40 := by unfold sealB; rw [List.length_append, cruB_len, be_len]
theorem sealB_okB (k : Int) (c : CruR) : okB (sealB k c) := okB_append (cruB_okB c) (be_ok _ _)
theorem sum_rng (l : List Int) : 0 ≤ sumF l ∧ sumF l ≤ 4294967295 := iv_rng _
theorem sealB_take (k : Int) (c : CruR) : (sealB k c).take 36 = cruB c := by
  unfold sealB
  rw [List.take_append_of_le_length (by rw [cruB_len]; exact Nat.le_refl _), List.take_of_length_le (by rw [cruB_len]; exact Nat.le_refl _)]
theorem seal_sum (k : Int) (c : CruR) : nAt (sealB k c) 36 4 = keyF k ((sealB k c).take 36) := by
  have := nAt_in (v := sealB k c) (a := cruB c) (n := keyF k (cruB c)) (k := 4) (r := []) 36 (by unfold sealB; simp) (cruB_len c)
  rw [sealB_take]
  have h := sum_rng (be k 8 ++ cruB c ++ be k 8)
  rw [show (256 : Int) ^ 4 = 4294967296 from rfl] at this
  refine this.trans ?_
  unfold keyF
  omega
theorem open_seal {k : Int} {c : CruR} (ok : okCru c) (hs : soundF c = true) : openF k (sealB k c) = (c, 0) := by
  have p4 : (256 : Int) ^ 4 = 4294967296 := rfl
  have p8 : (256 : Int) ^ 8 = 18446744073709551616 := rfl
  obtain ⟨ht, h1, h2, h3, h4, h5, h6, h7⟩ := ok
  unfold okU at *
  have hs' := hs
  simp only [soundF, Bool.and_eq_true, decide_eq_true_eq, Bool.not_eq_true', decide_eq_false_iff_not] at hs'
  have e : cruOf (sealB k c) = c := by
    have a0 := nAt_in (v := sealB k c) (a := []) (n := c.time) (k := 8) (r := be c.a 4 ++ be c.b 4 ++ be c.c 4 ++ be c.d 4 ++ be c.e 4 ++ be c.f 4 ++ be c.g 4 ++ be (keyF k (cruB c)) 4) 0 (by simp [sealB, cruB]) rfl
    have a1 := nAt_in (v := sealB k c) (a := be c.time 8) (n := c.a) (k := 4) (r := be c.b 4 ++ be c.c 4 ++ be c.d 4 ++ be c.e 4 ++ be c.f 4 ++ be c.g 4 ++ be (keyF k (cruB c)) 4) 8 (by simp [sealB, cruB]) (by simp [be_len])
    have a2 := nAt_in (v := sealB k c) (a := be c.time 8 ++ be c.a 4) (n := c.b) (k := 4) (r := be c.c 4 ++ be c.d 4 ++ be c.e 4 ++ be c.f 4 ++ be c.g 4 ++ be (keyF k (cruB c)) 4) 12 (by simp [sealB, cruB]) (by simp [be_len])
    have a3 := nAt_in (v := sealB k c) (a := be c.time 8 ++ be c.a 4 ++ be c.b 4) (n := c.c) (k := 4) (r := be c.d 4 ++ be c.e 4 ++ be c.f 4 ++ be c.g 4 ++ be (keyF k (cruB c)) 4) 16 (by simp [sealB, cruB]) (by simp [be_len])
    have a4 := nAt_in (v := sealB k c) (a := be c.time 8 ++ be c.a 4 ++ be c.b 4 ++ be c.c 4) (n := c.d) (k := 4) (r := be c.e 4 ++ be c.f 4 ++ be c.g 4 ++ be (keyF k (cruB c)) 4) 20 (by simp [sealB, cruB]) (by simp [be_len])
    have a5 := nAt_in (v := sealB k c) (a := be c.time 8 ++ be c.a 4 ++ be c.b 4 ++ be c.c 4 ++ be c.d 4) (n := c.e) (k := 4) (r := be c.f 4 ++ be c.g 4 ++ be (keyF k (cruB c)) 4) 24 (by simp [sealB, cruB]) (by simp [be_len])
    have a6 := nAt_in (v := sealB k c) (a := be c.time 8 ++ be c.a 4 ++ be c.b 4 ++ be c.c 4 ++ be c.d 4 ++ be c.e 4) (n := c.f) (k := 4) (r := be c.g 4 ++ be (keyF k (cruB c)) 4) 28 (by simp [sealB, cruB]) (by simp [be_len])
    have a7 := nAt_in (v := sealB k c) (a := be c.time 8 ++ be c.a 4 ++ be c.b 4 ++ be c.c 4 ++ be c.d 4 ++ be c.e 4 ++ be c.f 4) (n := c.g) (k := 4) (r := be (keyF k (cruB c)) 4) 32 (by simp [sealB, cruB]) (by simp [be_len])
    rw [p8] at a0
    rw [p4] at a1 a2 a3 a4 a5 a6 a7
    unfold cruOf
    rw [show nAt (sealB k c) 0 8 = _ from a0, show nAt (sealB k c) 8 4 = _ from a1, show nAt (sealB k c) 12 4 = _ from a2, show nAt (sealB k c) 16 4 = _ from a3, show nAt (sealB k c) 20 4 = _ from a4, show nAt (sealB k c) 24 4 = _ from a5, show nAt (sealB k c) 28 4 = _ from a6, show nAt (sealB k c) 32 4 = _ from a7]
    rw [show sI (c.time % 18446744073709551616) = c.time by unfold sI; rw [IntKind.wrap_i64]; omega]
    rw [Int.emod_eq_of_lt h1.1 (by omega), Int.emod_eq_of_lt h2.1 (by omega), Int.emod_eq_of_lt h3.1 (by omega), Int.emod_eq_of_lt h4.1 (by omega), Int.emod_eq_of_lt h5.1 (by omega), Int.emod_eq_of_lt h6.1 (by omega), Int.emod_eq_of_lt h7.1 (by omega)]
  rw [Go.ZR.open_ok (sealB_len k c) (seal_sum k c) (by rw [e]; exact hs), e]


def pickB (v : BitVec 32) (x : Nat × BitVec 32) : BitVec 32 := if v.getLsbD x.1 then x.2 else 0#32
def redL : List (Nat × BitVec 32) → BitVec 32 → BitVec 32 → BitVec 32
  | [], _, r => r
  | x :: l, v, r => pickB v x ^^^ redL l v r
theorem pickB_xor (a b : BitVec 32) (x : Nat × BitVec 32) : pickB (a ^^^ b) x = pickB a x ^^^ pickB b x := by
  unfold pickB
  rw [BitVec.getLsbD_xor]
  cases a.getLsbD x.1 <;> cases b.getLsbD x.1 <;> simp
theorem xor_four (a b c d : BitVec 32) : (a ^^^ b) ^^^ (c ^^^ d) = (a ^^^ c) ^^^ (b ^^^ d) := by
  rw [BitVec.xor_assoc, BitVec.xor_assoc, ← BitVec.xor_assoc b, BitVec.xor_comm b, BitVec.xor_assoc c]
theorem redL_xor (l : List (Nat × BitVec 32)) (a b r s : BitVec 32) : redL l (a ^^^ b) (r ^^^ s) = redL l a r ^^^ redL l b s := by
  induction l with
  | nil => rfl
  | cons x l ih =>
    show pickB (a ^^^ b) x ^^^ redL l (a ^^^ b) (r ^^^ s) = (pickB a x ^^^ redL l a r) ^^^ (pickB b x ^^^ redL l b s)
    rw [ih, pickB_xor, xor_four]
def redB : List (Nat × BitVec 32) := [(31, 0x885a957e#32), (29, 0x28ba0b59#32), (30, 0x403c2c39#32), (28, 0x10b0544a#32), (24, 0x1f86ec1#32), (25, 0x208b343#32), (26, 0x4116686#32)]
def redF (v : BitVec 32) : BitVec 32 := redL redB v v
theorem redF_xor (a b : BitVec 32) : redF (a ^^^ b) = redF a ^^^ redF b := redL_xor _ _ _ _ _
def qF (z : BitVec 32) : BitVec 32 := sN 352 z ^^^ z
theorem qF_xor (a b : BitVec 32) : qF (a ^^^ b) = qF a ^^^ qF b := by
  unfold qF
  rw [sN_xor, xor_four]
def e4 (n : Int) : BitVec 32 := crcR 0#32 (be n 4)
def lowF (n : Nat) : BitVec 32 := redF (qF (e4 n))
def highF (i : Nat) : BitVec 32 := redF (qF (sN 32 (e4 (drF i))))
def forceN {A : Type} (n : Nat) (f : Nat → A) : A :=
  match n with
  | 0 => f 0
  | k + 1 => f (k + 1)
theorem forceN_eq {A : Type} (n : Nat) (f : Nat → A) : forceN n f = f n := by cases n <;> rfl
def stepN (c : Nat) : Nat := Nat.xor (c / 2) ((c % 2) * 2197175160)
def runN : Nat → Nat → Nat
  | 0, c => c
  | n + 1, c => forceN (stepN c) (runN n)
def wordN (n : Nat) : Nat := runN 8 (Nat.xor (runN 8 (Nat.xor (runN 8 (Nat.xor (runN 8 (n / 16777216 % 256)) (n / 65536 % 256))) (n / 256 % 256))) (n % 256))
def qN (z : Nat) : Nat := forceN z fun z => Nat.xor (runN 352 z) z
theorem s1_nat (c : BitVec 32) : (s1 c).toNat = stepN c.toNat := by
  unfold s1 stepN
  rw [BitVec.toNat_xor, BitVec.toNat_ushiftRight]
  show _ = (c.toNat / 2) ^^^ _
  rw [show c.toNat >>> 1 = c.toNat / 2 from rfl]
  congr 1
  rw [BitVec.getLsbD, Nat.testBit_zero]
  rcases Nat.mod_two_eq_zero_or_one c.toNat with h | h <;> rw [h] <;> rfl
theorem run_nat : ∀ (n : Nat) (c : BitVec 32), (sN n c).toNat = runN n c.toNat
  | 0, _ => rfl
  | n + 1, c => by
    show (sN n (s1 c)).toNat = forceN _ _
    rw [forceN_eq, run_nat n, s1_nat]
theorem bv_nat {x : Int} (h : 0 ≤ x ∧ x ≤ 255) : (bv x).toNat = x.toNat := by
  unfold bv
  rw [BitVec.toNat_ofInt]
  omega
theorem byte_nat (c : BitVec 32) {x : Int} (h : 0 ≤ x ∧ x ≤ 255) : (byteR c x).toNat = runN 8 (Nat.xor c.toNat x.toNat) := by
  unfold byteR
  rw [run_nat, BitVec.toNat_xor, bv_nat h]
  rfl
theorem e4_nat (n : Nat) : (e4 n).toNat = wordN n := by
  have e : be (n : Int) 4 = [((n / 16777216 % 256 : Nat) : Int), ((n / 65536 % 256 : Nat) : Int), ((n / 256 % 256 : Nat) : Int), ((n % 256 : Nat) : Int)] := by
    show [_, _, _, _] = _
    have p3 : (256 : Int) ^ 3 = 16777216 := rfl
    have p2 : (256 : Int) ^ 2 = 65536 := rfl
    have p1 : (256 : Int) ^ 1 = 256 := rfl
    have p0 : (256 : Int) ^ 0 = 1 := rfl
    rw [p3, p2, p1, p0]
    repeat' (first | rfl | (refine List.cons_eq_cons.2 ⟨?_, ?_⟩))
    all_goals omega
  unfold e4
  rw [e]
  show (byteR (byteR (byteR (byteR 0#32 _) _) _) _).toNat = _
  rw [byte_nat _ (by omega), byte_nat _ (by omega), byte_nat _ (by omega), byte_nat _ (by omega)]
  simp only [Int.toNat_natCast]
  unfold wordN
  rw [show Nat.xor (0#32).toNat (n / 16777216 % 256) = n / 16777216 % 256 from Nat.zero_xor _]
theorem q_nat (z : BitVec 32) : (qF z).toNat = qN z.toNat := by
  unfold qF qN
  rw [forceN_eq, BitVec.toNat_xor, run_nat]
  rfl
theorem of_nat (z : BitVec 32) : BitVec.ofNat 32 z.toNat = z := by simp
def dN (i : Nat) : Nat := (i * 2654435769) % 4294967296
def lowN (n : Nat) : Nat := forceN (qN (wordN n)) fun z => (redF (BitVec.ofNat 32 z)).toNat
def highN (i : Nat) : Nat := forceN (qN (runN 32 (wordN (dN i)))) fun z => (redF (BitVec.ofNat 32 z)).toNat
theorem low_nat (n : Nat) : (lowF n).toNat = lowN n := by
  unfold lowF lowN
  rw [forceN_eq, ← e4_nat, ← q_nat, of_nat]
theorem high_nat (i : Nat) : (highF i).toNat = highN i := by
  have e : drF i = (dN i : Nat) := by unfold drF dN; omega
  unfold highF highN
  rw [forceN_eq, e, ← e4_nat, ← run_nat, ← q_nat, of_nat]
def nodupB : List Nat → Bool
  | [] => true
  | x :: l => l.all (fun y => !Nat.beq x y) && nodupB l
def chkN (f : Nat → Nat) (l : List Nat) (o : Nat) : Nat → Bool
  | 0 => true
  | n + 1 => (f (o + n)).beq (l.getD (o + n) 0) && chkN f l o n
theorem chkN_at {f : Nat → Nat} {l : List Nat} {o : Nat} : ∀ {n : Nat}, chkN f l o n = true → ∀ i, i < n → f (o + i) = l.getD (o + i) 0
  | 0, _, _, hi => absurd hi (Nat.not_lt_zero _)
  | n + 1, h, i, hi => by
    have h : ((f (o + n)).beq (l.getD (o + n) 0) && chkN f l o n) = true := h
    rw [Bool.and_eq_true] at h
    by_cases e : i = n
    · rw [e]; exact Nat.eq_of_beq_eq_true h.1
    · exact chkN_at h.2 i (by omega)
theorem chk_all {f : Nat → Nat} {l : List Nat} (h0 : chkN f l 0 16 = true) (h1 : chkN f l 16 16 = true) (h2 : chkN f l 32 16 = true) (h3 : chkN f l 48 16 = true) (h4 : chkN f l 64 16 = true) (h5 : chkN f l 80 16 = true)
    (h6 : chkN f l 96 16 = true) (h7 : chkN f l 112 16 = true) (k : Nat) (hk : k < 128) : f k = l.getD k 0 := by
  have go : ∀ o, chkN f l o 16 = true → o ≤ k → k < o + 16 → f k = l.getD k 0 := fun o h g1 g2 => by
    have := chkN_at h (k - o) (by omega)
    rwa [show o + (k - o) = k by omega] at this
  rcases (by omega : k < 16 ∨ (16 ≤ k ∧ k < 32) ∨ (32 ≤ k ∧ k < 48) ∨ (48 ≤ k ∧ k < 64) ∨ (64 ≤ k ∧ k < 80) ∨ (80 ≤ k ∧ k < 96) ∨ (96 ≤ k ∧ k < 112) ∨ (112 ≤ k ∧ k < 128)) with h | h | h | h | h | h | h | h
  · exact go 0 h0 (Nat.zero_le _) (by omega)
  · exact go 16 h1 h.1 h.2
  · exact go 32 h2 h.1 h.2
  · exact go 48 h3 h.1 h.2
  · exact go 64 h4 h.1 h.2
  · exact go 80 h5 h.1 h.2
  · exact go 96 h6 h.1 h.2
  · exact go 112 h7 h.1 h.2
def highT : List Nat := [0, 10384886, 144597106, 142404624, 137459309, 138049981, 143014619, 6338337, 2140784, 9082567, 14913439, 8071900, 140428227, 137294888, 139581455, 2048058, 147753968, 367063, 134602065, 140571057, 142278141, 141174806, 145535207, 139135824, 148704288, 143937384, 142412375, 10185022, 134834346, 12571188, 1681627, 149586740, 13255734, 135404938, 15091731, 4257921, 139205035, 12006912, 630651, 15662383, 2289342, 1398540, 147649497, 5641180, 14354519, 9847631, 13914122, 8694045, 143650619, 139362705, 136652889, 142300256, 150855174, 3426719, 138503085, 135855106, 142624786, 761903, 10003444, 9810974, 148623272, 2895903, 4720300, 143807230, 8494352, 9132377, 150391795, 10148778, 137435972, 146035311, 136906429, 142521770, 146329937, 3721246, 9005980, 14725285, 1261302, 16184372, 140515485, 2371938, 9408110, 11755608, 144519418, 137881658, 147542471, 139149317, 147974728, 147529765, 144613763, 142992795, 2014029, 144283254, 8778906, 146577943, 150264152, 140117274, 141181100, 149514835, 146661669, 7034890, 139653959, 150563160, 136059349, 7737476, 147923498, 142852125, 135618254, 3777360, 147154003, 10370440, 4980572, 144476378, 7400285, 13194114, 137727314, 134740267, 138868281, 13511408, 4609299, 8977605, 10020053, 9512946, 483522, 11545160, 144042235, 2791702, 149110887, 10854729]
theorem low_b0 : chkN lowN [] 0 16 = true := by kernel_rfl
theorem low_b1 : chkN lowN [] 16 16 = true := by kernel_rfl
theorem low_b2 : chkN lowN [] 32 16 = true := by kernel_rfl
theorem low_b3 : chkN lowN [] 48 16 = true := by kernel_rfl
theorem low_b4 : chkN lowN [] 64 16 = true := by kernel_rfl
theorem low_b5 : chkN lowN [] 80 16 = true := by kernel_rfl
theorem low_b6 : chkN lowN [] 96 16 = true := by kernel_rfl
theorem low_b7 : chkN lowN [] 112 16 = true := by kernel_rfl
theorem high_b0 : chkN highN highT 0 16 = true := by kernel_rfl
theorem high_b1 : chkN highN highT 16 16 = true := by kernel_rfl
theorem high_b2 : chkN highN highT 32 16 = true := by kernel_rfl
theorem high_b3 : chkN highN highT 48 16 = true := by kernel_rfl
theorem high_b4 : chkN highN highT 64 16 = true := by kernel_rfl
theorem high_b5 : chkN highN highT 80 16 = true := by kernel_rfl
theorem high_b6 : chkN highN highT 96 16 = true := by kernel_rfl
theorem high_b7 : chkN highN highT 112 16 = true := by kernel_rfl
theorem high_nodup : nodupB highT = true := by kernel_rfl
theorem low_zero {n : Nat} (h : n < 128) : lowF n = 0#32 := by
  have := chk_all low_b0 low_b1 low_b2 low_b3 low_b4 low_b5 low_b6 low_b7 n h
  refine BitVec.eq_of_toNat_eq ?_
  rw [low_nat, this]
  rfl
theorem high_at {i : Nat} (h : i < 128) : (highF i).toNat = highT.getD i 0 := by
  rw [high_nat]
  exact chk_all high_b0 high_b1 high_b2 high_b3 high_b4 high_b5 high_b6 high_b7 i h
theorem nodup_at : ∀ {l : List Nat}, nodupB l = true → ∀ i j, i < j → j < l.length → l.getD i 0 ≠ l.getD j 0
  | [], _, _, _, _, hj => absurd hj (Nat.not_lt_zero _)
  | x :: l, h, i, j, hi, hj => by
    unfold nodupB at h
    rw [Bool.and_eq_true] at h
    obtain ⟨j, rfl⟩ : ∃ k, j = k + 1 := ⟨j - 1, by omega⟩
    cases i with
    | zero =>
      have hm : l.getD j 0 ∈ l := by
        rw [show l.getD j 0 = l[j]'(by simp at hj; omega) by simp [List.getD, List.getElem?_eq_getElem (show j < l.length by simp at hj; omega)]]
        exact List.getElem_mem _
      have := List.all_eq_true.1 h.1 _ hm
      intro e
      have e' : x = l.getD j 0 := e
      rw [← e'] at this
      simp at this
    | succ i => exact nodup_at h.2 i j (by omega) (by simp at hj; omega)
theorem high_inj {i j : Nat} (hi : i < 128) (hj : j < 128) (h : highF i = highF j) : i = j := by
  have key : ∀ i j, i < j → j < 128 → highF i ≠ highF j := fun i j h hj e => by
    refine nodup_at high_nodup i j h hj ?_
    rw [← high_at (by omega), ← high_at hj, e]
  rcases Nat.lt_trichotomy i j with h1 | h1 | h1
  · exact absurd h (key i j h1 hj)
  · exact h1
  · exact absurd h.symm (key j i h1 hi)
def keyN (i n : Nat) : Int := drF i * 4294967296 + n
theorem be_two {a b : Int} (hb : okU b) : be (a * 4294967296 + b) 8 = be a 4 ++ be b 4 := by
  unfold okU at hb
  have p : ∀ k, k < 8 → (256 : Int) ^ k = ([1, 256, 65536, 16777216, 4294967296, 1099511627776, 281474976710656, 72057594037927936] : List Int).getD k 0 := by decide
  show [_, _, _, _, _, _, _, _] = [_, _, _, _, _, _, _, _]
  rw [p 7 (by omega), p 6 (by omega), p 5 (by omega), p 4 (by omega), p 3 (by omega), p 2 (by omega), p 1 (by omega), p 0 (by omega)]
  simp only [List.getD_cons_zero, List.getD_cons_succ]
  repeat' (first | rfl | (refine List.cons_eq_cons.2 ⟨?_, ?_⟩))
  all_goals omega
theorem crcR_zero (c : BitVec 32) (l : List Int) : crcR c l = crcR 0#32 l ^^^ sN (8 * l.length) c := by
  have := crcR_xor 0#32 c l
  rwa [BitVec.zero_xor] at this
theorem reg_key (c : BitVec 32) (k : Int) {m : List Int} (hm : m.length = 36) :
    crcR c (be k 8 ++ m ++ be k 8) = sN 64 (crcR (sN 64 c) m) ^^^ qF (crcR 0#32 (be k 8)) := by
  have e1 : crcR c (be k 8) = sN 64 c ^^^ crcR 0#32 (be k 8) := by
    rw [crcR_zero c, be_len, BitVec.xor_comm]
  rw [crcR_append, crcR_append, e1, crcR_xor, hm, crcR_zero (_ ^^^ _), be_len, sN_xor]
  rw [show sN (8 * 8) (sN (8 * 36) (crcR 0#32 (be k 8))) = sN 352 (crcR 0#32 (be k 8)) from (sN_add 64 288 _).symm]
  unfold qF
  rw [BitVec.xor_comm (crcR 0#32 (be k 8)), BitVec.xor_assoc]
theorem xor_cancel {a b c : BitVec 32} (h : a ^^^ b = a ^^^ c) : b = c := by
  have := congrArg (fun z => a ^^^ z) h
  simpa [← BitVec.xor_assoc] using this
theorem iv_inj {a b : BitVec 32} (h : iv a = iv b) : a = b := by
  have := congrArg bv h
  rwa [bv_iv, bv_iv] at this
theorem not_inj {a b : BitVec 32} (h : ~~~ a = ~~~ b) : a = b := by
  have := congrArg (fun z => ~~~ z) h
  simpa using this
theorem key_form {i n : Nat} (hn : n < 128) : redF (qF (crcR 0#32 (be (keyN i n) 8))) = highF i := by
  have h : crcR 0#32 (be (keyN i n) 8) = e4 n ^^^ sN 32 (e4 (drF i)) := by
    unfold keyN
    rw [be_two (by unfold okU; omega), crcR_append, crcR_zero, be_len]
    rfl
  rw [h, qF_xor, redF_xor]
  show lowF n ^^^ highF i = _
  rw [low_zero hn, BitVec.zero_xor]
theorem key_other {i j n m : Nat} (hi : i < 128) (hj : j < 128) (hn : n < 128) (hm : m < 128) (h : i ≠ j) {b : List Int} (hb : b.length = 36) : keyF (keyN i n) b ≠ keyF (keyN j m) b := by
  intro e
  have e1 : crcR (~~~ bv 0) (be (keyN i n) 8 ++ b ++ be (keyN i n) 8) = crcR (~~~ bv 0) (be (keyN j m) 8 ++ b ++ be (keyN j m) 8) := not_inj (iv_inj e)
  rw [reg_key _ _ hb, reg_key _ _ hb] at e1
  have e2 := congrArg redF (xor_cancel e1)
  rw [key_form hn, key_form hm] at e2
  exact h (high_inj hi hj e2)
theorem open_other {i j n m : Nat} (hi : i < 128) (hj : j < 128) (hn : n < 128) (hm : m < 128) (h : i ≠ j) (c : CruR) : (openF (keyN i n) (sealB (keyN j m) c)).2 ≠ 0 := by
  have e : nAt (sealB (keyN j m) c) 36 4 ≠ keyF (keyN i n) ((sealB (keyN j m) c).take 36) := by
    rw [seal_sum, sealB_take]
    exact fun e => key_other hi hj hn hm h (cruB_len c) e.symm
  unfold openF
  rw [if_neg (by rw [sealB_len]; omega), if_neg (by rw [sealB_len]; omega), if_pos e]
  decide
end Go.ZM

set_option maxRecDepth 100000
namespace Go.ZM
open Go.Z Go.ZR
theorem drF_inj {i j : Nat} (hi : i < 4294967296) (hj : j < 4294967296) (h : drF i = drF j) : i = j := by
  have key : ∀ k : Nat, k < 4294967296 → (drF k * 340573321) % 4294967296 = k := fun k hk => by
    unfold drF
    omega
  have h1 := key i hi
  rw [h, key j hj] at h1
  omega
theorem drF_zero : drF (0 : Nat) = 0 := rfl
def oldT (e : Nat) (t : Int) : Prop := ∃ i : Nat, i ≤ e ∧ t = drF i
def oldK (e m : Nat) (k : Int) : Prop := ∃ i n : Nat, i ≤ e ∧ n ≤ m ∧ k = keyN i n
def oldV (e m : Nat) (v : List Int) : Prop := ∃ k x, oldK e m k ∧ v = sealB k x ∧ soundF x = true ∧ okCru x ∧ oldT e x.a ∧ oldT e x.b
def oldC (e m : Nat) (c : ChR) : Prop := ((c.t = 1 ∨ c.t = 2) → oldT e (toHel c).1.tag) ∧ (c.t = 2 → (toHel c).2 = 0 → oldV e m (toHel c).1.cookie) ∧ (c.t = 10 → oldV e m c.v)
def oldL (e m : Nat) (x : LtrR) : Prop := oldT e x.tag ∧ oldC e m x.ch
structure oldS (e m : Nat) (a : AsR) : Prop where
  key : oldK e m a.key
  mt : oldT e a.mt
  pt : oldT e a.pt
  ltr : oldL e m ⟨a.ltag, a.lch⟩
theorem oldT.mono {e f : Nat} {t : Int} (h : oldT e t) (k : e ≤ f) : oldT f t := by
  obtain ⟨i, h1, h2⟩ := h
  exact ⟨i, by omega, h2⟩
theorem oldT_zero (e : Nat) : oldT e 0 := ⟨0, Nat.zero_le _, rfl⟩
theorem oldK.mono {e m f n : Nat} {t : Int} (h : oldK e m t) (k : e ≤ f) (k' : m ≤ n) : oldK f n t := by
  obtain ⟨i, j, h1, h2, h3⟩ := h
  exact ⟨i, j, by omega, by omega, h3⟩
theorem oldV.mono {e m f n : Nat} {v : List Int} (h : oldV e m v) (k : e ≤ f) (k' : m ≤ n) : oldV f n v := by
  obtain ⟨a, x, h1, h2, h3, h4, h5, h6⟩ := h
  exact ⟨a, x, h1.mono k k', h2, h3, h4, h5.mono k, h6.mono k⟩
theorem oldC.mono {e m f n : Nat} {c : ChR} (h : oldC e m c) (k : e ≤ f) (k' : m ≤ n) : oldC f n c :=
  ⟨fun a => (h.1 a).mono k, fun a b => (h.2.1 a b).mono k k', fun a => (h.2.2 a).mono k k'⟩
theorem oldL.mono {e m f n : Nat} {x : LtrR} (h : oldL e m x) (k : e ≤ f) (k' : m ≤ n) : oldL f n x := ⟨h.1.mono k, h.2.mono k k'⟩
theorem oldS.mono {e m f n : Nat} {a : AsR} (h : oldS e m a) (k : e ≤ f) (k' : m ≤ n) : oldS f n a := ⟨h.key.mono k k', h.mt.mono k, h.pt.mono k, h.ltr.mono k k'⟩
theorem oldC_bare {e m : Nat} {c : ChR} (h : c.t ≠ 1 ∧ c.t ≠ 2 ∧ c.t ≠ 10) : oldC e m c :=
  ⟨fun a => a.elim (fun a => absurd a h.1) fun a => absurd a h.2.1, fun a => absurd a h.2.1, fun a => absurd a h.2.2⟩
theorem fromHel_bad {h : HelR} {ack : Bool} (e : (fromHel h ack).2 ≠ 0) : (fromHel h ack).1 = noCh := by
  unfold fromHel at e ⊢
  split at e
  · rename_i h1; rw [if_pos h1]
  rename_i h1
  split at e
  · rename_i h2; rw [if_neg h1, if_pos h2]
  split at e
  · exact absurd rfl e
  · exact absurd rfl e
theorem fromHel_t {h : HelR} {ack : Bool} (e : (fromHel h ack).2 = 0) : (fromHel h ack).1.t = if ack then 2 else 1 := by
  rw [(fromHel_ok e).2.2]
  cases ack <;> rfl
theorem oldC_hel {e m : Nat} {h : HelR} (ok : okHel h) (ht : oldT e h.tag) : oldC e m (fromHel h false).1 := by
  by_cases e1 : (fromHel h false).2 = 0
  · have h1 := fromHel_t e1
    have h2 := toHel_made ok e1
    have h1 : (fromHel h false).1.t = 1 := h1
    exact ⟨fun _ => by rw [h2]; exact ht, fun a => absurd (h1.symm.trans a) (by decide), fun a => absurd (h1.symm.trans a) (by decide)⟩
  · rw [fromHel_bad e1]
    exact oldC_bare (by decide)
theorem oldC_ack {e m : Nat} {h : HelR} (ok : okHel h) (ht : oldT e h.tag) (hv : oldV e m h.cookie) : oldC e m (fromHel h true).1 := by
  by_cases e1 : (fromHel h true).2 = 0
  · have h1 := fromHel_t e1
    have h2 := toHel_made ok e1
    have h1 : (fromHel h true).1.t = 2 := h1
    exact ⟨fun _ => by rw [h2]; exact ht, fun _ _ => by rw [h2]; exact hv, fun a => absurd (h1.symm.trans a) (by decide)⟩
  · rw [fromHel_bad e1]
    exact oldC_bare (by decide)
theorem oldL_bare {e m : Nat} {t : Int} {c : ChR} (ht : oldT e t) (h : c.t ≠ 1 ∧ c.t ≠ 2 ∧ c.t ≠ 10) : oldL e m ⟨t, c⟩ := ⟨ht, oldC_bare h⟩
def oldR (e m : Nat) (r : AsR × OutR) : Prop := oldS e m r.1 ∧ ∀ x ∈ r.2.pk, oldL e m x
theorem oldR_ite {e m : Nat} {p : Prop} [Decidable p] {x y : AsR × OutR} (hx : p → oldR e m x) (hy : ¬ p → oldR e m y) : oldR e m (if p then x else y) := by
  by_cases h : p
  · rw [if_pos h]; exact hx h
  · rw [if_neg h]; exact hy h
theorem old_nil {e m : Nat} {ev : List Int} : ∀ x ∈ (⟨[], ev⟩ : OutR).pk, oldL e m x := fun x hx => by cases hx
theorem old_one {e m : Nat} {y : LtrR} {ev : List Int} (h : oldL e m y) : ∀ x ∈ (⟨[y], ev⟩ : OutR).pk, oldL e m x := fun x hx => by
  rcases List.mem_singleton.1 hx with rfl
  exact h
theorem old_no {e m : Nat} : oldL e m ⟨0, noCh⟩ := oldL_bare (oldT_zero e) (by decide)
theorem old_end {e m : Nat} {a : AsR} (h : oldS e m a) (hm : m < 4294967295) : oldS e (m + 1) (endA a) := by
  refine ⟨?_, oldT_zero e, oldT_zero e, old_no⟩
  obtain ⟨i, n, h1, h2, h3⟩ := h.key
  refine ⟨i, n + 1, h1, by omega, ?_⟩
  show (a.key + 1) % 18446744073709551616 = _
  rw [h3]
  have := drF_ok i
  unfold okU at this
  unfold keyN
  omega
theorem old_wait {e m : Nat} {a : AsR} {t : Int} {c : ChR} {w : Int} (hk : oldK e m a.key) (h1 : oldT e a.mt) (h2 : oldT e a.pt) (h : oldL e m ⟨t, c⟩) : oldR e m (waitA a t c w) :=
  ⟨⟨hk, h1, h2, h⟩, old_one h⟩
theorem old_greet {e m : Nat} {a : AsR} {w : Int} (ha : okAs a) (hk : oldK e m a.key) (h1 : oldT e a.mt) : oldR e m (greetA a w) :=
  old_wait hk h1 (oldT_zero e) ⟨oldT_zero e, oldC_hel (hel_ok8 ha.mt ha.win ha.ms okB_nil (by simp)) h1⟩
theorem old_open {e m : Nat} {a : AsR} {t n w : Int} (ha : okAs a) (h : oldS e m a) (ht : oldT e t) (hu : okU t) (hn : okU n) : oldR e m (two (openA a t n w)) := by
  unfold openA two
  split
  · exact ⟨h, old_nil⟩
  split
  · exact ⟨h, old_nil⟩
  · exact old_wait h.key ht (oldT_zero e) ⟨oldT_zero e, oldC_hel (hel_ok8 hu ha.win hn okB_nil (by simp)) ht⟩
theorem old_tick {e m : Nat} {a : AsR} {w : Int} (h : oldS e m a) (hm : m < 4294967295) : oldR e (m + 1) (tickA a w) := by
  have h' := h.mono (Nat.le_refl e) (Nat.le_succ m)
  unfold tickA
  refine oldR_ite (fun _ => ⟨h', old_nil⟩) fun _ => oldR_ite (fun _ => ⟨old_end h hm, old_nil⟩) fun _ => ⟨⟨h'.key, h'.mt, h'.pt, h'.ltr⟩, old_one h'.ltr⟩
theorem old_shut {e m : Nat} {a : AsR} {w : Int} (h : oldS e m a) : oldR e m (shutA a w) := old_wait h.key h.mt h.pt (oldL_bare h.pt (by decide))
theorem old_shac {e m : Nat} {a : AsR} {w : Int} (h : oldS e m a) : oldR e m (shacA a w) := old_wait h.key h.mt h.pt (oldL_bare h.pt (by decide))
theorem old_close {e m : Nat} {a : AsR} {w : Int} {b : Bool} (h : oldS e m a) : oldR e m (two (closeA a w b)) := by
  unfold closeA two
  split
  · exact ⟨h, old_nil⟩
  split
  · exact old_shut h
  · exact ⟨⟨h.key, h.mt, h.pt, h.ltr⟩, old_nil⟩
theorem old_drain {e m : Nat} {a : AsR} {w : Int} (h : oldS e m a) : oldR e m (drainA a w) := by
  unfold drainA
  exact oldR_ite (fun _ => old_shut h) fun _ => oldR_ite (fun _ => old_shac h) fun _ => ⟨h, old_nil⟩
theorem old_abort {e m : Nat} {a : AsR} (h : oldS e m a) (hm : m < 4294967295) : oldR e (m + 1) (abortA a) := by
  have h' := h.mono (Nat.le_refl e) (Nat.le_succ m)
  unfold abortA
  refine oldR_ite (fun _ => ⟨h', old_nil⟩) fun _ => ⟨old_end h hm, ?_⟩
  show ∀ x ∈ (if a.pt = 0 then noOut else _ : OutR).pk, _
  split
  · exact old_nil
  · exact old_one (oldL_bare h'.pt (by decide))
theorem old_take {e m : Nat} {a : AsR} (h : oldS e m a) {x : CruR} {ev : Int} (ha : oldT e x.a) (hb : oldT e x.b) : oldR e m (takeA a x ev) :=
  ⟨⟨h.key, ha, hb, old_no⟩, old_one (oldL_bare hb (by decide))⟩
theorem old_numT {e : Nat} {a : AsR} {d : Int} (h : oldT e a.mt) (hd : oldT e d) (h0 : d ≠ 0) : oldT e (numT a d) := by
  unfold numT drawT
  split
  · exact h
  · first | exact hd | (rw [if_neg h0]; exact hd)
theorem seal_form {k : Int} {x : CruR} (h : (sealF k x).2 = 0) : soundF x = true ∧ (sealF k x).1 = sealB k x := by
  unfold sealF at h ⊢
  split at h
  · rename_i h1; rw [if_pos h1]; exact ⟨h1, rfl⟩
  · cases h
theorem crumb_ok {a : AsR} {h : HelR} {w d : Int} (ha : okAs a) (hh : okHel h) (hw : okNow w) (hd : okU d) : okCru (crumbA a h w d) := by
  refine cru_ok hw (numT_ok ha hd) hh.1 (numS_ok ha hd) hh.2.2.2.2.1 hh.2.1 ?_ ?_
  · split
    · exact ha.mt
    · exact okU0
  · split
    · exact ha.pt
    · exact okU0
theorem old_called {e m : Nat} {a : AsR} {h : HelR} {w d : Int} (ha : okAs a) (hh : okHel h) (hw : okNow w) (hu : okU d) (ho : oldS e m a) (ht : oldT e h.tag) (hd : oldT e d) (h0 : d ≠ 0) : oldR e m (calledA a h w d) := by
  have hT := old_numT (a := a) ho.mt hd h0
  unfold calledA
  refine oldR_ite (fun _ => ⟨ho, old_one ho.ltr⟩) fun _ => oldR_ite (fun h2 => ?_) fun _ => ⟨ho, old_nil⟩
  obtain ⟨h3, h4⟩ := seal_form h2
  refine ⟨ho, old_one ⟨ht, ?_⟩⟩
  refine oldC_ack (hel_ok8 (numT_ok ha hu) ha.win (numS_ok ha hu) (seal_ok _ _).1 (seal_ok _ _).2) hT ?_
  exact ⟨a.key, _, ho.key, h4, h3, crumb_ok ha hh hw hu, hT, ht⟩
theorem cru_seal {k : Int} {c : CruR} (ok : okCru c) (hs : soundF c = true) : cruOf (sealB k c) = c := by
  have h := open_seal (k := k) ok hs
  unfold openF at h
  rw [if_neg (by rw [sealB_len]; omega), if_neg (by rw [sealB_len]; omega), if_neg (by rw [seal_sum]; exact fun h => h rfl)] at h
  split at h
  · exact congrArg Prod.fst h
  · exact absurd (show (2 : Int) = 0 from congrArg Prod.snd h) (by decide)
theorem open_any {k k' : Int} {c : CruR} (ok : okCru c) (hs : soundF c = true) (h : (openF k' (sealB k c)).2 = 0) : (openF k' (sealB k c)).1 = c := by
  unfold openF at h ⊢
  rw [cru_seal ok hs] at h ⊢
  split at h
  · cases h
  rename_i h1
  rw [if_neg h1]
  split at h
  · cases h
  rename_i h2
  rw [if_neg h2]
  split at h
  · cases h
  rename_i h3
  rw [if_neg h3, if_pos hs]
theorem old_echoed {e m : Nat} {a : AsR} {x : CruR} {w : Int} (h : oldS e m a) (ha : oldT e x.a) (hb : oldT e x.b) : oldR e m (echoedA a x w) := by
  unfold echoedA
  repeat' (first | exact old_take h ha hb | exact ⟨h, old_one h.ltr⟩ | exact ⟨h, old_nil⟩ | exact ⟨h, old_one (oldL_bare hb (by decide))⟩ | exact ⟨h, old_one (oldL_bare h.pt (by decide))⟩ | refine oldR_ite (fun _ => ?_) fun _ => ?_)
theorem old_recv {e m : Nat} {a : AsR} {t : Int} {c : ChR} {w d : Int} (ha : okAs a) (hc : okLt t c) (hw : okNow w) (hu : okU d) (h : oldS e m a) (hx : oldL e m ⟨t, c⟩) (hd : oldT e d) (h0 : d ≠ 0) (hm : m < 4294967295) : oldR e (m + 1) (recvA a t c w d) := by
  have hcv : sm c.v.length := by have := hc.2.2; unfold sm; omega
  have hth := toHel_okHel hc.2.1.2.2 hcv
  have h' := h.mono (Nat.le_refl e) (Nat.le_succ m)
  have hx' := hx.mono (Nat.le_refl e) (Nat.le_succ m)
  have hno : oldR e (m + 1) (a, noOut) := ⟨h', old_nil⟩
  have hend : ∀ {ev : List Int}, oldR e (m + 1) (endA a, ⟨[], ev⟩) := ⟨old_end h hm, old_nil⟩
  unfold recvA
  refine oldR_ite (fun c1 => oldR_ite (fun _ => old_called ha hth hw hu h' (hx'.2.1 (.inl c1)) hd h0) fun _ => hno) fun _ => ?_
  refine oldR_ite (fun c1 => oldR_ite (fun c2 => ?_) fun _ => hno) fun _ => ?_
  · have hp := hx'.2.1 (.inr c1)
    refine old_wait h'.key h'.mt hp ⟨hp, ⟨fun a => ?_, fun a => absurd (show (10 : Int) = 2 from a) (by decide), fun _ => hx'.2.2.1 c1 c2.1⟩⟩
    exact a.elim (fun a => absurd (show (10 : Int) = 1 from a) (by decide)) fun a => absurd (show (10 : Int) = 2 from a) (by decide)
  refine oldR_ite (fun c1 => oldR_ite (fun c2 => ?_) fun _ => hno) fun _ => ?_
  · obtain ⟨k, x, g1, g2, g3, g4, g5, g6⟩ := hx'.2.2.2 c1
    have g2 : c.v = sealB k x := g2
    have e1 := c2.1
    rw [g2] at e1 ⊢
    rw [open_any g4 g3 e1]
    exact old_echoed h' g5 g6
  refine oldR_ite (fun _ => oldR_ite (fun _ => ⟨⟨h'.key, h'.mt, h'.pt, old_no⟩, old_nil⟩) fun _ => hno) fun _ => ?_
  refine oldR_ite (fun _ => oldR_ite (fun _ => old_greet ha h'.key h'.mt) fun _ => hno) fun _ => ?_
  refine oldR_ite (fun _ => oldR_ite (fun _ => hend) fun _ => hno) fun _ => ?_
  refine oldR_ite (fun _ => oldR_ite (fun _ => ⟨⟨h'.key, h'.mt, h'.pt, old_no⟩, old_nil⟩) fun _ => oldR_ite (fun _ => old_shac h') fun _ => hno) fun _ => ?_
  refine oldR_ite (fun _ => oldR_ite (fun _ => ⟨h', old_one (oldL_bare hx'.1 (by decide))⟩) fun _ => oldR_ite (fun _ => ⟨old_end h hm, old_one (oldL_bare h'.pt (by decide))⟩) fun _ => hno) fun _ => ?_
  exact oldR_ite (fun _ => oldR_ite (fun _ => hend) fun _ => hno) fun _ => hno
structure Hist (e m : Nat) (p : PrR) : Prop where
  draw : p.draw = e
  a : oldS e m p.a
  b : oldS e m p.b
  v : ∀ x ∈ p.v, oldL e m x
  w : ∀ x ∈ p.w, oldL e m x
theorem Hist.drawn {e m : Nat} {p : PrR} (h : Hist e m p) (he : e < 4294967295) : Hist (e + 1) m (drawn p) := by
  refine ⟨?_, h.a.mono (by omega) (Nat.le_refl m), h.b.mono (by omega) (Nat.le_refl m), fun x hx => (h.v x hx).mono (by omega) (Nat.le_refl m), fun x hx => (h.w x hx).mono (by omega) (Nat.le_refl m)⟩
  show nxt p.draw = _
  rw [h.draw]; unfold nxt; omega
theorem Hist.up {e m n : Nat} {p : PrR} (h : Hist e m p) (hm : m ≤ n) : Hist e n p :=
  ⟨h.draw, h.a.mono (Nat.le_refl e) hm, h.b.mono (Nat.le_refl e) hm, fun x hx => (h.v x hx).mono (Nat.le_refl e) hm, fun x hx => (h.w x hx).mono (Nat.le_refl e) hm⟩
theorem Hist.side {e m : Nat} {p : PrR} (h : Hist e m p) (s : Int) : oldS e m (sideF p s) := by
  unfold sideF
  split
  · exact h.a
  · exact h.b
theorem Hist.way {e m : Nat} {p : PrR} (h : Hist e m p) (s : Int) : ∀ x ∈ wayF p s, oldL e m x := by
  unfold wayF
  split
  · exact h.v
  · exact h.w
theorem Hist.putS {e m : Nat} {p : PrR} (h : Hist e m p) (s : Int) {x : AsR} (hx : oldS e m x) : Hist e m (putS p s x) := by
  unfold Go.ZM.putS
  split
  · exact ⟨h.draw, hx, h.b, h.v, h.w⟩
  · exact ⟨h.draw, h.a, hx, h.v, h.w⟩
theorem Hist.putU {e m : Nat} {p : PrR} (h : Hist e m p) (s : Int) (x : Bool) : Hist e m (putU p s x) := by
  unfold Go.ZM.putU
  split
  · exact ⟨h.draw, h.a, h.b, h.v, h.w⟩
  · exact ⟨h.draw, h.a, h.b, h.v, h.w⟩
theorem Hist.putW {e m : Nat} {p : PrR} (h : Hist e m p) (s : Int) {l : List LtrR} (hl : ∀ x ∈ l, oldL e m x) : Hist e m (putW p s l) := by
  unfold Go.ZM.putW
  split
  · exact ⟨h.draw, h.a, h.b, hl, h.w⟩
  · exact ⟨h.draw, h.a, h.b, h.v, hl⟩
theorem Hist.hear {e m : Nat} {p : PrR} (h : Hist e m p) (s : Int) {r : AsR × OutR} (hr : oldR e m r) : Hist e m (hear p s r) := by
  have h1 := h.putS s hr.1
  refine (h1.putW (1 - s) fun x hx => ?_).putU s _
  rcases List.mem_append.1 hx with hx | hx
  · exact h1.way _ x hx
  · exact hr.2 x hx
theorem lot_of {e m : Nat} {p : PrR} (h : Hist e m p) (he : e < 4294967295) : lot p = drF (e + 1 : Nat) := by
  show drF (nxt p.draw) = _
  rw [h.draw]
  have : nxt e = (e + 1 : Nat) := by unfold nxt; omega
  rw [this]
theorem lot_old {e m : Nat} {p : PrR} (h : Hist e m p) (he : e < 4294967295) : oldT (e + 1) (lot p) := ⟨e + 1, Nat.le_refl _, lot_of h he⟩
theorem lot_ne {e m : Nat} {p : PrR} (h : Hist e m p) (he : e < 4294967295) : lot p ≠ 0 := by
  rw [lot_of h he]
  intro h0
  have := drF_inj (i := e + 1) (j := 0) (by omega) (by omega) (h0.trans drF_zero.symm)
  omega
theorem old_getD {e m : Nat} {l : List LtrR} {k : Nat} (h : ∀ x ∈ l, oldL e m x) : oldL e m ⟨(l.getD k noLtr).tag, (l.getD k noLtr).ch⟩ := by
  by_cases hk : k < l.length
  · rw [show l.getD k noLtr = l[k] by simp [List.getD, List.getElem?_eq_getElem hk]]
    exact h _ (List.getElem_mem hk)
  · rw [show l.getD k noLtr = noLtr by simp [List.getD, List.getElem?_eq_none (Nat.le_of_not_lt hk)]]
    exact old_no
theorem Hist.del {e m M N : Nat} {p : PrR} (h : Hist e m p) (o : okPr M N p) (hM : M ≤ 1000000) (he : e < 4294967295) (hm : m < 4294967295) (s : Int) (k : Nat) : Hist (e + 1) (m + 1) (delF p s k) := by
  have h1 := h.drawn he
  refine Hist.hear ((h1.putW s fun x hx => (h.way s x (without_mem hx)).mono (by omega) (Nat.le_refl m)).up (Nat.le_succ m)) s ?_
  exact old_recv (o.side s) (lt_getD (o.way s)) (okNow_of o.now (by omega)) (drF_ok _) ((h.side s).mono (by omega) (Nat.le_refl m)) ((old_getD (h.way s)).mono (by omega) (Nat.le_refl m)) (lot_old h he) (lot_ne h he) hm
theorem old_newA {e m : Nat} {i : Nat} (hi : i ≤ e) : oldS e m (newA (drF i)) := by
  refine ⟨⟨i, 0, hi, Nat.zero_le _, ?_⟩, oldT_zero e, oldT_zero e, old_no⟩
  show drF i * 4294967296 = _
  unfold keyN
  omega
theorem Hist.start {e m : Nat} {p : PrR} (h : Hist e m p) (he : e < 4294967295) (s : Int) : Hist (e + 1) m (startF p s) := by
  refine (h.drawn he).putS s ?_
  rw [lot_of h he]
  exact old_newA (Nat.le_refl _)
def HistE (i : Nat) (p : PrR) : Prop := ∃ e, e ≤ i ∧ Hist e i p
theorem HistE.move {i M N : Nat} {p : PrR} (g : HistE i p) (o : okPr M N p) (hM : M ≤ 1000000) (hi : i < 4294967295) (s : Int) (k : Nat) (n : Int) : HistE (i + 1) (moveS p s k n) := by
  obtain ⟨e, he, h⟩ := g
  have h0 : HistE (i + 1) p := ⟨e, by omega, h.up (by omega)⟩
  unfold moveS
  split
  · split
    · exact ⟨e + 1, by omega, h.del o hM (by omega) hi s k⟩
    · exact h0
  split
  · split
    · exact ⟨e, by omega, (h.up (by omega)).putW s fun x hx => (h.way s x (without_mem hx)).mono (Nat.le_refl e) (by omega)⟩
    · exact h0
  split
  · split
    · refine ⟨e, by omega, (h.up (by omega)).putW s fun x hx => ?_⟩
      rcases List.mem_append.1 hx with hx | hx
      · exact (h.way s x hx).mono (Nat.le_refl e) (by omega)
      · rw [List.mem_singleton.1 hx]
        exact (old_getD (h.way s)).mono (Nat.le_refl e) (by omega)
    · exact h0
  split
  · exact ⟨e + 1, by omega, ((h.drawn (by omega)).up (by omega)).hear s (old_open (o.side s) ((h.side s).mono (by omega) (by omega)) (lot_old h (by omega)) (drF_ok _) (okU_sub (drF_ok _)))⟩
  split
  · exact ⟨e, by omega, Hist.hear (p := { p with now := p.now + 1 }) (let h := h.up (Nat.le_succ i); ⟨h.draw, h.a, h.b, h.v, h.w⟩) s (old_tick (h.side s) (by omega))⟩
  split
  · exact ⟨e, by omega, (h.up (by omega)).hear s (old_close ((h.side s).mono (Nat.le_refl e) (by omega)))⟩
  split
  · exact ⟨e, by omega, (h.up (by omega)).hear s (old_drain ((h.side s).mono (Nat.le_refl e) (by omega)))⟩
  split
  · exact ⟨e, by omega, (h.up (by omega)).hear s (old_abort (h.side s) (by omega))⟩
  split
  · exact ⟨e + 1, by omega, (h.start (by omega) s).up (by omega)⟩
  · exact h0
theorem hist_pr1 : HistE 2 pr1 := by
  refine ⟨2, Nat.le_refl 2, rfl, ?_, ?_, fun _ h => (by cases h), fun _ h => (by cases h)⟩
  · exact old_newA (i := 1) (by omega)
  · exact old_newA (i := 2) (by omega)
theorem hist_grown (l : List MvR) : ∀ i, i ≤ 1000 → HistE (i + 2) (grownF l i)
  | 0, _ => hist_pr1
  | i + 1, hi => by
    have h := hist_grown l i (by omega)
    by_cases h1 : i < l.length
    · rw [grown_succ h1]
      exact h.move (grown_ok l i (by omega)) (by omega) (by omega) _ _ _
    · have e : grownF l (i + 1) = grownF l i := by
        unfold grownF
        rw [List.take_of_length_le (by omega), List.take_of_length_le (by omega)]
      rw [e]
      obtain ⟨e, he, h⟩ := h
      exact ⟨e, by omega, h.up (by omega)⟩
end Go.ZM

set_option maxRecDepth 100000
namespace Go.ZM
open Go.Z Go.ZR
def wtL (x : LtrR) : Nat := if x.ch.t = 1 ∨ x.ch.t = 8 then 2 else 1
theorem wtL_le (x : LtrR) : wtL x ≤ 2 := by unfold wtL; split <;> omega
theorem wtL_ge (x : LtrR) : 1 ≤ wtL x := by unfold wtL; split <;> omega
inductive Mix (S : LtrR → Prop) : Nat → List LtrR → List LtrR → Prop
  | nil : Mix S 0 [] []
  | old {n : Nat} {L l : List LtrR} {x : LtrR} : S x → Mix S n L l → Mix S (n + wtL x) L (x :: l)
  | new {n : Nat} {L l : List LtrR} {x : LtrR} : Mix S n L l → Mix S n (x :: L) (x :: l)
theorem Mix.snocOld {S : LtrR → Prop} {n : Nat} {L l : List LtrR} (h : Mix S n L l) {x : LtrR} (hx : S x) : Mix S (n + wtL x) L (l ++ [x]) := by
  induction h with
  | nil => exact .old hx .nil
  | old hy _ ih =>
    rw [Nat.add_right_comm]
    exact .old hy ih
  | new _ ih => exact .new ih
theorem Mix.snocNew {S : LtrR → Prop} {n : Nat} {L l : List LtrR} (h : Mix S n L l) {x : LtrR} : Mix S n (L ++ [x]) (l ++ [x]) := by
  induction h with
  | nil => exact .new .nil
  | old hy _ ih => exact .old hy ih
  | new _ ih => exact .new ih
theorem Mix.app {S : LtrR → Prop} {n : Nat} {L l : List LtrR} (h : Mix S n L l) : ∀ (M : List LtrR), Mix S n (L ++ M) (l ++ M)
  | [] => by rw [List.append_nil, List.append_nil]; exact h
  | x :: M => by
    have := (h.snocNew (x := x)).app M
    rwa [List.append_assoc, List.append_assoc] at this
theorem Mix.all {S : LtrR → Prop} : ∀ (l : List LtrR), (∀ x ∈ l, S x) → ∃ n, n ≤ 2 * l.length ∧ Mix S n [] l
  | [], _ => ⟨0, Nat.le_refl 0, .nil⟩
  | x :: l, h => by
    obtain ⟨n, h1, h2⟩ := Mix.all l fun y hy => h y (List.mem_cons_of_mem _ hy)
    exact ⟨n + wtL x, by have := wtL_le x; simp only [List.length_cons]; omega, .old (h x List.mem_cons_self) h2⟩
theorem Mix.nil_of {S : LtrR → Prop} {n : Nat} {L : List LtrR} (h : Mix S n L []) : L = [] := by
  cases h; rfl

def newT (e : Nat) (t : Int) : Prop := ∃ i : Nat, e < i ∧ i < 4294967296 ∧ t = drF i
theorem new_old {e : Nat} {t u : Int} (h : newT e t) (g : oldT e u) (_he : e < 4294967296) : u ≠ t := by
  obtain ⟨i, h1, h2, h3⟩ := h
  obtain ⟨j, g1, g2⟩ := g
  rintro rfl
  have := drF_inj (by omega) h2 (g2.symm.trans h3)
  omega
theorem new_ne {e : Nat} {t : Int} (h : newT e t) (he : e < 4294967296) : t ≠ 0 := fun h0 => new_old h (oldT_zero e) he h0.symm
theorem new_okU {e : Nat} {t : Int} (h : newT e t) : okU t := by
  obtain ⟨i, _, _, rfl⟩ := h
  exact drF_ok _
def Stale (e : Nat) (ka kb : Int) (x : LtrR) : Prop := oldT e x.tag ∧ (x.ch.t = 1 → oldT e (toHel x.ch).1.tag) ∧ (x.ch.t = 10 → (openF ka x.ch.v).2 ≠ 0 ∧ (openF kb x.ch.v).2 ≠ 0)
theorem stale_of {e m i j : Nat} {x : LtrR} (h : oldL e m x) (_he : e < 128) (hm : m < 128) (hi : e < i) (hj : e < j) (hi' : i < 128) (hj' : j < 128) : Stale e (keyN i 0) (keyN j 0) x := by
  refine ⟨h.1, fun a => h.2.1 (.inl a), fun a => ?_⟩
  obtain ⟨k, c, ⟨y, n, h1, h2, h3⟩, h4, _⟩ := h.2.2.2 a
  rw [h4, h3]
  exact ⟨open_other hi' (by omega) (by omega) (by omega) (by omega) c, open_other hj' (by omega) (by omega) (by omega) (by omega) c⟩
structure Live (e : Nat) (k : Int) (a : AsR) : Prop where
  key : a.key = k
  st : a.st ≤ 3
  mt : a.st ≠ 0 → newT e a.mt
  pt : a.pt ≠ 0 → newT e a.pt
theorem stale_recv {e : Nat} {ka kb k : Int} (hk : k = ka ∨ k = kb) (he : e < 4294967296) {a : AsR} (ha : Live e k a) {x : LtrR} (hx : Stale e ka kb x) (w d : Int) :
    (recvA a x.tag x.ch w d).1 = a ∧ ((recvA a x.tag x.ch w d).2.pk = [] ∨ ∃ y, (recvA a x.tag x.ch w d).2.pk = [y] ∧ Stale e ka kb y ∧ wtL y = 1 ∧ wtL x = 2) := by
  have hst := ha.st
  have hm : ¬ mineA a x.tag := fun h => new_old (ha.mt h.1) hx.1 he h.2
  have ht : ¬ theirsA a x.tag x.ch := fun h => by
    obtain ⟨h1, h2, h3, h4⟩ := h
    exact new_old (ha.pt (by rw [← h3]; exact h4)) hx.1 he h3
  have no : ((a, noOut) : AsR × OutR).1 = a ∧ (((a, noOut) : AsR × OutR).2.pk = [] ∨ ∃ y, ((a, noOut) : AsR × OutR).2.pk = [y] ∧ Stale e ka kb y ∧ wtL y = 1 ∧ wtL x = 2) := ⟨rfl, .inl rfl⟩
  unfold recvA
  by_cases c1 : x.ch.t = 1
  · rw [if_pos c1]
    split
    · unfold calledA
      rw [if_neg (by omega)]
      split
      · refine ⟨rfl, .inr ⟨_, rfl, ?_⟩⟩
        have h2 : (ackA a (numT a d) (numS a d) (sealF a.key (crumbA a (toHel x.ch).1 w d)).1).t ≠ 1 ∧ (ackA a (numT a d) (numS a d) (sealF a.key (crumbA a (toHel x.ch).1 w d)).1).t ≠ 8 ∧ (ackA a (numT a d) (numS a d) (sealF a.key (crumbA a (toHel x.ch).1 w d)).1).t ≠ 10 := by
          unfold ackA
          by_cases g : (fromHel ⟨numT a d, a.win, 8, 8, numS a d, (sealF a.key (crumbA a (toHel x.ch).1 w d)).1⟩ true).2 = 0
          · rw [fromHel_t g]; decide
          · rw [fromHel_bad g]; decide
        refine ⟨⟨hx.2.1 c1, fun a => absurd a h2.1, fun a => absurd a h2.2.2⟩, ?_, ?_⟩
        · unfold wtL
          rw [if_neg (by simp only; exact fun g => g.elim h2.1 h2.2.1)]
        · unfold wtL
          rw [if_pos (.inl c1)]
      · exact no
    · exact no
  rw [if_neg c1]
  by_cases c2 : x.ch.t = 2
  · rw [if_pos c2, if_neg (fun h => hm h.2.1)]; exact no
  rw [if_neg c2]
  by_cases c10 : x.ch.t = 10
  · rw [if_pos c10, if_neg ?_]
    · exact no
    · intro h
      have := hx.2.2 c10
      rw [ha.key] at h
      rcases hk with rfl | rfl
      · exact this.1 h.1
      · exact this.2 h.1
  rw [if_neg c10]
  by_cases c11 : x.ch.t = 11
  · rw [if_pos c11, if_neg (fun h => hm h.1)]; exact no
  rw [if_neg c11]
  by_cases c9 : x.ch.t = 9
  · rw [if_pos c9, if_neg (fun h => hm h.1)]; exact no
  rw [if_neg c9]
  by_cases c6 : x.ch.t = 6
  · rw [if_pos c6, if_neg (fun h => h.elim hm ht)]; exact no
  rw [if_neg c6]
  by_cases c7 : x.ch.t = 7
  · rw [if_pos c7, if_neg (fun h => hm h.1), if_neg (fun h => hm h.1)]; exact no
  rw [if_neg c7]
  by_cases c8 : x.ch.t = 8
  · rw [if_pos c8]
    split
    · refine ⟨rfl, .inr ⟨_, rfl, ⟨hx.1, fun a => absurd (show (14 : Int) = 1 from a) (by decide), fun a => absurd (show (14 : Int) = 10 from a) (by decide)⟩, rfl, ?_⟩⟩
      unfold wtL
      rw [if_pos (.inr c8)]
    · rw [if_neg (fun h => hm h.1)]; exact no
  rw [if_neg c8]
  by_cases c14 : x.ch.t = 14
  · rw [if_pos c14, if_neg (fun h => by have := h.1; omega)]; exact no
  · rw [if_neg c14]; exact no

structure Play (e : Nat) (ka kb w : Int) (Ph : Nat → AsR → AsR → List LtrR → List LtrR → Prop) : Prop where
  a : ∀ {r a b L M}, Ph r a b L M → Live e ka a
  b : ∀ {r a b L M}, Ph r a b L M → Live e kb b
  stepA : ∀ {r a b x L M d}, Ph r a b (x :: L) M → newT e d → ∃ r', r' < r ∧ Ph r' (recvA a x.tag x.ch w d).1 b L (M ++ (recvA a x.tag x.ch w d).2.pk)
  stepB : ∀ {r a b x L M d}, Ph r a b L (x :: M) → newT e d → ∃ r', r' < r ∧ Ph r' a (recvA b x.tag x.ch w d).1 (L ++ (recvA b x.tag x.ch w d).2.pk) M
structure InvP (e : Nat) (ka kb w : Int) (Ph : Nat → AsR → AsR → List LtrR → List LtrR → Prop) (g : Nat) (p : PrR) : Prop where
  ex : ∃ n1 n2 r L M, Mix (Stale e ka kb) n1 L p.v ∧ Mix (Stale e ka kb) n2 M p.w ∧ Ph r p.a p.b L M ∧ n1 + n2 + r = g
  now : p.now = w
  draw : ∃ i : Nat, p.draw = i ∧ e ≤ i ∧ i + g < 4294967295
theorem lot_new {e i : Nat} {p : PrR} (h : p.draw = i) (h1 : e ≤ i) (h2 : i < 4294967295) : newT e (lot p) := by
  refine ⟨i + 1, by omega, by omega, ?_⟩
  show drF (nxt p.draw) = _
  rw [h]
  have : nxt i = (i + 1 : Nat) := by unfold nxt; omega
  rw [this]
theorem draw_del {i : Nat} {p : PrR} (h : p.draw = i) (h2 : i < 4294967295) (s : Int) : (delF p s 0).draw = (i + 1 : Nat) := by
  have : nxt p.draw = (i + 1 : Nat) := by rw [h]; unfold nxt; omega
  rw [← this]
  unfold delF hear saidF putU putW putS drawn
  repeat' split
  all_goals rfl
theorem now_del {p : PrR} (s : Int) : (delF p s 0).now = p.now := by
  unfold delF hear saidF putU putW putS drawn
  repeat' split
  all_goals rfl
theorem del0 (p : PrR) {x : LtrR} {l : List LtrR} (h : p.v = x :: l) :
    (delF p 0 0).a = (recvA p.a x.tag x.ch p.now (lot p)).1 ∧ (delF p 0 0).b = p.b ∧ (delF p 0 0).v = l ∧ (delF p 0 0).w = p.w ++ (recvA p.a x.tag x.ch p.now (lot p)).2.pk := by
  have e1 : (wayF p 0).getD 0 noLtr = x := by show p.v.getD 0 noLtr = x; rw [h]; rfl
  have e2 : without (wayF p 0) 0 = l := by show without p.v 0 = l; rw [h]; rfl
  unfold delF
  rw [e1, e2]
  exact ⟨rfl, rfl, rfl, rfl⟩
theorem del1 (p : PrR) {x : LtrR} {l : List LtrR} (h : p.w = x :: l) :
    (delF p 1 0).b = (recvA p.b x.tag x.ch p.now (lot p)).1 ∧ (delF p 1 0).a = p.a ∧ (delF p 1 0).w = l ∧ (delF p 1 0).v = p.v ++ (recvA p.b x.tag x.ch p.now (lot p)).2.pk := by
  have e1 : (wayF p 1).getD 0 noLtr = x := by show p.w.getD 0 noLtr = x; rw [h]; rfl
  have e2 : without (wayF p 1) 0 = l := by show without p.w 0 = l; rw [h]; rfl
  unfold delF
  rw [e1, e2]
  exact ⟨rfl, rfl, rfl, rfl⟩
theorem play_pop {e : Nat} {ka kb w : Int} {Ph : Nat → AsR → AsR → List LtrR → List LtrR → Prop} (H : Play e ka kb w Ph) (he : e < 4294967296) {g : Nat} {p : PrR} (h : InvP e ka kb w Ph g p) {s : Int} (hs : s = 0 ∨ s = 1) :
    ∃ g', InvP e ka kb w Ph g' (popF p s) ∧ g' ≤ g ∧ (0 < (wayF p s).length → g' < g) := by
  unfold popF
  by_cases hl : 0 < (wayF p s).length
  · rw [if_pos hl]
    suffices hh : ∃ g', g' < g ∧ ∃ n1 n2 r L M, Mix (Stale e ka kb) n1 L (delF p s 0).v ∧ Mix (Stale e ka kb) n2 M (delF p s 0).w ∧ Ph r (delF p s 0).a (delF p s 0).b L M ∧ n1 + n2 + r = g' by
      obtain ⟨g', hg, hex⟩ := hh
      obtain ⟨i, i1, i2, i3⟩ := h.draw
      refine ⟨g', ⟨hex, (now_del s).trans h.now, i + 1, draw_del i1 (by omega) s, by omega, by omega⟩, by omega, fun _ => hg⟩
    obtain ⟨n1, n2, r, L, M, hv, hw, hp, hg⟩ := h.ex
    obtain ⟨i, i1, i2, i3⟩ := h.draw
    have hn := lot_new i1 i2 (by omega)
    rcases hs with rfl | rfl
    · have hl : 0 < p.v.length := hl
      obtain ⟨x, l, hc⟩ : ∃ x l, p.v = x :: l := by
        cases e1 : p.v with
        | nil => rw [e1] at hl; exact absurd hl (by simp)
        | cons x l => exact ⟨x, l, rfl⟩
      obtain ⟨d1, d2, d3, d4⟩ := del0 p hc
      rw [d1, d2, d3, d4, h.now]
      rw [hc] at hv
      cases hv with
      | @old n _ _ _ hx hv =>
        obtain ⟨r1, r2⟩ := stale_recv (.inl rfl) he (H.a hp) hx w (lot p)
        rw [r1]
        have := wtL_ge x
        rcases r2 with r2 | ⟨y, r2, r3, r4, r5⟩
        · rw [r2, List.append_nil]
          exact ⟨n + n2 + r, by omega, n, n2, r, L, M, hv, hw, hp, rfl⟩
        · rw [r2]
          exact ⟨n + (n2 + wtL y) + r, by omega, n, _, r, L, M, hv, hw.snocOld r3, hp, rfl⟩
      | new hv =>
        obtain ⟨r', h1, h2⟩ := H.stepA hp hn
        exact ⟨n1 + n2 + r', by omega, n1, n2, r', _, _, hv, hw.app _, h2, rfl⟩
    · have hl : 0 < p.w.length := hl
      obtain ⟨x, l, hc⟩ : ∃ x l, p.w = x :: l := by
        cases e1 : p.w with
        | nil => rw [e1] at hl; exact absurd hl (by simp)
        | cons x l => exact ⟨x, l, rfl⟩
      obtain ⟨d1, d2, d3, d4⟩ := del1 p hc
      rw [d1, d2, d3, d4, h.now]
      rw [hc] at hw
      cases hw with
      | @old n _ _ _ hx hw =>
        obtain ⟨r1, r2⟩ := stale_recv (.inr rfl) he (H.b hp) hx w (lot p)
        rw [r1]
        have := wtL_ge x
        rcases r2 with r2 | ⟨y, r2, r3, r4, r5⟩
        · rw [r2, List.append_nil]
          exact ⟨n1 + n + r, by omega, n1, n, r, L, M, hv, hw, hp, rfl⟩
        · rw [r2]
          exact ⟨n1 + wtL y + n + r, by omega, _, n, r, L, M, hv.snocOld r3, hw, hp, rfl⟩
      | new hw =>
        obtain ⟨r', h1, h2⟩ := H.stepB hp hn
        exact ⟨n1 + n2 + r', by omega, n1, n2, r', _, _, hv.app _, hw, h2, rfl⟩
  · rw [if_neg hl]
    exact ⟨g, h, Nat.le_refl g, fun h => absurd h hl⟩
theorem play_round {e : Nat} {ka kb w : Int} {Ph : Nat → AsR → AsR → List LtrR → List LtrR → Prop} (H : Play e ka kb w Ph) (he : e < 4294967296) {g : Nat} {p : PrR} (h : InvP e ka kb w Ph g p) (hl : 0 < lenP p) :
    ∃ g', InvP e ka kb w Ph g' (roundF p) ∧ g' < g := by
  obtain ⟨g1, h1, h2, h3⟩ := play_pop H he h (.inl rfl)
  obtain ⟨g2, k1, k2, k3⟩ := play_pop H he h1 (.inr rfl)
  refine ⟨g2, k1, ?_⟩
  by_cases hv : 0 < (wayF p 0).length
  · have := h3 hv; omega
  · have e1 : popF p 0 = p := by unfold popF; rw [if_neg hv]
    rw [e1] at k3
    have hw : 0 < (wayF p 1).length := by
      have hv : ¬ 0 < p.v.length := hv
      show 0 < p.w.length
      unfold lenP at hl
      omega
    have := k3 hw; omega
theorem play_loop {e : Nat} {ka kb w : Int} {Ph : Nat → AsR → AsR → List LtrR → List LtrR → Prop} (H : Play e ka kb w Ph) (he : e < 4294967296) :
    ∀ (n : Nat) {g : Nat} {p : PrR}, InvP e ka kb w Ph g p → g ≤ n → ∃ r, Ph r (loopF n p).a (loopF n p).b [] [] ∧ (loopF n p).v = [] ∧ (loopF n p).w = [] ∧ (loopF n p).now = w := by
  have fin : ∀ {g : Nat} {p : PrR}, InvP e ka kb w Ph g p → ¬ 0 < lenP p → ∃ r, Ph r p.a p.b [] [] ∧ p.v = [] ∧ p.w = [] ∧ p.now = w := fun {g p} h hl => by
    unfold lenP at hl
    have hv : p.v = [] := List.length_eq_zero_iff.1 (by omega)
    have hw : p.w = [] := List.length_eq_zero_iff.1 (by omega)
    obtain ⟨n1, n2, r, L, M, m1, m2, hp, _⟩ := h.ex
    rw [hv] at m1
    rw [hw] at m2
    rw [m1.nil_of, m2.nil_of] at hp
    exact ⟨r, hp, hv, hw, h.now⟩
  intro n
  induction n with
  | zero =>
    intro g p h hg
    refine fin h fun hl => ?_
    obtain ⟨g', _, h2⟩ := play_round H he h hl
    omega
  | succ n ih =>
    intro g p h hg
    show ∃ r, Ph r (if 0 < lenP p then loopF n (roundF p) else p).a (if 0 < lenP p then loopF n (roundF p) else p).b [] [] ∧ (if 0 < lenP p then loopF n (roundF p) else p).v = [] ∧ (if 0 < lenP p then loopF n (roundF p) else p).w = [] ∧ (if 0 < lenP p then loopF n (roundF p) else p).now = w
    by_cases hl : 0 < lenP p
    · rw [if_pos hl]
      obtain ⟨g', h1, h2⟩ := play_round H he h hl
      exact ih h1 (by omega)
    · rw [if_neg hl]
      exact fin h hl
end Go.ZM
