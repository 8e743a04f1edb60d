/- Part 7 of what the closing text rests on. -/
import Derived.Test.YtlbfenfepmmihaaH6
import Derived.Lib.EndianBits
/- Bytes, numbers, chunks: plain functions and their laws. -/
namespace Go.ZM
open Go.Z

/-- The lowest k bytes of a number, the highest first. -/
def be (n : Int) : Nat → List Int
  | 0 => []
  | k + 1 => (n / 256 ^ k) % 256 :: be n k
def valF (l : List Int) : Int := l.foldl (fun a x => a * 256 + x) 0
def padN (n : Nat) : Nat := (4 - n % 4) % 4
def padF (v : List Int) : List Int := v ++ List.replicate (padN v.length) 0
def okB (l : List Int) : Prop := ∀ x, x ∈ l → 0 ≤ x ∧ x ≤ 255

theorem be_len (n : Int) : ∀ k, (be n k).length = k
  | 0 => rfl
  | k + 1 => by simp [be, be_len n k]
theorem be_get (n : Int) : ∀ {k j : Nat}, j < k → (be n k).getD j 0 = (n / 256 ^ (k - 1 - j)) % 256
  | 0, _, h => absurd h (Nat.not_lt_zero _)
  | k + 1, 0, _ => by simp [be]
  | k + 1, j + 1, h => by
    have := be_get n (k := k) (j := j) (by omega)
    simp only [be, List.getD_cons_succ]
    rw [this, show k + 1 - 1 - (j + 1) = k - 1 - j by omega]
theorem be_ok (n : Int) : ∀ k, okB (be n k)
  | 0, x, h => by cases h
  | k + 1, x, h => by
    rcases List.mem_cons.1 h with rfl | h
    · omega
    · exact be_ok n k x h
theorem take_succ_getD {l : List Int} {j : Nat} (h : j < l.length) : l.take (j + 1) = l.take j ++ [l.getD j 0] := by
  rw [List.take_succ_eq_append_getElem h, show l.getD j 0 = l[j] by simp [List.getD, List.getElem?_eq_getElem h]]

theorem foldl_val (l : List Int) : ∀ a, l.foldl (fun a x => a * 256 + x) a = a * 256 ^ l.length + valF l := by
  induction l with
  | nil => intro a; simp [valF]
  | cons x l ih =>
    intro a
    simp only [List.foldl_cons, valF, List.length_cons]
    rw [ih (a * 256 + x), ih (0 * 256 + x)]
    rw [Int.pow_succ, Int.zero_mul, Int.zero_add, Int.add_mul, Int.mul_assoc, Int.mul_comm 256, Int.add_assoc]
theorem val_nil : valF [] = 0 := rfl
theorem val_cons (x : Int) (l : List Int) : valF (x :: l) = x * 256 ^ l.length + valF l := by
  rw [valF, List.foldl_cons, foldl_val]; simp
theorem val_append (l m : List Int) : valF (l ++ m) = valF l * 256 ^ m.length + valF m := by
  rw [valF, List.foldl_append, foldl_val m]; rfl
theorem val_snoc (l : List Int) (x : Int) : valF (l ++ [x]) = valF l * 256 + x := by
  rw [val_append]; simp [val_cons, val_nil]
theorem pow_pos' (k : Nat) : (0 : Int) < 256 ^ k := Int.pow_pos (by decide)
theorem val_nonneg {l : List Int} (h : okB l) : 0 ≤ valF l := by
  induction l with
  | nil => simp [val_nil]
  | cons x l ih =>
    rw [val_cons]
    have h1 := (h x (List.mem_cons_self ..)).1
    have h2 := ih fun y hy => h y (List.mem_cons_of_mem _ hy)
    have := Int.mul_nonneg h1 (Int.le_of_lt (pow_pos' l.length))
    omega
theorem val_lt {l : List Int} (h : okB l) : valF l < 256 ^ l.length := by
  induction l with
  | nil => simp [val_nil]
  | cons x l ih =>
    rw [val_cons, List.length_cons, Int.pow_succ]
    have h1 := (h x (List.mem_cons_self ..)).2
    have h2 := ih fun y hy => h y (List.mem_cons_of_mem _ hy)
    have h3 : x * 256 ^ l.length ≤ 255 * 256 ^ l.length := Int.mul_le_mul_of_nonneg_right h1 (Int.le_of_lt (pow_pos' _))
    rw [Int.mul_comm _ 256]
    omega
theorem okB_take {l : List Int} (h : okB l) (k : Nat) : okB (l.take k) := fun x hx => h x (List.mem_of_mem_take hx)
theorem okB_drop {l : List Int} (h : okB l) (k : Nat) : okB (l.drop k) := fun x hx => h x (List.mem_of_mem_drop hx)
theorem okB_append {l m : List Int} (h : okB l) (h' : okB m) : okB (l ++ m) := fun x hx => (List.mem_append.1 hx).elim (h x) (h' x)
theorem okB_getD {l : List Int} (h : okB l) (i : Nat) : 0 ≤ l.getD i 0 ∧ l.getD i 0 ≤ 255 := by
  by_cases hi : i < l.length
  · rw [show l.getD i 0 = l[i] by simp [List.getD, List.getElem?_eq_getElem hi]]
    exact h _ (List.getElem_mem hi)
  · rw [show l.getD i 0 = 0 by simp [List.getD, List.getElem?_eq_none (by omega : l.length ≤ i)]]
    omega

/-- What is written is read. -/
theorem val_be (n : Int) : ∀ k, valF (be n k) = n % 256 ^ k
  | 0 => by simp [be, val_nil, Int.emod_one]
  | k + 1 => by
    rw [be, val_cons, be_len, val_be n k, Int.pow_succ, Int.mul_comm (256 ^ k) 256]
    have h1 := Int.emod_add_mul_ediv n (256 ^ k)
    have h2 := Int.emod_add_mul_ediv (n / 256 ^ k) 256
    have h3 := Int.emod_add_mul_ediv n (256 * 256 ^ k)
    have h4 : n / (256 * 256 ^ k) = n / 256 ^ k / 256 := by
      rw [Int.mul_comm, Int.ediv_ediv, if_neg (by have := pow_pos' k; omega), Int.sub_zero]
    rw [h4] at h3
    have e : 256 ^ k * (n / 256 ^ k) = 256 ^ k * ((n / 256 ^ k) % 256) + 256 * 256 ^ k * (n / 256 ^ k / 256) := by
      conv => lhs; rw [← h2]
      rw [Int.mul_add, ← Int.mul_assoc, Int.mul_comm (256 ^ k) 256]
    rw [Int.mul_comm ((n / 256 ^ k) % 256)]
    omega
theorem be_val : ∀ {l : List Int}, okB l → be (valF l) l.length = l
  | [], _ => rfl
  | x :: l, h => by
    have h1 := h x (List.mem_cons_self ..)
    have hl : okB l := fun y hy => h y (List.mem_cons_of_mem _ hy)
    have hlt := val_lt hl
    have h0 := val_nonneg hl
    have key : ∀ k, k ≤ l.length → be (valF (x :: l)) k = be (valF l) k := by
      intro k
      induction k with
      | zero => intro _; rfl
      | succ k ih =>
        intro hk
        rw [be, be, ih (by omega)]
        congr 1
        rw [val_cons]
        have : (256 : Int) ^ l.length = 256 ^ k * (256 * 256 ^ (l.length - 1 - k)) := by
          rw [← Int.mul_assoc, ← Int.pow_succ, ← Int.pow_add]
          congr 1; omega
        rw [this, ← Int.mul_assoc, Int.mul_comm x, Int.mul_assoc, Int.add_comm, Int.add_mul_ediv_left _ _ (by have := pow_pos' k; omega)]
        rw [show x * (256 * 256 ^ (l.length - 1 - k)) = 256 * (x * 256 ^ (l.length - 1 - k)) by rw [← Int.mul_assoc, Int.mul_comm x, Int.mul_assoc]]
        rw [Int.add_mul_emod_self_left]
    rw [List.length_cons, be, key _ (Nat.le_refl _), be_val hl]
    congr 1
    rw [val_cons, Int.add_comm, Int.add_mul_ediv_right _ _ (by have := pow_pos' l.length; omega), Int.ediv_eq_zero_of_lt h0 hlt]
    omega

theorem padF_len (v : List Int) : (padF v).length = v.length + padN v.length := by simp [padF]
theorem padN_le (n : Nat) : padN n ≤ 3 := by unfold padN; omega
theorem okB_padF {v : List Int} (h : okB v) : okB (padF v) := okB_append h fun x hx => by
  have := List.eq_of_mem_replicate hx
  omega
end Go.ZM
namespace Go.ZR
open Go.Z Go.ZM

theorem shr_byte {n : Int} (m : Nat) (hm : m ≤ 7) : IntKind.u8.wrap (n.fdiv (2 ^ min (((8 * m : Nat) : Int)).toNat (IntKind.bits .u64))) = (n / 256 ^ m) % 256 := by
  rw [IntKind.wrap_u8, Int.toNat_natCast, show min (8 * m) (IntKind.bits .u64) = 8 * m from Nat.min_eq_left (by show 8 * m ≤ 64; omega), Int.fdiv_eq_ediv_of_nonneg _ (Int.le_of_lt (Int.pow_pos (by decide))), Int.pow_mul]
  rfl
theorem or_byte {a x : Int} (h0 : 0 ≤ a) (h1 : a < 256 ^ 7) (hx : 0 ≤ x) (hx' : x ≤ 255) : bits .or .u64 (IntKind.u64.wrap (a * 2 ^ min (Int.toNat 8) (IntKind.bits .u64))) (IntKind.u64.wrap x) = a * 256 + x := by
  have e : (2 : Int) ^ min (Int.toNat 8) (IntKind.bits .u64) = 256 := rfl
  have h1' : a < 72057594037927936 := h1
  rw [e, IntKind.wrap_u64, IntKind.wrap_u64, Int.emod_eq_of_lt (by omega) (by omega), Int.emod_eq_of_lt (by omega) (by omega)]
  exact bits_join .u64 64 (by decide) wraps_u64 8 (a * 256) x (by omega) (by omega) (by omega) hx (by omega) (by omega)
theorem and_three {n : Nat} : bits .and .i64 (IntKind.i64.wrap (0 - (n : Int))) 3 = (padN n : Nat) := by
  have h2 : (BitVec.ofInt 64 3).toNat = 3 := by decide
  have h3 : ∀ a : Nat, a &&& 3 = a % 4 := fun a => Nat.and_two_pow_sub_one_eq_mod a 2
  show IntKind.i64.wrap ((BitVec.ofInt 64 _ &&& BitVec.ofInt 64 3).toNat : Int) = _
  rw [BitVec.toNat_and, h2, h3, BitVec.toNat_ofInt, IntKind.wrap_i64, IntKind.wrap_i64]
  unfold padN
  omega
theorem wrap_i64_id {n : Int} (h0 : -9223372036854775808 ≤ n) (h1 : n ≤ 9223372036854775807) : IntKind.i64.wrap n = n := by
  rw [IntKind.wrap_i64]; omega
end Go.ZR

/- Arguments, opened as the contracts want them: slices of integers. -/
namespace Go.Z
open Go.ChangeShapes Go.WideShapes Go.ChangeAt Go.RowKit

section
variable {H : Type} {enc : TypeId × Value → H} {P : Program}

theorem spot_none {w : World} {a : Addr} {v : Value} (h : w.cell? a = some v) : a = ⟨a.block, a.off, none⟩ := by
  obtain ⟨b, o, s⟩ := a
  cases s with
  | none => rfl
  | some s =>
    unfold World.cell? at h
    split at h
    · simp at h
    · cases h

theorem add_spot (b o i : Nat) : Addr.add ⟨b, o, none⟩ i = ⟨b, o + i, none⟩ := by
  unfold Addr.add
  split
  · rename_i h; subst h; rfl
  · rfl

theorem ints_holds {t e : TypeId} {k : IntKind} (ht : P.underlying t = some (.slice e)) (he : P.underlying e = some (.int k)) (hc : P.cellsOf e = 1) {W : World} {r : Reach} {base b0 : Nat} {v : Value} {d : DataW H} {ps : List MemPlace}
    (hval : Value.okWide P W r b0 t v) (h : DataW.Trod enc P W base (fun _ => true) true t v d ps) :
    ∃ xs : List Int, (D.ints k xs).holds (fun _ => True) W v ∧ (∀ x, x ∈ xs → k.min ≤ x ∧ x ≤ k.max) ∧ xs.length ≤ 9223372036854775807 := by
  obtain ⟨a0, len0, cap0, rfl⟩ := okWide_slice ht hval
  obtain ⟨fuel, hf⟩ := h
  rcases open_ints ht he hc hf with ⟨hcs, _⟩ | ⟨a, len, cap, zs, hcs, _, hl, hm, hz, _, hcell, hwz⟩
  · simp [Value.cells] at hcs
    obtain ⟨rfl, rfl, rfl⟩ := hcs
    exact ⟨[], D.holds_ints.2 ⟨nilLoc, rfl, .inl rfl, fun h => absurd rfl h, rfl, Nat.le_refl _, fun i z hi => by simp at hi⟩, by simp, by simp⟩
  · simp [Value.cells] at hcs
    obtain ⟨rfl, rfl, rfl⟩ := hcs
    simp at hz
    have hlen : (zs.take len0).length = len0 := by simp; omega
    have hx : ∀ x, x ∈ zs.take len0 → k.min ≤ x ∧ x ≤ k.max := fun x hx => by
      have := hwz x (List.mem_of_mem_take hx)
      simpa [Lit.wf] using this
    have hmax : (zs.take len0).length ≤ 9223372036854775807 := by
      have : maxLen = 9223372036854775807 := by decide
      omega
    by_cases hcap : cap0 = 0
    · refine ⟨zs.take len0, D.holds_ints.2 ⟨⟨some a, len0, cap0⟩, rfl, .inl hcap, fun hne => absurd hne (by show ¬ len0 ≠ 0; omega), hlen.symm, hl, fun i z hi => ?_⟩, hx, hmax⟩
      have := (List.getElem?_eq_some_iff.1 hi).1
      omega
    · have h0 := hcell 0 (by omega)
      have ha := spot_none h0
      have ha' : a = ⟨a.block, a.off, none⟩ := by simpa [Addr.add] using ha
      generalize hb : a.block = b at *
      generalize ho : a.off = o at *
      subst ha'
      refine ⟨zs.take len0, D.holds_ints.2 ⟨⟨some ⟨b, o, none⟩, len0, cap0⟩, rfl, .inr rfl, fun hne => ⟨trivial, lt_of_cell (b := b) (o := o) (by rw [add_spot] at h0; exact h0)⟩, hlen.symm, hl, fun i z hi => ?_⟩, hx, hmax⟩
      have hi1 := (List.getElem?_eq_some_iff.1 hi).1
      have hc := hcell i (by omega)
      rw [add_spot] at hc
      have : zs.getD i 0 = z := by
        rw [List.getElem?_take] at hi
        split at hi
        · simp [List.getD_eq_getElem?_getD, hi]
        · cases hi
      rw [this] at hc
      exact hc
end
end Go.Z

/- A contract taken for data that reads the same. -/
namespace Go.Z
open Go.RowKit

/-- Data that reads as other data does. -/
def readsTo (d d' : D) : Prop := ∀ X w c, d.holds X w c → d'.holds X w c
theorem readsTo_refl (d : D) : readsTo d d := fun _ _ _ h => h
theorem reads_recs {es n : Nat} {f g : Nat → Nat → D} (h : ∀ i, i < n → ∀ j, j < es → f i j = g i j) : readsTo (.recs es n f) (.recs es n g) := fun X w c hc => by
  obtain ⟨L, h1, h2, h3, h4, h5, h6⟩ := hc
  exact ⟨L, h1, h2, h3, h4, h5, fun i hi j hj => by rw [← h i hi j hj]; exact h6 i hi j hj⟩

/-- A tree that holds where another does. -/
def toO (o o' : O) : Prop := ∀ X w v f, O.holds X w o v f → O.holds X w o' v f
def toL (l l' : List O) : Prop := ∀ X w vs f, OL.holds X w l vs f → OL.holds X w l' vs f
theorem toO_refl (o : O) : toO o o := fun _ _ _ _ h => h
theorem toL_refl (l : List O) : toL l l := fun _ _ _ _ h => h
theorem toO_d {d d' : D} (h : readsTo d d') : toO (.d d) (.d d') := fun X w v f ho => by
  simp only [O.holds] at ho ⊢
  exact ⟨h _ _ _ ho.1, ho.2⟩
theorem toL_cons {o o' : O} {l l' : List O} (h : toO o o') (t : toL l l') : toL (o :: l) (o' :: l') := fun X w vs f ho => by
  cases vs with
  | nil => simp [OL.holds] at ho
  | cons v vs =>
    simp only [OL.holds] at ho ⊢
    obtain ⟨a, b, e, h1, h2⟩ := ho
    exact ⟨a, b, e, h _ _ _ _ h1, t _ _ _ _ h2⟩
theorem toO_agg {l l' : List O} (t : toL l l') : toO (.agg l) (.agg l') := fun X w v f ho => by
  simp only [O.holds] at ho ⊢
  obtain ⟨us, e, h⟩ := ho
  exact ⟨us, e, t _ _ _ _ h⟩

theorem FnIs.weak {P : Program} {f : Nat} {c c' : Ctr} (h : FnIs P f c) (hw : ∀ a, c'.pre a → ∃ a', c.pre a' ∧ toL a a' ∧ c.res a' = c'.res a ∧ c.upd a' = c'.upd a) (hg : c.gl = c'.gl := by rfl) : FnIs P f c' := by
  refine ⟨fun w A as vs fp h1 h2 h3 h4 h5 => ?_, h.2⟩
  obtain ⟨a', p1, p2, p3, p4⟩ := hw as h4
  have := h.1 w A a' vs fp (p2 _ _ _ _ h1) h2 h3 p1 (hg ▸ h5)
  rw [p3, p4] at this
  exact this
end Go.Z
