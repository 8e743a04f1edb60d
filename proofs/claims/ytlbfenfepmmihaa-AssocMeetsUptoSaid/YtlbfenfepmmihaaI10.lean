/- Part 10 of what the closing text rests on. -/
import Derived.Test.YtlbfenfepmmihaaI9
import Derived.Lib.EndianBits
import Derived.ProofKit
namespace Go.ZM
open Go.Z

def be (n : Int) : Nat → List Int
  | 0 => []
  | k + 1 => (n / 256 ^ k) % 256 :: be n k
def valF (l : List Int) : Int := l.foldl (fun a x => a * 256 + x) 0
def padN (n : Nat) : Nat := (4 - n % 4) % 4
def padF (v : List Int) : List Int := v ++ List.replicate (padN v.length) 0
def okB (l : List Int) : Prop := ∀ x, x ∈ l → 0 ≤ x ∧ x ≤ 255

theorem be_len (n : Int) : ∀ k, (be n k).length = k
  | 0 => rfl
  | k + 1 => by simp [be, be_len n k]
theorem be_get (n : Int) : ∀ {k j : Nat}, j < k → (be n k).getD j 0 = (n / 256 ^ (k - 1 - j)) % 256
  | 0, _, h => absurd h (Nat.not_lt_zero _)
  | k + 1, 0, _ => by simp [be]
  | k + 1, j + 1, h => by
    have := be_get n (k := k) (j := j) (by omega)
    simp only [be, List.getD_cons_succ]
    rw [this, show k + 1 - 1 - (j + 1) = k - 1 - j by omega]
theorem be_ok (n : Int) : ∀ k, okB (be n k)
  | 0, x, h => by cases h
  | k + 1, x, h => by
    rcases List.mem_cons.1 h with rfl | h
    · omega
    · exact be_ok n k x h
theorem take_succ_getD {l : List Int} {j : Nat} (h : j < l.length) : l.take (j + 1) = l.take j ++ [l.getD j 0] := by
  rw [List.take_succ_eq_append_getElem h, show l.getD j 0 = l[j] by simp [List.getD, List.getElem?_eq_getElem h]]

theorem foldl_val (l : List Int) : ∀ a, l.foldl (fun a x => a * 256 + x) a = a * 256 ^ l.length + valF l := by
  induction l with
  | nil => intro a; simp [valF]
  | cons x l ih =>
    intro a
    simp only [List.foldl_cons, valF, List.length_cons]
    rw [ih (a * 256 + x), ih (0 * 256 + x)]
    rw [Int.pow_succ, Int.zero_mul, Int.zero_add, Int.add_mul, Int.mul_assoc, Int.mul_comm 256, Int.add_assoc]
theorem val_nil : valF [] = 0 := rfl
theorem val_cons (x : Int) (l : List Int) : valF (x :: l) = x * 256 ^ l.length + valF l := by
  rw [valF, List.foldl_cons, foldl_val]; simp
theorem val_append (l m : List Int) : valF (l ++ m) = valF l * 256 ^ m.length + valF m := by
  rw [valF, List.foldl_append, foldl_val m]; rfl
theorem val_snoc (l : List Int) (x : Int) : valF (l ++ [x]) = valF l * 256 + x := by
  rw [val_append]; simp [val_cons, val_nil]
theorem pow_pos' (k : Nat) : (0 : Int) < 256 ^ k := Int.pow_pos (by decide)
theorem val_nonneg {l : List Int} (h : okB l) : 0 ≤ valF l := by
  induction l with
  | nil => simp [val_nil]
  | cons x l ih =>
    rw [val_cons]
    have h1 := (h x (List.mem_cons_self ..)).1
    have h2 := ih fun y hy => h y (List.mem_cons_of_mem _ hy)
    have := Int.mul_nonneg h1 (Int.le_of_lt (pow_pos' l.length))
    omega
theorem val_lt {l : List Int} (h : okB l) : valF l < 256 ^ l.length := by
  induction l with
  | nil => simp [val_nil]
  | cons x l ih =>
    rw [val_cons, List.length_cons, Int.pow_succ]
    have h1 := (h x (List.mem_cons_self ..)).2
    have h2 := ih fun y hy => h y (List.mem_cons_of_mem _ hy)
    have h3 : x * 256 ^ l.length ≤ 255 * 256 ^ l.length := Int.mul_le_mul_of_nonneg_right h1 (Int.le_of_lt (pow_pos' _))
    rw [Int.mul_comm _ 256]
    omega
theorem okB_take {l : List Int} (h : okB l) (k : Nat) : okB (l.take k) := fun x hx => h x (List.mem_of_mem_take hx)
theorem okB_drop {l : List Int} (h : okB l) (k : Nat) : okB (l.drop k) := fun x hx => h x (List.mem_of_mem_drop hx)
theorem okB_append {l m : List Int} (h : okB l) (h' : okB m) : okB (l ++ m) := fun x hx => (List.mem_append.1 hx).elim (h x) (h' x)
theorem okB_getD {l : List Int} (h : okB l) (i : Nat) : 0 ≤ l.getD i 0 ∧ l.getD i 0 ≤ 255 := by
  by_cases hi : i < l.length
  · rw [show l.getD i 0 = l[i] by simp [List.getD, List.getElem?_eq_getElem hi]]
    exact h _ (List.getElem_mem hi)
  · rw [show l.getD i 0 = 0 by simp [List.getD, List.getElem?_eq_none (by omega : l.length ≤ i)]]
    omega

theorem val_be (n : Int) : ∀ k, valF (be n k) = n % 256 ^ k
  | 0 => by simp [be, val_nil, Int.emod_one]
  | k + 1 => by
    rw [be, val_cons, be_len, val_be n k, Int.pow_succ, Int.mul_comm (256 ^ k) 256]
    have h1 := Int.emod_add_mul_ediv n (256 ^ k)
    have h2 := Int.emod_add_mul_ediv (n / 256 ^ k) 256
    have h3 := Int.emod_add_mul_ediv n (256 * 256 ^ k)
    have h4 : n / (256 * 256 ^ k) = n / 256 ^ k / 256 := by
      rw [Int.mul_comm, Int.ediv_ediv, if_neg (by have := pow_pos' k; omega), Int.sub_zero]
    rw [h4] at h3
    have e : 256 ^ k * (n / 256 ^ k) = 256 ^ k * ((n / 256 ^ k) % 256) + 256 * 256 ^ k * (n / 256 ^ k / 256) := by
      conv => lhs; rw [← h2]
      rw [Int.mul_add, ← Int.mul_assoc, Int.mul_comm (256 ^ k) 256]
    rw [Int.mul_comm ((n / 256 ^ k) % 256)]
    omega
theorem padF_len (v : List Int) : (padF v).length = v.length + padN v.length := by simp [padF]
theorem padN_le (n : Nat) : padN n ≤ 3 := by unfold padN; omega
theorem okB_padF {v : List Int} (h : okB v) : okB (padF v) := okB_append h fun x hx => by
  have := List.eq_of_mem_replicate hx
  omega
end Go.ZM
namespace Go.ZR
open Go.Z Go.ZM

theorem shr_byte {n : Int} (m : Nat) (hm : m ≤ 7) : IntKind.u8.wrap (n.fdiv (2 ^ min (((8 * m : Nat) : Int)).toNat (IntKind.bits .u64))) = (n / 256 ^ m) % 256 := by
  rw [IntKind.wrap_u8, Int.toNat_natCast, show min (8 * m) (IntKind.bits .u64) = 8 * m from Nat.min_eq_left (by show 8 * m ≤ 64; omega), Int.fdiv_eq_ediv_of_nonneg _ (Int.le_of_lt (Int.pow_pos (by decide))), Int.pow_mul]
  rfl
theorem or_byte {a x : Int} (h0 : 0 ≤ a) (h1 : a < 256 ^ 7) (hx : 0 ≤ x) (hx' : x ≤ 255) : bits .or .u64 (IntKind.u64.wrap (a * 2 ^ min (Int.toNat 8) (IntKind.bits .u64))) (IntKind.u64.wrap x) = a * 256 + x := by
  have e : (2 : Int) ^ min (Int.toNat 8) (IntKind.bits .u64) = 256 := rfl
  have h1' : a < 72057594037927936 := h1
  rw [e, IntKind.wrap_u64, IntKind.wrap_u64, Int.emod_eq_of_lt (by omega) (by omega), Int.emod_eq_of_lt (by omega) (by omega)]
  exact bits_join .u64 64 (by decide) wraps_u64 8 (a * 256) x (by omega) (by omega) (by omega) hx (by omega) (by omega)
theorem and_three {n : Nat} : bits .and .i64 (IntKind.i64.wrap (0 - (n : Int))) 3 = (padN n : Nat) := by
  have h2 : (BitVec.ofInt 64 3).toNat = 3 := by decide
  have h3 : ∀ a : Nat, a &&& 3 = a % 4 := fun a => Nat.and_two_pow_sub_one_eq_mod a 2
  show IntKind.i64.wrap ((BitVec.ofInt 64 _ &&& BitVec.ofInt 64 3).toNat : Int) = _
  rw [BitVec.toNat_and, h2, h3, BitVec.toNat_ofInt, IntKind.wrap_i64, IntKind.wrap_i64]
  unfold padN
  omega
theorem wrap_i64_id {n : Int} (h0 : -9223372036854775808 ≤ n) (h1 : n ≤ 9223372036854775807) : IntKind.i64.wrap n = n := by
  rw [IntKind.wrap_i64]; omega
end Go.ZR

set_option maxRecDepth 100000
namespace Go.ZM
open Go.Z

def bv (n : Int) : BitVec 32 := BitVec.ofInt 32 n
def iv (c : BitVec 32) : Int := c.toNat
theorem iv_bv {n : Int} (h0 : 0 ≤ n) (h1 : n ≤ 4294967295) : iv (bv n) = n := by
  unfold iv bv
  rw [BitVec.toNat_ofInt]
  omega
theorem bv_iv (c : BitVec 32) : bv (iv c) = c := by
  unfold iv bv
  rw [BitVec.ofInt_natCast, BitVec.ofNat_toNat, BitVec.setWidth_eq]
theorem iv_rng (c : BitVec 32) : 0 ≤ iv c ∧ iv c ≤ 4294967295 := by
  have := c.isLt
  unfold iv
  omega
theorem wrap_iv (c : BitVec 32) : IntKind.u32.wrap (iv c) = iv c := by
  have := iv_rng c
  rw [IntKind.wrap_u32]; omega
theorem xor_iv (a b : BitVec 32) : bits .xor .u32 (iv a) (iv b) = iv (a ^^^ b) := by
  show IntKind.u32.wrap ((bv (iv a) ^^^ bv (iv b)).toNat : Int) = _
  rw [bv_iv, bv_iv]; exact wrap_iv _
theorem and_iv (a b : BitVec 32) : bits .and .u32 (iv a) (iv b) = iv (a &&& b) := by
  show IntKind.u32.wrap ((bv (iv a) &&& bv (iv b)).toNat : Int) = _
  rw [bv_iv, bv_iv]; exact wrap_iv _
theorem shr_iv (c : BitVec 32) (n : Nat) (hn : n ≤ 32) : Int.fdiv (iv c) (2 ^ min n 32) = iv (c >>> n) := by
  unfold iv
  rw [Nat.min_eq_left hn, Int.fdiv_eq_ediv_of_nonneg _ (Int.le_of_lt (Int.pow_pos (by decide))), BitVec.toNat_ushiftRight, Nat.shiftRight_eq_div_pow]
  simp

def poly : BitVec 32 := 0x82F63B78#32
def s1 (c : BitVec 32) : BitVec 32 := (c >>> 1) ^^^ (if c.getLsbD 0 then poly else 0#32)
def sN : Nat → BitVec 32 → BitVec 32
  | 0, c => c
  | n + 1, c => sN n (s1 c)
theorem sN_add (m : Nat) : ∀ (n : Nat) (c : BitVec 32), sN (m + n) c = sN m (sN n c)
  | 0, c => rfl
  | n + 1, c => by show sN (m + n) (s1 c) = _; rw [sN_add m n]; rfl
theorem sN_succ (n : Nat) (c : BitVec 32) : sN (n + 1) c = s1 (sN n c) := by
  rw [Nat.add_comm, sN_add]; rfl
theorem s1_xor (a b : BitVec 32) : s1 (a ^^^ b) = s1 a ^^^ s1 b := by
  unfold s1
  rw [BitVec.getLsbD_xor, BitVec.ushiftRight_xor_distrib]
  cases a.getLsbD 0 <;> cases b.getLsbD 0 <;> simp
  · rw [BitVec.xor_assoc]
  · rw [BitVec.xor_assoc _ poly, BitVec.xor_comm poly, BitVec.xor_assoc]
  · rw [show a >>> 1 ^^^ poly ^^^ (b >>> 1 ^^^ poly) = a >>> 1 ^^^ b >>> 1 ^^^ (poly ^^^ poly) by
      rw [BitVec.xor_assoc, BitVec.xor_assoc, ← BitVec.xor_assoc poly, BitVec.xor_comm poly (b >>> 1), BitVec.xor_assoc (b >>> 1)]]
    simp
theorem sN_xor (a b : BitVec 32) : ∀ n, sN n (a ^^^ b) = sN n a ^^^ sN n b := by
  intro n
  induction n generalizing a b with
  | zero => rfl
  | succ n ih => show sN n (s1 (a ^^^ b)) = sN n (s1 a) ^^^ sN n (s1 b); rw [s1_xor, ih]
theorem s1_shl {c : BitVec 32} (h : c.getLsbD 0 = false) : s1 c = c >>> 1 := by
  unfold s1
  rw [h]; simp
theorem sN_shr : ∀ (n : Nat) (c : BitVec 32), (∀ i, i < n → c.getLsbD i = false) → sN n c = c >>> n
  | 0, c, _ => by simp [sN]
  | n + 1, c, h => by
    show sN n (s1 c) = _
    rw [s1_shl (h 0 (by omega)), sN_shr n _ (fun i hi => by rw [BitVec.getLsbD_ushiftRight]; exact h (1 + i) (by omega)), ← BitVec.shiftRight_add, Nat.add_comm]
def byteR (c : BitVec 32) (x : Int) : BitVec 32 := sN 8 (c ^^^ bv x)
def crcR (c : BitVec 32) (l : List Int) : BitVec 32 := l.foldl byteR c
def moreF (sum : Int) (l : List Int) : Int := iv (~~~ crcR (~~~ bv sum) l)
def sumF (l : List Int) : Int := moreF 0 l
theorem crcR_append (c : BitVec 32) (l m : List Int) : crcR c (l ++ m) = crcR (crcR c l) m := List.foldl_append
theorem crcR_take {c : BitVec 32} {l : List Int} {i : Nat} (h : i < l.length) : crcR c (l.take (i + 1)) = byteR (crcR c (l.take i)) (l.getD i 0) := by
  rw [take_succ_getD h, crcR_append]; rfl
theorem crcR_xor (c d : BitVec 32) : ∀ l : List Int, crcR (c ^^^ d) l = crcR c l ^^^ sN (8 * l.length) d := by
  intro l
  induction l generalizing c d with
  | nil => rfl
  | cons x l ih =>
    show crcR (byteR (c ^^^ d) x) l = crcR (byteR c x) l ^^^ _
    have : byteR (c ^^^ d) x = byteR c x ^^^ sN 8 d := by
      unfold byteR
      rw [BitVec.xor_assoc, BitVec.xor_comm d, ← BitVec.xor_assoc, sN_xor]
    rw [this, ih, List.length_cons, show 8 * (l.length + 1) = 8 * l.length + 8 by omega, sN_add]
end Go.ZM

namespace Go.Z
open Go.ChangeShapes Go.WideShapes Go.ChangeAt Go.RowKit

section
variable {H : Type} {enc : TypeId × Value → H} {P : Program}

def readables (P : Program) (ts : List TypeId) : Bool := ts.all fun t => P.readableRec t && decide (t < P.types.size)

theorem trodAll_below (hl : laidOutB P = true) {W W' : World} (hb : Below W.heap.size W W') {sp : Nat → Bool} : ∀ {ts : List TypeId} {vs : List Value} {ds : List (DataW H)} {ps : List MemPlace},
    readables P ts = true → DataW.TrodAll enc P W 0 (fun _ => true) true ts vs ds ps → (∀ x ∈ ps, x.block < W.heap.size) → (∀ x ∈ ps, sp x.block = true) → DataW.TrodAll enc P W' 0 sp true ts vs ds ps
  | [], [], [], _, _, h, _, _ => h
  | [], [], _ :: _, _, _, h, _, _ => h.elim
  | [], _ :: _, _, _, _, h, _, _ => h.elim
  | _ :: _, [], _, _, _, h, _, _ => h.elim
  | _ :: _, _ :: _, [], _, _, h, _, _ => h.elim
  | t :: ts, v :: vs, d :: ds, ps, hr, h, hlt, hsp => by
    obtain ⟨p, q, h1, h2, rfl⟩ := h
    simp only [readables, List.all_cons, Bool.and_eq_true, decide_eq_true_eq] at hr
    refine ⟨p, q, WideElems.Trod_stays hl hr.1.1 hr.1.2 h1 (fun x hx => hb.same (hlt x (List.mem_append.2 (.inl hx)))) (fun x hx => hsp x (List.mem_append.2 (.inl hx))),
      trodAll_below hl hb (by simpa [readables] using hr.2) h2 (fun x hx => hlt x (List.mem_append.2 (.inr hx))) (fun x hx => hsp x (List.mem_append.2 (.inr hx))), rfl⟩

theorem post_true {f : Func} {s : ChangeSpec} {apart fresh handsOn again : Bool} {W W' : World} {args : Array Value} {ds gs : List (DataW H)} {before : List MemPlace} {t : TypeId}
    (hl : laidOutB P = true) (hrd : readables P f.params.toList = true) (hvs : s.vars = []) (hrt : f.resultTypes = #[t]) (ht : P.underlying t = some .bool)
    (hW : DataW.Whole enc P f.params.toList s.vars apart W args.toList ds gs before)
    (hfn : (s.fn H (ds ++ gs)).results = [.lit (.bool true)] ∧ (s.fn H (ds ++ gs)).args = ds ∧ (s.fn H (ds ++ gs)).vars = [])
    (hb : Below W.heap.size W W') : s.post enc P f apart fresh handsOn again W args (.bool true) W' := by
  have hlt := hW.lt
  have hW' := hW
  obtain ⟨p, q, hA, hV, rfl, hz, hn⟩ := hW
  rw [hvs] at hV
  have hq : q = [] := by
    cases gs with
    | nil => exact hV
    | cons _ _ => exact hV.elim
  subst hq
  have hargs : ∀ sp : Nat → Bool, (∀ x ∈ p ++ [], sp x.block = true) → DataW.TrodAll enc P W' 0 sp true f.params.toList args.toList (s.fn H (ds ++ gs)).args p := fun sp hsp => by
    rw [hfn.2.1]
    exact trodAll_below hl hb hrd hA (fun x hx => hlt x (by simpa using hx)) (fun x hx => hsp x (by simpa using hx))
  have hvars : ∀ sp : Nat → Bool, DataW.TrodVars enc P W' sp s.vars (s.fn H (ds ++ gs)).vars [] := fun sp => by rw [hvs, hfn.2.2]; rfl
  have hres : ∀ (b : Nat) (sp : Nat → Bool) (hd : Bool), DataW.TrodAll enc P W' b sp hd f.resultTypes.toList ((Value.bool true).resultList f.resultTypes.size) (s.fn H (ds ++ gs)).results [] := fun b sp hd => by
    rw [hrt, hfn.1]
    exact trodAll_mk1 (shut_bool ht true)
  have hold : ∀ x ∈ p ++ [], (fun b => decide (b < W.heap.size)) x.block = true := fun x hx => by simpa using hlt x hx
  refine ⟨ds, gs, p ++ [], [], p, [], hW', hres _ _ _, hargs _ hold, hvars _, hb.frame _, fun _ => ?_⟩
  refine ⟨ok_one hrt rfl (okWide_bool_mk ht true), _, _, ([] ++ p) ++ [], ⟨[] ++ p, [], trodAll_append (hargs _ (fun _ _ => rfl)) (hres _ _ _), hvars _, rfl, ?_, ?_⟩, ?_⟩
  · intro b off hp
    have hp' : MemPlace.cell b off ∈ p ++ [] := by simpa using hp
    rw [hb.frozen (p := ⟨b, off, none⟩) (hlt _ hp')]
    exact hz b off hp'
  · intro ha
    have := hn ha
    simpa using this
  · intro x hx _
    simpa using hx

theorem ol_nil {X : Nat → Prop} {w : World} : OL.holds X w [] [] [] := by simp only [OL.holds]
theorem FnIs.law {f : Nat} {c : Ctr} (h : FnIs P f c) {ads : List O} {vs : List Value} {W : World} {A : Nat → Prop} (hA : OL.holds A W ads vs []) (hp : c.pre ads) (hr : c.res ads = [.d (.v (.bool true))]) (hg : GOK c.gl A W [] := by intro x hx; cases hx) :
    Calls P f vs.toArray W fun e W' => e = .returned (.bool true) ∧ Below W.heap.size W W' := by
  have hA' : OL.holds (fun b => A b ∧ b ∉ ([] : List Nat)) W ads vs [] := by simpa using hA
  refine (h.1 W A ads vs [] hA' List.nodup_nil (fun b hb => by cases hb) hp hg).mono ?_
  rintro e W' ⟨rs, fu, fr, rfl, hfr, _, _, _, hres⟩
  refine ⟨?_, hfr.os, hfr.tape, hfr.output, hfr.size, fun b hb => hfr.block b hb (by simp)⟩
  rw [hr] at hres
  have := scalars_holds (rs := [.d (.v (.bool true))]) rfl hres
  subst this
  rfl
end
end Go.Z

namespace Go.Z
open Go.ChangeShapes Go.WideShapes Go.ChangeAt Go.RowKit

section
variable {H : Type} {enc : TypeId × Value → H} {P : Program}

theorem spot_none {w : World} {a : Addr} {v : Value} (h : w.cell? a = some v) : a = ⟨a.block, a.off, none⟩ := by
  obtain ⟨b, o, s⟩ := a
  cases s with
  | none => rfl
  | some s =>
    unfold World.cell? at h
    split at h
    · simp at h
    · cases h

theorem add_spot (b o i : Nat) : Addr.add ⟨b, o, none⟩ i = ⟨b, o + i, none⟩ := by
  unfold Addr.add
  split
  · rename_i h; subst h; rfl
  · rfl

end
end Go.Z

namespace Go.Z
open Go.RowKit

def readsTo (d d' : D) : Prop := ∀ X w c, d.holds X w c → d'.holds X w c
theorem reads_recs {es n : Nat} {f g : Nat → Nat → D} (h : ∀ i, i < n → ∀ j, j < es → f i j = g i j) : readsTo (.recs es n f) (.recs es n g) := fun X w c hc => by
  obtain ⟨L, h1, h2, h3, h4, h5, h6⟩ := hc
  exact ⟨L, h1, h2, h3, h4, h5, fun i hi j hj => by rw [← h i hi j hj]; exact h6 i hi j hj⟩

def toO (o o' : O) : Prop := ∀ X w v f, O.holds X w o v f → O.holds X w o' v f
def toL (l l' : List O) : Prop := ∀ X w vs f, OL.holds X w l vs f → OL.holds X w l' vs f
theorem toO_refl (o : O) : toO o o := fun _ _ _ _ h => h
theorem toL_refl (l : List O) : toL l l := fun _ _ _ _ h => h
theorem toL_cons {o o' : O} {l l' : List O} (h : toO o o') (t : toL l l') : toL (o :: l) (o' :: l') := fun X w vs f ho => by
  cases vs with
  | nil => simp [OL.holds] at ho
  | cons v vs =>
    simp only [OL.holds] at ho ⊢
    obtain ⟨a, b, e, h1, h2⟩ := ho
    exact ⟨a, b, e, h _ _ _ _ h1, t _ _ _ _ h2⟩
theorem FnIs.weak {P : Program} {f : Nat} {c c' : Ctr} (h : FnIs P f c) (hw : ∀ a, c'.pre a → ∃ a', c.pre a' ∧ toL a a' ∧ c.res a' = c'.res a ∧ c.upd a' = c'.upd a) (hg : c.gl = c'.gl := by rfl) : FnIs P f c' := by
  refine ⟨fun w A as vs fp h1 h2 h3 h4 h5 => ?_, h.2⟩
  obtain ⟨a', p1, p2, p3, p4⟩ := hw as h4
  have := h.1 w A a' vs fp (p2 _ _ _ _ h1) h2 h3 p1 (hg ▸ h5)
  rw [p3, p4] at this
  exact this
end Go.Z
