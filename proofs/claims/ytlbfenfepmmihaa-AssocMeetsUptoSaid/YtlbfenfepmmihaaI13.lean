/- Part 13 of what the closing text rests on. -/
import Derived.Test.YtlbfenfepmmihaaI12
import Derived.Test.YtlbfenfepmmihaaRows
set_option maxRecDepth 100000
namespace Go.ZM
open Go.Z Go.ZR

structure HelR where
  tag : Int
  win : Int
  out : Int
  inn : Int
  tsn : Int
  cookie : List Int
def noHel : HelR := ⟨0, 0, 0, 0, 0, []⟩
def okHel (h : HelR) : Prop := (0 ≤ h.tag ∧ h.tag ≤ 4294967295) ∧ (0 ≤ h.win ∧ h.win ≤ 4294967295) ∧ (0 ≤ h.out ∧ h.out ≤ 65535) ∧ (0 ≤ h.inn ∧ h.inn ≤ 65535) ∧ (0 ≤ h.tsn ∧ h.tsn ≤ 4294967295) ∧ okB h.cookie ∧ sm h.cookie.length
def helB (h : HelR) : List Int := be h.tag 4 ++ be h.win 4 ++ be h.out 2 ++ be h.inn 2 ++ be h.tsn 4
def greetF (h : HelR) (ack : Bool) : Bool := (!decide (h.tag = 0) && !decide (h.out = 0)) && !decide (h.inn = 0) && (ack || decide (h.cookie.length = 0))
def ckB (h : HelR) : List Int := helB h ++ be 7 2 ++ be (4 + (h.cookie.length : Int)) 2 ++ padF h.cookie
def fromHel (h : HelR) (ack : Bool) : ChR × Int :=
  if greetF h ack = false then (noCh, 2) else if 256 < h.cookie.length then (noCh, 4) else if ack then (⟨2, 0, ckB h⟩, 0) else (⟨1, 0, helB h⟩, 0)
def numAt (v : List Int) (i : Int) (k : Nat) : Int := (getF v i k).1
def hel0 (v : List Int) : HelR := ⟨numAt v 0 4, numAt v 4 4, numAt v 8 2, numAt v 10 2, numAt v 12 4, []⟩
def helOf (c : ChR) : HelR := if c.t = 2 ∧ numAt c.v 16 2 = 7 then { hel0 c.v with cookie := (partF c.v 20 (numAt c.v 18 2 - 4)).1 } else hel0 c.v
def sameB (c d : ChR) : Bool := decide (c.t = d.t) && decide (c.f = d.f) && decide (c.v = d.v)
def toHel (c : ChR) : HelR × Int := if (fromHel (helOf c) (decide (c.t = 2))).2 ≠ 0 ∨ sameB (fromHel (helOf c) (decide (c.t = 2))).1 c = false then (noHel, 2) else (helOf c, 0)
def helRef (c : ChR) : HelR := if c.t = 2 then { hel0 c.v with cookie := (c.v.drop 20).take (numAt c.v 18 2 - 4).toNat } else hel0 c.v
def toHelRef (c : ChR) : HelR × Int :=
  if c.t ≠ 1 ∧ c.t ≠ 2 ∨ c.v.length < 16 then (noHel, 2) else
  if c.t = 2 ∧ c.v.length < 20 then (noHel, 2) else
  if c.t = 2 ∧ (numAt c.v 18 2 - 4 < 0 ∨ (c.v.length : Int) - 20 < numAt c.v 18 2 - 4) then (noHel, 2) else
  if (fromHel (helRef c) (decide (c.t = 2))).2 ≠ 0 ∨ sameB (fromHel (helRef c) (decide (c.t = 2))).1 c = false then (noHel, 2) else (helRef c, 0)

theorem num_in {v a r : List Int} {n : Int} {k : Nat} (i : Nat) (h : v = a ++ (be n k ++ r)) (hi : a.length = i) : numAt v (i : Int) k = n % 256 ^ k := by
  subst hi
  have hl : v.length = a.length + (k + r.length) := by rw [h, List.length_append, List.length_append, be_len]
  unfold numAt getF
  rw [part_get (by omega) (by omega) (by omega) (by omega)]
  simp only [Int.toNat_natCast]
  rw [h, List.drop_append_of_le_length (Nat.le_refl _), List.drop_of_length_le (Nat.le_refl _), List.nil_append, List.take_append_of_le_length (by rw [be_len]; exact Nat.le_refl _), List.take_of_length_le (by rw [be_len]; exact Nat.le_refl _), val_be]
theorem helB_len (h : HelR) : (helB h).length = 16 := by simp [helB, be_len]
theorem ckB_len (h : HelR) : (ckB h).length = 20 + h.cookie.length + padN h.cookie.length := by simp [ckB, helB_len, be_len, padF_len]; omega
theorem hel0_of {h : HelR} (ok : okHel h) {v r : List Int} (e : v = helB h ++ r) : hel0 v = { h with cookie := [] } := by
  obtain ⟨h1, h2, h3, h4, h5, _⟩ := ok
  have p4 : (256 : Int) ^ 4 = 4294967296 := rfl
  have p2 : (256 : Int) ^ 2 = 65536 := rfl
  unfold hel0
  have a1 : numAt v 0 4 = h.tag := by
    have := num_in (v := v) (a := []) (n := h.tag) (k := 4) (r := be h.win 4 ++ be h.out 2 ++ be h.inn 2 ++ be h.tsn 4 ++ r) 0 (by rw [e]; simp [helB]) rfl
    rw [p4] at this; exact this.trans (by omega)
  have a2 : numAt v 4 4 = h.win := by
    have := num_in (v := v) (a := be h.tag 4) (n := h.win) (k := 4) (r := be h.out 2 ++ be h.inn 2 ++ be h.tsn 4 ++ r) 4 (by rw [e]; simp [helB]) (by simp [be_len])
    rw [p4] at this; exact this.trans (by omega)
  have a3 : numAt v 8 2 = h.out := by
    have := num_in (v := v) (a := be h.tag 4 ++ be h.win 4) (n := h.out) (k := 2) (r := be h.inn 2 ++ be h.tsn 4 ++ r) 8 (by rw [e]; simp [helB]) (by simp [be_len])
    rw [p2] at this; exact this.trans (by omega)
  have a4 : numAt v 10 2 = h.inn := by
    have := num_in (v := v) (a := be h.tag 4 ++ be h.win 4 ++ be h.out 2) (n := h.inn) (k := 2) (r := be h.tsn 4 ++ r) 10 (by rw [e]; simp [helB]) (by simp [be_len])
    rw [p2] at this; exact this.trans (by omega)
  have a5 : numAt v 12 4 = h.tsn := by
    have := num_in (v := v) (a := be h.tag 4 ++ be h.win 4 ++ be h.out 2 ++ be h.inn 2) (n := h.tsn) (k := 4) (r := r) 12 (by rw [e]; simp [helB]) (by simp [be_len])
    rw [p4] at this; exact this.trans (by omega)
  rw [a1, a2, a3, a4, a5]
theorem fromHel_ok {h : HelR} {ack : Bool} (e : (fromHel h ack).2 = 0) : greetF h ack = true ∧ h.cookie.length ≤ 256 ∧ (fromHel h ack).1 = if ack then ⟨2, 0, ckB h⟩ else ⟨1, 0, helB h⟩ := by
  unfold fromHel at e ⊢
  split at e
  · cases e
  rename_i h1
  split at e
  · cases e
  rename_i h2
  rw [if_neg h1, if_neg h2]
  refine ⟨by simpa using h1, by omega, ?_⟩
  split <;> rfl
theorem sameB_eq {c d : ChR} : sameB c d = true ↔ c = d := by
  cases c; cases d
  simp [sameB]; exact ⟨fun ⟨⟨a, b⟩, c⟩ => ⟨a, b, c⟩, fun ⟨a, b, c⟩ => ⟨⟨a, b⟩, c⟩⟩
theorem ck_num {h : HelR} (hl : h.cookie.length ≤ 256) {v : List Int} (e : v = ckB h) : numAt v 16 2 = 7 ∧ numAt v 18 2 - 4 = (h.cookie.length : Int) ∧ (v.drop 20).take h.cookie.length = h.cookie ∧ 20 + h.cookie.length ≤ v.length := by
  have p2 : (256 : Int) ^ 2 = 65536 := rfl
  have a1 : numAt v 16 2 = 7 := by
    have := num_in (v := v) (a := helB h) (n := 7) (k := 2) (r := be (4 + (h.cookie.length : Int)) 2 ++ padF h.cookie) 16 (by rw [e]; simp [ckB]) (helB_len h)
    exact this
  have a2 : numAt v 18 2 = 4 + (h.cookie.length : Int) := by
    have := num_in (v := v) (a := helB h ++ be 7 2) (n := 4 + (h.cookie.length : Int)) (k := 2) (r := padF h.cookie) 18 (by rw [e]; simp [ckB]) (by simp [helB_len, be_len])
    rw [p2] at this; exact this.trans (by omega)
  refine ⟨a1, by omega, ?_, by rw [e, ckB_len]; omega⟩
  have : v = (helB h ++ be 7 2 ++ be (4 + (h.cookie.length : Int)) 2) ++ (h.cookie ++ List.replicate (padN h.cookie.length) 0) := by rw [e]; simp [ckB, padF]
  rw [this, List.drop_append_of_le_length (by simp [helB_len, be_len]), List.drop_of_length_le (by simp [helB_len, be_len]), List.nil_append, List.take_append_of_le_length (Nat.le_refl _), List.take_of_length_le (Nat.le_refl _)]
theorem num_rng {v : List Int} (hv : okB v) (i : Int) {k : Nat} : 0 ≤ numAt v i k ∧ numAt v i k < 256 ^ k := by
  unfold numAt getF
  have h1 := part_ok hv i (k : Int)
  have h2 := val_lt h1
  have h3 := part_len (b := v) (i := i) (k := k)
  have h4 : ∀ a b : Nat, a ≤ b → (256 : Int) ^ a ≤ 256 ^ b := fun a b h => by
    obtain ⟨c, rfl⟩ := Nat.exists_eq_add_of_le h
    rw [Int.pow_add]
    have := pow_pos' a; have h5 := pow_pos' c
    calc (256 : Int) ^ a = 256 ^ a * 1 := by rw [Int.mul_one]
      _ ≤ 256 ^ a * 256 ^ c := Int.mul_le_mul_of_nonneg_left (by omega) (by omega)
  have := h4 _ _ h3
  exact ⟨val_nonneg h1, by omega⟩
theorem hel0_ok {v : List Int} (hv : okB v) {ck : List Int} (hc : okB ck) (hs : sm ck.length) : okHel { hel0 v with cookie := ck } := by
  have p4 : (256 : Int) ^ 4 = 4294967296 := rfl
  have p2 : (256 : Int) ^ 2 = 65536 := rfl
  have a1 := num_rng hv 0 (k := 4)
  have a2 := num_rng hv 4 (k := 4)
  have a3 := num_rng hv 8 (k := 2)
  have a4 := num_rng hv 10 (k := 2)
  have a5 := num_rng hv 12 (k := 4)
  rw [p4] at a1 a2 a5
  rw [p2] at a3 a4
  refine ⟨?_, ?_, ?_, ?_, ?_, hc, hs⟩ <;> simp only [hel0] <;> omega
theorem partF_sm {b : List Int} (hb : sm b.length) (i n : Int) : sm (partF b i n).1.length := by
  unfold sm at *
  unfold partF
  split
  · exact Nat.zero_le _
  split
  · exact Nat.zero_le _
  · simp only [List.length_take, List.length_drop]; omega
theorem helOf_ok {c : ChR} (hv : okB c.v) (hs : sm c.v.length) : okHel (helOf c) := by
  unfold helOf
  split
  · exact hel0_ok hv (part_ok hv _ _) (partF_sm hs _ _)
  · exact hel0_ok hv (ck := []) (fun x hx => by cases hx) (Nat.zero_le _)
theorem helRef_ok {c : ChR} (hv : okB c.v) (hs : sm c.v.length) : okHel (helRef c) := by
  unfold helRef
  split
  · refine hel0_ok hv (okB_take (okB_drop hv _) _) ?_
    unfold sm at *
    simp only [List.length_take, List.length_drop]; omega
  · exact hel0_ok hv (ck := []) (fun x hx => by cases hx) (Nat.zero_le _)
theorem helOf_made {h : HelR} {ack : Bool} (ok : okHel h) (e : (fromHel h ack).2 = 0) : helOf (fromHel h ack).1 = h ∧ helRef (fromHel h ack).1 = h ∧ (decide ((fromHel h ack).1.t = 2)) = ack := by
  obtain ⟨h1, h2, h3⟩ := fromHel_ok e
  rw [h3]
  cases ack with
  | true =>
    simp only [if_true]
    obtain ⟨c1, c2, c3, c4⟩ := ck_num h2 (rfl : ckB h = ckB h)
    have h0 := hel0_of ok (v := ckB h) (r := be 7 2 ++ be (4 + (h.cookie.length : Int)) 2 ++ padF h.cookie) (by simp [ckB])
    refine ⟨?_, ?_, rfl⟩
    · unfold helOf
      rw [if_pos ⟨rfl, c1⟩]
      simp only
      rw [c2, part_get (by omega) (by omega) (by omega) (by omega), h0]
      simp only [Int.toNat_natCast]
      rw [show Int.toNat 20 = 20 from rfl, c3]
    · unfold helRef
      rw [if_pos rfl]
      simp only
      rw [c2, h0, Int.toNat_natCast, c3]
  | false =>
    simp only [Bool.false_eq_true, if_false]
    have h0 := hel0_of ok (v := helB h) (r := []) (by simp)
    have hc : h.cookie = [] := by
      simp only [greetF, Bool.and_eq_true, Bool.false_or, decide_eq_true_eq] at h1
      exact List.length_eq_zero_iff.1 h1.2
    have e0 : { h with cookie := [] } = h := by cases h; simp only at hc; subst hc; rfl
    refine ⟨?_, ?_, rfl⟩
    · unfold helOf; rw [if_neg (by simp)]; rw [h0, e0]
    · unfold helRef; rw [if_neg (by simp)]; rw [h0, e0]
theorem toHel_made {h : HelR} {ack : Bool} (ok : okHel h) (e : (fromHel h ack).2 = 0) : toHel (fromHel h ack).1 = (h, 0) := by
  obtain ⟨h1, _, h3⟩ := helOf_made ok e
  unfold toHel
  rw [h1, h3, if_neg]
  rw [e, sameB_eq.2 rfl]; simp
theorem toHel_eq {c : ChR} (hv : okB c.v) (hs : sm c.v.length) : toHel c = toHelRef c := by
  -- a chunk that some such makes is read by both
  have good : ∀ h ack, okHel h → (fromHel h ack).2 = 0 → (fromHel h ack).1 = c → toHelRef c = (h, 0) := by
    intro h ack ok e rfl
    obtain ⟨_, h2, h3⟩ := helOf_made ok e
    obtain ⟨g1, g2, g3⟩ := fromHel_ok e
    unfold toHelRef
    rw [h2, h3, e, sameB_eq.2 rfl, if_neg, if_neg, if_neg, if_neg]
    · simp
    · rw [g3]
      cases ack with
      | true => obtain ⟨c1, c2, c3, c4⟩ := ck_num g2 (rfl : ckB h = ckB h); simp only [if_true]; rw [c2]; omega
      | false => simp
    · rw [g3]
      cases ack with
      | true => simp only [if_true]; rw [ckB_len]; omega
      | false => simp
    · rw [g3]
      cases ack with
      | true => simp only [if_true]; rw [ckB_len]; omega
      | false => simp only [Bool.false_eq_true, if_false]; rw [helB_len]; omega
  by_cases h : (fromHel (helOf c) (decide (c.t = 2))).2 ≠ 0 ∨ sameB (fromHel (helOf c) (decide (c.t = 2))).1 c = false
  · have e1 : toHel c = (noHel, 2) := by unfold toHel; rw [if_pos h]
    rw [e1]
    unfold toHelRef
    split
    · rfl
    split
    · rfl
    split
    · rfl
    split
    · rfl
    · rename_i hh
      exfalso
      rw [not_or] at hh
      have a1 : (fromHel (helRef c) (decide (c.t = 2))).2 = 0 := by simpa using hh.1
      have a2 : (fromHel (helRef c) (decide (c.t = 2))).1 = c := sameB_eq.1 (by simpa using hh.2)
      have := helOf_made (helRef_ok hv hs) a1
      rw [a2] at this
      rw [this.1, a1, a2, sameB_eq.2 rfl] at h
      simp at h
  · have e1 : toHel c = (helOf c, 0) := by unfold toHel; rw [if_neg h]
    rw [not_or] at h
    have a1 : (fromHel (helOf c) (decide (c.t = 2))).2 = 0 := by simpa using h.1
    have a2 : (fromHel (helOf c) (decide (c.t = 2))).1 = c := sameB_eq.1 (by simpa using h.2)
    rw [e1, good _ _ (helOf_ok hv hs) a1 a2]
theorem fromHel_len (h : HelR) (ack : Bool) : (fromHel h ack).1.v.length ≤ 300 := by
  unfold fromHel
  split
  · exact Nat.zero_le _
  split
  · exact Nat.zero_le _
  split
  · have := padN_le h.cookie.length
    simp only; rw [ckB_len]; omega
  · simp only; rw [helB_len]; omega
theorem fromHel_okB {h : HelR} (hc : okB h.cookie) (ack : Bool) : okB (fromHel h ack).1.v := by
  unfold fromHel
  split
  · exact fun x hx => by cases hx
  split
  · exact fun x hx => by cases hx
  have hb : okB (helB h) := okB_append (okB_append (okB_append (okB_append (be_ok _ _) (be_ok _ _)) (be_ok _ _)) (be_ok _ _)) (be_ok _ _)
  split
  · exact okB_append (okB_append (okB_append hb (be_ok _ _)) (be_ok _ _)) (okB_padF hc)
  · exact hb
theorem bstr_inj {a b : List Int} (ha : okB a) (hb : okB b) (h : bstr a = bstr b) : a = b := by
  unfold bstr at h
  simp only [ByteArray.mk.injEq] at h
  have h := congrArg Array.toList h
  simp only [] at h
  have key : ∀ {a b : List Int}, okB a → okB b → a.map (fun n => UInt8.ofNat n.toNat) = b.map (fun n => UInt8.ofNat n.toNat) → a = b := by
    intro a
    induction a with
    | nil => intro b _ _ h; cases b with
      | nil => rfl
      | cons _ _ => simp at h
    | cons x a ih => intro b ha hb h; cases b with
      | nil => simp at h
      | cons y b =>
        simp only [List.map_cons, List.cons.injEq] at h
        have h1 := ha x (List.mem_cons_self ..)
        have h2 := hb y (List.mem_cons_self ..)
        have h3 := congrArg UInt8.toNat h.1
        simp only [UInt8.toNat_ofNat'] at h3
        have : x = y := by omega
        rw [this, ih (fun z hz => ha z (List.mem_cons_of_mem _ hz)) (fun z hz => hb z (List.mem_cons_of_mem _ hz)) h.2]
  exact key ha hb h
theorem sameCh_eq {c d : ChR} (hc : okB c.v) (hd : okB d.v) : sameCh c d = sameB c d := by
  unfold sameCh sameB
  congr 1
  rw [decide_eq_decide]
  exact ⟨bstr_inj hc hd, fun h => by rw [h]⟩
end Go.ZM

set_option maxRecDepth 100000
namespace Go.ZR
open Go.Z Go.ZM Go.Proofs
def helL (h : HelR) (ck : O) : O := .agg [iO .u32 h.tag, iO .u32 h.win, iO .u16 h.out, iO .u16 h.inn, iO .u32 h.tsn, ck]
def helO (h : HelR) : O := helL h (bsO h.cookie)
def helN (h : HelR) : O := helL h (bsN h.cookie)
def helOfO : O → HelR
  | .agg [a, b, c, d, e, f] => ⟨vi (dO a), vi (dO b), vi (dO c), vi (dO d), vi (dO e), vl (dO f)⟩
  | _ => noHel
def greetC : Ctr := nC 2 true (fun a => ∃ h b, a = [helO h, bO b]) fun a => [bO (greetF (helOfO (at_ a 0)) (vb (dO (at_ a 1))))]
def fromHelC : Ctr := nC 2 false (fun a => ∃ h b, a = [helO h, bO b] ∧ okHel h) fun a =>
  [chN (fromHel (helOfO (at_ a 0)) (vb (dO (at_ a 1)))).1, iO .i64 (fromHel (helOfO (at_ a 0)) (vb (dO (at_ a 1)))).2]
def eqC : Ctr := nC 2 true (fun a => ∃ l m, a = [bsO l, bsO m] ∧ sm l.length) fun a => [bO (decide (vl (dO (at_ a 0)) = vl (dO (at_ a 1))))]
def sameBC : Ctr := nC 2 true (fun a => ∃ c d, a = [chO c, chO d] ∧ okCh c) fun a => [bO (sameB (chOf (at_ a 0)) (chOf (at_ a 1)))]
def rdO (v : List Int) (i : Int) (b : Bool) : O := .ptr 302 [bsO v, iO .i64 i, bO b]
def rdOf : O → List Int × Int × Bool
  | .ptr _ [v, i, b] => (vl (dO v), vi (dO i), vb (dO b))
  | _ => ([], 0, false)
def rdC : Ctr where
  own := [true, false]
  pre := fun a => ∃ (v : List Int) (i : Int) (b : Bool) (k : Nat), a = [rdO v i b, iO .i64 k] ∧ sm v.length ∧ okB v ∧ 0 ≤ i ∧ i ≤ 1099511627776 ∧ 1 ≤ k ∧ k ≤ 8
  res := fun a => [iO .u64 (numAt (rdOf (at_ a 0)).1 (rdOf (at_ a 0)).2.1 (vi (dO (at_ a 1))).toNat)]
  upd := fun a => [rdO (rdOf (at_ a 0)).1 ((rdOf (at_ a 0)).2.1 + vi (dO (at_ a 1))) ((rdOf (at_ a 0)).2.2 || !decide ((getF (rdOf (at_ a 0)).1 (rdOf (at_ a 0)).2.1 (vi (dO (at_ a 1))).toNat).2 = 0)), .any]
  ro := true
  quiet := false
def toHelC : Ctr := nC 1 false (fun a => ∃ c, a = [chO c] ∧ okB c.v ∧ sm c.v.length) fun a => [helN (toHel (chOf (at_ a 0))).1, iO .i64 (toHel (chOf (at_ a 0))).2]
def getQ : Ctr := { getC 8 with quiet := true }
def numQ : Ctr := { numC with quiet := true }
theorem ok205q : FnIs Try.prog 205 getQ := ⟨ok205.1, ok205.2⟩
theorem ok212q : FnIs Try.prog 212 numQ := ⟨ok212.1, ok212.2⟩
def eqAnn (l m : List Int) : LoopAnn where
  γ := Nat
  pre := fun i => i ≤ l.length ∧ ∀ j, j < i → l.getD j 0 = m.getD j 0
  μ := fun i => l.length - i
  items := fun i => [(13, .c (iO .i64 (i : Int)))]
def c12 : List (Nat × Ctr) := [(197, greetC), (198, putC), (199, paddedC)]
def c13 : List (Nat × Ctr) := [(163, eqC)]
def c14 : List (Nat × Ctr) := [(205, getQ)]
def c15 : List (Nat × Ctr) := [(200, rdC), (201, partC), (155, fromHelC), (202, sameBC)]
def c16 : List (Nat × Ctr) := [(212, numQ), (116, fromHelC), (118, sameC)]
theorem c14_ok : COk Try.prog (ctrs c14) := cok_cons ok205q cok_nil
end Go.ZR

set_option maxRecDepth 100000
namespace Go.ZM
open Go.Z Go.ZR

structure CruR where
  time : Int
  a : Int
  b : Int
  c : Int
  d : Int
  e : Int
  f : Int
  g : Int
def noCru : CruR := ⟨0, 0, 0, 0, 0, 0, 0, 0⟩
def okU (n : Int) : Prop := 0 ≤ n ∧ n ≤ 4294967295
def okCru (c : CruR) : Prop := (-9223372036854775808 ≤ c.time ∧ c.time ≤ 9223372036854775807) ∧ okU c.a ∧ okU c.b ∧ okU c.c ∧ okU c.d ∧ okU c.e ∧ okU c.f ∧ okU c.g
def soundF (c : CruR) : Bool := decide (0 ≤ c.time) && decide (c.time ≤ 1099511627776) && !decide (c.a = 0) && !decide (c.b = 0)
def cruB (c : CruR) : List Int := be c.time 8 ++ be c.a 4 ++ be c.b 4 ++ be c.c 4 ++ be c.d 4 ++ be c.e 4 ++ be c.f 4 ++ be c.g 4
def keyF (key : Int) (b : List Int) : Int := sumF (be key 8 ++ b ++ be key 8)
def sealB (key : Int) (c : CruR) : List Int := cruB c ++ be (keyF key (cruB c)) 4
def sealF (key : Int) (c : CruR) : List Int × Int := if soundF c = true then (sealB key c, 0) else ([], 1)
def nAt (v : List Int) (i : Int) (k : Nat) : Int := (getF v i k).1
def sI (n : Int) : Int := IntKind.i64.wrap n
def cruOf (v : List Int) : CruR := ⟨sI (nAt v 0 8), nAt v 8 4, nAt v 12 4, nAt v 16 4, nAt v 20 4, nAt v 24 4, nAt v 28 4, nAt v 32 4⟩
def openF (key : Int) (b : List Int) : CruR × Int :=
  if b.length < 40 then (noCru, 3) else if 40 < b.length then (noCru, 2) else
  if nAt b 36 4 ≠ keyF key (b.take 36) then (noCru, 5) else if soundF (cruOf b) = true then (cruOf b, 0) else (noCru, 2)
def freshF (time now life : Int) : Bool := decide (time ≤ now) && decide (0 ≤ life) && decide (now - time ≤ life)
end Go.ZM
namespace Go.ZR
open Go.Z Go.ZM Go.Proofs
def cruO (c : CruR) : O := .agg [iO .i64 c.time, iO .u32 c.a, iO .u32 c.b, iO .u32 c.c, iO .u32 c.d, iO .u32 c.e, iO .u32 c.f, iO .u32 c.g]
def cruOfO : O → CruR
  | .agg [t, a, b, c, d, e, f, g] => ⟨vi (dO t), vi (dO a), vi (dO b), vi (dO c), vi (dO d), vi (dO e), vi (dO f), vi (dO g)⟩
  | _ => noCru
def keyC : Ctr := nC 2 false (fun a => ∃ k b, a = [iO .u64 k, bsO b] ∧ b.length ≤ 1048576 ∧ okB b) fun a => [iO .u64 (keyF (vi (dO (at_ a 0))) (vl (dO (at_ a 1))))]
def soundC : Ctr := nC 1 true (fun a => ∃ c, a = [cruO c]) fun a => [bO (soundF (cruOfO (at_ a 0)))]
def sealC : Ctr := nC 2 false (fun a => ∃ k c, a = [iO .u64 k, cruO c] ∧ okCru c) fun a => [bsN (sealF (vi (dO (at_ a 0))) (cruOfO (at_ a 1))).1, iO .i64 (sealF (vi (dO (at_ a 0))) (cruOfO (at_ a 1))).2]
def openC : Ctr := nC 2 false (fun a => ∃ k b, a = [iO .u64 k, bsO b] ∧ b.length ≤ 1048576 ∧ okB b) fun a => [cruO (openF (vi (dO (at_ a 0))) (vl (dO (at_ a 1)))).1, iO .i64 (openF (vi (dO (at_ a 0))) (vl (dO (at_ a 1)))).2]
def freshC : Ctr := nC 3 true (fun a => ∃ c n l, a = [cruO c, iO .i64 n, iO .i64 l] ∧ (-1099511627776 ≤ c.time ∧ c.time ≤ 1099511627776) ∧ (-1099511627776 ≤ n ∧ n ≤ 1099511627776) ∧ (-1099511627776 ≤ l ∧ l ≤ 1099511627776)) fun a =>
  [bO (freshF (cruOfO (at_ a 0)).time (vi (dO (at_ a 1))) (vi (dO (at_ a 2))))]
def k4 : List (Nat × Ctr) := [(198, putC), (242, csumC)]
theorem k4_ok : COk Try.prog (ctrs k4) := cok_cons ok198 (cok_cons ok242 cok_nil)
def k5 : List (Nat × Ctr) := [(208, soundC), (198, putC), (206, keyC)]
def k6 : List (Nat × Ctr) := [(205, getC 8), (206, keyC), (208, soundC)]
def k7 : List (Nat × Ctr) := [(65, putC), (244, csumC)]
theorem k7_ok : COk Try.prog (ctrs k7) := cok_cons ok65 (cok_cons ok244 cok_nil)
def k8 : List (Nat × Ctr) := [(65, putC), (212, numC), (245, getC 8), (244, csumC)]
theorem k8_ok : COk Try.prog (ctrs k8) := cok_cons ok65 (cok_cons ok212 (cok_cons ok245 (cok_cons ok244 cok_nil)))
end Go.ZR

namespace Go.ZR
open Go.Proofs
open Go.Z Go.ZM Go.RowKit
set_option maxRecDepth 100000
theorem key_small {b : List Int} (h : b.length ≤ 1048576) (k : Int) : (be k 8 ++ b ++ be k 8).length ≤ 1048592 := by
  simp only [List.length_append, be_len]; omega
theorem key_okB {b : List Int} (h : okB b) (k : Int) : okB (be k 8 ++ b ++ be k 8) := okB_append (okB_append (be_ok _ _) h) (be_ok _ _)
theorem wrap_sum (l : List Int) : IntKind.u64.wrap (sumF l) = sumF l := by
  have := iv_rng (~~~ crcR (~~~ bv 0) l)
  unfold sumF moreF
  rw [IntKind.wrap_u64]; omega
theorem toNat8 : Int.toNat 8 = 8 := rfl
noncomputable def i63c243 : Code := match Try.f243.body with | some c => c | none => .skip
noncomputable def i63_243 : InlF := ⟨i63c243, Try.f243.ntmps, Try.f243.results.toList, anns [] [] [(3, 4), (11, 4)]⟩
noncomputable def i63c264 : Code := match Try.f264.body with | some c => c | none => .skip
noncomputable def i63_264 : InlF := ⟨i63c264, Try.f264.ntmps, Try.f264.results.toList, anns []⟩
noncomputable def i63 : List (Nat × InlF) := [(243, i63_243), (264, i63_264)]
theorem i63_ok : InlsOk Try.prog i63 := ⟨inlOk Try.func243 (by kernel_rfl) (by kernel_rfl), inlOk Try.func264 (by kernel_rfl) (by kernel_rfl), trivial⟩
noncomputable def i39c207 : Code := match Try.f207.body with | some c => c | none => .skip
noncomputable def i39_207 : InlF := ⟨i39c207, Try.f207.ntmps, Try.f207.results.toList, anns []⟩
noncomputable def i39 : List (Nat × InlF) := [(207, i39_207)]
theorem i39_ok : InlsOk Try.prog i39 := ⟨inlOk Try.func207 (by kernel_rfl) (by kernel_rfl), trivial⟩
noncomputable def code208 : Code := match Try.f208.body with | some c => c | none => .skip
@[reducible] noncomputable def q208_0 (x0 : CruR) : Bool := decide ((0 : Int) ≤ x0.time)
@[reducible] noncomputable def q208_1 (x0 : CruR) : Bool := q208_0 x0 && decide (x0.time ≤ (1099511627776 : Int))
@[reducible] noncomputable def q208_2 (x0 : CruR) : SV := SV.c (Value.bool !decide (x0.a = (0 : Int)))
@[reducible] noncomputable def q208_3 (x0 : CruR) : Bool := q208_1 x0 && !decide (x0.a = (0 : Int))
@[reducible] noncomputable def q208_4 (x0 : CruR) : SV := SV.c (Value.bool !decide (x0.b = (0 : Int)))
set_option maxHeartbeats 4000000 in
theorem vc208 : ∀ (c : CruR), True ∧ sw (q208_0 c) (SV.p (0 : Nat) (0 : Nat) = SV.p (0 : Nat) (0 : Nat)) True ∧ sw (q208_0 c) ([q208_0 c] = [q208_0 c] ∧
  SV.c (Value.int IntKind.i64 c.time) = SV.c (Value.int IntKind.i64 c.time)) True ∧ sw (q208_0 c) ([q208_0 c] = [q208_0 c] ∧ True ∧ SV.c (Value.bool (decide (c.time ≤ (1099511627776 : Int)))) = SV.c (Value.bool (decide (c.time ≤ (1099511627776 : Int))))) True ∧
  [q208_0 c] = [q208_0 c] ∧ sw (q208_1 c) (SV.p (0 : Nat) (1 : Nat) = SV.p (0 : Nat) (1 : Nat)) True ∧ sw (q208_1 c) ([q208_1 c] = [q208_1 c] ∧ SV.c (Value.int IntKind.u32 c.a) = SV.c (Value.int IntKind.u32 c.a)) True ∧
  sw (q208_1 c) ([q208_1 c] = [q208_1 c] ∧ True ∧ q208_2 c = q208_2 c) True ∧ [q208_1 c] = [q208_1 c] ∧ sw (q208_3 c) (SV.p (0 : Nat) (2 : Nat) = SV.p (0 : Nat) (2 : Nat)) True ∧
  sw (q208_3 c) ([q208_3 c] = [q208_3 c] ∧ SV.c (Value.int IntKind.u32 c.b) = SV.c (Value.int IntKind.u32 c.b)) True ∧ sw (q208_3 c) ([q208_3 c] = [q208_3 c] ∧
  True ∧ q208_4 c = q208_4 c) True ∧ [q208_3 c] = [q208_3 c] ∧ (q208_3 c && !decide (c.b = (0 : Int))) = soundF (CruR.mk c.time c.a c.b c.c c.d c.e c.f c.g) ∧
  true = true := by
  delta q208_0 q208_1 q208_2 q208_3 q208_4
  simp only [↓sw_iff, ↓Bool.and_eq_true, ↓Bool.and_eq_false_iff, ↓decide_eq_true_eq, ↓decide_eq_false_iff_not, ↓Bool.not_eq_true', ↓Bool.not_eq_false', true_and, and_true, implies_true]
  intro c
  simp [soundF]
set_option maxRecDepth 100000 in
theorem ok208 : FnIs Try.prog 208 soundC := by
  refine fnIs (C := (ctrs c0)) (by kernel_rfl) c0_ok Try.func208 (code := code208) (by kernel_rfl) (by kernel_rfl) ?_
  rintro a ⟨c, rfl⟩
  exact ⟨anns [], kcast (vc208 c) (by kernel_rfl)⟩

noncomputable def code206 : Code := match Try.f206.body with | some c => c | none => .skip
@[reducible] def q206_0 : Prop := (0 : Int) ≤ (0 : Int) ∧ (0 : Int) < (↑(3 : Nat) : Int)
@[reducible] def q206_1 : Prop := (0 : Int) ≤ IntKind.i64.wrap ((0 : Int) + (1 : Int)) ∧ IntKind.i64.wrap ((0 : Int) + (1 : Int)) < (↑(3 : Nat) : Int)
@[reducible] noncomputable def q206_2 (x0 : List Int) : Int := IntKind.i64.wrap (IntKind.i64.wrap ((0 : Int) + (↑(8 : Nat) : Int)) + (↑x0.length : Int))
@[reducible] def q206_3 : Prop := (0 : Int) ≤ IntKind.i64.wrap (IntKind.i64.wrap ((0 : Int) + (1 : Int)) + (1 : Int)) ∧ IntKind.i64.wrap (IntKind.i64.wrap ((0 : Int) + (1 : Int)) + (1 : Int)) < (↑(3 : Nat) : Int)
@[reducible] noncomputable def q206_4 (x0 : List Int) : Int := IntKind.i64.wrap (q206_2 x0 + (↑(8 : Nat) : Int))
@[reducible] noncomputable def q206_5 (x0 : List Int) : Int := IntKind.i64.wrap (q206_4 x0 - IntKind.i64.wrap ((0 : Int) - (0 : Int)))
@[reducible] noncomputable def q206_7 : Nat := Try.prog.types[5].bytes
set_option maxHeartbeats 4000000 in
theorem vc206 : ∀ (k : Int) (b : List Int), b.length ≤ (1048576 : Nat) → okB b → (∃ (b_1 : List Int), ∃ (n : Int), ∃ (k_1 : Nat), [O.d (D.ints IntKind.u8 []), iO .u64 k, iO .i64 (8 : Int)] = [O.d (D.ints IntKind.u8 b_1), iO .u64 n, iO .i64 (↑k_1 : Int)] ∧
  sm b_1.length ∧ (1 : Nat) ≤ k_1 ∧ k_1 ≤ (8 : Nat)) ∧ True ∧ q206_0 ∧ True ∧ True ∧ True ∧ True ∧ q206_1 ∧ True ∧ True ∧ sw (decide (q206_2 b < (0 : Int))) False (True ∧
  True ∧ q206_3 ∧ True ∧ True ∧ sw (decide (q206_4 b < (0 : Int))) False (True ∧ True ∧ True ∧ sw (decide (q206_4 b < (0 : Int))) False (True ∧ True ∧ True ∧
  sw (decide ((0 : Int) < q206_5 b)) ((0 : Int) = (0 : Int) ∧ ((0 : Int) ≤ q206_5 b ∧ q206_5 b ≤ (9223372036854775807 : Int) ∧ (q206_5 b).toNat * q206_7 ≤ (281474976710656 : Nat) ∧
  IntKind.u8 = IntKind.u8) ∧ (List.replicate (q206_5 b).toNat (0 : Int)).length * q206_7 ≤ (140737488355328 : Nat) ∧ True ∧ q206_0 ∧ True ∧ (8 : Nat) ≤ (140737488355328 : Nat) ∧
  True ∧ True ∧ q206_1 ∧ True ∧ ((8 : Nat) + b.length) * q206_7 ≤ (140737488355328 : Nat) ∧ True ∧ True ∧ q206_3 ∧ True ∧ (([] ++ ([] ++ be k (Int.toNat (8 : Int))) ++ b).length + (8 : Nat)) * q206_7 ≤ (140737488355328 : Nat) ∧
  True ∧ True ∧ (∃ (b_1 : List Int), [O.d (D.ints IntKind.u8 ([] ++ ([] ++ be k (Int.toNat (8 : Int))) ++ b ++ ([] ++ be k (Int.toNat (8 : Int)))))] = [O.d (D.ints IntKind.u8 b_1)] ∧
  sm b_1.length ∧ okB b_1) ∧ IntKind.u64.wrap (sumF ([] ++ ([] ++ be k (Int.toNat (8 : Int))) ++ b ++ ([] ++ be k (Int.toNat (8 : Int))))) = keyF k b ∧ true = true) (True ∧
  q206_0 ∧ True ∧ (8 : Nat) ≤ (140737488355328 : Nat) ∧ True ∧ True ∧ q206_1 ∧ True ∧ ((8 : Nat) + b.length) * q206_7 ≤ (140737488355328 : Nat) ∧ True ∧ True ∧
  q206_3 ∧ True ∧ (([] ++ be k (Int.toNat (8 : Int)) ++ b).length + (8 : Nat)) * q206_7 ≤ (140737488355328 : Nat) ∧ True ∧ True ∧ (∃ (b_1 : List Int), [O.d (D.ints IntKind.u8 ([] ++ be k (Int.toNat (8 : Int)) ++ b ++ ([] ++ be k (Int.toNat (8 : Int)))))] = [O.d (D.ints IntKind.u8 b_1)] ∧
  sm b_1.length ∧ okB b_1) ∧ IntKind.u64.wrap (sumF ([] ++ be k (Int.toNat (8 : Int)) ++ b ++ ([] ++ be k (Int.toNat (8 : Int))))) = keyF k b ∧ true = true)))) := by
  delta q206_0 q206_1 q206_2 q206_3 q206_4 q206_5 q206_7 iO
  simp only [↓sw_iff, ↓decide_eq_true_eq, ↓decide_eq_false_iff_not, true_and, and_true, List.nil_append, List.length_append, Nat.mul_one, bytes5, toNat8, be_len, wrap_sum]
  intro k b h hb
  have w1 : IntKind.i64.wrap (0 + 1) = 1 := by decide
  have w2 : IntKind.i64.wrap (1 + 1) = 2 := by decide
  have w3 : IntKind.i64.wrap (0 + ((8 : Nat) : Int)) = 8 := by decide
  have w4 : IntKind.i64.wrap (0 - 0) = 0 := by decide
  have w5 : IntKind.i64.wrap (8 + (b.length : Int)) = 8 + (b.length : Int) := wrap_i64_id (by omega) (by omega)
  have w6 : IntKind.i64.wrap (8 + (b.length : Int) + ((8 : Nat) : Int)) = 8 + (b.length : Int) + 8 := wrap_i64_id (by omega) (by omega)
  have w7 : IntKind.i64.wrap (8 + (b.length : Int) + 8 - 0) = 8 + (b.length : Int) + 8 - 0 := wrap_i64_id (by omega) (by omega)
  simp only [w1, w2, w3, w4, w5, w6, w7]
  have hs := key_small h k
  have e : ∃ b_1, [O.d (D.ints IntKind.u8 (be k 8 ++ b ++ be k 8))] = [O.d (D.ints IntKind.u8 b_1)] ∧ sm b_1.length ∧ okB b_1 := ⟨_, rfl, by unfold sm; omega, key_okB hb k⟩
  refine ⟨⟨[], k, 8, rfl, by simp [sm], by omega, by omega⟩, by omega, by omega, fun x => by omega, fun _ => ⟨by omega, fun x => by omega, fun _ => ⟨fun x => by omega, fun _ => ⟨fun _ => ?_, fun _ => ?_⟩⟩⟩⟩
  · exact ⟨⟨by omega, by omega, by omega⟩, by simp only [List.length_replicate]; omega, by omega, by omega, by omega, by omega, by omega, by omega, e, rfl⟩
  · exact ⟨by omega, by omega, by omega, by omega, by omega, by omega, e, rfl⟩
set_option maxRecDepth 100000 in
theorem ok206 : FnIs Try.prog 206 keyC := by
  refine fnIs (C := (ctrsJ Try.prog k4 i63 2)) (by kernel_rfl) (cokJ (by kernel_rfl) k4_ok i63_ok) Try.func206 (code := code206) (by kernel_rfl) (by kernel_rfl) ?_
  rintro a ⟨k, b, rfl, h, hb⟩
  exact ⟨anns [], kcast (vc206 k b h hb) (by kernel_rfl)⟩

end Go.ZR

namespace Go.ZM
open Go.Z Go.ZR
def fldL (b : List Int) (i : Nat) : List Int := (List.range 7).map fun j => if j < i then nAt b ((8 + 4 * j : Nat) : Int) 4 else 0
end Go.ZM
namespace Go.ZR
open Go.Z Go.ZM Go.Proofs
theorem k5_ok : COk Try.prog (ctrs k5) := cok_cons ok208 (cok_cons ok198 (cok_cons ok206 cok_nil))
theorem k6_ok : COk Try.prog (ctrs k6) := cok_cons ok205 (cok_cons ok206 (cok_cons ok208 cok_nil))
def fldAnn (s t : Nat) (b : List Int) : LoopAnn where
  γ := Nat
  pre := fun i => i ≤ 7
  μ := fun i => 7 - i
  items := fun i => [(s, .c (iO .i64 (i : Int))), (t, .c (.arr 339 .u32 (fldL b i)))]
end Go.ZR
