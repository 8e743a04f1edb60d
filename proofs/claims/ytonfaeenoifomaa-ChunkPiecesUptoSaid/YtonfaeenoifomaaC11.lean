/- What a side says of itself: plain functions, laws, contracts. -/
import Derived.Test.YtonfaeenoifomaaC5
set_option maxRecDepth 100000
namespace Go.ZM
open Go.Z Go.ZR

structure HelR where
  tag : Int
  win : Int
  out : Int
  inn : Int
  tsn : Int
  cookie : List Int
def noHel : HelR := ⟨0, 0, 0, 0, 0, []⟩
def okHel (h : HelR) : Prop := (0 ≤ h.tag ∧ h.tag ≤ 4294967295) ∧ (0 ≤ h.win ∧ h.win ≤ 4294967295) ∧ (0 ≤ h.out ∧ h.out ≤ 65535) ∧ (0 ≤ h.inn ∧ h.inn ≤ 65535) ∧ (0 ≤ h.tsn ∧ h.tsn ≤ 4294967295) ∧ okB h.cookie ∧ sm h.cookie.length
def helB (h : HelR) : List Int := be h.tag 4 ++ be h.win 4 ++ be h.out 2 ++ be h.inn 2 ++ be h.tsn 4
def greetF (h : HelR) (ack : Bool) : Bool := (!decide (h.tag = 0) && !decide (h.out = 0)) && !decide (h.inn = 0) && (ack || decide (h.cookie.length = 0))
def ckB (h : HelR) : List Int := helB h ++ be 7 2 ++ be (4 + (h.cookie.length : Int)) 2 ++ padF h.cookie
def fromHel (h : HelR) (ack : Bool) : ChR × Int :=
  if greetF h ack = false then (noCh, 2) else if 256 < h.cookie.length then (noCh, 4) else if ack then (⟨2, 0, ckB h⟩, 0) else (⟨1, 0, helB h⟩, 0)
def numAt (v : List Int) (i : Int) (k : Nat) : Int := (getF v i k).1
def hel0 (v : List Int) : HelR := ⟨numAt v 0 4, numAt v 4 4, numAt v 8 2, numAt v 10 2, numAt v 12 4, []⟩
/-- As the program reads it. -/
def helOf (c : ChR) : HelR := if c.t = 2 ∧ numAt c.v 16 2 = 7 then { hel0 c.v with cookie := (partF c.v 20 (numAt c.v 18 2 - 4)).1 } else hel0 c.v
def sameB (c d : ChR) : Bool := decide (c.t = d.t) && decide (c.f = d.f) && decide (c.v = d.v)
def toHel (c : ChR) : HelR × Int := if (fromHel (helOf c) (decide (c.t = 2))).2 ≠ 0 ∨ sameB (fromHel (helOf c) (decide (c.t = 2))).1 c = false then (noHel, 2) else (helOf c, 0)
def sameHel (h g : HelR) : Bool := decide (h.tag = g.tag) && decide (h.win = g.win) && decide (h.out = g.out) && decide (h.inn = g.inn) && decide (h.tsn = g.tsn) && decide (bstr h.cookie = bstr g.cookie)
/-- As the document reads it. -/
def helRef (c : ChR) : HelR := if c.t = 2 then { hel0 c.v with cookie := (c.v.drop 20).take (numAt c.v 18 2 - 4).toNat } else hel0 c.v
def toHelRef (c : ChR) : HelR × Int :=
  if c.t ≠ 1 ∧ c.t ≠ 2 ∨ c.v.length < 16 then (noHel, 2) else
  if c.t = 2 ∧ c.v.length < 20 then (noHel, 2) else
  if c.t = 2 ∧ (numAt c.v 18 2 - 4 < 0 ∨ (c.v.length : Int) - 20 < numAt c.v 18 2 - 4) then (noHel, 2) else
  if (fromHel (helRef c) (decide (c.t = 2))).2 ≠ 0 ∨ sameB (fromHel (helRef c) (decide (c.t = 2))).1 c = false then (noHel, 2) else (helRef c, 0)

theorem num_in {v a r : List Int} {n : Int} {k : Nat} (i : Nat) (h : v = a ++ (be n k ++ r)) (hi : a.length = i) : numAt v (i : Int) k = n % 256 ^ k := by
  subst hi
  have hl : v.length = a.length + (k + r.length) := by rw [h, List.length_append, List.length_append, be_len]
  unfold numAt getF
  rw [part_get (by omega) (by omega) (by omega) (by omega)]
  simp only [Int.toNat_natCast]
  rw [h, List.drop_append_of_le_length (Nat.le_refl _), List.drop_of_length_le (Nat.le_refl _), List.nil_append, List.take_append_of_le_length (by rw [be_len]; exact Nat.le_refl _), List.take_of_length_le (by rw [be_len]; exact Nat.le_refl _), val_be]
theorem helB_len (h : HelR) : (helB h).length = 16 := by simp [helB, be_len]
theorem ckB_len (h : HelR) : (ckB h).length = 20 + h.cookie.length + padN h.cookie.length := by simp [ckB, helB_len, be_len, padF_len]; omega
theorem hel0_of {h : HelR} (ok : okHel h) {v r : List Int} (e : v = helB h ++ r) : hel0 v = { h with cookie := [] } := by
  obtain ⟨h1, h2, h3, h4, h5, _⟩ := ok
  have p4 : (256 : Int) ^ 4 = 4294967296 := rfl
  have p2 : (256 : Int) ^ 2 = 65536 := rfl
  unfold hel0
  have a1 : numAt v 0 4 = h.tag := by
    have := num_in (v := v) (a := []) (n := h.tag) (k := 4) (r := be h.win 4 ++ be h.out 2 ++ be h.inn 2 ++ be h.tsn 4 ++ r) 0 (by rw [e]; simp [helB]) rfl
    rw [p4] at this; exact this.trans (by omega)
  have a2 : numAt v 4 4 = h.win := by
    have := num_in (v := v) (a := be h.tag 4) (n := h.win) (k := 4) (r := be h.out 2 ++ be h.inn 2 ++ be h.tsn 4 ++ r) 4 (by rw [e]; simp [helB]) (by simp [be_len])
    rw [p4] at this; exact this.trans (by omega)
  have a3 : numAt v 8 2 = h.out := by
    have := num_in (v := v) (a := be h.tag 4 ++ be h.win 4) (n := h.out) (k := 2) (r := be h.inn 2 ++ be h.tsn 4 ++ r) 8 (by rw [e]; simp [helB]) (by simp [be_len])
    rw [p2] at this; exact this.trans (by omega)
  have a4 : numAt v 10 2 = h.inn := by
    have := num_in (v := v) (a := be h.tag 4 ++ be h.win 4 ++ be h.out 2) (n := h.inn) (k := 2) (r := be h.tsn 4 ++ r) 10 (by rw [e]; simp [helB]) (by simp [be_len])
    rw [p2] at this; exact this.trans (by omega)
  have a5 : numAt v 12 4 = h.tsn := by
    have := num_in (v := v) (a := be h.tag 4 ++ be h.win 4 ++ be h.out 2 ++ be h.inn 2) (n := h.tsn) (k := 4) (r := r) 12 (by rw [e]; simp [helB]) (by simp [be_len])
    rw [p4] at this; exact this.trans (by omega)
  rw [a1, a2, a3, a4, a5]
/-- What a chunk is that was made of such. -/
theorem fromHel_ok {h : HelR} {ack : Bool} (e : (fromHel h ack).2 = 0) : greetF h ack = true ∧ h.cookie.length ≤ 256 ∧ (fromHel h ack).1 = if ack then ⟨2, 0, ckB h⟩ else ⟨1, 0, helB h⟩ := by
  unfold fromHel at e ⊢
  split at e
  · cases e
  rename_i h1
  split at e
  · cases e
  rename_i h2
  rw [if_neg h1, if_neg h2]
  refine ⟨by simpa using h1, by omega, ?_⟩
  split <;> rfl
theorem sameB_eq {c d : ChR} : sameB c d = true ↔ c = d := by
  cases c; cases d
  simp [sameB]; exact ⟨fun ⟨⟨a, b⟩, c⟩ => ⟨a, b, c⟩, fun ⟨a, b, c⟩ => ⟨⟨a, b⟩, c⟩⟩
theorem ck_num {h : HelR} (hl : h.cookie.length ≤ 256) {v : List Int} (e : v = ckB h) : numAt v 16 2 = 7 ∧ numAt v 18 2 - 4 = (h.cookie.length : Int) ∧ (v.drop 20).take h.cookie.length = h.cookie ∧ 20 + h.cookie.length ≤ v.length := by
  have p2 : (256 : Int) ^ 2 = 65536 := rfl
  have a1 : numAt v 16 2 = 7 := by
    have := num_in (v := v) (a := helB h) (n := 7) (k := 2) (r := be (4 + (h.cookie.length : Int)) 2 ++ padF h.cookie) 16 (by rw [e]; simp [ckB]) (helB_len h)
    exact this
  have a2 : numAt v 18 2 = 4 + (h.cookie.length : Int) := by
    have := num_in (v := v) (a := helB h ++ be 7 2) (n := 4 + (h.cookie.length : Int)) (k := 2) (r := padF h.cookie) 18 (by rw [e]; simp [ckB]) (by simp [helB_len, be_len])
    rw [p2] at this; exact this.trans (by omega)
  refine ⟨a1, by omega, ?_, by rw [e, ckB_len]; omega⟩
  have : v = (helB h ++ be 7 2 ++ be (4 + (h.cookie.length : Int)) 2) ++ (h.cookie ++ List.replicate (padN h.cookie.length) 0) := by rw [e]; simp [ckB, padF]
  rw [this, List.drop_append_of_le_length (by simp [helB_len, be_len]), List.drop_of_length_le (by simp [helB_len, be_len]), List.nil_append, List.take_append_of_le_length (Nat.le_refl _), List.take_of_length_le (Nat.le_refl _)]
theorem num_rng {v : List Int} (hv : okB v) (i : Int) {k : Nat} : 0 ≤ numAt v i k ∧ numAt v i k < 256 ^ k := by
  unfold numAt getF
  have h1 := part_ok hv i (k : Int)
  have h2 := val_lt h1
  have h3 := part_len (b := v) (i := i) (k := k)
  have h4 : ∀ a b : Nat, a ≤ b → (256 : Int) ^ a ≤ 256 ^ b := fun a b h => by
    obtain ⟨c, rfl⟩ := Nat.exists_eq_add_of_le h
    rw [Int.pow_add]
    have := pow_pos' a; have h5 := pow_pos' c
    calc (256 : Int) ^ a = 256 ^ a * 1 := by rw [Int.mul_one]
      _ ≤ 256 ^ a * 256 ^ c := Int.mul_le_mul_of_nonneg_left (by omega) (by omega)
  have := h4 _ _ h3
  exact ⟨val_nonneg h1, by omega⟩
theorem hel0_ok {v : List Int} (hv : okB v) {ck : List Int} (hc : okB ck) (hs : sm ck.length) : okHel { hel0 v with cookie := ck } := by
  have p4 : (256 : Int) ^ 4 = 4294967296 := rfl
  have p2 : (256 : Int) ^ 2 = 65536 := rfl
  have a1 := num_rng hv 0 (k := 4)
  have a2 := num_rng hv 4 (k := 4)
  have a3 := num_rng hv 8 (k := 2)
  have a4 := num_rng hv 10 (k := 2)
  have a5 := num_rng hv 12 (k := 4)
  rw [p4] at a1 a2 a5
  rw [p2] at a3 a4
  refine ⟨?_, ?_, ?_, ?_, ?_, hc, hs⟩ <;> simp only [hel0] <;> omega
theorem partF_sm {b : List Int} (hb : sm b.length) (i n : Int) : sm (partF b i n).1.length := by
  unfold sm at *
  unfold partF
  split
  · exact Nat.zero_le _
  split
  · exact Nat.zero_le _
  · simp only [List.length_take, List.length_drop]; omega
theorem helOf_ok {c : ChR} (hv : okB c.v) (hs : sm c.v.length) : okHel (helOf c) := by
  unfold helOf
  split
  · exact hel0_ok hv (part_ok hv _ _) (partF_sm hs _ _)
  · exact hel0_ok hv (ck := []) (fun x hx => by cases hx) (Nat.zero_le _)
theorem helRef_ok {c : ChR} (hv : okB c.v) (hs : sm c.v.length) : okHel (helRef c) := by
  unfold helRef
  split
  · refine hel0_ok hv (okB_take (okB_drop hv _) _) ?_
    unfold sm at *
    simp only [List.length_take, List.length_drop]; omega
  · exact hel0_ok hv (ck := []) (fun x hx => by cases hx) (Nat.zero_le _)
/-- What was made of such is read as such. -/
theorem helOf_made {h : HelR} {ack : Bool} (ok : okHel h) (e : (fromHel h ack).2 = 0) : helOf (fromHel h ack).1 = h ∧ helRef (fromHel h ack).1 = h ∧ (decide ((fromHel h ack).1.t = 2)) = ack := by
  obtain ⟨h1, h2, h3⟩ := fromHel_ok e
  rw [h3]
  cases ack with
  | true =>
    simp only [if_true]
    obtain ⟨c1, c2, c3, c4⟩ := ck_num h2 (rfl : ckB h = ckB h)
    have h0 := hel0_of ok (v := ckB h) (r := be 7 2 ++ be (4 + (h.cookie.length : Int)) 2 ++ padF h.cookie) (by simp [ckB])
    refine ⟨?_, ?_, rfl⟩
    · unfold helOf
      rw [if_pos ⟨rfl, c1⟩]
      simp only
      rw [c2, part_get (by omega) (by omega) (by omega) (by omega), h0]
      simp only [Int.toNat_natCast]
      rw [show Int.toNat 20 = 20 from rfl, c3]
    · unfold helRef
      rw [if_pos rfl]
      simp only
      rw [c2, h0, Int.toNat_natCast, c3]
  | false =>
    simp only [Bool.false_eq_true, if_false]
    have h0 := hel0_of ok (v := helB h) (r := []) (by simp)
    have hc : h.cookie = [] := by
      simp only [greetF, Bool.and_eq_true, Bool.false_or, decide_eq_true_eq] at h1
      exact List.length_eq_zero_iff.1 h1.2
    have e0 : { h with cookie := [] } = h := by cases h; simp only at hc; subst hc; rfl
    refine ⟨?_, ?_, rfl⟩
    · unfold helOf; rw [if_neg (by simp)]; rw [h0, e0]
    · unfold helRef; rw [if_neg (by simp)]; rw [h0, e0]
theorem toHel_made {h : HelR} {ack : Bool} (ok : okHel h) (e : (fromHel h ack).2 = 0) : toHel (fromHel h ack).1 = (h, 0) := by
  obtain ⟨h1, _, h3⟩ := helOf_made ok e
  unfold toHel
  rw [h1, h3, if_neg]
  rw [e, sameB_eq.2 rfl]; simp
theorem toHel_eq {c : ChR} (hv : okB c.v) (hs : sm c.v.length) : toHel c = toHelRef c := by
  -- a chunk that some such makes is read by both
  have good : ∀ h ack, okHel h → (fromHel h ack).2 = 0 → (fromHel h ack).1 = c → toHelRef c = (h, 0) := by
    intro h ack ok e rfl
    obtain ⟨_, h2, h3⟩ := helOf_made ok e
    obtain ⟨g1, g2, g3⟩ := fromHel_ok e
    unfold toHelRef
    rw [h2, h3, e, sameB_eq.2 rfl, if_neg, if_neg, if_neg, if_neg]
    · simp
    · rw [g3]
      cases ack with
      | true => obtain ⟨c1, c2, c3, c4⟩ := ck_num g2 (rfl : ckB h = ckB h); simp only [if_true]; rw [c2]; omega
      | false => simp
    · rw [g3]
      cases ack with
      | true => simp only [if_true]; rw [ckB_len]; omega
      | false => simp
    · rw [g3]
      cases ack with
      | true => simp only [if_true]; rw [ckB_len]; omega
      | false => simp only [Bool.false_eq_true, if_false]; rw [helB_len]; omega
  by_cases h : (fromHel (helOf c) (decide (c.t = 2))).2 ≠ 0 ∨ sameB (fromHel (helOf c) (decide (c.t = 2))).1 c = false
  · have e1 : toHel c = (noHel, 2) := by unfold toHel; rw [if_pos h]
    rw [e1]
    unfold toHelRef
    split
    · rfl
    split
    · rfl
    split
    · rfl
    split
    · rfl
    · rename_i hh
      exfalso
      rw [not_or] at hh
      have a1 : (fromHel (helRef c) (decide (c.t = 2))).2 = 0 := by simpa using hh.1
      have a2 : (fromHel (helRef c) (decide (c.t = 2))).1 = c := sameB_eq.1 (by simpa using hh.2)
      have := helOf_made (helRef_ok hv hs) a1
      rw [a2] at this
      rw [this.1, a1, a2, sameB_eq.2 rfl] at h
      simp at h
  · have e1 : toHel c = (helOf c, 0) := by unfold toHel; rw [if_neg h]
    rw [not_or] at h
    have a1 : (fromHel (helOf c) (decide (c.t = 2))).2 = 0 := by simpa using h.1
    have a2 : (fromHel (helOf c) (decide (c.t = 2))).1 = c := sameB_eq.1 (by simpa using h.2)
    rw [e1, good _ _ (helOf_ok hv hs) a1 a2]
theorem sameHel_refl (h : HelR) : sameHel h h = true := by simp [sameHel]
theorem fromHel_len (h : HelR) (ack : Bool) : (fromHel h ack).1.v.length ≤ 300 := by
  unfold fromHel
  split
  · exact Nat.zero_le _
  split
  · exact Nat.zero_le _
  split
  · have := padN_le h.cookie.length
    simp only; rw [ckB_len]; omega
  · simp only; rw [helB_len]; omega
theorem fromHel_okB {h : HelR} (hc : okB h.cookie) (ack : Bool) : okB (fromHel h ack).1.v := by
  unfold fromHel
  split
  · exact fun x hx => by cases hx
  split
  · exact fun x hx => by cases hx
  have hb : okB (helB h) := okB_append (okB_append (okB_append (okB_append (be_ok _ _) (be_ok _ _)) (be_ok _ _)) (be_ok _ _)) (be_ok _ _)
  split
  · exact okB_append (okB_append (okB_append hb (be_ok _ _)) (be_ok _ _)) (okB_padF hc)
  · exact hb
theorem bstr_inj {a b : List Int} (ha : okB a) (hb : okB b) (h : bstr a = bstr b) : a = b := by
  unfold bstr at h
  simp only [ByteArray.mk.injEq] at h
  have h := congrArg Array.toList h
  simp only [] at h
  have key : ∀ {a b : List Int}, okB a → okB b → a.map (fun n => UInt8.ofNat n.toNat) = b.map (fun n => UInt8.ofNat n.toNat) → a = b := by
    intro a
    induction a with
    | nil => intro b _ _ h; cases b with
      | nil => rfl
      | cons _ _ => simp at h
    | cons x a ih => intro b ha hb h; cases b with
      | nil => simp at h
      | cons y b =>
        simp only [List.map_cons, List.cons.injEq] at h
        have h1 := ha x (List.mem_cons_self ..)
        have h2 := hb y (List.mem_cons_self ..)
        have h3 := congrArg UInt8.toNat h.1
        simp only [UInt8.toNat_ofNat'] at h3
        have : x = y := by omega
        rw [this, ih (fun z hz => ha z (List.mem_cons_of_mem _ hz)) (fun z hz => hb z (List.mem_cons_of_mem _ hz)) h.2]
  exact key ha hb h
theorem sameCh_eq {c d : ChR} (hc : okB c.v) (hd : okB d.v) : sameCh c d = sameB c d := by
  unfold sameCh sameB
  congr 1
  rw [decide_eq_decide]
  exact ⟨bstr_inj hc hd, fun h => by rw [h]⟩
end Go.ZM
