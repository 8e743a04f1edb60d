/- A piece of a message: plain functions, laws, contracts. -/
import Derived.Test.YtonfaeenoifomaaC14
set_option maxRecDepth 100000
namespace Go.ZM
open Go.Z Go.ZR

structure PieR where
  tsn : Int
  str : Int
  seq : Int
  b : Bool
  e : Bool
  u : Bool
  bytes : List Int
def noPie : PieR := ⟨0, 0, 0, false, false, false, []⟩
def okPie (p : PieR) : Prop := (0 ≤ p.tsn ∧ p.tsn ≤ 4294967295) ∧ (0 ≤ p.str ∧ p.str ≤ 65535) ∧ (0 ≤ p.seq ∧ p.seq ≤ 65535) ∧ okB p.bytes ∧ sm p.bytes.length
def flagF (b : Bool) (n : Int) : Int := if b = true then n else 0
def pieF (p : PieR) : Int := flagF p.u 4 + flagF p.b 2 + flagF p.e 1
def pieH (p : PieR) : List Int := be p.tsn 4 ++ be p.str 2 ++ be p.seq 2
def pieB (p : PieR) : List Int := pieH p ++ be 46 4 ++ p.bytes
def fromPie (p : PieR) : ChR × Int :=
  if p.bytes.length = 0 ∨ 8 ≤ p.str then (noCh, 2) else if 256 < p.bytes.length then (noCh, 4) else (⟨0, pieF p, pieB p⟩, 0)
def bitF (f m : Int) : Bool := decide (0 < bits .and .u8 f m)
def pie1 (v : List Int) (f : Int) (X : List Int) : PieR := ⟨numAt v 0 4, numAt v 4 2, numAt v 6 2, bitF f 2, bitF f 1, bitF f 4, X⟩
/-- As the program reads it. -/
def pieOf (c : ChR) : PieR := pie1 c.v c.f (if 12 ≤ c.v.length then c.v.drop 12 else [])
def toPie (c : ChR) : PieR × Int := if (fromPie (pieOf c)).2 ≠ 0 ∨ sameB (fromPie (pieOf c)).1 c = false then (noPie, 2) else (pieOf c, 0)
def samePie (p q : PieR) : Bool := decide (p.tsn = q.tsn) && decide (p.str = q.str) && decide (p.seq = q.seq) && (p.b == q.b) && (p.e == q.e) && (p.u == q.u) && decide (bstr p.bytes = bstr q.bytes)
/-- As the document reads it. -/
def pieRef (c : ChR) : PieR := ⟨numAt c.v 0 4, numAt c.v 4 2, numAt c.v 6 2, decide (c.f / 2 % 2 = 1), decide (c.f % 2 = 1), decide (4 ≤ c.f), c.v.drop 12⟩
def badPie (c : ChR) : Prop := c.t ≠ 0 ∨ 7 < c.f ∨ c.v.length < 13 ∨ 268 < c.v.length ∨ 8 ≤ numAt c.v 4 2 ∨ numAt c.v 8 4 ≠ 46
instance (c : ChR) : Decidable (badPie c) := by unfold badPie; infer_instance
def toPieRef (c : ChR) : PieR × Int := if badPie c then (noPie, 2) else (pieRef c, 0)

theorem pieH_len (p : PieR) : (pieH p).length = 8 := by simp [pieH, be_len]
theorem pieB_len (p : PieR) : (pieB p).length = 12 + p.bytes.length := by simp [pieB, pieH_len, be_len]; omega
theorem flag_or (p : PieR) : bits .or .u8 (bits .or .u8 (flagF p.u 4) (flagF p.b 2)) (flagF p.e 1) = pieF p := by
  unfold pieF
  cases p.u <;> cases p.b <;> cases p.e <;> rfl
theorem bit_pieF (p : PieR) : bitF (pieF p) 2 = p.b ∧ bitF (pieF p) 1 = p.e ∧ bitF (pieF p) 4 = p.u := by
  unfold pieF
  cases p.u <;> cases p.b <;> cases p.e <;> decide +kernel
theorem bit_all : ∀ n : Fin 256, (bitF (n : Int) 2 = decide ((n : Int) / 2 % 2 = 1) ∧ bitF (n : Int) 1 = decide ((n : Int) % 2 = 1)) ∧ (((n : Int) ≤ 7 → bitF (n : Int) 4 = decide (4 ≤ (n : Int))) ∧ ((n : Int) ≤ 7 ↔ flagF (bitF n 4) 4 + flagF (bitF n 2) 2 + flagF (bitF n 1) 1 = (n : Int))) := by decide +kernel
theorem bit_f {f : Int} (h0 : 0 ≤ f) (h1 : f ≤ 255) : (bitF f 2 = decide (f / 2 % 2 = 1) ∧ bitF f 1 = decide (f % 2 = 1)) ∧ (f ≤ 7 → bitF f 4 = decide (4 ≤ f)) ∧ (f ≤ 7 ↔ flagF (bitF f 4) 4 + flagF (bitF f 2) 2 + flagF (bitF f 1) 1 = f) := by
  have := bit_all ⟨f.toNat, by omega⟩
  simp only [show ((f.toNat : Nat) : Int) = f by omega] at this
  exact this
theorem at_take {v : List Int} (hv : okB v) {i k : Nat} (h : i + k ≤ v.length) : be (numAt v (i : Int) k) k = (v.drop i).take k := by
  unfold numAt getF
  rw [part_get (by omega) (by omega) (by omega) (by omega)]
  simp only [Int.toNat_natCast]
  have hl : ((v.drop i).take k).length = k := by rw [List.length_take, List.length_drop]; omega
  have := be_val (okB_take (okB_drop hv i) k)
  rw [hl] at this
  exact this
theorem take_drop_add (v : List Int) (i k : Nat) : (v.drop i).take k ++ v.drop (i + k) = v.drop i := by
  rw [← List.drop_drop]; exact List.take_append_drop k _
theorem pie_split {v : List Int} (hv : okB v) (h : 12 ≤ v.length) : be (numAt v 0 4) 4 ++ be (numAt v 4 2) 2 ++ be (numAt v 6 2) 2 ++ be (numAt v 8 4) 4 ++ v.drop 12 = v := by
  rw [show be (numAt v 0 4) 4 = _ from at_take (i := 0) hv (by omega), show be (numAt v 4 2) 2 = _ from at_take (i := 4) hv (by omega), show be (numAt v 6 2) 2 = _ from at_take (i := 6) hv (by omega), show be (numAt v 8 4) 4 = _ from at_take (i := 8) hv (by omega)]
  rw [List.append_assoc, take_drop_add, List.append_assoc, take_drop_add, List.append_assoc, take_drop_add, take_drop_add, List.drop_zero]
theorem pie_nums {p : PieR} (ok : okPie p) : numAt (pieB p) 0 4 = p.tsn ∧ numAt (pieB p) 4 2 = p.str ∧ numAt (pieB p) 6 2 = p.seq ∧ numAt (pieB p) 8 4 = 46 ∧ (pieB p).drop 12 = p.bytes := by
  obtain ⟨h1, h2, h3, _⟩ := ok
  have p4 : (256 : Int) ^ 4 = 4294967296 := rfl
  have p2 : (256 : Int) ^ 2 = 65536 := rfl
  refine ⟨?_, ?_, ?_, ?_, ?_⟩
  · have := num_in (v := pieB p) (a := []) (n := p.tsn) (k := 4) (r := be p.str 2 ++ be p.seq 2 ++ be 46 4 ++ p.bytes) 0 (by simp [pieB, pieH]) rfl
    rw [p4] at this; exact this.trans (by omega)
  · have := num_in (v := pieB p) (a := be p.tsn 4) (n := p.str) (k := 2) (r := be p.seq 2 ++ be 46 4 ++ p.bytes) 4 (by simp [pieB, pieH]) (by simp [be_len])
    rw [p2] at this; exact this.trans (by omega)
  · have := num_in (v := pieB p) (a := be p.tsn 4 ++ be p.str 2) (n := p.seq) (k := 2) (r := be 46 4 ++ p.bytes) 6 (by simp [pieB, pieH]) (by simp [be_len])
    rw [p2] at this; exact this.trans (by omega)
  · exact num_in (v := pieB p) (a := pieH p) (n := 46) (k := 4) (r := p.bytes) 8 (by simp [pieB]) (pieH_len p)
  · have : pieB p = (pieH p ++ be 46 4) ++ p.bytes := by simp [pieB]
    rw [this, List.drop_append_of_le_length (by simp [pieH_len, be_len]), List.drop_of_length_le (by simp [pieH_len, be_len]), List.nil_append]
theorem fromPie_ok {p : PieR} (e : (fromPie p).2 = 0) : (p.bytes.length ≠ 0 ∧ p.str < 8 ∧ p.bytes.length ≤ 256) ∧ (fromPie p).1 = ⟨0, pieF p, pieB p⟩ := by
  unfold fromPie at e ⊢
  split at e
  · cases e
  rename_i h1
  split at e
  · cases e
  rename_i h2
  rw [if_neg h1, if_neg h2]
  rw [not_or] at h1
  exact ⟨⟨h1.1, by omega, by omega⟩, rfl⟩
theorem fromPie_go {p : PieR} (h1 : p.bytes.length ≠ 0) (h2 : p.str < 8) (h3 : p.bytes.length ≤ 256) : fromPie p = (⟨0, pieF p, pieB p⟩, 0) := by
  unfold fromPie
  rw [if_neg (by omega), if_neg (by omega)]
theorem toPie_made {p : PieR} (ok : okPie p) (e : (fromPie p).2 = 0) : toPie (fromPie p).1 = (p, 0) := by
  obtain ⟨h, h1⟩ := fromPie_ok e
  obtain ⟨n1, n2, n3, n4, n5⟩ := pie_nums ok
  obtain ⟨b1, b2, b3⟩ := bit_pieF p
  have hp : pieOf (fromPie p).1 = p := by
    rw [h1]
    unfold pieOf pie1
    simp only
    rw [n1, n2, n3, n5, b1, b2, b3, if_pos (by rw [pieB_len]; omega)]
  unfold toPie
  rw [hp, e, sameB_eq.2 rfl]; simp
theorem toPie_eq {c : ChR} (hv : okB c.v) (hf : 0 ≤ c.f ∧ c.f ≤ 255) : toPie c = toPieRef c := by
  obtain ⟨⟨f1, f2⟩, f3, f4⟩ := bit_f hf.1 hf.2
  by_cases hb : badPie c
  · unfold toPieRef
    rw [if_pos hb]
    unfold toPie
    by_cases e : (fromPie (pieOf c)).2 = 0
    · have hs : sameB (fromPie (pieOf c)).1 c = false := by
        cases hs : sameB (fromPie (pieOf c)).1 c with
        | false => rfl
        | true =>
          exfalso
          obtain ⟨⟨h1, h2, h3⟩, h4⟩ := fromPie_ok e
          have hc := sameB_eq.1 hs
          rw [h4] at hc
          have hl : 12 ≤ c.v.length := by
            rcases Nat.lt_or_ge c.v.length 12 with h | h
            · exfalso
              apply h1
              unfold pieOf pie1
              simp only
              rw [if_neg (by omega)]; rfl
            · exact h
          have hX : (pieOf c).bytes = c.v.drop 12 := by unfold pieOf pie1; simp only; rw [if_pos hl]
          rw [hX, List.length_drop] at h1 h3
          have ht : c.t = 0 := by rw [← hc]
          have hff : pieF (pieOf c) = c.f := by rw [← congrArg ChR.f hc]
          have hvv : pieB (pieOf c) = c.v := by rw [← congrArg ChR.v hc]
          have h46 : numAt c.v 8 4 = 46 := by
            rw [← hvv]
            exact num_in (v := pieB (pieOf c)) (a := pieH (pieOf c)) (n := 46) (k := 4) (r := (pieOf c).bytes) 8 (by simp [pieB]) (pieH_len _)
          have h7 : c.f ≤ 7 := f4.2 hff
          have h8 : numAt c.v 4 2 < 8 := h2
          unfold badPie at hb
          omega
      rw [if_pos (.inr hs)]
    · rw [if_pos (.inl e)]
  · unfold toPieRef
    rw [if_neg hb]
    unfold badPie at hb
    have hl : 12 ≤ c.v.length := by omega
    have hX : pieOf c = pieRef c := by
      unfold pieOf pie1 pieRef
      rw [f1, f2, f3 (by omega), if_pos hl]
    have hP : pieB (pieRef c) = c.v := by
      have := pie_split hv hl
      rw [show numAt c.v 8 4 = 46 by omega] at this
      exact this
    have hF : pieF (pieRef c) = c.f := by rw [← hX]; exact f4.1 (by omega)
    have hbl : (pieRef c).bytes.length = c.v.length - 12 := List.length_drop
    have hg : fromPie (pieRef c) = (c, 0) := by
      rw [fromPie_go (by omega) (by show numAt c.v 4 2 < 8; omega) (by omega), hP, hF]
      have ht : c.t = 0 := by omega
      cases c; simp only at ht ⊢; rw [ht]
    unfold toPie
    rw [hX, hg, sameB_eq.2 rfl]; simp
theorem samePie_refl (h : PieR) : samePie h h = true := by simp [samePie]
theorem fromPie_len (p : PieR) : (fromPie p).1.v.length ≤ 300 := by
  unfold fromPie
  split
  · exact Nat.zero_le _
  split
  · exact Nat.zero_le _
  · simp only; rw [pieB_len]; omega
theorem fromPie_okB {p : PieR} (hc : okB p.bytes) : okB (fromPie p).1.v := by
  unfold fromPie
  split
  · exact fun x hx => by cases hx
  split
  · exact fun x hx => by cases hx
  exact okB_append (okB_append (okB_append (okB_append (be_ok _ _) (be_ok _ _)) (be_ok _ _)) (be_ok _ _)) hc
theorem pieF_rng (p : PieR) : 0 ≤ pieF p ∧ pieF p ≤ 7 := by
  unfold pieF; cases p.u <;> cases p.b <;> cases p.e <;> decide
theorem fromPie_f (p : PieR) : 0 ≤ (fromPie p).1.f ∧ (fromPie p).1.f ≤ 255 := by
  unfold fromPie
  split
  · exact ⟨by decide, by decide⟩
  split
  · exact ⟨by decide, by decide⟩
  · have := pieF_rng p; simp only; omega
theorem pie1_ok {v X : List Int} {f : Int} (hv : okB v) (hX : okB X) (hs : sm X.length) : okPie (pie1 v f X) := by
  have a1 := num_rng hv 0 (k := 4)
  have a2 := num_rng hv 4 (k := 2)
  have a3 := num_rng hv 6 (k := 2)
  have p4 : (256 : Int) ^ 4 = 4294967296 := rfl
  have p2 : (256 : Int) ^ 2 = 65536 := rfl
  rw [p4] at a1
  rw [p2] at a2 a3
  refine ⟨?_, ?_, ?_, hX, hs⟩ <;> simp only [pie1] <;> omega
end Go.ZM
namespace Go.ZR
open Go.Z Go.ZM Go.Proofs
def pieL (p : PieR) (ck : O) : O := .agg [iO .u32 p.tsn, iO .u16 p.str, iO .u16 p.seq, bO p.b, bO p.e, bO p.u, ck]
def pieO (p : PieR) : O := pieL p (bsO p.bytes)
def pieN (p : PieR) : O := pieL p (bsN p.bytes)
def pieOfO : O → PieR
  | .agg [a, b, c, d, e, f, g] => ⟨vi (dO a), vi (dO b), vi (dO c), vb (dO d), vb (dO e), vb (dO f), vl (dO g)⟩
  | _ => noPie
def flagC : Ctr := nC 2 true (fun a => ∃ b n, a = [bO b, iO .u8 n]) fun a => [iO .u8 (flagF (vb (dO (at_ a 0))) (vi (dO (at_ a 1))))]
def fromPieC : Ctr := nC 1 false (fun a => ∃ p, a = [pieO p] ∧ okPie p) fun a => [chN (fromPie (pieOfO (at_ a 0))).1, iO .i64 (fromPie (pieOfO (at_ a 0))).2]
def toPieC : Ctr := nC 1 false (fun a => ∃ c, a = [chO c] ∧ okB c.v ∧ sm c.v.length ∧ 0 ≤ c.f ∧ c.f ≤ 255) fun a => [pieN (toPie (chOf (at_ a 0))).1, iO .i64 (toPie (chOf (at_ a 0))).2]
def samePieC : Ctr := nC 2 true (fun a => ∃ h g, a = [pieO h, pieO g]) fun a => [bO (samePie (pieOfO (at_ a 0)) (pieOfO (at_ a 1)))]
def c18 : List (Nat × Ctr) := [(45, putC), (52, flagC)]
def c19 : List (Nat × Ctr) := [(53, rdC), (54, cloneC), (23, fromPieC), (55, sameBC)]
end Go.ZR
