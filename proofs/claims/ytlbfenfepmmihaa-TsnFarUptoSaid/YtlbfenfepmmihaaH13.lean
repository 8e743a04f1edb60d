/- Part 13 of what the closing text rests on. -/
import Derived.Test.YtlbfenfepmmihaaH12
import Derived.Test.YtlbfenfepmmihaaRows
/- Hellos: walked. -/
namespace Go.ZR
open Go.Proofs
open Go.Z Go.ZM Go.RowKit
set_option maxRecDepth 100000

theorem hel_eta (h : HelR) : HelR.mk h.tag h.win h.out h.inn h.tsn h.cookie = h := rfl
theorem ch_eta (c : ChR) : ChR.mk c.t c.f c.v = c := rfl
theorem u64_id {n m : Int} (h0 : 0 ≤ n) (h1 : n ≤ m) (hm : m ≤ 18446744073709551615) : IntKind.u64.wrap n = n := by rw [IntKind.wrap_u64]; omega
theorem hel_w {h : HelR} (ok : okHel h) : IntKind.u64.wrap h.tag = h.tag ∧ IntKind.u64.wrap h.win = h.win ∧ IntKind.u64.wrap h.out = h.out ∧ IntKind.u64.wrap h.inn = h.inn ∧ IntKind.u64.wrap h.tsn = h.tsn := by
  obtain ⟨h1, h2, h3, h4, h5, _⟩ := ok
  exact ⟨u64_id h1.1 h1.2 (by decide), u64_id h2.1 h2.2 (by decide), u64_id h3.1 h3.2 (by decide), u64_id h4.1 h4.2 (by decide), u64_id h5.1 h5.2 (by decide)⟩
def hel1 (v X : List Int) : HelR := { hel0 v with cookie := X }
theorem hel1_eta (v X : List Int) : HelR.mk (numAt v 0 4) (numAt v 4 4) (numAt v 8 2) (numAt v 10 2) (numAt v 12 4) X = hel1 v X := rfl
theorem hel1_nil (v : List Int) : hel1 v [] = hel0 v := rfl
theorem num_def (v : List Int) (i : Int) (k : Nat) : valF (partF v i (k : Int)).1 = numAt v i k := rfl
theorem num_w {v : List Int} (hv : okB v) : IntKind.u32.wrap (numAt v 0 4) = numAt v 0 4 ∧ IntKind.u32.wrap (numAt v 4 4) = numAt v 4 4 ∧ IntKind.u16.wrap (numAt v 8 2) = numAt v 8 2 ∧ IntKind.u16.wrap (numAt v 10 2) = numAt v 10 2 ∧ IntKind.u32.wrap (numAt v 12 4) = numAt v 12 4 ∧
    IntKind.i64.wrap (IntKind.i64.wrap (numAt v 18 2) - 4) = numAt v 18 2 - 4 ∧ IntKind.i64.wrap (numAt v 18 2 - 4) = numAt v 18 2 - 4 := by
  have a1 := num_rng hv 0 (k := 4)
  have a2 := num_rng hv 4 (k := 4)
  have a3 := num_rng hv 8 (k := 2)
  have a4 := num_rng hv 10 (k := 2)
  have a5 := num_rng hv 12 (k := 4)
  have a6 := num_rng hv 18 (k := 2)
  have p4 : (256 : Int) ^ 4 = 4294967296 := rfl
  have p2 : (256 : Int) ^ 2 = 65536 := rfl
  rw [p4] at a1 a2 a5
  rw [p2] at a3 a4 a6
  rw [wrap_i64_id (n := numAt v 18 2) (by omega) (by omega), wrap_i64_id (n := numAt v 18 2 - 4) (by omega) (by omega)]
  refine ⟨?_, ?_, ?_, ?_, ?_, rfl, rfl⟩
  · rw [IntKind.wrap_u32]; omega
  · rw [IntKind.wrap_u32]; omega
  · rw [IntKind.wrap_u16]; omega
  · rw [IntKind.wrap_u16]; omega
  · rw [IntKind.wrap_u32]; omega
theorem toHel_e1 {c : ChR} {H : HelR} (ho : helOf c = H) (e : ¬ (fromHel H (decide (c.t = 2))).2 = 0) : toHel c = (noHel, 2) := by subst ho; unfold toHel; rw [if_pos (.inl e)]
theorem toHel_e2 {c : ChR} {H : HelR} (ho : helOf c = H) (e : sameB (fromHel H (decide (c.t = 2))).1 c = false) : toHel c = (noHel, 2) := by subst ho; unfold toHel; rw [if_pos (.inr e)]
theorem toHel_e3 {c : ChR} {H : HelR} (ho : helOf c = H) (e : (fromHel H (decide (c.t = 2))).2 = 0) (e' : sameB (fromHel H (decide (c.t = 2))).1 c = true) : toHel c = (H, 0) := by
  subst ho; unfold toHel; rw [if_neg]; rw [e, e']; simp
theorem err_leaf {r : HelR × Int} (h : r = (noHel, 2)) : 0 = r.1.tag ∧ 0 = r.1.win ∧ 0 = r.1.out ∧ 0 = r.1.inn ∧ 0 = r.1.tsn ∧ r.1.cookie = [] ∧ 2 = r.2 := by rw [h]; exact ⟨rfl, rfl, rfl, rfl, rfl, rfl, rfl⟩
theorem ok_leaf {r : HelR × Int} {v X : List Int} (h : r = (hel1 v X, 0)) : numAt v 0 4 = r.1.tag ∧ numAt v 4 4 = r.1.win ∧ numAt v 8 2 = r.1.out ∧ numAt v 10 2 = r.1.inn ∧ numAt v 12 4 = r.1.tsn ∧ X = r.1.cookie ∧ 0 = r.2 := by rw [h]; exact ⟨rfl, rfl, rfl, rfl, rfl, rfl, rfl⟩
theorem ok_leaf0 {r : HelR × Int} {v : List Int} (h : r = (hel0 v, 0)) : numAt v 0 4 = r.1.tag ∧ numAt v 4 4 = r.1.win ∧ numAt v 8 2 = r.1.out ∧ numAt v 10 2 = r.1.inn ∧ numAt v 12 4 = r.1.tsn ∧ r.1.cookie = [] ∧ 0 = r.2 := by rw [h]; exact ⟨rfl, rfl, rfl, rfl, rfl, rfl, rfl⟩
theorem ref_e1 {c : ChR} (h : c.t ≠ 1 ∧ c.t ≠ 2 ∨ c.v.length < 16) : toHelRef c = (noHel, 2) := by unfold toHelRef; rw [if_pos h]
theorem ref_e2 {c : ChR} (h : c.t = 2 ∧ c.v.length < 20) : toHelRef c = (noHel, 2) := by
  unfold toHelRef; split
  · rfl
  · first | rfl | rw [if_pos h]
theorem ref_e3 {c : ChR} (h : c.t = 2 ∧ (numAt c.v 18 2 - 4 < 0 ∨ (c.v.length : Int) - 20 < numAt c.v 18 2 - 4)) : toHelRef c = (noHel, 2) := by
  unfold toHelRef; split
  · rfl
  split
  · rfl
  · first | rfl | rw [if_pos h]
theorem ref_e4 {c : ChR} {H : HelR} (ho : helRef c = H) (e : ¬ (fromHel H (decide (c.t = 2))).2 = 0 ∨ sameB (fromHel H (decide (c.t = 2))).1 c = false) : toHelRef c = (noHel, 2) := by
  subst ho; unfold toHelRef; split
  · rfl
  split
  · rfl
  split
  · rfl
  · first | rfl | rw [if_pos e]
theorem ref_ok {c : ChR} {H : HelR} (ho : helRef c = H) (h1 : ¬ (c.t ≠ 1 ∧ c.t ≠ 2 ∨ c.v.length < 16)) (h2 : ¬ (c.t = 2 ∧ c.v.length < 20)) (h3 : ¬ (c.t = 2 ∧ (numAt c.v 18 2 - 4 < 0 ∨ (c.v.length : Int) - 20 < numAt c.v 18 2 - 4)))
    (e : (fromHel H (decide (c.t = 2))).2 = 0) (e' : sameB (fromHel H (decide (c.t = 2))).1 c = true) : toHelRef c = (H, 0) := by
  subst ho; unfold toHelRef; rw [if_neg h1, if_neg h2, if_neg h3, if_neg]; rw [e, e']; simp
theorem from_e1 {h : HelR} {b : Bool} (e : greetF h b = false) : fromHel h b = (noCh, 2) := by unfold fromHel; rw [if_pos e]
theorem from_e2 {h : HelR} {b : Bool} (e : greetF h b = true) (e' : 256 < h.cookie.length) : fromHel h b = (noCh, 4) := by unfold fromHel; rw [if_neg (by rw [e]; simp), if_pos e']
theorem from_t {h : HelR} (e : greetF h true = true) (e' : ¬ 256 < h.cookie.length) : fromHel h true = (⟨2, 0, ckB h⟩, 0) := by unfold fromHel; rw [if_neg (by rw [e]; simp), if_neg e']; rfl
theorem from_f {h : HelR} (e : greetF h false = true) (e' : ¬ 256 < h.cookie.length) : fromHel h false = (⟨1, 0, helB h⟩, 0) := by unfold fromHel; rw [if_neg (by rw [e]; simp), if_neg e']; rfl
theorem leaf0 {r : ChR × Int} {e : Int} (h : r = (noCh, e)) : 0 = r.1.t ∧ 0 = r.1.f ∧ r.1.v = [] ∧ e = r.2 := by rw [h]; exact ⟨rfl, rfl, rfl, rfl⟩
theorem greet_f {h : HelR} {b : Bool} : greetF h b = false ↔ h.tag = 0 ∨ h.out = 0 ∨ h.inn = 0 ∨ (b = false ∧ 0 < h.cookie.length) := by
  unfold greetF
  cases b <;> simp
  · constructor
    · intro h1
      by_cases a : h.tag = 0
      · exact .inl a
      by_cases b : h.out = 0
      · exact .inr (.inl b)
      by_cases c : h.inn = 0
      · exact .inr (.inr (.inl c))
      · exact .inr (.inr (.inr (List.length_pos_iff.2 (h1 a b c))))
    · rintro (h1 | h1 | h1 | h1) a b c
      · exact absurd h1 a
      · exact absurd h1 b
      · exact absurd h1 c
      · exact List.length_pos_iff.1 h1
  · constructor
    · intro h1
      by_cases a : h.tag = 0
      · exact .inl a
      by_cases b : h.out = 0
      · exact .inr (.inl b)
      · exact .inr (.inr (h1 a b))
    · rintro (h1 | h1 | h1) a b
      · exact absurd h1 a
      · exact absurd h1 b
      · exact h1
theorem from_rest {h : HelR} {b : Bool} (hs : sm h.cookie.length) (hg : greetF h b = true) (hl : ¬ 256 < h.cookie.length) : (∃ (b_1 : List Int) (n : Int) (k : Nat), [O.d (D.ints IntKind.u8 ([] : List Int)), O.d (D.v (Value.int IntKind.u64 h.tag)), O.d (D.v (Value.int IntKind.i64 (4 : Int)))] = [O.d (D.ints IntKind.u8 b_1), O.d (D.v (Value.int IntKind.u64 n)), O.d (D.v (Value.int IntKind.i64 (k : Int)))] ∧ sm b_1.length ∧ 1 ≤ k ∧ k ≤ 8) ∧ (∃ (b_1 : List Int) (n : Int) (k : Nat), [O.d (D.ints IntKind.u8 (be h.tag 4)), O.d (D.v (Value.int IntKind.u64 h.win)), O.d (D.v (Value.int IntKind.i64 (4 : Int)))] = [O.d (D.ints IntKind.u8 b_1), O.d (D.v (Value.int IntKind.u64 n)), O.d (D.v (Value.int IntKind.i64 (k : Int)))] ∧ sm b_1.length ∧ 1 ≤ k ∧ k ≤ 8) ∧ (∃ (b_1 : List Int) (n : Int) (k : Nat), [O.d (D.ints IntKind.u8 (be h.tag 4 ++ be h.win 4)), O.d (D.v (Value.int IntKind.u64 h.out)), O.d (D.v (Value.int IntKind.i64 2))] = [O.d (D.ints IntKind.u8 b_1), O.d (D.v (Value.int IntKind.u64 n)), O.d (D.v (Value.int IntKind.i64 (k : Int)))] ∧ sm b_1.length ∧ 1 ≤ k ∧ k ≤ 8) ∧ (∃ (b_1 : List Int) (n : Int) (k : Nat), [O.d (D.ints IntKind.u8 (be h.tag 4 ++ be h.win 4 ++ be h.out 2)), O.d (D.v (Value.int IntKind.u64 h.inn)), O.d (D.v (Value.int IntKind.i64 2))] = [O.d (D.ints IntKind.u8 b_1), O.d (D.v (Value.int IntKind.u64 n)), O.d (D.v (Value.int IntKind.i64 (k : Int)))] ∧ sm b_1.length ∧ 1 ≤ k ∧ k ≤ 8) ∧ (∃ (b_1 : List Int) (n : Int) (k : Nat), [O.d (D.ints IntKind.u8 (be h.tag 4 ++ be h.win 4 ++ be h.out 2 ++ be h.inn 2)), O.d (D.v (Value.int IntKind.u64 h.tsn)), O.d (D.v (Value.int IntKind.i64 (4 : Int)))] = [O.d (D.ints IntKind.u8 b_1), O.d (D.v (Value.int IntKind.u64 n)), O.d (D.v (Value.int IntKind.i64 (k : Int)))] ∧ sm b_1.length ∧ 1 ≤ k ∧ k ≤ 8) ∧ (b = false → 1 = (fromHel h b).fst.t ∧ 0 = (fromHel h b).fst.f ∧ be h.tag 4 ++ be h.win 4 ++ be h.out 2 ++ be h.inn 2 ++ be h.tsn 4 = (fromHel h b).fst.v ∧ 0 = (fromHel h b).snd) ∧ (b = true → (∃ (b_1 : List Int) (n : Int) (k : Nat), [O.d (D.ints IntKind.u8 (be h.tag 4 ++ be h.win 4 ++ be h.out 2 ++ be h.inn 2 ++ be h.tsn 4)), O.d (D.v (Value.int IntKind.u64 7)), O.d (D.v (Value.int IntKind.i64 2))] = [O.d (D.ints IntKind.u8 b_1), O.d (D.v (Value.int IntKind.u64 n)), O.d (D.v (Value.int IntKind.i64 (k : Int)))] ∧ sm b_1.length ∧ 1 ≤ k ∧ k ≤ 8) ∧ (∃ (b_1 : List Int) (n : Int) (k : Nat), [O.d (D.ints IntKind.u8 (be h.tag 4 ++ be h.win 4 ++ be h.out 2 ++ be h.inn 2 ++ be h.tsn 4 ++ be 7 2)), O.d (D.v (Value.int IntKind.u64 (IntKind.u64.wrap (IntKind.i64.wrap (4 + (h.cookie.length : Int)))))), O.d (D.v (Value.int IntKind.i64 2))] = [O.d (D.ints IntKind.u8 b_1), O.d (D.v (Value.int IntKind.u64 n)), O.d (D.v (Value.int IntKind.i64 (k : Int)))] ∧ sm b_1.length ∧ 1 ≤ k ∧ k ≤ 8) ∧ (∃ l : List Int, [O.d (D.ints IntKind.u8 h.cookie)] = [O.d (D.ints IntKind.u8 l)] ∧ sm l.length) ∧ 20 + (padF h.cookie).length ≤ 140737488355328 ∧ 2 = (fromHel h b).fst.t ∧ 0 = (fromHel h b).fst.f ∧ be h.tag 4 ++ be h.win 4 ++ be h.out 2 ++ be h.inn 2 ++ be h.tsn 4 ++ be 7 2 ++ be (IntKind.u64.wrap (IntKind.i64.wrap (4 + (h.cookie.length : Int)))) 2 ++ padF h.cookie = (fromHel h b).fst.v ∧ 0 = (fromHel h b).snd) := by
  have hs' := hs
  unfold sm at hs'
  have hp := padN_le h.cookie.length
  refine ⟨⟨_, _, 4, rfl, by unfold sm; simp, by decide, by decide⟩, ⟨_, _, 4, rfl, by unfold sm; simp [be_len], by decide, by decide⟩, ⟨_, _, 2, rfl, by unfold sm; simp [be_len], by decide, by decide⟩, ⟨_, _, 2, rfl, by unfold sm; simp [be_len], by decide, by decide⟩, ⟨_, _, 4, rfl, by unfold sm; simp [be_len], by decide, by decide⟩, fun hb => ?_, fun hb => ?_⟩
  · subst hb; rw [from_f hg hl]; exact ⟨rfl, rfl, rfl, rfl⟩
  · subst hb
    rw [from_t hg hl, wrap_len hs']
    exact ⟨⟨_, _, 2, rfl, by unfold sm; simp [be_len], by decide, by decide⟩, ⟨_, _, 2, rfl, by unfold sm; simp [be_len], by decide, by decide⟩, ⟨_, rfl, hs⟩, by rw [padF_len]; omega, rfl, rfl, by simp [ckB, helB], rfl⟩
theorem c6_ok : COk Try.prog (ctrs c6) := (cok_cons ok65 (cok_cons ok156 cok_nil))
noncomputable def code197 : Code := match Try.f197.body with | some c => c | none => .skip
set_option maxHeartbeats 4000000 in
theorem vc197 : ∀ (h : HelR) (b : Bool), True ∧ sw (!decide (h.tag = (0 : Int))) (SV.p (1 : Nat) (2 : Nat) = SV.p (1 : Nat) (2 : Nat)) True ∧ sw (!decide (h.tag = (0 : Int))) ([!decide (h.tag = (0 : Int))] = [!decide (h.tag = (0 : Int))] ∧
  SV.c (Value.int IntKind.u16 h.out) = SV.c (Value.int IntKind.u16 h.out)) True ∧ sw (!decide (h.tag = (0 : Int))) ([!decide (h.tag = (0 : Int))] = [!decide (h.tag = (0 : Int))] ∧
  True ∧ SV.c (Value.bool !decide (h.out = (0 : Int))) = SV.c (Value.bool !decide (h.out = (0 : Int)))) True ∧ [!decide (h.tag = (0 : Int))] = [!decide (h.tag = (0 : Int))] ∧
  sw (!decide (h.tag = (0 : Int)) && !decide (h.out = (0 : Int))) (SV.p (1 : Nat) (3 : Nat) = SV.p (1 : Nat) (3 : Nat)) True ∧ sw (!decide (h.tag = (0 : Int)) && !decide (h.out = (0 : Int))) ([!decide (h.tag = (0 : Int)) && !decide (h.out = (0 : Int))] = [!decide (h.tag = (0 : Int)) && !decide (h.out = (0 : Int))] ∧
  SV.c (Value.int IntKind.u16 h.inn) = SV.c (Value.int IntKind.u16 h.inn)) True ∧ sw (!decide (h.tag = (0 : Int)) && !decide (h.out = (0 : Int))) ([!decide (h.tag = (0 : Int)) && !decide (h.out = (0 : Int))] = [!decide (h.tag = (0 : Int)) && !decide (h.out = (0 : Int))] ∧
  True ∧ SV.c (Value.bool !decide (h.inn = (0 : Int))) = SV.c (Value.bool !decide (h.inn = (0 : Int)))) True ∧ [!decide (h.tag = (0 : Int)) && !decide (h.out = (0 : Int))] = [!decide (h.tag = (0 : Int)) && !decide (h.out = (0 : Int))] ∧
  sw (!decide (h.tag = (0 : Int)) && !decide (h.out = (0 : Int)) && !decide (h.inn = (0 : Int))) (SV.c (Value.bool b) = SV.c (Value.bool b)) True ∧ sw (!decide (h.tag = (0 : Int)) && !decide (h.out = (0 : Int)) && !decide (h.inn = (0 : Int))) ([!decide (h.tag = (0 : Int)) && !decide (h.out = (0 : Int)) && !decide (h.inn = (0 : Int))] = [!decide (h.tag = (0 : Int)) && !decide (h.out = (0 : Int)) && !decide (h.inn = (0 : Int))] ∧
  SV.c (Value.bool b) = SV.c (Value.bool b)) True ∧ sw (!b && (!decide (h.tag = (0 : Int)) && !decide (h.out = (0 : Int)) && !decide (h.inn = (0 : Int)))) (SV.p (1 : Nat) (5 : Nat) = SV.p (1 : Nat) (5 : Nat)) True ∧
  sw (!b && (!decide (h.tag = (0 : Int)) && !decide (h.out = (0 : Int)) && !decide (h.inn = (0 : Int)))) ([!b, !decide (h.tag = (0 : Int)) && !decide (h.out = (0 : Int)) && !decide (h.inn = (0 : Int))] = [!b, !decide (h.tag = (0 : Int)) && !decide (h.out = (0 : Int)) && !decide (h.inn = (0 : Int))] ∧
  SV.a (0 : Nat) = SV.a (0 : Nat)) True ∧ sw (!b && (!decide (h.tag = (0 : Int)) && !decide (h.out = (0 : Int)) && !decide (h.inn = (0 : Int)))) ([!b, !decide (h.tag = (0 : Int)) && !decide (h.out = (0 : Int)) && !decide (h.inn = (0 : Int))] = [!b, !decide (h.tag = (0 : Int)) && !decide (h.out = (0 : Int)) && !decide (h.inn = (0 : Int))] ∧
  SV.c (Value.int IntKind.i64 (↑h.cookie.length : Int)) = SV.c (Value.int IntKind.i64 (↑h.cookie.length : Int))) True ∧ sw (!b && (!decide (h.tag = (0 : Int)) && !decide (h.out = (0 : Int)) && !decide (h.inn = (0 : Int)))) ([!b, !decide (h.tag = (0 : Int)) && !decide (h.out = (0 : Int)) && !decide (h.inn = (0 : Int))] = [!b, !decide (h.tag = (0 : Int)) && !decide (h.out = (0 : Int)) && !decide (h.inn = (0 : Int))] ∧
  True ∧ SV.c (Value.bool (decide ((↑h.cookie.length : Int) = (0 : Int)))) = SV.c (Value.bool (decide ((↑h.cookie.length : Int) = (0 : Int))))) True ∧ sw (!decide (h.tag = (0 : Int)) && !decide (h.out = (0 : Int)) && !decide (h.inn = (0 : Int))) ([!decide (h.tag = (0 : Int)) && !decide (h.out = (0 : Int)) && !decide (h.inn = (0 : Int))] = [!decide (h.tag = (0 : Int)) && !decide (h.out = (0 : Int)) && !decide (h.inn = (0 : Int))] ∧
  [!b, !decide (h.tag = (0 : Int)) && !decide (h.out = (0 : Int)) && !decide (h.inn = (0 : Int))] = [!b, !decide (h.tag = (0 : Int)) && !decide (h.out = (0 : Int)) && !decide (h.inn = (0 : Int))] ∧
  SV.c (Value.bool (b || decide ((↑h.cookie.length : Int) = (0 : Int)))) = SV.c (Value.bool (b || decide ((↑h.cookie.length : Int) = (0 : Int))))) True ∧
  [!decide (h.tag = (0 : Int)) && !decide (h.out = (0 : Int)) && !decide (h.inn = (0 : Int))] = [!decide (h.tag = (0 : Int)) && !decide (h.out = (0 : Int)) && !decide (h.inn = (0 : Int))] ∧
  (!decide (h.tag = (0 : Int)) && !decide (h.out = (0 : Int)) && !decide (h.inn = (0 : Int)) && (b || decide ((↑h.cookie.length : Int) = (0 : Int)))) = greetF (HelR.mk h.tag h.win h.out h.inn h.tsn h.cookie) b ∧
  (true && true) = true := by
  simp only [↓sw_iff, ↓Bool.and_eq_true, ↓Bool.and_eq_false_iff, ↓decide_eq_true_eq, ↓decide_eq_false_iff_not, ↓Bool.not_eq_true', ↓Bool.not_eq_false', true_and, and_true, implies_true, hel_eta]
  intro h b
  unfold greetF
  have : decide ((h.cookie.length : Int) = 0) = decide (h.cookie.length = 0) := by rw [decide_eq_decide]; omega
  rw [this]
set_option maxRecDepth 100000 in
theorem ok197 : FnIs Try.prog 197 greetC := by
  refine fnIs (C := (ctrs c0)) (by kernel_rfl) c0_ok Try.func197 (code := code197) (by kernel_rfl) (by kernel_rfl) ?_
  rintro a ⟨h, b, rfl⟩
  exact ⟨anns [], kcast (vc197 h b) (by kernel_rfl)⟩

theorem c12_ok : COk Try.prog (ctrs c12) := cok_cons ok197 (cok_cons ok198 (cok_cons ok199 cok_nil))

noncomputable def code155 : Code := match Try.f155.body with | some c => c | none => .skip
set_option maxHeartbeats 4000000 in
theorem vc155 : ∀ (h : HelR) (b : Bool), okHel h → (∃ (h_1 : HelR), ∃ (b_1 : Bool), [O.agg [O.d (D.v (Value.int IntKind.u32 h.tag)), O.d (D.v (Value.int IntKind.u32 h.win)), O.d (D.v (Value.int IntKind.u16 h.out)), O.d (D.v (Value.int IntKind.u16 h.inn)), O.d (D.v (Value.int IntKind.u32 h.tsn)), O.d (D.ints IntKind.u8 h.cookie)], O.d (D.v (Value.bool b))] = [O.agg [O.d (D.v (Value.int IntKind.u32 h_1.tag)), O.d (D.v (Value.int IntKind.u32 h_1.win)), O.d (D.v (Value.int IntKind.u16 h_1.out)), O.d (D.v (Value.int IntKind.u16 h_1.inn)), O.d (D.v (Value.int IntKind.u32 h_1.tsn)), O.d (D.ints IntKind.u8 h_1.cookie)], O.d (D.v (Value.bool b_1))]) ∧
  sw (!greetF (HelR.mk h.tag h.win h.out h.inn h.tsn h.cookie) b) ((0 : Int) = (fromHel (HelR.mk h.tag h.win h.out h.inn h.tsn h.cookie) b).fst.t ∧ (0 : Int) = (fromHel (HelR.mk h.tag h.win h.out h.inn h.tsn h.cookie) b).fst.f ∧
  (fromHel (HelR.mk h.tag h.win h.out h.inn h.tsn h.cookie) b).fst.v = [] ∧ (2 : Int) = (fromHel (HelR.mk h.tag h.win h.out h.inn h.tsn h.cookie) b).snd ∧
  (true && true) = true) (True ∧ sw (decide ((256 : Int) < (↑h.cookie.length : Int))) ((0 : Int) = (fromHel (HelR.mk h.tag h.win h.out h.inn h.tsn h.cookie) b).fst.t ∧
  (0 : Int) = (fromHel (HelR.mk h.tag h.win h.out h.inn h.tsn h.cookie) b).fst.f ∧ (fromHel (HelR.mk h.tag h.win h.out h.inn h.tsn h.cookie) b).fst.v = [] ∧
  (4 : Int) = (fromHel (HelR.mk h.tag h.win h.out h.inn h.tsn h.cookie) b).snd ∧ (true && true) = true) (((∃ (b_1 : List Int), ∃ (n : Int), ∃ (k : Nat), [O.d (D.ints IntKind.u8 []), O.d (D.v (Value.int IntKind.u64 (IntKind.u64.wrap h.tag))), O.d (D.v (Value.int IntKind.i64 (4 : Int)))] = [O.d (D.ints IntKind.u8 b_1), O.d (D.v (Value.int IntKind.u64 n)), O.d (D.v (Value.int IntKind.i64 (↑k : Int)))] ∧
  sm b_1.length ∧ (1 : Nat) ≤ k ∧ k ≤ (8 : Nat)) ∧ ((∃ (b_1 : List Int), ∃ (n : Int), ∃ (k : Nat), [O.d (D.ints IntKind.u8 ([] ++ be (IntKind.u64.wrap h.tag) (Int.toNat (4 : Int)))), O.d (D.v (Value.int IntKind.u64 (IntKind.u64.wrap h.win))), O.d (D.v (Value.int IntKind.i64 (4 : Int)))] = [O.d (D.ints IntKind.u8 b_1), O.d (D.v (Value.int IntKind.u64 n)), O.d (D.v (Value.int IntKind.i64 (↑k : Int)))] ∧
  sm b_1.length ∧ (1 : Nat) ≤ k ∧ k ≤ (8 : Nat)) ∧ ((∃ (b_1 : List Int), ∃ (n : Int), ∃ (k : Nat), [O.d (D.ints IntKind.u8 ([] ++ be (IntKind.u64.wrap h.tag) (Int.toNat (4 : Int)) ++ be (IntKind.u64.wrap h.win) (Int.toNat (4 : Int)))), O.d (D.v (Value.int IntKind.u64 (IntKind.u64.wrap h.out))), O.d (D.v (Value.int IntKind.i64 (2 : Int)))] = [O.d (D.ints IntKind.u8 b_1), O.d (D.v (Value.int IntKind.u64 n)), O.d (D.v (Value.int IntKind.i64 (↑k : Int)))] ∧
  sm b_1.length ∧ (1 : Nat) ≤ k ∧ k ≤ (8 : Nat)) ∧ ((∃ (b_1 : List Int), ∃ (n : Int), ∃ (k : Nat), [O.d (D.ints IntKind.u8 ([] ++ be (IntKind.u64.wrap h.tag) (Int.toNat (4 : Int)) ++ be (IntKind.u64.wrap h.win) (Int.toNat (4 : Int)) ++ be (IntKind.u64.wrap h.out) (Int.toNat (2 : Int)))), O.d (D.v (Value.int IntKind.u64 (IntKind.u64.wrap h.inn))), O.d (D.v (Value.int IntKind.i64 (2 : Int)))] = [O.d (D.ints IntKind.u8 b_1), O.d (D.v (Value.int IntKind.u64 n)), O.d (D.v (Value.int IntKind.i64 (↑k : Int)))] ∧
  sm b_1.length ∧ (1 : Nat) ≤ k ∧ k ≤ (8 : Nat)) ∧ ((∃ (b_1 : List Int), ∃ (n : Int), ∃ (k : Nat), [O.d (D.ints IntKind.u8 ([] ++ be (IntKind.u64.wrap h.tag) (Int.toNat (4 : Int)) ++ be (IntKind.u64.wrap h.win) (Int.toNat (4 : Int)) ++ be (IntKind.u64.wrap h.out) (Int.toNat (2 : Int)) ++ be (IntKind.u64.wrap h.inn) (Int.toNat (2 : Int)))), O.d (D.v (Value.int IntKind.u64 (IntKind.u64.wrap h.tsn))), O.d (D.v (Value.int IntKind.i64 (4 : Int)))] = [O.d (D.ints IntKind.u8 b_1), O.d (D.v (Value.int IntKind.u64 n)), O.d (D.v (Value.int IntKind.i64 (↑k : Int)))] ∧
  sm b_1.length ∧ (1 : Nat) ≤ k ∧ k ≤ (8 : Nat)) ∧ sw (!b) ((1 : Int) = (fromHel (HelR.mk h.tag h.win h.out h.inn h.tsn h.cookie) b).fst.t ∧ (0 : Int) = (fromHel (HelR.mk h.tag h.win h.out h.inn h.tsn h.cookie) b).fst.f ∧
  [] ++ be (IntKind.u64.wrap h.tag) (Int.toNat (4 : Int)) ++ be (IntKind.u64.wrap h.win) (Int.toNat (4 : Int)) ++ be (IntKind.u64.wrap h.out) (Int.toNat (2 : Int)) ++ be (IntKind.u64.wrap h.inn) (Int.toNat (2 : Int)) ++ be (IntKind.u64.wrap h.tsn) (Int.toNat (4 : Int)) = (fromHel (HelR.mk h.tag h.win h.out h.inn h.tsn h.cookie) b).fst.v ∧
  (0 : Int) = (fromHel (HelR.mk h.tag h.win h.out h.inn h.tsn h.cookie) b).snd ∧ (!false && true && true) = true) (True ∧ ((∃ (b_1 : List Int), ∃ (n : Int), ∃ (k : Nat), [O.d (D.ints IntKind.u8 ([] ++ be (IntKind.u64.wrap h.tag) (Int.toNat (4 : Int)) ++ be (IntKind.u64.wrap h.win) (Int.toNat (4 : Int)) ++ be (IntKind.u64.wrap h.out) (Int.toNat (2 : Int)) ++ be (IntKind.u64.wrap h.inn) (Int.toNat (2 : Int)) ++ be (IntKind.u64.wrap h.tsn) (Int.toNat (4 : Int)))), O.d (D.v (Value.int IntKind.u64 (7 : Int))), O.d (D.v (Value.int IntKind.i64 (2 : Int)))] = [O.d (D.ints IntKind.u8 b_1), O.d (D.v (Value.int IntKind.u64 n)), O.d (D.v (Value.int IntKind.i64 (↑k : Int)))] ∧
  sm b_1.length ∧ (1 : Nat) ≤ k ∧ k ≤ (8 : Nat)) ∧ ((∃ (b_1 : List Int), ∃ (n : Int), ∃ (k : Nat), [O.d (D.ints IntKind.u8 ([] ++ be (IntKind.u64.wrap h.tag) (Int.toNat (4 : Int)) ++ be (IntKind.u64.wrap h.win) (Int.toNat (4 : Int)) ++ be (IntKind.u64.wrap h.out) (Int.toNat (2 : Int)) ++ be (IntKind.u64.wrap h.inn) (Int.toNat (2 : Int)) ++ be (IntKind.u64.wrap h.tsn) (Int.toNat (4 : Int)) ++ be (7 : Int) (Int.toNat (2 : Int)))), O.d (D.v (Value.int IntKind.u64 (IntKind.u64.wrap (IntKind.i64.wrap ((4 : Int) + (↑h.cookie.length : Int)))))), O.d (D.v (Value.int IntKind.i64 (2 : Int)))] = [O.d (D.ints IntKind.u8 b_1), O.d (D.v (Value.int IntKind.u64 n)), O.d (D.v (Value.int IntKind.i64 (↑k : Int)))] ∧
  sm b_1.length ∧ (1 : Nat) ≤ k ∧ k ≤ (8 : Nat)) ∧ (∃ (l : List Int), [O.d (D.ints IntKind.u8 h.cookie)] = [O.d (D.ints IntKind.u8 l)] ∧ sm l.length) ∧ True ∧
  ((20 : Nat) + (padF h.cookie).length) * Try.prog.types[(5 : Nat)].bytes ≤ (140737488355328 : Nat) ∧ (2 : Int) = (fromHel (HelR.mk h.tag h.win h.out h.inn h.tsn h.cookie) b).fst.t ∧
  (0 : Int) = (fromHel (HelR.mk h.tag h.win h.out h.inn h.tsn h.cookie) b).fst.f ∧ [] ++ be (IntKind.u64.wrap h.tag) (Int.toNat (4 : Int)) ++ be (IntKind.u64.wrap h.win) (Int.toNat (4 : Int)) ++ be (IntKind.u64.wrap h.out) (Int.toNat (2 : Int)) ++ be (IntKind.u64.wrap h.inn) (Int.toNat (2 : Int)) ++ be (IntKind.u64.wrap h.tsn) (Int.toNat (4 : Int)) ++ be (7 : Int) (Int.toNat (2 : Int)) ++ be (IntKind.u64.wrap (IntKind.i64.wrap ((4 : Int) + (↑h.cookie.length : Int)))) (Int.toNat (2 : Int)) ++ padF h.cookie = (fromHel (HelR.mk h.tag h.win h.out h.inn h.tsn h.cookie) b).fst.v ∧
  (0 : Int) = (fromHel (HelR.mk h.tag h.win h.out h.inn h.tsn h.cookie) b).snd ∧ (!false && true && true) = true) ∧ True) ∧ True)) ∧ True) ∧ True) ∧ True) ∧
  True) ∧ True)) := by
  simp only [↓sw_iff, ↓Bool.and_eq_true, ↓decide_eq_true_eq, ↓decide_eq_false_iff_not, ↓Bool.not_eq_true', ↓Bool.not_eq_false', true_and, and_true, List.nil_append, Nat.mul_one, bytes5, toNat2, toNat4, hel_eta]
  intro h b ok
  obtain ⟨w1, w2, w3, w4, w5⟩ := hel_w ok
  simp only [w1, w2, w3, w4, w5]
  have hs : sm h.cookie.length := ok.2.2.2.2.2.2
  refine ⟨⟨h, b, rfl⟩, fun hg => leaf0 (from_e1 hg), fun hg => ⟨fun hl => leaf0 (from_e2 hg (by omega)), fun hl => from_rest hs hg (by omega)⟩⟩
set_option maxRecDepth 100000 in
theorem ok155 : FnIs Try.prog 155 fromHelC := by
  refine fnIs (C := (ctrs c12)) (by kernel_rfl) c12_ok Try.func155 (code := code155) (by kernel_rfl) (by kernel_rfl) ?_
  rintro a ⟨h, b, rfl, ok⟩
  exact ⟨anns [], kcast (vc155 h b ok) (by kernel_rfl)⟩

noncomputable def code116 : Code := match Try.f116.body with | some c => c | none => .skip
set_option maxHeartbeats 4000000 in
theorem vc116 : ∀ (h : HelR) (b : Bool), okHel h → True ∧ sw (decide (h.tag = (0 : Int))) ((0 : Int) = (fromHel (HelR.mk h.tag h.win h.out h.inn h.tsn h.cookie) b).fst.t ∧
  (0 : Int) = (fromHel (HelR.mk h.tag h.win h.out h.inn h.tsn h.cookie) b).fst.f ∧ (fromHel (HelR.mk h.tag h.win h.out h.inn h.tsn h.cookie) b).fst.v = [] ∧
  (2 : Int) = (fromHel (HelR.mk h.tag h.win h.out h.inn h.tsn h.cookie) b).snd ∧ (true && true) = true) (True ∧ sw (decide (h.out = (0 : Int))) ((0 : Int) = (fromHel (HelR.mk h.tag h.win h.out h.inn h.tsn h.cookie) b).fst.t ∧
  (0 : Int) = (fromHel (HelR.mk h.tag h.win h.out h.inn h.tsn h.cookie) b).fst.f ∧ (fromHel (HelR.mk h.tag h.win h.out h.inn h.tsn h.cookie) b).fst.v = [] ∧
  (2 : Int) = (fromHel (HelR.mk h.tag h.win h.out h.inn h.tsn h.cookie) b).snd ∧ (true && true) = true) (True ∧ sw (decide (h.inn = (0 : Int))) ((0 : Int) = (fromHel (HelR.mk h.tag h.win h.out h.inn h.tsn h.cookie) b).fst.t ∧
  (0 : Int) = (fromHel (HelR.mk h.tag h.win h.out h.inn h.tsn h.cookie) b).fst.f ∧ (fromHel (HelR.mk h.tag h.win h.out h.inn h.tsn h.cookie) b).fst.v = [] ∧
  (2 : Int) = (fromHel (HelR.mk h.tag h.win h.out h.inn h.tsn h.cookie) b).snd ∧ (true && true) = true) (sw (!b) (True ∧ sw (decide ((0 : Int) < (↑h.cookie.length : Int))) ((0 : Int) = (fromHel (HelR.mk h.tag h.win h.out h.inn h.tsn h.cookie) b).fst.t ∧
  (0 : Int) = (fromHel (HelR.mk h.tag h.win h.out h.inn h.tsn h.cookie) b).fst.f ∧ (fromHel (HelR.mk h.tag h.win h.out h.inn h.tsn h.cookie) b).fst.v = [] ∧
  (2 : Int) = (fromHel (HelR.mk h.tag h.win h.out h.inn h.tsn h.cookie) b).snd ∧ (true && true) = true) (True ∧ sw (decide ((256 : Int) < (↑h.cookie.length : Int))) ((0 : Int) = (fromHel (HelR.mk h.tag h.win h.out h.inn h.tsn h.cookie) b).fst.t ∧
  (0 : Int) = (fromHel (HelR.mk h.tag h.win h.out h.inn h.tsn h.cookie) b).fst.f ∧ (fromHel (HelR.mk h.tag h.win h.out h.inn h.tsn h.cookie) b).fst.v = [] ∧
  (4 : Int) = (fromHel (HelR.mk h.tag h.win h.out h.inn h.tsn h.cookie) b).snd ∧ (true && true) = true) ((∃ (b_1 : List Int), ∃ (n : Int), ∃ (k : Nat), [O.d (D.ints IntKind.u8 []), O.d (D.v (Value.int IntKind.u64 (IntKind.u64.wrap h.tag))), O.d (D.v (Value.int IntKind.i64 (4 : Int)))] = [O.d (D.ints IntKind.u8 b_1), O.d (D.v (Value.int IntKind.u64 n)), O.d (D.v (Value.int IntKind.i64 (↑k : Int)))] ∧
  sm b_1.length ∧ (1 : Nat) ≤ k ∧ k ≤ (8 : Nat)) ∧ (∃ (b_1 : List Int), ∃ (n : Int), ∃ (k : Nat), [O.d (D.ints IntKind.u8 ([] ++ be (IntKind.u64.wrap h.tag) (Int.toNat (4 : Int)))), O.d (D.v (Value.int IntKind.u64 (IntKind.u64.wrap h.win))), O.d (D.v (Value.int IntKind.i64 (4 : Int)))] = [O.d (D.ints IntKind.u8 b_1), O.d (D.v (Value.int IntKind.u64 n)), O.d (D.v (Value.int IntKind.i64 (↑k : Int)))] ∧
  sm b_1.length ∧ (1 : Nat) ≤ k ∧ k ≤ (8 : Nat)) ∧ (∃ (b_1 : List Int), ∃ (n : Int), ∃ (k : Nat), [O.d (D.ints IntKind.u8 ([] ++ be (IntKind.u64.wrap h.tag) (Int.toNat (4 : Int)) ++ be (IntKind.u64.wrap h.win) (Int.toNat (4 : Int)))), O.d (D.v (Value.int IntKind.u64 (IntKind.u64.wrap h.out))), O.d (D.v (Value.int IntKind.i64 (2 : Int)))] = [O.d (D.ints IntKind.u8 b_1), O.d (D.v (Value.int IntKind.u64 n)), O.d (D.v (Value.int IntKind.i64 (↑k : Int)))] ∧
  sm b_1.length ∧ (1 : Nat) ≤ k ∧ k ≤ (8 : Nat)) ∧ (∃ (b_1 : List Int), ∃ (n : Int), ∃ (k : Nat), [O.d (D.ints IntKind.u8 ([] ++ be (IntKind.u64.wrap h.tag) (Int.toNat (4 : Int)) ++ be (IntKind.u64.wrap h.win) (Int.toNat (4 : Int)) ++ be (IntKind.u64.wrap h.out) (Int.toNat (2 : Int)))), O.d (D.v (Value.int IntKind.u64 (IntKind.u64.wrap h.inn))), O.d (D.v (Value.int IntKind.i64 (2 : Int)))] = [O.d (D.ints IntKind.u8 b_1), O.d (D.v (Value.int IntKind.u64 n)), O.d (D.v (Value.int IntKind.i64 (↑k : Int)))] ∧
  sm b_1.length ∧ (1 : Nat) ≤ k ∧ k ≤ (8 : Nat)) ∧ (∃ (b_1 : List Int), ∃ (n : Int), ∃ (k : Nat), [O.d (D.ints IntKind.u8 ([] ++ be (IntKind.u64.wrap h.tag) (Int.toNat (4 : Int)) ++ be (IntKind.u64.wrap h.win) (Int.toNat (4 : Int)) ++ be (IntKind.u64.wrap h.out) (Int.toNat (2 : Int)) ++ be (IntKind.u64.wrap h.inn) (Int.toNat (2 : Int)))), O.d (D.v (Value.int IntKind.u64 (IntKind.u64.wrap h.tsn))), O.d (D.v (Value.int IntKind.i64 (4 : Int)))] = [O.d (D.ints IntKind.u8 b_1), O.d (D.v (Value.int IntKind.u64 n)), O.d (D.v (Value.int IntKind.i64 (↑k : Int)))] ∧
  sm b_1.length ∧ (1 : Nat) ≤ k ∧ k ≤ (8 : Nat)) ∧ sw (!b) ((1 : Int) = (fromHel (HelR.mk h.tag h.win h.out h.inn h.tsn h.cookie) b).fst.t ∧ (0 : Int) = (fromHel (HelR.mk h.tag h.win h.out h.inn h.tsn h.cookie) b).fst.f ∧
  [] ++ be (IntKind.u64.wrap h.tag) (Int.toNat (4 : Int)) ++ be (IntKind.u64.wrap h.win) (Int.toNat (4 : Int)) ++ be (IntKind.u64.wrap h.out) (Int.toNat (2 : Int)) ++ be (IntKind.u64.wrap h.inn) (Int.toNat (2 : Int)) ++ be (IntKind.u64.wrap h.tsn) (Int.toNat (4 : Int)) = (fromHel (HelR.mk h.tag h.win h.out h.inn h.tsn h.cookie) b).fst.v ∧
  (0 : Int) = (fromHel (HelR.mk h.tag h.win h.out h.inn h.tsn h.cookie) b).snd ∧ (!false && true && true) = true) ((∃ (b_1 : List Int), ∃ (n : Int), ∃ (k : Nat), [O.d (D.ints IntKind.u8 ([] ++ be (IntKind.u64.wrap h.tag) (Int.toNat (4 : Int)) ++ be (IntKind.u64.wrap h.win) (Int.toNat (4 : Int)) ++ be (IntKind.u64.wrap h.out) (Int.toNat (2 : Int)) ++ be (IntKind.u64.wrap h.inn) (Int.toNat (2 : Int)) ++ be (IntKind.u64.wrap h.tsn) (Int.toNat (4 : Int)))), O.d (D.v (Value.int IntKind.u64 (7 : Int))), O.d (D.v (Value.int IntKind.i64 (2 : Int)))] = [O.d (D.ints IntKind.u8 b_1), O.d (D.v (Value.int IntKind.u64 n)), O.d (D.v (Value.int IntKind.i64 (↑k : Int)))] ∧
  sm b_1.length ∧ (1 : Nat) ≤ k ∧ k ≤ (8 : Nat)) ∧ True ∧ (∃ (b_1 : List Int), ∃ (n : Int), ∃ (k : Nat), [O.d (D.ints IntKind.u8 ([] ++ be (IntKind.u64.wrap h.tag) (Int.toNat (4 : Int)) ++ be (IntKind.u64.wrap h.win) (Int.toNat (4 : Int)) ++ be (IntKind.u64.wrap h.out) (Int.toNat (2 : Int)) ++ be (IntKind.u64.wrap h.inn) (Int.toNat (2 : Int)) ++ be (IntKind.u64.wrap h.tsn) (Int.toNat (4 : Int)) ++ be (7 : Int) (Int.toNat (2 : Int)))), O.d (D.v (Value.int IntKind.u64 (IntKind.u64.wrap (IntKind.i64.wrap ((4 : Int) + (↑h.cookie.length : Int)))))), O.d (D.v (Value.int IntKind.i64 (2 : Int)))] = [O.d (D.ints IntKind.u8 b_1), O.d (D.v (Value.int IntKind.u64 n)), O.d (D.v (Value.int IntKind.i64 (↑k : Int)))] ∧
  sm b_1.length ∧ (1 : Nat) ≤ k ∧ k ≤ (8 : Nat)) ∧ (∃ (l : List Int), [O.d (D.ints IntKind.u8 h.cookie)] = [O.d (D.ints IntKind.u8 l)] ∧ sm l.length) ∧ True ∧
  ((20 : Nat) + (padF h.cookie).length) * Try.prog.types[(5 : Nat)].bytes ≤ (140737488355328 : Nat) ∧ (2 : Int) = (fromHel (HelR.mk h.tag h.win h.out h.inn h.tsn h.cookie) b).fst.t ∧
  (0 : Int) = (fromHel (HelR.mk h.tag h.win h.out h.inn h.tsn h.cookie) b).fst.f ∧ [] ++ be (IntKind.u64.wrap h.tag) (Int.toNat (4 : Int)) ++ be (IntKind.u64.wrap h.win) (Int.toNat (4 : Int)) ++ be (IntKind.u64.wrap h.out) (Int.toNat (2 : Int)) ++ be (IntKind.u64.wrap h.inn) (Int.toNat (2 : Int)) ++ be (IntKind.u64.wrap h.tsn) (Int.toNat (4 : Int)) ++ be (7 : Int) (Int.toNat (2 : Int)) ++ be (IntKind.u64.wrap (IntKind.i64.wrap ((4 : Int) + (↑h.cookie.length : Int)))) (Int.toNat (2 : Int)) ++ padF h.cookie = (fromHel (HelR.mk h.tag h.win h.out h.inn h.tsn h.cookie) b).fst.v ∧
  (0 : Int) = (fromHel (HelR.mk h.tag h.win h.out h.inn h.tsn h.cookie) b).snd ∧ (!false && true && true) = true)))) (True ∧ sw (decide ((256 : Int) < (↑h.cookie.length : Int))) ((0 : Int) = (fromHel (HelR.mk h.tag h.win h.out h.inn h.tsn h.cookie) b).fst.t ∧
  (0 : Int) = (fromHel (HelR.mk h.tag h.win h.out h.inn h.tsn h.cookie) b).fst.f ∧ (fromHel (HelR.mk h.tag h.win h.out h.inn h.tsn h.cookie) b).fst.v = [] ∧
  (4 : Int) = (fromHel (HelR.mk h.tag h.win h.out h.inn h.tsn h.cookie) b).snd ∧ (true && true) = true) ((∃ (b_1 : List Int), ∃ (n : Int), ∃ (k : Nat), [O.d (D.ints IntKind.u8 []), O.d (D.v (Value.int IntKind.u64 (IntKind.u64.wrap h.tag))), O.d (D.v (Value.int IntKind.i64 (4 : Int)))] = [O.d (D.ints IntKind.u8 b_1), O.d (D.v (Value.int IntKind.u64 n)), O.d (D.v (Value.int IntKind.i64 (↑k : Int)))] ∧
  sm b_1.length ∧ (1 : Nat) ≤ k ∧ k ≤ (8 : Nat)) ∧ (∃ (b_1 : List Int), ∃ (n : Int), ∃ (k : Nat), [O.d (D.ints IntKind.u8 ([] ++ be (IntKind.u64.wrap h.tag) (Int.toNat (4 : Int)))), O.d (D.v (Value.int IntKind.u64 (IntKind.u64.wrap h.win))), O.d (D.v (Value.int IntKind.i64 (4 : Int)))] = [O.d (D.ints IntKind.u8 b_1), O.d (D.v (Value.int IntKind.u64 n)), O.d (D.v (Value.int IntKind.i64 (↑k : Int)))] ∧
  sm b_1.length ∧ (1 : Nat) ≤ k ∧ k ≤ (8 : Nat)) ∧ (∃ (b_1 : List Int), ∃ (n : Int), ∃ (k : Nat), [O.d (D.ints IntKind.u8 ([] ++ be (IntKind.u64.wrap h.tag) (Int.toNat (4 : Int)) ++ be (IntKind.u64.wrap h.win) (Int.toNat (4 : Int)))), O.d (D.v (Value.int IntKind.u64 (IntKind.u64.wrap h.out))), O.d (D.v (Value.int IntKind.i64 (2 : Int)))] = [O.d (D.ints IntKind.u8 b_1), O.d (D.v (Value.int IntKind.u64 n)), O.d (D.v (Value.int IntKind.i64 (↑k : Int)))] ∧
  sm b_1.length ∧ (1 : Nat) ≤ k ∧ k ≤ (8 : Nat)) ∧ (∃ (b_1 : List Int), ∃ (n : Int), ∃ (k : Nat), [O.d (D.ints IntKind.u8 ([] ++ be (IntKind.u64.wrap h.tag) (Int.toNat (4 : Int)) ++ be (IntKind.u64.wrap h.win) (Int.toNat (4 : Int)) ++ be (IntKind.u64.wrap h.out) (Int.toNat (2 : Int)))), O.d (D.v (Value.int IntKind.u64 (IntKind.u64.wrap h.inn))), O.d (D.v (Value.int IntKind.i64 (2 : Int)))] = [O.d (D.ints IntKind.u8 b_1), O.d (D.v (Value.int IntKind.u64 n)), O.d (D.v (Value.int IntKind.i64 (↑k : Int)))] ∧
  sm b_1.length ∧ (1 : Nat) ≤ k ∧ k ≤ (8 : Nat)) ∧ (∃ (b_1 : List Int), ∃ (n : Int), ∃ (k : Nat), [O.d (D.ints IntKind.u8 ([] ++ be (IntKind.u64.wrap h.tag) (Int.toNat (4 : Int)) ++ be (IntKind.u64.wrap h.win) (Int.toNat (4 : Int)) ++ be (IntKind.u64.wrap h.out) (Int.toNat (2 : Int)) ++ be (IntKind.u64.wrap h.inn) (Int.toNat (2 : Int)))), O.d (D.v (Value.int IntKind.u64 (IntKind.u64.wrap h.tsn))), O.d (D.v (Value.int IntKind.i64 (4 : Int)))] = [O.d (D.ints IntKind.u8 b_1), O.d (D.v (Value.int IntKind.u64 n)), O.d (D.v (Value.int IntKind.i64 (↑k : Int)))] ∧
  sm b_1.length ∧ (1 : Nat) ≤ k ∧ k ≤ (8 : Nat)) ∧ sw (!b) ((1 : Int) = (fromHel (HelR.mk h.tag h.win h.out h.inn h.tsn h.cookie) b).fst.t ∧ (0 : Int) = (fromHel (HelR.mk h.tag h.win h.out h.inn h.tsn h.cookie) b).fst.f ∧
  [] ++ be (IntKind.u64.wrap h.tag) (Int.toNat (4 : Int)) ++ be (IntKind.u64.wrap h.win) (Int.toNat (4 : Int)) ++ be (IntKind.u64.wrap h.out) (Int.toNat (2 : Int)) ++ be (IntKind.u64.wrap h.inn) (Int.toNat (2 : Int)) ++ be (IntKind.u64.wrap h.tsn) (Int.toNat (4 : Int)) = (fromHel (HelR.mk h.tag h.win h.out h.inn h.tsn h.cookie) b).fst.v ∧
  (0 : Int) = (fromHel (HelR.mk h.tag h.win h.out h.inn h.tsn h.cookie) b).snd ∧ (!false && true && true) = true) ((∃ (b_1 : List Int), ∃ (n : Int), ∃ (k : Nat), [O.d (D.ints IntKind.u8 ([] ++ be (IntKind.u64.wrap h.tag) (Int.toNat (4 : Int)) ++ be (IntKind.u64.wrap h.win) (Int.toNat (4 : Int)) ++ be (IntKind.u64.wrap h.out) (Int.toNat (2 : Int)) ++ be (IntKind.u64.wrap h.inn) (Int.toNat (2 : Int)) ++ be (IntKind.u64.wrap h.tsn) (Int.toNat (4 : Int)))), O.d (D.v (Value.int IntKind.u64 (7 : Int))), O.d (D.v (Value.int IntKind.i64 (2 : Int)))] = [O.d (D.ints IntKind.u8 b_1), O.d (D.v (Value.int IntKind.u64 n)), O.d (D.v (Value.int IntKind.i64 (↑k : Int)))] ∧
  sm b_1.length ∧ (1 : Nat) ≤ k ∧ k ≤ (8 : Nat)) ∧ True ∧ (∃ (b_1 : List Int), ∃ (n : Int), ∃ (k : Nat), [O.d (D.ints IntKind.u8 ([] ++ be (IntKind.u64.wrap h.tag) (Int.toNat (4 : Int)) ++ be (IntKind.u64.wrap h.win) (Int.toNat (4 : Int)) ++ be (IntKind.u64.wrap h.out) (Int.toNat (2 : Int)) ++ be (IntKind.u64.wrap h.inn) (Int.toNat (2 : Int)) ++ be (IntKind.u64.wrap h.tsn) (Int.toNat (4 : Int)) ++ be (7 : Int) (Int.toNat (2 : Int)))), O.d (D.v (Value.int IntKind.u64 (IntKind.u64.wrap (IntKind.i64.wrap ((4 : Int) + (↑h.cookie.length : Int)))))), O.d (D.v (Value.int IntKind.i64 (2 : Int)))] = [O.d (D.ints IntKind.u8 b_1), O.d (D.v (Value.int IntKind.u64 n)), O.d (D.v (Value.int IntKind.i64 (↑k : Int)))] ∧
  sm b_1.length ∧ (1 : Nat) ≤ k ∧ k ≤ (8 : Nat)) ∧ (∃ (l : List Int), [O.d (D.ints IntKind.u8 h.cookie)] = [O.d (D.ints IntKind.u8 l)] ∧ sm l.length) ∧ True ∧
  ((20 : Nat) + (padF h.cookie).length) * Try.prog.types[(5 : Nat)].bytes ≤ (140737488355328 : Nat) ∧ (2 : Int) = (fromHel (HelR.mk h.tag h.win h.out h.inn h.tsn h.cookie) b).fst.t ∧
  (0 : Int) = (fromHel (HelR.mk h.tag h.win h.out h.inn h.tsn h.cookie) b).fst.f ∧ [] ++ be (IntKind.u64.wrap h.tag) (Int.toNat (4 : Int)) ++ be (IntKind.u64.wrap h.win) (Int.toNat (4 : Int)) ++ be (IntKind.u64.wrap h.out) (Int.toNat (2 : Int)) ++ be (IntKind.u64.wrap h.inn) (Int.toNat (2 : Int)) ++ be (IntKind.u64.wrap h.tsn) (Int.toNat (4 : Int)) ++ be (7 : Int) (Int.toNat (2 : Int)) ++ be (IntKind.u64.wrap (IntKind.i64.wrap ((4 : Int) + (↑h.cookie.length : Int)))) (Int.toNat (2 : Int)) ++ padF h.cookie = (fromHel (HelR.mk h.tag h.win h.out h.inn h.tsn h.cookie) b).fst.v ∧
  (0 : Int) = (fromHel (HelR.mk h.tag h.win h.out h.inn h.tsn h.cookie) b).snd ∧ (!false && true && true) = true)))))) := by
  simp only [↓sw_iff, ↓Bool.and_eq_true, ↓decide_eq_true_eq, ↓decide_eq_false_iff_not, ↓Bool.not_eq_true', ↓Bool.not_eq_false', true_and, and_true, List.nil_append, Nat.mul_one, bytes5, toNat2, toNat4, hel_eta]
  intro h b ok
  obtain ⟨w1, w2, w3, w4, w5⟩ := hel_w ok
  simp only [w1, w2, w3, w4, w5]
  have hs : sm h.cookie.length := ok.2.2.2.2.2.2
  have gr : ∀ b, ¬ h.tag = 0 → ¬ h.out = 0 → ¬ h.inn = 0 → (b = true ∨ ¬ 0 < h.cookie.length) → greetF h b = true := fun b a1 a2 a3 a4 => by
    cases hg : greetF h b with
    | true => rfl
    | false =>
      rcases greet_f.1 hg with x | x | x | x
      · exact absurd x a1
      · exact absurd x a2
      · exact absurd x a3
      · rcases a4 with y | y
        · rw [x.1] at y; cases y
        · exact absurd x.2 y
  refine ⟨fun a1 => leaf0 (from_e1 (greet_f.2 (.inl a1))), fun a1 => ⟨fun a2 => leaf0 (from_e1 (greet_f.2 (.inr (.inl a2)))), fun a2 => ⟨fun a3 => leaf0 (from_e1 (greet_f.2 (.inr (.inr (.inl a3))))), fun a3 => ⟨fun a4 => ⟨fun a5 => leaf0 (from_e1 (greet_f.2 (.inr (.inr (.inr ⟨a4, by omega⟩))))), fun a5 => ?_⟩, fun a4 => ?_⟩⟩⟩⟩
  · have hg := gr b a1 a2 a3 (.inr (by omega))
    exact ⟨fun hl => leaf0 (from_e2 hg (by omega)), fun hl => from_rest hs hg (by omega)⟩
  · have hg := gr b a1 a2 a3 (.inl a4)
    exact ⟨fun hl => leaf0 (from_e2 hg (by omega)), fun hl => from_rest hs hg (by omega)⟩
set_option maxRecDepth 100000 in
theorem ok116 : FnIs Try.prog 116 fromHelC := by
  refine fnIs (C := (ctrs c6)) (by kernel_rfl) c6_ok Try.func116 (code := code116) (by kernel_rfl) (by kernel_rfl) ?_
  rintro a ⟨h, b, rfl, ok⟩
  exact ⟨anns [] [1], kcast (vc116 h b ok) (by kernel_rfl)⟩

theorem c16_ok : COk Try.prog (ctrs c16) := cok_cons ok212q (cok_cons ok116 (cok_cons ok118 cok_nil))

noncomputable def code163 : Code := match Try.f163.body with | some c => c | none => .skip
set_option maxHeartbeats 4000000 in
theorem vc163 : ∀ (l m : List Int), sm l.length → True ∧ sw (!decide ((↑l.length : Int) = (↑m.length : Int))) (false = decide (l = m) ∧ (true && true) = true) (∃ (g0 : Nat), (g0 ≤ l.length ∧
  ∀ (j : Nat), j < g0 → l.getD j (0 : Int) = m.getD j (0 : Int)) ∧ (0 : Int) = (↑g0 : Int) ∧ (true && true) = true ∧ ∀ (g : Nat), (g ≤ l.length ∧ ∀ (j : Nat), j < g →
  l.getD j (0 : Int) = m.getD j (0 : Int)) → True ∧ sw (decide ((↑g : Int) < (↑l.length : Int))) (((0 : Int) ≤ (↑g : Int) ∧ (↑g : Int) < (↑l.length : Int)) ∧
  ((0 : Int) ≤ (↑g : Int) ∧ (↑g : Int) < (↑m.length : Int)) ∧ True ∧ sw (!decide (l.getD (↑g : Int).toNat (0 : Int) = m.getD (↑g : Int).toNat (0 : Int))) (false = decide (l = m) ∧
  (true && true) = true) (True ∧ ∃ (g' : Nat), (g' ≤ l.length ∧ ∀ (j : Nat), j < g' → l.getD j (0 : Int) = m.getD j (0 : Int)) ∧ l.length - g' < l.length - g ∧
  (IntKind.i64.wrap ((↑g : Int) + (1 : Int)) = (↑g' : Int) ∧ (true && true && true) = true) ∧ (some (SV.c (Value.int IntKind.i64 (↑l.length : Int))) = some (SV.c (Value.int IntKind.i64 (↑l.length : Int))) ∧
  some (SV.a (0 : Nat)) = some (SV.a (0 : Nat)) ∧ some (SV.c (Value.bool !decide ((↑l.length : Int) = (↑m.length : Int)))) = some (SV.c (Value.bool !decide ((↑l.length : Int) = (↑m.length : Int)))) ∧
  some (SV.c (Value.int IntKind.i64 (↑m.length : Int))) = some (SV.c (Value.int IntKind.i64 (↑m.length : Int))) ∧ some (SV.a (1 : Nat)) = some (SV.a (1 : Nat)) ∧
  some (SV.c (Value.int IntKind.i64 (↑l.length : Int))) = some (SV.c (Value.int IntKind.i64 (↑l.length : Int))) ∧ some (SV.a (0 : Nat)) = some (SV.a (0 : Nat)) ∧
  some (SV.a (0 : Nat)) = some (SV.a (0 : Nat)) ∧ some (SV.a (1 : Nat)) = some (SV.a (1 : Nat)) ∧ True) ∧ some (R.ro (D.ints IntKind.u8 m)) = some (R.ro (D.ints IntKind.u8 m)) ∧
  some (R.ro (D.ints IntKind.u8 l)) = some (R.ro (D.ints IntKind.u8 l)) ∧ True)) (true = decide (l = m) ∧ (true && true) = true)) := by
  simp only [↓sw_iff, ↓Bool.and_eq_true, ↓decide_eq_true_eq, ↓decide_eq_false_iff_not, ↓Bool.not_eq_true', ↓Bool.not_eq_false', true_and, and_true, Int.toNat_natCast]
  intro l m h
  unfold sm at h
  refine ⟨fun e => (decide_eq_false (fun x => e (by rw [x]))).symm, fun e => ⟨0, ⟨Nat.zero_le _, fun j hj => absurd hj (Nat.not_lt_zero _)⟩, rfl, ?_⟩⟩
  rintro g ⟨g1, g2⟩
  refine ⟨fun t => ⟨⟨by omega, by omega⟩, ⟨by omega, by omega⟩, fun e => (decide_eq_false (fun x => e (by rw [x]))).symm, fun e => ⟨g + 1, ⟨by omega, fun j hj => ?_⟩, by omega, by rw [wrap_i64_id (by omega) (by omega)]; rfl⟩⟩, fun t => (decide_eq_true ?_).symm⟩
  · by_cases hjg : j = g
    · subst hjg; exact e
    · exact g2 j (by omega)
  · apply List.ext_getElem (by omega)
    intro i i1 i2
    have := g2 i (by omega)
    simpa [List.getD, List.getElem?_eq_getElem i1, List.getElem?_eq_getElem i2] using this
set_option maxRecDepth 100000 in
theorem ok163 : FnIs Try.prog 163 eqC := by
  refine fnIs (C := (ctrs c0)) (by kernel_rfl) c0_ok Try.func163 (code := code163) (by kernel_rfl) (by kernel_rfl) ?_
  rintro a ⟨l, m, rfl, h⟩
  exact ⟨anns [(4, eqAnn l m)], kcast (vc163 l m h) (by kernel_rfl)⟩

theorem c13_ok : COk Try.prog (ctrs c13) := cok_cons ok163 cok_nil

noncomputable def code202 : Code := match Try.f202.body with | some c => c | none => .skip
set_option maxHeartbeats 4000000 in
theorem vc202 : ∀ (c d : ChR), okCh c → True ∧ sw (decide (c.t = d.t)) (SV.p (2 : Nat) (1 : Nat) = SV.p (2 : Nat) (1 : Nat)) True ∧ sw (decide (c.t = d.t)) ([decide (c.t = d.t)] = [decide (c.t = d.t)] ∧
  SV.c (Value.int IntKind.u8 c.f) = SV.c (Value.int IntKind.u8 c.f)) True ∧ sw (decide (c.t = d.t)) (SV.p (3 : Nat) (1 : Nat) = SV.p (3 : Nat) (1 : Nat)) True ∧
  sw (decide (c.t = d.t)) ([decide (c.t = d.t)] = [decide (c.t = d.t)] ∧ SV.c (Value.int IntKind.u8 d.f) = SV.c (Value.int IntKind.u8 d.f)) True ∧ sw (decide (c.t = d.t)) ([decide (c.t = d.t)] = [decide (c.t = d.t)] ∧
  [decide (c.t = d.t)] = [decide (c.t = d.t)] ∧ True ∧ SV.c (Value.bool (decide (c.f = d.f))) = SV.c (Value.bool (decide (c.f = d.f)))) True ∧ [decide (c.t = d.t)] = [decide (c.t = d.t)] ∧
  sw (decide (c.t = d.t) && decide (c.f = d.f)) (SV.p (2 : Nat) (2 : Nat) = SV.p (2 : Nat) (2 : Nat)) True ∧ sw (decide (c.t = d.t) && decide (c.f = d.f)) ([decide (c.t = d.t) && decide (c.f = d.f)] = [decide (c.t = d.t) && decide (c.f = d.f)] ∧
  SV.a (0 : Nat) = SV.a (0 : Nat)) True ∧ sw (decide (c.t = d.t) && decide (c.f = d.f)) (SV.p (3 : Nat) (2 : Nat) = SV.p (3 : Nat) (2 : Nat)) True ∧ sw (decide (c.t = d.t) && decide (c.f = d.f)) ([decide (c.t = d.t) && decide (c.f = d.f)] = [decide (c.t = d.t) && decide (c.f = d.f)] ∧
  SV.a (1 : Nat) = SV.a (1 : Nat)) True ∧ sw (decide (c.t = d.t) && decide (c.f = d.f)) ([decide (c.t = d.t) && decide (c.f = d.f)] = [decide (c.t = d.t) && decide (c.f = d.f)] ∧
  [decide (c.t = d.t) && decide (c.f = d.f)] = [decide (c.t = d.t) && decide (c.f = d.f)] ∧ (∃ (l : List Int), ∃ (m : List Int), [O.d (D.ints IntKind.u8 c.v), O.d (D.ints IntKind.u8 d.v)] = [O.d (D.ints IntKind.u8 l), O.d (D.ints IntKind.u8 m)] ∧
  sm l.length) ∧ SV.c (Value.bool (decide (c.v = d.v))) = SV.c (Value.bool (decide (c.v = d.v)))) True ∧ [decide (c.t = d.t) && decide (c.f = d.f)] = [decide (c.t = d.t) && decide (c.f = d.f)] ∧
  (decide (c.t = d.t) && decide (c.f = d.f) && decide (c.v = d.v)) = sameB (ChR.mk c.t c.f c.v) (ChR.mk d.t d.f d.v) ∧ (true && true) = true := by
  simp only [↓sw_iff, ↓Bool.and_eq_true, ↓Bool.and_eq_false_iff, ↓decide_eq_true_eq, ↓decide_eq_false_iff_not, true_and, and_true, implies_true, ch_eta]
  intro c d h
  exact ⟨fun _ => ⟨_, _, rfl, h⟩, rfl⟩
set_option maxRecDepth 100000 in
theorem ok202 : FnIs Try.prog 202 sameBC := by
  refine fnIs (C := (ctrs c13)) (by kernel_rfl) c13_ok Try.func202 (code := code202) (by kernel_rfl) (by kernel_rfl) ?_
  rintro a ⟨c, d, rfl, h⟩
  exact ⟨anns [], kcast (vc202 c d h) (by kernel_rfl)⟩

noncomputable def code200 : Code := match Try.f200.body with | some c => c | none => .skip
set_option maxHeartbeats 4000000 in
theorem vc200 : ∀ (v : List Int) (i : Int) (b : Bool) (k : Nat), sm v.length → okB v → (0 : Int) ≤ i → i ≤ (1099511627776 : Int) → (1 : Nat) ≤ k → k ≤ (8 : Nat) → (∃ (b_1 : List Int), ∃ (i_1 : Int), ∃ (k_1 : Nat), [O.d (D.ints IntKind.u8 v), O.d (D.v (Value.int IntKind.i64 i)), O.d (D.v (Value.int IntKind.i64 (↑k : Int)))] = [O.d (D.ints IntKind.u8 b_1), O.d (D.v (Value.int IntKind.i64 i_1)), O.d (D.v (Value.int IntKind.i64 (↑k_1 : Int)))] ∧
  sm b_1.length ∧ okB b_1 ∧ okI i_1 ∧ (1 : Nat) ≤ k_1 ∧ k_1 ≤ (8 : Nat)) ∧ True ∧ sw (!b) (SV.c (Value.int IntKind.i64 (partF v i (↑(↑k : Int).toNat : Int)).snd) = SV.c (Value.int IntKind.i64 (partF v i (↑(↑k : Int).toNat : Int)).snd)) True ∧
  sw (!b) ([!b] = [!b] ∧ True ∧ SV.c (Value.bool !decide ((partF v i (↑(↑k : Int).toNat : Int)).snd = (0 : Int))) = SV.c (Value.bool !decide ((partF v i (↑(↑k : Int).toNat : Int)).snd = (0 : Int)))) True ∧
  [!b] = [!b] ∧ v = v ∧ IntKind.i64.wrap (i + (↑k : Int)) = i + (↑k : Int) ∧ (b || !decide ((partF v i (↑(↑k : Int).toNat : Int)).snd = (0 : Int))) = (b || !decide ((getF v i (↑k : Int).toNat).snd = (0 : Int))) ∧
  valF (partF v i (↑(↑k : Int).toNat : Int)).fst = numAt v i (↑k : Int).toNat ∧ (!false && true && true) = true := by
  simp only [↓sw_iff, ↓Bool.and_eq_true, ↓Bool.not_eq_true', ↓Bool.not_eq_false', true_and, and_true, implies_true, Int.toNat_natCast, num_def]
  intro v i b k h1 h2 h3 h4 h5 h6
  refine ⟨⟨v, i, k, rfl, h1, h2, by unfold okI; omega, h5, h6⟩, wrap_i64_id (by omega) (by omega), rfl⟩
set_option maxRecDepth 100000 in
theorem ok200 : FnIs Try.prog 200 rdC := by
  refine fnIs (C := (ctrs c14)) (by kernel_rfl) c14_ok Try.func200 (code := code200) (by kernel_rfl) (by kernel_rfl) ?_
  rintro a ⟨v, i, b, k, rfl, h1, h2, h3, h4, h5, h6⟩
  exact ⟨anns [], kcast (vc200 v i b k h1 h2 h3 h4 h5 h6) (by kernel_rfl)⟩

theorem c15_ok : COk Try.prog (ctrs c15) := cok_cons ok200 (cok_cons ok201 (cok_cons ok155 (cok_cons ok202 cok_nil)))

noncomputable def code158 : Code := match Try.f158.body with | some c => c | none => .skip
set_option maxHeartbeats 4000000 in
theorem vc158 : ∀ (c : ChR), okB c.v → sm c.v.length → (∃ (v : List Int), ∃ (i : Int), ∃ (b : Bool), ∃ (k : Nat), [O.ptr (302 : Nat) [O.d (D.ints IntKind.u8 c.v), O.d (D.v (Value.int IntKind.i64 (0 : Int))), O.d (D.v (Value.bool false))], O.d (D.v (Value.int IntKind.i64 (4 : Int)))] = [O.ptr (302 : Nat) [O.d (D.ints IntKind.u8 v), O.d (D.v (Value.int IntKind.i64 i)), O.d (D.v (Value.bool b))], O.d (D.v (Value.int IntKind.i64 (↑k : Int)))] ∧
  sm v.length ∧ okB v ∧ (0 : Int) ≤ i ∧ i ≤ (1099511627776 : Int) ∧ (1 : Nat) ≤ k ∧ k ≤ (8 : Nat)) ∧ (∃ (v : List Int), ∃ (i : Int), ∃ (b : Bool), ∃ (k : Nat), [O.ptr (302 : Nat) [O.d (D.ints IntKind.u8 c.v), O.d (D.v (Value.int IntKind.i64 ((0 : Int) + (4 : Int)))), O.d (D.v (Value.bool (false || !decide ((getF c.v (0 : Int) (Int.toNat (4 : Int))).snd = (0 : Int)))))], O.d (D.v (Value.int IntKind.i64 (4 : Int)))] = [O.ptr (302 : Nat) [O.d (D.ints IntKind.u8 v), O.d (D.v (Value.int IntKind.i64 i)), O.d (D.v (Value.bool b))], O.d (D.v (Value.int IntKind.i64 (↑k : Int)))] ∧
  sm v.length ∧ okB v ∧ (0 : Int) ≤ i ∧ i ≤ (1099511627776 : Int) ∧ (1 : Nat) ≤ k ∧ k ≤ (8 : Nat)) ∧ (∃ (v : List Int), ∃ (i : Int), ∃ (b : Bool), ∃ (k : Nat), [O.ptr (302 : Nat) [O.d (D.ints IntKind.u8 c.v), O.d (D.v (Value.int IntKind.i64 ((0 : Int) + (4 : Int) + (4 : Int)))), O.d (D.v (Value.bool (false || !decide ((getF c.v (0 : Int) (Int.toNat (4 : Int))).snd = (0 : Int)) || !decide ((getF c.v ((0 : Int) + (4 : Int)) (Int.toNat (4 : Int))).snd = (0 : Int)))))], O.d (D.v (Value.int IntKind.i64 (2 : Int)))] = [O.ptr (302 : Nat) [O.d (D.ints IntKind.u8 v), O.d (D.v (Value.int IntKind.i64 i)), O.d (D.v (Value.bool b))], O.d (D.v (Value.int IntKind.i64 (↑k : Int)))] ∧
  sm v.length ∧ okB v ∧ (0 : Int) ≤ i ∧ i ≤ (1099511627776 : Int) ∧ (1 : Nat) ≤ k ∧ k ≤ (8 : Nat)) ∧ (∃ (v : List Int), ∃ (i : Int), ∃ (b : Bool), ∃ (k : Nat), [O.ptr (302 : Nat) [O.d (D.ints IntKind.u8 c.v), O.d (D.v (Value.int IntKind.i64 ((0 : Int) + (4 : Int) + (4 : Int) + (2 : Int)))), O.d (D.v (Value.bool (false || !decide ((getF c.v (0 : Int) (Int.toNat (4 : Int))).snd = (0 : Int)) || !decide ((getF c.v ((0 : Int) + (4 : Int)) (Int.toNat (4 : Int))).snd = (0 : Int)) || !decide ((getF c.v ((0 : Int) + (4 : Int) + (4 : Int)) (Int.toNat (2 : Int))).snd = (0 : Int)))))], O.d (D.v (Value.int IntKind.i64 (2 : Int)))] = [O.ptr (302 : Nat) [O.d (D.ints IntKind.u8 v), O.d (D.v (Value.int IntKind.i64 i)), O.d (D.v (Value.bool b))], O.d (D.v (Value.int IntKind.i64 (↑k : Int)))] ∧
  sm v.length ∧ okB v ∧ (0 : Int) ≤ i ∧ i ≤ (1099511627776 : Int) ∧ (1 : Nat) ≤ k ∧ k ≤ (8 : Nat)) ∧ (∃ (v : List Int), ∃ (i : Int), ∃ (b : Bool), ∃ (k : Nat), [O.ptr (302 : Nat) [O.d (D.ints IntKind.u8 c.v), O.d (D.v (Value.int IntKind.i64 ((0 : Int) + (4 : Int) + (4 : Int) + (2 : Int) + (2 : Int)))), O.d (D.v (Value.bool (false || !decide ((getF c.v (0 : Int) (Int.toNat (4 : Int))).snd = (0 : Int)) || !decide ((getF c.v ((0 : Int) + (4 : Int)) (Int.toNat (4 : Int))).snd = (0 : Int)) || !decide ((getF c.v ((0 : Int) + (4 : Int) + (4 : Int)) (Int.toNat (2 : Int))).snd = (0 : Int)) || !decide ((getF c.v ((0 : Int) + (4 : Int) + (4 : Int) + (2 : Int)) (Int.toNat (2 : Int))).snd = (0 : Int)))))], O.d (D.v (Value.int IntKind.i64 (4 : Int)))] = [O.ptr (302 : Nat) [O.d (D.ints IntKind.u8 v), O.d (D.v (Value.int IntKind.i64 i)), O.d (D.v (Value.bool b))], O.d (D.v (Value.int IntKind.i64 (↑k : Int)))] ∧
  sm v.length ∧ okB v ∧ (0 : Int) ≤ i ∧ i ≤ (1099511627776 : Int) ∧ (1 : Nat) ≤ k ∧ k ≤ (8 : Nat)) ∧ True ∧ sw (decide (c.t = (2 : Int))) ((∃ (v : List Int), ∃ (i : Int), ∃ (b : Bool), ∃ (k : Nat), [O.ptr (302 : Nat) [O.d (D.ints IntKind.u8 c.v), O.d (D.v (Value.int IntKind.i64 ((0 : Int) + (4 : Int) + (4 : Int) + (2 : Int) + (2 : Int) + (4 : Int)))), O.d (D.v (Value.bool (false || !decide ((getF c.v (0 : Int) (Int.toNat (4 : Int))).snd = (0 : Int)) || !decide ((getF c.v ((0 : Int) + (4 : Int)) (Int.toNat (4 : Int))).snd = (0 : Int)) || !decide ((getF c.v ((0 : Int) + (4 : Int) + (4 : Int)) (Int.toNat (2 : Int))).snd = (0 : Int)) || !decide ((getF c.v ((0 : Int) + (4 : Int) + (4 : Int) + (2 : Int)) (Int.toNat (2 : Int))).snd = (0 : Int)) || !decide ((getF c.v ((0 : Int) + (4 : Int) + (4 : Int) + (2 : Int) + (2 : Int)) (Int.toNat (4 : Int))).snd = (0 : Int)))))], O.d (D.v (Value.int IntKind.i64 (2 : Int)))] = [O.ptr (302 : Nat) [O.d (D.ints IntKind.u8 v), O.d (D.v (Value.int IntKind.i64 i)), O.d (D.v (Value.bool b))], O.d (D.v (Value.int IntKind.i64 (↑k : Int)))] ∧
  sm v.length ∧ okB v ∧ (0 : Int) ≤ i ∧ i ≤ (1099511627776 : Int) ∧ (1 : Nat) ≤ k ∧ k ≤ (8 : Nat)) ∧ True ∧ sw (decide (numAt c.v ((0 : Int) + (4 : Int) + (4 : Int) + (2 : Int) + (2 : Int) + (4 : Int)) (Int.toNat (2 : Int)) = (7 : Int))) ((∃ (v : List Int), ∃ (i : Int), ∃ (b : Bool), ∃ (k : Nat), [O.ptr (302 : Nat) [O.d (D.ints IntKind.u8 c.v), O.d (D.v (Value.int IntKind.i64 ((0 : Int) + (4 : Int) + (4 : Int) + (2 : Int) + (2 : Int) + (4 : Int) + (2 : Int)))), O.d (D.v (Value.bool (false || !decide ((getF c.v (0 : Int) (Int.toNat (4 : Int))).snd = (0 : Int)) || !decide ((getF c.v ((0 : Int) + (4 : Int)) (Int.toNat (4 : Int))).snd = (0 : Int)) || !decide ((getF c.v ((0 : Int) + (4 : Int) + (4 : Int)) (Int.toNat (2 : Int))).snd = (0 : Int)) || !decide ((getF c.v ((0 : Int) + (4 : Int) + (4 : Int) + (2 : Int)) (Int.toNat (2 : Int))).snd = (0 : Int)) || !decide ((getF c.v ((0 : Int) + (4 : Int) + (4 : Int) + (2 : Int) + (2 : Int)) (Int.toNat (4 : Int))).snd = (0 : Int)) || !decide ((getF c.v ((0 : Int) + (4 : Int) + (4 : Int) + (2 : Int) + (2 : Int) + (4 : Int)) (Int.toNat (2 : Int))).snd = (0 : Int)))))], O.d (D.v (Value.int IntKind.i64 (2 : Int)))] = [O.ptr (302 : Nat) [O.d (D.ints IntKind.u8 v), O.d (D.v (Value.int IntKind.i64 i)), O.d (D.v (Value.bool b))], O.d (D.v (Value.int IntKind.i64 (↑k : Int)))] ∧
  sm v.length ∧ okB v ∧ (0 : Int) ≤ i ∧ i ≤ (1099511627776 : Int) ∧ (1 : Nat) ≤ k ∧ k ≤ (8 : Nat)) ∧ True ∧ ((∃ (b : List Int), ∃ (i : Int), ∃ (n : Int), [O.d (D.ints IntKind.u8 c.v), O.d (D.v (Value.int IntKind.i64 ((0 : Int) + (4 : Int) + (4 : Int) + (2 : Int) + (2 : Int) + (4 : Int) + (2 : Int) + (2 : Int)))), O.d (D.v (Value.int IntKind.i64 (IntKind.i64.wrap (IntKind.i64.wrap (numAt c.v ((0 : Int) + (4 : Int) + (4 : Int) + (2 : Int) + (2 : Int) + (4 : Int) + (2 : Int)) (Int.toNat (2 : Int))) - (4 : Int)))))] = [O.d (D.ints IntKind.u8 b), O.d (D.v (Value.int IntKind.i64 i)), O.d (D.v (Value.int IntKind.i64 n))] ∧
  sm b.length ∧ okI i ∧ okI n) ∧ (True ∧ (∃ (h : HelR), ∃ (b : Bool), [O.agg [O.d (D.v (Value.int IntKind.u32 (IntKind.u32.wrap (numAt c.v (0 : Int) (Int.toNat (4 : Int)))))), O.d (D.v (Value.int IntKind.u32 (IntKind.u32.wrap (numAt c.v ((0 : Int) + (4 : Int)) (Int.toNat (4 : Int)))))), O.d (D.v (Value.int IntKind.u16 (IntKind.u16.wrap (numAt c.v ((0 : Int) + (4 : Int) + (4 : Int)) (Int.toNat (2 : Int)))))), O.d (D.v (Value.int IntKind.u16 (IntKind.u16.wrap (numAt c.v ((0 : Int) + (4 : Int) + (4 : Int) + (2 : Int)) (Int.toNat (2 : Int)))))), O.d (D.v (Value.int IntKind.u32 (IntKind.u32.wrap (numAt c.v ((0 : Int) + (4 : Int) + (4 : Int) + (2 : Int) + (2 : Int)) (Int.toNat (4 : Int)))))), O.d (D.ints IntKind.u8 (partF c.v ((0 : Int) + (4 : Int) + (4 : Int) + (2 : Int) + (2 : Int) + (4 : Int) + (2 : Int) + (2 : Int)) (IntKind.i64.wrap (IntKind.i64.wrap (numAt c.v ((0 : Int) + (4 : Int) + (4 : Int) + (2 : Int) + (2 : Int) + (4 : Int) + (2 : Int)) (Int.toNat (2 : Int))) - (4 : Int)))).fst)], O.d (D.v (Value.bool (decide (c.t = (2 : Int)))))] = [O.agg [O.d (D.v (Value.int IntKind.u32 h.tag)), O.d (D.v (Value.int IntKind.u32 h.win)), O.d (D.v (Value.int IntKind.u16 h.out)), O.d (D.v (Value.int IntKind.u16 h.inn)), O.d (D.v (Value.int IntKind.u32 h.tsn)), O.d (D.ints IntKind.u8 h.cookie)], O.d (D.v (Value.bool b))] ∧
  okHel h) ∧ True ∧ sw (!decide ((fromHel (HelR.mk (IntKind.u32.wrap (numAt c.v (0 : Int) (Int.toNat (4 : Int)))) (IntKind.u32.wrap (numAt c.v ((0 : Int) + (4 : Int)) (Int.toNat (4 : Int)))) (IntKind.u16.wrap (numAt c.v ((0 : Int) + (4 : Int) + (4 : Int)) (Int.toNat (2 : Int)))) (IntKind.u16.wrap (numAt c.v ((0 : Int) + (4 : Int) + (4 : Int) + (2 : Int)) (Int.toNat (2 : Int)))) (IntKind.u32.wrap (numAt c.v ((0 : Int) + (4 : Int) + (4 : Int) + (2 : Int) + (2 : Int)) (Int.toNat (4 : Int)))) (partF c.v ((0 : Int) + (4 : Int) + (4 : Int) + (2 : Int) + (2 : Int) + (4 : Int) + (2 : Int) + (2 : Int)) (IntKind.i64.wrap (IntKind.i64.wrap (numAt c.v ((0 : Int) + (4 : Int) + (4 : Int) + (2 : Int) + (2 : Int) + (4 : Int) + (2 : Int)) (Int.toNat (2 : Int))) - (4 : Int)))).fst) (decide (c.t = (2 : Int)))).snd = (0 : Int))) ((0 : Int) = (toHel (ChR.mk c.t c.f c.v)).fst.tag ∧
  (0 : Int) = (toHel (ChR.mk c.t c.f c.v)).fst.win ∧ (0 : Int) = (toHel (ChR.mk c.t c.f c.v)).fst.out ∧ (0 : Int) = (toHel (ChR.mk c.t c.f c.v)).fst.inn ∧
  (0 : Int) = (toHel (ChR.mk c.t c.f c.v)).fst.tsn ∧ (toHel (ChR.mk c.t c.f c.v)).fst.cookie = [] ∧ (2 : Int) = (toHel (ChR.mk c.t c.f c.v)).snd ∧ (true && true) = true) ((∃ (c_1 : ChR), ∃ (d : ChR), [O.agg [O.d (D.v (Value.int IntKind.u8 (fromHel (HelR.mk (IntKind.u32.wrap (numAt c.v (0 : Int) (Int.toNat (4 : Int)))) (IntKind.u32.wrap (numAt c.v ((0 : Int) + (4 : Int)) (Int.toNat (4 : Int)))) (IntKind.u16.wrap (numAt c.v ((0 : Int) + (4 : Int) + (4 : Int)) (Int.toNat (2 : Int)))) (IntKind.u16.wrap (numAt c.v ((0 : Int) + (4 : Int) + (4 : Int) + (2 : Int)) (Int.toNat (2 : Int)))) (IntKind.u32.wrap (numAt c.v ((0 : Int) + (4 : Int) + (4 : Int) + (2 : Int) + (2 : Int)) (Int.toNat (4 : Int)))) (partF c.v ((0 : Int) + (4 : Int) + (4 : Int) + (2 : Int) + (2 : Int) + (4 : Int) + (2 : Int) + (2 : Int)) (IntKind.i64.wrap (IntKind.i64.wrap (numAt c.v ((0 : Int) + (4 : Int) + (4 : Int) + (2 : Int) + (2 : Int) + (4 : Int) + (2 : Int)) (Int.toNat (2 : Int))) - (4 : Int)))).fst) (decide (c.t = (2 : Int)))).fst.t)), O.d (D.v (Value.int IntKind.u8 (fromHel (HelR.mk (IntKind.u32.wrap (numAt c.v (0 : Int) (Int.toNat (4 : Int)))) (IntKind.u32.wrap (numAt c.v ((0 : Int) + (4 : Int)) (Int.toNat (4 : Int)))) (IntKind.u16.wrap (numAt c.v ((0 : Int) + (4 : Int) + (4 : Int)) (Int.toNat (2 : Int)))) (IntKind.u16.wrap (numAt c.v ((0 : Int) + (4 : Int) + (4 : Int) + (2 : Int)) (Int.toNat (2 : Int)))) (IntKind.u32.wrap (numAt c.v ((0 : Int) + (4 : Int) + (4 : Int) + (2 : Int) + (2 : Int)) (Int.toNat (4 : Int)))) (partF c.v ((0 : Int) + (4 : Int) + (4 : Int) + (2 : Int) + (2 : Int) + (4 : Int) + (2 : Int) + (2 : Int)) (IntKind.i64.wrap (IntKind.i64.wrap (numAt c.v ((0 : Int) + (4 : Int) + (4 : Int) + (2 : Int) + (2 : Int) + (4 : Int) + (2 : Int)) (Int.toNat (2 : Int))) - (4 : Int)))).fst) (decide (c.t = (2 : Int)))).fst.f)), O.d (D.ints IntKind.u8 (fromHel (HelR.mk (IntKind.u32.wrap (numAt c.v (0 : Int) (Int.toNat (4 : Int)))) (IntKind.u32.wrap (numAt c.v ((0 : Int) + (4 : Int)) (Int.toNat (4 : Int)))) (IntKind.u16.wrap (numAt c.v ((0 : Int) + (4 : Int) + (4 : Int)) (Int.toNat (2 : Int)))) (IntKind.u16.wrap (numAt c.v ((0 : Int) + (4 : Int) + (4 : Int) + (2 : Int)) (Int.toNat (2 : Int)))) (IntKind.u32.wrap (numAt c.v ((0 : Int) + (4 : Int) + (4 : Int) + (2 : Int) + (2 : Int)) (Int.toNat (4 : Int)))) (partF c.v ((0 : Int) + (4 : Int) + (4 : Int) + (2 : Int) + (2 : Int) + (4 : Int) + (2 : Int) + (2 : Int)) (IntKind.i64.wrap (IntKind.i64.wrap (numAt c.v ((0 : Int) + (4 : Int) + (4 : Int) + (2 : Int) + (2 : Int) + (4 : Int) + (2 : Int)) (Int.toNat (2 : Int))) - (4 : Int)))).fst) (decide (c.t = (2 : Int)))).fst.v)], O.agg [O.d (D.v (Value.int IntKind.u8 c.t)), O.d (D.v (Value.int IntKind.u8 c.f)), O.d (D.ints IntKind.u8 c.v)]] = [O.agg [O.d (D.v (Value.int IntKind.u8 c_1.t)), O.d (D.v (Value.int IntKind.u8 c_1.f)), O.d (D.ints IntKind.u8 c_1.v)], O.agg [O.d (D.v (Value.int IntKind.u8 d.t)), O.d (D.v (Value.int IntKind.u8 d.f)), O.d (D.ints IntKind.u8 d.v)]] ∧
  okCh c_1) ∧ sw (!sameB (ChR.mk (fromHel (HelR.mk (IntKind.u32.wrap (numAt c.v (0 : Int) (Int.toNat (4 : Int)))) (IntKind.u32.wrap (numAt c.v ((0 : Int) + (4 : Int)) (Int.toNat (4 : Int)))) (IntKind.u16.wrap (numAt c.v ((0 : Int) + (4 : Int) + (4 : Int)) (Int.toNat (2 : Int)))) (IntKind.u16.wrap (numAt c.v ((0 : Int) + (4 : Int) + (4 : Int) + (2 : Int)) (Int.toNat (2 : Int)))) (IntKind.u32.wrap (numAt c.v ((0 : Int) + (4 : Int) + (4 : Int) + (2 : Int) + (2 : Int)) (Int.toNat (4 : Int)))) (partF c.v ((0 : Int) + (4 : Int) + (4 : Int) + (2 : Int) + (2 : Int) + (4 : Int) + (2 : Int) + (2 : Int)) (IntKind.i64.wrap (IntKind.i64.wrap (numAt c.v ((0 : Int) + (4 : Int) + (4 : Int) + (2 : Int) + (2 : Int) + (4 : Int) + (2 : Int)) (Int.toNat (2 : Int))) - (4 : Int)))).fst) (decide (c.t = (2 : Int)))).fst.t (fromHel (HelR.mk (IntKind.u32.wrap (numAt c.v (0 : Int) (Int.toNat (4 : Int)))) (IntKind.u32.wrap (numAt c.v ((0 : Int) + (4 : Int)) (Int.toNat (4 : Int)))) (IntKind.u16.wrap (numAt c.v ((0 : Int) + (4 : Int) + (4 : Int)) (Int.toNat (2 : Int)))) (IntKind.u16.wrap (numAt c.v ((0 : Int) + (4 : Int) + (4 : Int) + (2 : Int)) (Int.toNat (2 : Int)))) (IntKind.u32.wrap (numAt c.v ((0 : Int) + (4 : Int) + (4 : Int) + (2 : Int) + (2 : Int)) (Int.toNat (4 : Int)))) (partF c.v ((0 : Int) + (4 : Int) + (4 : Int) + (2 : Int) + (2 : Int) + (4 : Int) + (2 : Int) + (2 : Int)) (IntKind.i64.wrap (IntKind.i64.wrap (numAt c.v ((0 : Int) + (4 : Int) + (4 : Int) + (2 : Int) + (2 : Int) + (4 : Int) + (2 : Int)) (Int.toNat (2 : Int))) - (4 : Int)))).fst) (decide (c.t = (2 : Int)))).fst.f (fromHel (HelR.mk (IntKind.u32.wrap (numAt c.v (0 : Int) (Int.toNat (4 : Int)))) (IntKind.u32.wrap (numAt c.v ((0 : Int) + (4 : Int)) (Int.toNat (4 : Int)))) (IntKind.u16.wrap (numAt c.v ((0 : Int) + (4 : Int) + (4 : Int)) (Int.toNat (2 : Int)))) (IntKind.u16.wrap (numAt c.v ((0 : Int) + (4 : Int) + (4 : Int) + (2 : Int)) (Int.toNat (2 : Int)))) (IntKind.u32.wrap (numAt c.v ((0 : Int) + (4 : Int) + (4 : Int) + (2 : Int) + (2 : Int)) (Int.toNat (4 : Int)))) (partF c.v ((0 : Int) + (4 : Int) + (4 : Int) + (2 : Int) + (2 : Int) + (4 : Int) + (2 : Int) + (2 : Int)) (IntKind.i64.wrap (IntKind.i64.wrap (numAt c.v ((0 : Int) + (4 : Int) + (4 : Int) + (2 : Int) + (2 : Int) + (4 : Int) + (2 : Int)) (Int.toNat (2 : Int))) - (4 : Int)))).fst) (decide (c.t = (2 : Int)))).fst.v) (ChR.mk c.t c.f c.v)) ((0 : Int) = (toHel (ChR.mk c.t c.f c.v)).fst.tag ∧
  (0 : Int) = (toHel (ChR.mk c.t c.f c.v)).fst.win ∧ (0 : Int) = (toHel (ChR.mk c.t c.f c.v)).fst.out ∧ (0 : Int) = (toHel (ChR.mk c.t c.f c.v)).fst.inn ∧
  (0 : Int) = (toHel (ChR.mk c.t c.f c.v)).fst.tsn ∧ (toHel (ChR.mk c.t c.f c.v)).fst.cookie = [] ∧ (2 : Int) = (toHel (ChR.mk c.t c.f c.v)).snd ∧ (true && true) = true) (IntKind.u32.wrap (numAt c.v (0 : Int) (Int.toNat (4 : Int))) = (toHel (ChR.mk c.t c.f c.v)).fst.tag ∧
  IntKind.u32.wrap (numAt c.v ((0 : Int) + (4 : Int)) (Int.toNat (4 : Int))) = (toHel (ChR.mk c.t c.f c.v)).fst.win ∧ IntKind.u16.wrap (numAt c.v ((0 : Int) + (4 : Int) + (4 : Int)) (Int.toNat (2 : Int))) = (toHel (ChR.mk c.t c.f c.v)).fst.out ∧
  IntKind.u16.wrap (numAt c.v ((0 : Int) + (4 : Int) + (4 : Int) + (2 : Int)) (Int.toNat (2 : Int))) = (toHel (ChR.mk c.t c.f c.v)).fst.inn ∧ IntKind.u32.wrap (numAt c.v ((0 : Int) + (4 : Int) + (4 : Int) + (2 : Int) + (2 : Int)) (Int.toNat (4 : Int))) = (toHel (ChR.mk c.t c.f c.v)).fst.tsn ∧
  (partF c.v ((0 : Int) + (4 : Int) + (4 : Int) + (2 : Int) + (2 : Int) + (4 : Int) + (2 : Int) + (2 : Int)) (IntKind.i64.wrap (IntKind.i64.wrap (numAt c.v ((0 : Int) + (4 : Int) + (4 : Int) + (2 : Int) + (2 : Int) + (4 : Int) + (2 : Int)) (Int.toNat (2 : Int))) - (4 : Int)))).fst = (toHel (ChR.mk c.t c.f c.v)).fst.cookie ∧
  (0 : Int) = (toHel (ChR.mk c.t c.f c.v)).snd ∧ (!false && true && true) = true))) ∧ True) ∧ True) (True ∧ (∃ (h : HelR), ∃ (b : Bool), [O.agg [O.d (D.v (Value.int IntKind.u32 (IntKind.u32.wrap (numAt c.v (0 : Int) (Int.toNat (4 : Int)))))), O.d (D.v (Value.int IntKind.u32 (IntKind.u32.wrap (numAt c.v ((0 : Int) + (4 : Int)) (Int.toNat (4 : Int)))))), O.d (D.v (Value.int IntKind.u16 (IntKind.u16.wrap (numAt c.v ((0 : Int) + (4 : Int) + (4 : Int)) (Int.toNat (2 : Int)))))), O.d (D.v (Value.int IntKind.u16 (IntKind.u16.wrap (numAt c.v ((0 : Int) + (4 : Int) + (4 : Int) + (2 : Int)) (Int.toNat (2 : Int)))))), O.d (D.v (Value.int IntKind.u32 (IntKind.u32.wrap (numAt c.v ((0 : Int) + (4 : Int) + (4 : Int) + (2 : Int) + (2 : Int)) (Int.toNat (4 : Int)))))), O.d (D.ints IntKind.u8 [])], O.d (D.v (Value.bool (decide (c.t = (2 : Int)))))] = [O.agg [O.d (D.v (Value.int IntKind.u32 h.tag)), O.d (D.v (Value.int IntKind.u32 h.win)), O.d (D.v (Value.int IntKind.u16 h.out)), O.d (D.v (Value.int IntKind.u16 h.inn)), O.d (D.v (Value.int IntKind.u32 h.tsn)), O.d (D.ints IntKind.u8 h.cookie)], O.d (D.v (Value.bool b))] ∧
  okHel h) ∧ True ∧ sw (!decide ((fromHel (HelR.mk (IntKind.u32.wrap (numAt c.v (0 : Int) (Int.toNat (4 : Int)))) (IntKind.u32.wrap (numAt c.v ((0 : Int) + (4 : Int)) (Int.toNat (4 : Int)))) (IntKind.u16.wrap (numAt c.v ((0 : Int) + (4 : Int) + (4 : Int)) (Int.toNat (2 : Int)))) (IntKind.u16.wrap (numAt c.v ((0 : Int) + (4 : Int) + (4 : Int) + (2 : Int)) (Int.toNat (2 : Int)))) (IntKind.u32.wrap (numAt c.v ((0 : Int) + (4 : Int) + (4 : Int) + (2 : Int) + (2 : Int)) (Int.toNat (4 : Int)))) []) (decide (c.t = (2 : Int)))).snd = (0 : Int))) ((0 : Int) = (toHel (ChR.mk c.t c.f c.v)).fst.tag ∧
  (0 : Int) = (toHel (ChR.mk c.t c.f c.v)).fst.win ∧ (0 : Int) = (toHel (ChR.mk c.t c.f c.v)).fst.out ∧ (0 : Int) = (toHel (ChR.mk c.t c.f c.v)).fst.inn ∧
  (0 : Int) = (toHel (ChR.mk c.t c.f c.v)).fst.tsn ∧ (toHel (ChR.mk c.t c.f c.v)).fst.cookie = [] ∧ (2 : Int) = (toHel (ChR.mk c.t c.f c.v)).snd ∧ (true && true) = true) ((∃ (c_1 : ChR), ∃ (d : ChR), [O.agg [O.d (D.v (Value.int IntKind.u8 (fromHel (HelR.mk (IntKind.u32.wrap (numAt c.v (0 : Int) (Int.toNat (4 : Int)))) (IntKind.u32.wrap (numAt c.v ((0 : Int) + (4 : Int)) (Int.toNat (4 : Int)))) (IntKind.u16.wrap (numAt c.v ((0 : Int) + (4 : Int) + (4 : Int)) (Int.toNat (2 : Int)))) (IntKind.u16.wrap (numAt c.v ((0 : Int) + (4 : Int) + (4 : Int) + (2 : Int)) (Int.toNat (2 : Int)))) (IntKind.u32.wrap (numAt c.v ((0 : Int) + (4 : Int) + (4 : Int) + (2 : Int) + (2 : Int)) (Int.toNat (4 : Int)))) []) (decide (c.t = (2 : Int)))).fst.t)), O.d (D.v (Value.int IntKind.u8 (fromHel (HelR.mk (IntKind.u32.wrap (numAt c.v (0 : Int) (Int.toNat (4 : Int)))) (IntKind.u32.wrap (numAt c.v ((0 : Int) + (4 : Int)) (Int.toNat (4 : Int)))) (IntKind.u16.wrap (numAt c.v ((0 : Int) + (4 : Int) + (4 : Int)) (Int.toNat (2 : Int)))) (IntKind.u16.wrap (numAt c.v ((0 : Int) + (4 : Int) + (4 : Int) + (2 : Int)) (Int.toNat (2 : Int)))) (IntKind.u32.wrap (numAt c.v ((0 : Int) + (4 : Int) + (4 : Int) + (2 : Int) + (2 : Int)) (Int.toNat (4 : Int)))) []) (decide (c.t = (2 : Int)))).fst.f)), O.d (D.ints IntKind.u8 (fromHel (HelR.mk (IntKind.u32.wrap (numAt c.v (0 : Int) (Int.toNat (4 : Int)))) (IntKind.u32.wrap (numAt c.v ((0 : Int) + (4 : Int)) (Int.toNat (4 : Int)))) (IntKind.u16.wrap (numAt c.v ((0 : Int) + (4 : Int) + (4 : Int)) (Int.toNat (2 : Int)))) (IntKind.u16.wrap (numAt c.v ((0 : Int) + (4 : Int) + (4 : Int) + (2 : Int)) (Int.toNat (2 : Int)))) (IntKind.u32.wrap (numAt c.v ((0 : Int) + (4 : Int) + (4 : Int) + (2 : Int) + (2 : Int)) (Int.toNat (4 : Int)))) []) (decide (c.t = (2 : Int)))).fst.v)], O.agg [O.d (D.v (Value.int IntKind.u8 c.t)), O.d (D.v (Value.int IntKind.u8 c.f)), O.d (D.ints IntKind.u8 c.v)]] = [O.agg [O.d (D.v (Value.int IntKind.u8 c_1.t)), O.d (D.v (Value.int IntKind.u8 c_1.f)), O.d (D.ints IntKind.u8 c_1.v)], O.agg [O.d (D.v (Value.int IntKind.u8 d.t)), O.d (D.v (Value.int IntKind.u8 d.f)), O.d (D.ints IntKind.u8 d.v)]] ∧
  okCh c_1) ∧ sw (!sameB (ChR.mk (fromHel (HelR.mk (IntKind.u32.wrap (numAt c.v (0 : Int) (Int.toNat (4 : Int)))) (IntKind.u32.wrap (numAt c.v ((0 : Int) + (4 : Int)) (Int.toNat (4 : Int)))) (IntKind.u16.wrap (numAt c.v ((0 : Int) + (4 : Int) + (4 : Int)) (Int.toNat (2 : Int)))) (IntKind.u16.wrap (numAt c.v ((0 : Int) + (4 : Int) + (4 : Int) + (2 : Int)) (Int.toNat (2 : Int)))) (IntKind.u32.wrap (numAt c.v ((0 : Int) + (4 : Int) + (4 : Int) + (2 : Int) + (2 : Int)) (Int.toNat (4 : Int)))) []) (decide (c.t = (2 : Int)))).fst.t (fromHel (HelR.mk (IntKind.u32.wrap (numAt c.v (0 : Int) (Int.toNat (4 : Int)))) (IntKind.u32.wrap (numAt c.v ((0 : Int) + (4 : Int)) (Int.toNat (4 : Int)))) (IntKind.u16.wrap (numAt c.v ((0 : Int) + (4 : Int) + (4 : Int)) (Int.toNat (2 : Int)))) (IntKind.u16.wrap (numAt c.v ((0 : Int) + (4 : Int) + (4 : Int) + (2 : Int)) (Int.toNat (2 : Int)))) (IntKind.u32.wrap (numAt c.v ((0 : Int) + (4 : Int) + (4 : Int) + (2 : Int) + (2 : Int)) (Int.toNat (4 : Int)))) []) (decide (c.t = (2 : Int)))).fst.f (fromHel (HelR.mk (IntKind.u32.wrap (numAt c.v (0 : Int) (Int.toNat (4 : Int)))) (IntKind.u32.wrap (numAt c.v ((0 : Int) + (4 : Int)) (Int.toNat (4 : Int)))) (IntKind.u16.wrap (numAt c.v ((0 : Int) + (4 : Int) + (4 : Int)) (Int.toNat (2 : Int)))) (IntKind.u16.wrap (numAt c.v ((0 : Int) + (4 : Int) + (4 : Int) + (2 : Int)) (Int.toNat (2 : Int)))) (IntKind.u32.wrap (numAt c.v ((0 : Int) + (4 : Int) + (4 : Int) + (2 : Int) + (2 : Int)) (Int.toNat (4 : Int)))) []) (decide (c.t = (2 : Int)))).fst.v) (ChR.mk c.t c.f c.v)) ((0 : Int) = (toHel (ChR.mk c.t c.f c.v)).fst.tag ∧
  (0 : Int) = (toHel (ChR.mk c.t c.f c.v)).fst.win ∧ (0 : Int) = (toHel (ChR.mk c.t c.f c.v)).fst.out ∧ (0 : Int) = (toHel (ChR.mk c.t c.f c.v)).fst.inn ∧
  (0 : Int) = (toHel (ChR.mk c.t c.f c.v)).fst.tsn ∧ (toHel (ChR.mk c.t c.f c.v)).fst.cookie = [] ∧ (2 : Int) = (toHel (ChR.mk c.t c.f c.v)).snd ∧ (true && true) = true) (IntKind.u32.wrap (numAt c.v (0 : Int) (Int.toNat (4 : Int))) = (toHel (ChR.mk c.t c.f c.v)).fst.tag ∧
  IntKind.u32.wrap (numAt c.v ((0 : Int) + (4 : Int)) (Int.toNat (4 : Int))) = (toHel (ChR.mk c.t c.f c.v)).fst.win ∧ IntKind.u16.wrap (numAt c.v ((0 : Int) + (4 : Int) + (4 : Int)) (Int.toNat (2 : Int))) = (toHel (ChR.mk c.t c.f c.v)).fst.out ∧
  IntKind.u16.wrap (numAt c.v ((0 : Int) + (4 : Int) + (4 : Int) + (2 : Int)) (Int.toNat (2 : Int))) = (toHel (ChR.mk c.t c.f c.v)).fst.inn ∧ IntKind.u32.wrap (numAt c.v ((0 : Int) + (4 : Int) + (4 : Int) + (2 : Int) + (2 : Int)) (Int.toNat (4 : Int))) = (toHel (ChR.mk c.t c.f c.v)).fst.tsn ∧
  (toHel (ChR.mk c.t c.f c.v)).fst.cookie = [] ∧ (0 : Int) = (toHel (ChR.mk c.t c.f c.v)).snd ∧ (true && true) = true)))) (True ∧ (∃ (h : HelR), ∃ (b : Bool), [O.agg [O.d (D.v (Value.int IntKind.u32 (IntKind.u32.wrap (numAt c.v (0 : Int) (Int.toNat (4 : Int)))))), O.d (D.v (Value.int IntKind.u32 (IntKind.u32.wrap (numAt c.v ((0 : Int) + (4 : Int)) (Int.toNat (4 : Int)))))), O.d (D.v (Value.int IntKind.u16 (IntKind.u16.wrap (numAt c.v ((0 : Int) + (4 : Int) + (4 : Int)) (Int.toNat (2 : Int)))))), O.d (D.v (Value.int IntKind.u16 (IntKind.u16.wrap (numAt c.v ((0 : Int) + (4 : Int) + (4 : Int) + (2 : Int)) (Int.toNat (2 : Int)))))), O.d (D.v (Value.int IntKind.u32 (IntKind.u32.wrap (numAt c.v ((0 : Int) + (4 : Int) + (4 : Int) + (2 : Int) + (2 : Int)) (Int.toNat (4 : Int)))))), O.d (D.ints IntKind.u8 [])], O.d (D.v (Value.bool (decide (c.t = (2 : Int)))))] = [O.agg [O.d (D.v (Value.int IntKind.u32 h.tag)), O.d (D.v (Value.int IntKind.u32 h.win)), O.d (D.v (Value.int IntKind.u16 h.out)), O.d (D.v (Value.int IntKind.u16 h.inn)), O.d (D.v (Value.int IntKind.u32 h.tsn)), O.d (D.ints IntKind.u8 h.cookie)], O.d (D.v (Value.bool b))] ∧
  okHel h) ∧ True ∧ sw (!decide ((fromHel (HelR.mk (IntKind.u32.wrap (numAt c.v (0 : Int) (Int.toNat (4 : Int)))) (IntKind.u32.wrap (numAt c.v ((0 : Int) + (4 : Int)) (Int.toNat (4 : Int)))) (IntKind.u16.wrap (numAt c.v ((0 : Int) + (4 : Int) + (4 : Int)) (Int.toNat (2 : Int)))) (IntKind.u16.wrap (numAt c.v ((0 : Int) + (4 : Int) + (4 : Int) + (2 : Int)) (Int.toNat (2 : Int)))) (IntKind.u32.wrap (numAt c.v ((0 : Int) + (4 : Int) + (4 : Int) + (2 : Int) + (2 : Int)) (Int.toNat (4 : Int)))) []) (decide (c.t = (2 : Int)))).snd = (0 : Int))) ((0 : Int) = (toHel (ChR.mk c.t c.f c.v)).fst.tag ∧
  (0 : Int) = (toHel (ChR.mk c.t c.f c.v)).fst.win ∧ (0 : Int) = (toHel (ChR.mk c.t c.f c.v)).fst.out ∧ (0 : Int) = (toHel (ChR.mk c.t c.f c.v)).fst.inn ∧
  (0 : Int) = (toHel (ChR.mk c.t c.f c.v)).fst.tsn ∧ (toHel (ChR.mk c.t c.f c.v)).fst.cookie = [] ∧ (2 : Int) = (toHel (ChR.mk c.t c.f c.v)).snd ∧ (true && true) = true) ((∃ (c_1 : ChR), ∃ (d : ChR), [O.agg [O.d (D.v (Value.int IntKind.u8 (fromHel (HelR.mk (IntKind.u32.wrap (numAt c.v (0 : Int) (Int.toNat (4 : Int)))) (IntKind.u32.wrap (numAt c.v ((0 : Int) + (4 : Int)) (Int.toNat (4 : Int)))) (IntKind.u16.wrap (numAt c.v ((0 : Int) + (4 : Int) + (4 : Int)) (Int.toNat (2 : Int)))) (IntKind.u16.wrap (numAt c.v ((0 : Int) + (4 : Int) + (4 : Int) + (2 : Int)) (Int.toNat (2 : Int)))) (IntKind.u32.wrap (numAt c.v ((0 : Int) + (4 : Int) + (4 : Int) + (2 : Int) + (2 : Int)) (Int.toNat (4 : Int)))) []) (decide (c.t = (2 : Int)))).fst.t)), O.d (D.v (Value.int IntKind.u8 (fromHel (HelR.mk (IntKind.u32.wrap (numAt c.v (0 : Int) (Int.toNat (4 : Int)))) (IntKind.u32.wrap (numAt c.v ((0 : Int) + (4 : Int)) (Int.toNat (4 : Int)))) (IntKind.u16.wrap (numAt c.v ((0 : Int) + (4 : Int) + (4 : Int)) (Int.toNat (2 : Int)))) (IntKind.u16.wrap (numAt c.v ((0 : Int) + (4 : Int) + (4 : Int) + (2 : Int)) (Int.toNat (2 : Int)))) (IntKind.u32.wrap (numAt c.v ((0 : Int) + (4 : Int) + (4 : Int) + (2 : Int) + (2 : Int)) (Int.toNat (4 : Int)))) []) (decide (c.t = (2 : Int)))).fst.f)), O.d (D.ints IntKind.u8 (fromHel (HelR.mk (IntKind.u32.wrap (numAt c.v (0 : Int) (Int.toNat (4 : Int)))) (IntKind.u32.wrap (numAt c.v ((0 : Int) + (4 : Int)) (Int.toNat (4 : Int)))) (IntKind.u16.wrap (numAt c.v ((0 : Int) + (4 : Int) + (4 : Int)) (Int.toNat (2 : Int)))) (IntKind.u16.wrap (numAt c.v ((0 : Int) + (4 : Int) + (4 : Int) + (2 : Int)) (Int.toNat (2 : Int)))) (IntKind.u32.wrap (numAt c.v ((0 : Int) + (4 : Int) + (4 : Int) + (2 : Int) + (2 : Int)) (Int.toNat (4 : Int)))) []) (decide (c.t = (2 : Int)))).fst.v)], O.agg [O.d (D.v (Value.int IntKind.u8 c.t)), O.d (D.v (Value.int IntKind.u8 c.f)), O.d (D.ints IntKind.u8 c.v)]] = [O.agg [O.d (D.v (Value.int IntKind.u8 c_1.t)), O.d (D.v (Value.int IntKind.u8 c_1.f)), O.d (D.ints IntKind.u8 c_1.v)], O.agg [O.d (D.v (Value.int IntKind.u8 d.t)), O.d (D.v (Value.int IntKind.u8 d.f)), O.d (D.ints IntKind.u8 d.v)]] ∧
  okCh c_1) ∧ sw (!sameB (ChR.mk (fromHel (HelR.mk (IntKind.u32.wrap (numAt c.v (0 : Int) (Int.toNat (4 : Int)))) (IntKind.u32.wrap (numAt c.v ((0 : Int) + (4 : Int)) (Int.toNat (4 : Int)))) (IntKind.u16.wrap (numAt c.v ((0 : Int) + (4 : Int) + (4 : Int)) (Int.toNat (2 : Int)))) (IntKind.u16.wrap (numAt c.v ((0 : Int) + (4 : Int) + (4 : Int) + (2 : Int)) (Int.toNat (2 : Int)))) (IntKind.u32.wrap (numAt c.v ((0 : Int) + (4 : Int) + (4 : Int) + (2 : Int) + (2 : Int)) (Int.toNat (4 : Int)))) []) (decide (c.t = (2 : Int)))).fst.t (fromHel (HelR.mk (IntKind.u32.wrap (numAt c.v (0 : Int) (Int.toNat (4 : Int)))) (IntKind.u32.wrap (numAt c.v ((0 : Int) + (4 : Int)) (Int.toNat (4 : Int)))) (IntKind.u16.wrap (numAt c.v ((0 : Int) + (4 : Int) + (4 : Int)) (Int.toNat (2 : Int)))) (IntKind.u16.wrap (numAt c.v ((0 : Int) + (4 : Int) + (4 : Int) + (2 : Int)) (Int.toNat (2 : Int)))) (IntKind.u32.wrap (numAt c.v ((0 : Int) + (4 : Int) + (4 : Int) + (2 : Int) + (2 : Int)) (Int.toNat (4 : Int)))) []) (decide (c.t = (2 : Int)))).fst.f (fromHel (HelR.mk (IntKind.u32.wrap (numAt c.v (0 : Int) (Int.toNat (4 : Int)))) (IntKind.u32.wrap (numAt c.v ((0 : Int) + (4 : Int)) (Int.toNat (4 : Int)))) (IntKind.u16.wrap (numAt c.v ((0 : Int) + (4 : Int) + (4 : Int)) (Int.toNat (2 : Int)))) (IntKind.u16.wrap (numAt c.v ((0 : Int) + (4 : Int) + (4 : Int) + (2 : Int)) (Int.toNat (2 : Int)))) (IntKind.u32.wrap (numAt c.v ((0 : Int) + (4 : Int) + (4 : Int) + (2 : Int) + (2 : Int)) (Int.toNat (4 : Int)))) []) (decide (c.t = (2 : Int)))).fst.v) (ChR.mk c.t c.f c.v)) ((0 : Int) = (toHel (ChR.mk c.t c.f c.v)).fst.tag ∧
  (0 : Int) = (toHel (ChR.mk c.t c.f c.v)).fst.win ∧ (0 : Int) = (toHel (ChR.mk c.t c.f c.v)).fst.out ∧ (0 : Int) = (toHel (ChR.mk c.t c.f c.v)).fst.inn ∧
  (0 : Int) = (toHel (ChR.mk c.t c.f c.v)).fst.tsn ∧ (toHel (ChR.mk c.t c.f c.v)).fst.cookie = [] ∧ (2 : Int) = (toHel (ChR.mk c.t c.f c.v)).snd ∧ (true && true) = true) (IntKind.u32.wrap (numAt c.v (0 : Int) (Int.toNat (4 : Int))) = (toHel (ChR.mk c.t c.f c.v)).fst.tag ∧
  IntKind.u32.wrap (numAt c.v ((0 : Int) + (4 : Int)) (Int.toNat (4 : Int))) = (toHel (ChR.mk c.t c.f c.v)).fst.win ∧ IntKind.u16.wrap (numAt c.v ((0 : Int) + (4 : Int) + (4 : Int)) (Int.toNat (2 : Int))) = (toHel (ChR.mk c.t c.f c.v)).fst.out ∧
  IntKind.u16.wrap (numAt c.v ((0 : Int) + (4 : Int) + (4 : Int) + (2 : Int)) (Int.toNat (2 : Int))) = (toHel (ChR.mk c.t c.f c.v)).fst.inn ∧ IntKind.u32.wrap (numAt c.v ((0 : Int) + (4 : Int) + (4 : Int) + (2 : Int) + (2 : Int)) (Int.toNat (4 : Int))) = (toHel (ChR.mk c.t c.f c.v)).fst.tsn ∧
  (toHel (ChR.mk c.t c.f c.v)).fst.cookie = [] ∧ (0 : Int) = (toHel (ChR.mk c.t c.f c.v)).snd ∧ (true && true) = true))) := by
  simp only [↓sw_iff, ↓Bool.and_eq_true, ↓decide_eq_true_eq, ↓decide_eq_false_iff_not, ↓Bool.not_eq_true', ↓Bool.not_eq_false', true_and, and_true, Bool.false_or, toNat2, toNat4, ch_eta, Int.reduceAdd]
  intro c h1 h2
  obtain ⟨w1, w2, w3, w4, w5, w6, w7⟩ := num_w h1
  simp only [w1, w2, w3, w4, w5, w6, hel1_eta, hel1_nil]
  have hh := helOf_ok h1 h2
  have n18 := num_rng h1 18 (k := 2)
  have p2 : (256 : Int) ^ 2 = 65536 := rfl
  rw [p2] at n18
  have sml : ∀ H b, okCh (fromHel H b).1 := fun H b => by have := fromHel_len H b; unfold okCh sm; omega
  refine ⟨⟨c.v, 0, _, 4, rfl, h2, h1, by decide, by decide, by decide, by decide⟩, ⟨c.v, 4, _, 4, rfl, h2, h1, by decide, by decide, by decide, by decide⟩, ⟨c.v, 8, _, 2, rfl, h2, h1, by decide, by decide, by decide, by decide⟩, ⟨c.v, 10, _, 2, rfl, h2, h1, by decide, by decide, by decide, by decide⟩, ⟨c.v, 12, _, 4, rfl, h2, h1, by decide, by decide, by decide, by decide⟩,
    fun t2 => ⟨⟨c.v, 16, _, 2, rfl, h2, h1, by decide, by decide, by decide, by decide⟩, fun t7 => ⟨⟨c.v, 18, _, 2, rfl, h2, h1, by decide, by decide, by decide, by decide⟩, ⟨c.v, 20, _, rfl, h2, by unfold okI; omega, by unfold okI; omega⟩, ?_⟩, fun t7 => ?_⟩, fun t2 => ?_⟩
  · have ho : helOf c = hel1 c.v (partF c.v 20 (numAt c.v 18 2 - 4)).1 := by unfold helOf; rw [if_pos ⟨t2, t7⟩]; rfl
    rw [ho] at hh
    exact ⟨⟨hel1 c.v (partF c.v 20 (numAt c.v 18 2 - 4)).1, _, rfl, hh⟩, fun e => err_leaf (toHel_e1 ho e), fun e => ⟨⟨(fromHel (hel1 c.v (partF c.v 20 (numAt c.v 18 2 - 4)).1) (decide (c.t = 2))).1, c, rfl, sml _ _⟩, fun e2 => err_leaf (toHel_e2 ho e2), fun e2 => ok_leaf (toHel_e3 ho e e2)⟩⟩
  · have ho : helOf c = hel0 c.v := by unfold helOf; rw [if_neg (fun x => t7 x.2)]
    rw [ho] at hh
    exact ⟨⟨hel0 c.v, _, rfl, hh⟩, fun e => err_leaf (toHel_e1 ho e), fun e => ⟨⟨(fromHel (hel0 c.v) (decide (c.t = 2))).1, c, rfl, sml _ _⟩, fun e2 => err_leaf (toHel_e2 ho e2), fun e2 => ok_leaf0 (toHel_e3 ho e e2)⟩⟩
  · have ho : helOf c = hel0 c.v := by unfold helOf; rw [if_neg (fun x => t2 x.1)]
    rw [ho] at hh
    exact ⟨⟨hel0 c.v, _, rfl, hh⟩, fun e => err_leaf (toHel_e1 ho e), fun e => ⟨⟨(fromHel (hel0 c.v) (decide (c.t = 2))).1, c, rfl, sml _ _⟩, fun e2 => err_leaf (toHel_e2 ho e2), fun e2 => ok_leaf0 (toHel_e3 ho e e2)⟩⟩
set_option maxRecDepth 100000 in
theorem ok158 : FnIs Try.prog 158 toHelC := by
  refine fnIs (C := (ctrs c15)) (by kernel_rfl) c15_ok Try.func158 (code := code158) (by kernel_rfl) (by kernel_rfl) ?_
  rintro a ⟨c, rfl, h1, h2⟩
  exact ⟨anns [] [3, 7], kcast (vc158 c h1 h2) (by kernel_rfl)⟩

noncomputable def code168 : Code := match Try.f168.body with | some c => c | none => .skip
set_option maxHeartbeats 4000000 in
theorem vc168 : ∀ (c : ChR), okB c.v → sm c.v.length → True ∧ sw (!decide (c.t = (1 : Int))) (True ∧ sw (!decide (c.t = (2 : Int))) ((0 : Int) = (toHel (ChR.mk c.t c.f c.v)).fst.tag ∧
  (0 : Int) = (toHel (ChR.mk c.t c.f c.v)).fst.win ∧ (0 : Int) = (toHel (ChR.mk c.t c.f c.v)).fst.out ∧ (0 : Int) = (toHel (ChR.mk c.t c.f c.v)).fst.inn ∧
  (0 : Int) = (toHel (ChR.mk c.t c.f c.v)).fst.tsn ∧ (toHel (ChR.mk c.t c.f c.v)).fst.cookie = [] ∧ (2 : Int) = (toHel (ChR.mk c.t c.f c.v)).snd ∧ (true && true) = true) (True ∧
  sw (decide ((↑c.v.length : Int) < (16 : Int))) ((0 : Int) = (toHel (ChR.mk c.t c.f c.v)).fst.tag ∧ (0 : Int) = (toHel (ChR.mk c.t c.f c.v)).fst.win ∧ (0 : Int) = (toHel (ChR.mk c.t c.f c.v)).fst.out ∧
  (0 : Int) = (toHel (ChR.mk c.t c.f c.v)).fst.inn ∧ (0 : Int) = (toHel (ChR.mk c.t c.f c.v)).fst.tsn ∧ (toHel (ChR.mk c.t c.f c.v)).fst.cookie = [] ∧ (2 : Int) = (toHel (ChR.mk c.t c.f c.v)).snd ∧
  (true && true) = true) ((∃ (b : List Int), ∃ (i : Int), ∃ (k : Nat), [O.d (D.ints IntKind.u8 c.v), O.d (D.v (Value.int IntKind.i64 (0 : Int))), O.d (D.v (Value.int IntKind.i64 (4 : Int)))] = [O.d (D.ints IntKind.u8 b), O.d (D.v (Value.int IntKind.i64 i)), O.d (D.v (Value.int IntKind.i64 (↑k : Int)))] ∧
  sm b.length ∧ okB b ∧ okI i ∧ (1 : Nat) ≤ k ∧ k ≤ (7 : Nat)) ∧ (∃ (b : List Int), ∃ (i : Int), ∃ (k : Nat), [O.d (D.ints IntKind.u8 c.v), O.d (D.v (Value.int IntKind.i64 (4 : Int))), O.d (D.v (Value.int IntKind.i64 (4 : Int)))] = [O.d (D.ints IntKind.u8 b), O.d (D.v (Value.int IntKind.i64 i)), O.d (D.v (Value.int IntKind.i64 (↑k : Int)))] ∧
  sm b.length ∧ okB b ∧ okI i ∧ (1 : Nat) ≤ k ∧ k ≤ (7 : Nat)) ∧ (∃ (b : List Int), ∃ (i : Int), ∃ (k : Nat), [O.d (D.ints IntKind.u8 c.v), O.d (D.v (Value.int IntKind.i64 (8 : Int))), O.d (D.v (Value.int IntKind.i64 (2 : Int)))] = [O.d (D.ints IntKind.u8 b), O.d (D.v (Value.int IntKind.i64 i)), O.d (D.v (Value.int IntKind.i64 (↑k : Int)))] ∧
  sm b.length ∧ okB b ∧ okI i ∧ (1 : Nat) ≤ k ∧ k ≤ (7 : Nat)) ∧ (∃ (b : List Int), ∃ (i : Int), ∃ (k : Nat), [O.d (D.ints IntKind.u8 c.v), O.d (D.v (Value.int IntKind.i64 (10 : Int))), O.d (D.v (Value.int IntKind.i64 (2 : Int)))] = [O.d (D.ints IntKind.u8 b), O.d (D.v (Value.int IntKind.i64 i)), O.d (D.v (Value.int IntKind.i64 (↑k : Int)))] ∧
  sm b.length ∧ okB b ∧ okI i ∧ (1 : Nat) ≤ k ∧ k ≤ (7 : Nat)) ∧ (∃ (b : List Int), ∃ (i : Int), ∃ (k : Nat), [O.d (D.ints IntKind.u8 c.v), O.d (D.v (Value.int IntKind.i64 (12 : Int))), O.d (D.v (Value.int IntKind.i64 (4 : Int)))] = [O.d (D.ints IntKind.u8 b), O.d (D.v (Value.int IntKind.i64 i)), O.d (D.v (Value.int IntKind.i64 (↑k : Int)))] ∧
  sm b.length ∧ okB b ∧ okI i ∧ (1 : Nat) ≤ k ∧ k ≤ (7 : Nat)) ∧ True ∧ sw (decide (c.t = (2 : Int))) (True ∧ sw (decide ((↑c.v.length : Int) < (20 : Int))) ((0 : Int) = (toHel (ChR.mk c.t c.f c.v)).fst.tag ∧
  (0 : Int) = (toHel (ChR.mk c.t c.f c.v)).fst.win ∧ (0 : Int) = (toHel (ChR.mk c.t c.f c.v)).fst.out ∧ (0 : Int) = (toHel (ChR.mk c.t c.f c.v)).fst.inn ∧
  (0 : Int) = (toHel (ChR.mk c.t c.f c.v)).fst.tsn ∧ (toHel (ChR.mk c.t c.f c.v)).fst.cookie = [] ∧ (2 : Int) = (toHel (ChR.mk c.t c.f c.v)).snd ∧ (true && true) = true) ((∃ (b : List Int), ∃ (i : Int), ∃ (k : Nat), [O.d (D.ints IntKind.u8 c.v), O.d (D.v (Value.int IntKind.i64 (18 : Int))), O.d (D.v (Value.int IntKind.i64 (2 : Int)))] = [O.d (D.ints IntKind.u8 b), O.d (D.v (Value.int IntKind.i64 i)), O.d (D.v (Value.int IntKind.i64 (↑k : Int)))] ∧
  sm b.length ∧ okB b ∧ okI i ∧ (1 : Nat) ≤ k ∧ k ≤ (7 : Nat)) ∧ True ∧ True ∧ sw (decide (IntKind.i64.wrap (valF (partF c.v (18 : Int) (↑(Int.toNat (2 : Int)) : Int)).fst - (4 : Int)) < (0 : Int))) ((0 : Int) = (toHel (ChR.mk c.t c.f c.v)).fst.tag ∧
  (0 : Int) = (toHel (ChR.mk c.t c.f c.v)).fst.win ∧ (0 : Int) = (toHel (ChR.mk c.t c.f c.v)).fst.out ∧ (0 : Int) = (toHel (ChR.mk c.t c.f c.v)).fst.inn ∧
  (0 : Int) = (toHel (ChR.mk c.t c.f c.v)).fst.tsn ∧ (toHel (ChR.mk c.t c.f c.v)).fst.cookie = [] ∧ (2 : Int) = (toHel (ChR.mk c.t c.f c.v)).snd ∧ (true && true) = true) (True ∧
  True ∧ sw (decide (IntKind.i64.wrap ((↑c.v.length : Int) - (20 : Int)) < IntKind.i64.wrap (valF (partF c.v (18 : Int) (↑(Int.toNat (2 : Int)) : Int)).fst - (4 : Int)))) ((0 : Int) = (toHel (ChR.mk c.t c.f c.v)).fst.tag ∧
  (0 : Int) = (toHel (ChR.mk c.t c.f c.v)).fst.win ∧ (0 : Int) = (toHel (ChR.mk c.t c.f c.v)).fst.out ∧ (0 : Int) = (toHel (ChR.mk c.t c.f c.v)).fst.inn ∧
  (0 : Int) = (toHel (ChR.mk c.t c.f c.v)).fst.tsn ∧ (toHel (ChR.mk c.t c.f c.v)).fst.cookie = [] ∧ (2 : Int) = (toHel (ChR.mk c.t c.f c.v)).snd ∧ (true && true) = true) (True ∧
  ((0 : Int) ≤ (20 : Int) ∧ (20 : Int) ≤ IntKind.i64.wrap ((20 : Int) + IntKind.i64.wrap (valF (partF c.v (18 : Int) (↑(Int.toNat (2 : Int)) : Int)).fst - (4 : Int))) ∧
  IntKind.i64.wrap ((20 : Int) + IntKind.i64.wrap (valF (partF c.v (18 : Int) (↑(Int.toNat (2 : Int)) : Int)).fst - (4 : Int))) ≤ (↑c.v.length : Int)) ∧ True ∧
  ((0 : Nat) + (List.take ((IntKind.i64.wrap ((20 : Int) + IntKind.i64.wrap (valF (partF c.v (18 : Int) (↑(Int.toNat (2 : Int)) : Int)).fst - (4 : Int)))).toNat - Int.toNat (20 : Int)) (List.drop (Int.toNat (20 : Int)) c.v)).length) * Try.prog.types[(5 : Nat)].bytes ≤ (140737488355328 : Nat) ∧
  True ∧ (∃ (h : HelR), ∃ (b : Bool), [O.agg [O.d (D.v (Value.int IntKind.u32 (IntKind.u32.wrap (valF (partF c.v (0 : Int) (↑(Int.toNat (4 : Int)) : Int)).fst)))), O.d (D.v (Value.int IntKind.u32 (IntKind.u32.wrap (valF (partF c.v (4 : Int) (↑(Int.toNat (4 : Int)) : Int)).fst)))), O.d (D.v (Value.int IntKind.u16 (IntKind.u16.wrap (valF (partF c.v (8 : Int) (↑(Int.toNat (2 : Int)) : Int)).fst)))), O.d (D.v (Value.int IntKind.u16 (IntKind.u16.wrap (valF (partF c.v (10 : Int) (↑(Int.toNat (2 : Int)) : Int)).fst)))), O.d (D.v (Value.int IntKind.u32 (IntKind.u32.wrap (valF (partF c.v (12 : Int) (↑(Int.toNat (4 : Int)) : Int)).fst)))), O.d (D.ints IntKind.u8 ([] ++ List.take ((IntKind.i64.wrap ((20 : Int) + IntKind.i64.wrap (valF (partF c.v (18 : Int) (↑(Int.toNat (2 : Int)) : Int)).fst - (4 : Int)))).toNat - Int.toNat (20 : Int)) (List.drop (Int.toNat (20 : Int)) c.v)))], O.d (D.v (Value.bool (decide (c.t = (2 : Int)))))] = [O.agg [O.d (D.v (Value.int IntKind.u32 h.tag)), O.d (D.v (Value.int IntKind.u32 h.win)), O.d (D.v (Value.int IntKind.u16 h.out)), O.d (D.v (Value.int IntKind.u16 h.inn)), O.d (D.v (Value.int IntKind.u32 h.tsn)), O.d (D.ints IntKind.u8 h.cookie)], O.d (D.v (Value.bool b))] ∧
  okHel h) ∧ True ∧ sw (!decide ((fromHel (HelR.mk (IntKind.u32.wrap (valF (partF c.v (0 : Int) (↑(Int.toNat (4 : Int)) : Int)).fst)) (IntKind.u32.wrap (valF (partF c.v (4 : Int) (↑(Int.toNat (4 : Int)) : Int)).fst)) (IntKind.u16.wrap (valF (partF c.v (8 : Int) (↑(Int.toNat (2 : Int)) : Int)).fst)) (IntKind.u16.wrap (valF (partF c.v (10 : Int) (↑(Int.toNat (2 : Int)) : Int)).fst)) (IntKind.u32.wrap (valF (partF c.v (12 : Int) (↑(Int.toNat (4 : Int)) : Int)).fst)) ([] ++ List.take ((IntKind.i64.wrap ((20 : Int) + IntKind.i64.wrap (valF (partF c.v (18 : Int) (↑(Int.toNat (2 : Int)) : Int)).fst - (4 : Int)))).toNat - Int.toNat (20 : Int)) (List.drop (Int.toNat (20 : Int)) c.v))) (decide (c.t = (2 : Int)))).snd = (0 : Int))) ((0 : Int) = (toHel (ChR.mk c.t c.f c.v)).fst.tag ∧
  (0 : Int) = (toHel (ChR.mk c.t c.f c.v)).fst.win ∧ (0 : Int) = (toHel (ChR.mk c.t c.f c.v)).fst.out ∧ (0 : Int) = (toHel (ChR.mk c.t c.f c.v)).fst.inn ∧
  (0 : Int) = (toHel (ChR.mk c.t c.f c.v)).fst.tsn ∧ (toHel (ChR.mk c.t c.f c.v)).fst.cookie = [] ∧ (2 : Int) = (toHel (ChR.mk c.t c.f c.v)).snd ∧ (true && true) = true) ((∃ (c_1 : ChR), ∃ (d : ChR), [O.agg [O.d (D.v (Value.int IntKind.u8 (fromHel (HelR.mk (IntKind.u32.wrap (valF (partF c.v (0 : Int) (↑(Int.toNat (4 : Int)) : Int)).fst)) (IntKind.u32.wrap (valF (partF c.v (4 : Int) (↑(Int.toNat (4 : Int)) : Int)).fst)) (IntKind.u16.wrap (valF (partF c.v (8 : Int) (↑(Int.toNat (2 : Int)) : Int)).fst)) (IntKind.u16.wrap (valF (partF c.v (10 : Int) (↑(Int.toNat (2 : Int)) : Int)).fst)) (IntKind.u32.wrap (valF (partF c.v (12 : Int) (↑(Int.toNat (4 : Int)) : Int)).fst)) ([] ++ List.take ((IntKind.i64.wrap ((20 : Int) + IntKind.i64.wrap (valF (partF c.v (18 : Int) (↑(Int.toNat (2 : Int)) : Int)).fst - (4 : Int)))).toNat - Int.toNat (20 : Int)) (List.drop (Int.toNat (20 : Int)) c.v))) (decide (c.t = (2 : Int)))).fst.t)), O.d (D.v (Value.int IntKind.u8 (fromHel (HelR.mk (IntKind.u32.wrap (valF (partF c.v (0 : Int) (↑(Int.toNat (4 : Int)) : Int)).fst)) (IntKind.u32.wrap (valF (partF c.v (4 : Int) (↑(Int.toNat (4 : Int)) : Int)).fst)) (IntKind.u16.wrap (valF (partF c.v (8 : Int) (↑(Int.toNat (2 : Int)) : Int)).fst)) (IntKind.u16.wrap (valF (partF c.v (10 : Int) (↑(Int.toNat (2 : Int)) : Int)).fst)) (IntKind.u32.wrap (valF (partF c.v (12 : Int) (↑(Int.toNat (4 : Int)) : Int)).fst)) ([] ++ List.take ((IntKind.i64.wrap ((20 : Int) + IntKind.i64.wrap (valF (partF c.v (18 : Int) (↑(Int.toNat (2 : Int)) : Int)).fst - (4 : Int)))).toNat - Int.toNat (20 : Int)) (List.drop (Int.toNat (20 : Int)) c.v))) (decide (c.t = (2 : Int)))).fst.f)), O.d (D.ints IntKind.u8 (fromHel (HelR.mk (IntKind.u32.wrap (valF (partF c.v (0 : Int) (↑(Int.toNat (4 : Int)) : Int)).fst)) (IntKind.u32.wrap (valF (partF c.v (4 : Int) (↑(Int.toNat (4 : Int)) : Int)).fst)) (IntKind.u16.wrap (valF (partF c.v (8 : Int) (↑(Int.toNat (2 : Int)) : Int)).fst)) (IntKind.u16.wrap (valF (partF c.v (10 : Int) (↑(Int.toNat (2 : Int)) : Int)).fst)) (IntKind.u32.wrap (valF (partF c.v (12 : Int) (↑(Int.toNat (4 : Int)) : Int)).fst)) ([] ++ List.take ((IntKind.i64.wrap ((20 : Int) + IntKind.i64.wrap (valF (partF c.v (18 : Int) (↑(Int.toNat (2 : Int)) : Int)).fst - (4 : Int)))).toNat - Int.toNat (20 : Int)) (List.drop (Int.toNat (20 : Int)) c.v))) (decide (c.t = (2 : Int)))).fst.v)], O.agg [O.d (D.v (Value.int IntKind.u8 c.t)), O.d (D.v (Value.int IntKind.u8 c.f)), O.d (D.ints IntKind.u8 c.v)]] = [O.agg [O.d (D.v (Value.int IntKind.u8 c_1.t)), O.d (D.v (Value.int IntKind.u8 c_1.f)), O.d (D.ints IntKind.u8 c_1.v)], O.agg [O.d (D.v (Value.int IntKind.u8 d.t)), O.d (D.v (Value.int IntKind.u8 d.f)), O.d (D.ints IntKind.u8 d.v)]]) ∧
  sw (!sameCh (ChR.mk (fromHel (HelR.mk (IntKind.u32.wrap (valF (partF c.v (0 : Int) (↑(Int.toNat (4 : Int)) : Int)).fst)) (IntKind.u32.wrap (valF (partF c.v (4 : Int) (↑(Int.toNat (4 : Int)) : Int)).fst)) (IntKind.u16.wrap (valF (partF c.v (8 : Int) (↑(Int.toNat (2 : Int)) : Int)).fst)) (IntKind.u16.wrap (valF (partF c.v (10 : Int) (↑(Int.toNat (2 : Int)) : Int)).fst)) (IntKind.u32.wrap (valF (partF c.v (12 : Int) (↑(Int.toNat (4 : Int)) : Int)).fst)) ([] ++ List.take ((IntKind.i64.wrap ((20 : Int) + IntKind.i64.wrap (valF (partF c.v (18 : Int) (↑(Int.toNat (2 : Int)) : Int)).fst - (4 : Int)))).toNat - Int.toNat (20 : Int)) (List.drop (Int.toNat (20 : Int)) c.v))) (decide (c.t = (2 : Int)))).fst.t (fromHel (HelR.mk (IntKind.u32.wrap (valF (partF c.v (0 : Int) (↑(Int.toNat (4 : Int)) : Int)).fst)) (IntKind.u32.wrap (valF (partF c.v (4 : Int) (↑(Int.toNat (4 : Int)) : Int)).fst)) (IntKind.u16.wrap (valF (partF c.v (8 : Int) (↑(Int.toNat (2 : Int)) : Int)).fst)) (IntKind.u16.wrap (valF (partF c.v (10 : Int) (↑(Int.toNat (2 : Int)) : Int)).fst)) (IntKind.u32.wrap (valF (partF c.v (12 : Int) (↑(Int.toNat (4 : Int)) : Int)).fst)) ([] ++ List.take ((IntKind.i64.wrap ((20 : Int) + IntKind.i64.wrap (valF (partF c.v (18 : Int) (↑(Int.toNat (2 : Int)) : Int)).fst - (4 : Int)))).toNat - Int.toNat (20 : Int)) (List.drop (Int.toNat (20 : Int)) c.v))) (decide (c.t = (2 : Int)))).fst.f (fromHel (HelR.mk (IntKind.u32.wrap (valF (partF c.v (0 : Int) (↑(Int.toNat (4 : Int)) : Int)).fst)) (IntKind.u32.wrap (valF (partF c.v (4 : Int) (↑(Int.toNat (4 : Int)) : Int)).fst)) (IntKind.u16.wrap (valF (partF c.v (8 : Int) (↑(Int.toNat (2 : Int)) : Int)).fst)) (IntKind.u16.wrap (valF (partF c.v (10 : Int) (↑(Int.toNat (2 : Int)) : Int)).fst)) (IntKind.u32.wrap (valF (partF c.v (12 : Int) (↑(Int.toNat (4 : Int)) : Int)).fst)) ([] ++ List.take ((IntKind.i64.wrap ((20 : Int) + IntKind.i64.wrap (valF (partF c.v (18 : Int) (↑(Int.toNat (2 : Int)) : Int)).fst - (4 : Int)))).toNat - Int.toNat (20 : Int)) (List.drop (Int.toNat (20 : Int)) c.v))) (decide (c.t = (2 : Int)))).fst.v) (ChR.mk c.t c.f c.v)) ((0 : Int) = (toHel (ChR.mk c.t c.f c.v)).fst.tag ∧
  (0 : Int) = (toHel (ChR.mk c.t c.f c.v)).fst.win ∧ (0 : Int) = (toHel (ChR.mk c.t c.f c.v)).fst.out ∧ (0 : Int) = (toHel (ChR.mk c.t c.f c.v)).fst.inn ∧
  (0 : Int) = (toHel (ChR.mk c.t c.f c.v)).fst.tsn ∧ (toHel (ChR.mk c.t c.f c.v)).fst.cookie = [] ∧ (2 : Int) = (toHel (ChR.mk c.t c.f c.v)).snd ∧ (true && true) = true) (IntKind.u32.wrap (valF (partF c.v (0 : Int) (↑(Int.toNat (4 : Int)) : Int)).fst) = (toHel (ChR.mk c.t c.f c.v)).fst.tag ∧
  IntKind.u32.wrap (valF (partF c.v (4 : Int) (↑(Int.toNat (4 : Int)) : Int)).fst) = (toHel (ChR.mk c.t c.f c.v)).fst.win ∧ IntKind.u16.wrap (valF (partF c.v (8 : Int) (↑(Int.toNat (2 : Int)) : Int)).fst) = (toHel (ChR.mk c.t c.f c.v)).fst.out ∧
  IntKind.u16.wrap (valF (partF c.v (10 : Int) (↑(Int.toNat (2 : Int)) : Int)).fst) = (toHel (ChR.mk c.t c.f c.v)).fst.inn ∧ IntKind.u32.wrap (valF (partF c.v (12 : Int) (↑(Int.toNat (4 : Int)) : Int)).fst) = (toHel (ChR.mk c.t c.f c.v)).fst.tsn ∧
  [] ++ List.take ((IntKind.i64.wrap ((20 : Int) + IntKind.i64.wrap (valF (partF c.v (18 : Int) (↑(Int.toNat (2 : Int)) : Int)).fst - (4 : Int)))).toNat - Int.toNat (20 : Int)) (List.drop (Int.toNat (20 : Int)) c.v) = (toHel (ChR.mk c.t c.f c.v)).fst.cookie ∧
  (0 : Int) = (toHel (ChR.mk c.t c.f c.v)).snd ∧ (!false && true && true) = true)))))) (True ∧ (∃ (h : HelR), ∃ (b : Bool), [O.agg [O.d (D.v (Value.int IntKind.u32 (IntKind.u32.wrap (valF (partF c.v (0 : Int) (↑(Int.toNat (4 : Int)) : Int)).fst)))), O.d (D.v (Value.int IntKind.u32 (IntKind.u32.wrap (valF (partF c.v (4 : Int) (↑(Int.toNat (4 : Int)) : Int)).fst)))), O.d (D.v (Value.int IntKind.u16 (IntKind.u16.wrap (valF (partF c.v (8 : Int) (↑(Int.toNat (2 : Int)) : Int)).fst)))), O.d (D.v (Value.int IntKind.u16 (IntKind.u16.wrap (valF (partF c.v (10 : Int) (↑(Int.toNat (2 : Int)) : Int)).fst)))), O.d (D.v (Value.int IntKind.u32 (IntKind.u32.wrap (valF (partF c.v (12 : Int) (↑(Int.toNat (4 : Int)) : Int)).fst)))), O.d (D.ints IntKind.u8 [])], O.d (D.v (Value.bool (decide (c.t = (2 : Int)))))] = [O.agg [O.d (D.v (Value.int IntKind.u32 h.tag)), O.d (D.v (Value.int IntKind.u32 h.win)), O.d (D.v (Value.int IntKind.u16 h.out)), O.d (D.v (Value.int IntKind.u16 h.inn)), O.d (D.v (Value.int IntKind.u32 h.tsn)), O.d (D.ints IntKind.u8 h.cookie)], O.d (D.v (Value.bool b))] ∧
  okHel h) ∧ True ∧ sw (!decide ((fromHel (HelR.mk (IntKind.u32.wrap (valF (partF c.v (0 : Int) (↑(Int.toNat (4 : Int)) : Int)).fst)) (IntKind.u32.wrap (valF (partF c.v (4 : Int) (↑(Int.toNat (4 : Int)) : Int)).fst)) (IntKind.u16.wrap (valF (partF c.v (8 : Int) (↑(Int.toNat (2 : Int)) : Int)).fst)) (IntKind.u16.wrap (valF (partF c.v (10 : Int) (↑(Int.toNat (2 : Int)) : Int)).fst)) (IntKind.u32.wrap (valF (partF c.v (12 : Int) (↑(Int.toNat (4 : Int)) : Int)).fst)) []) (decide (c.t = (2 : Int)))).snd = (0 : Int))) ((0 : Int) = (toHel (ChR.mk c.t c.f c.v)).fst.tag ∧
  (0 : Int) = (toHel (ChR.mk c.t c.f c.v)).fst.win ∧ (0 : Int) = (toHel (ChR.mk c.t c.f c.v)).fst.out ∧ (0 : Int) = (toHel (ChR.mk c.t c.f c.v)).fst.inn ∧
  (0 : Int) = (toHel (ChR.mk c.t c.f c.v)).fst.tsn ∧ (toHel (ChR.mk c.t c.f c.v)).fst.cookie = [] ∧ (2 : Int) = (toHel (ChR.mk c.t c.f c.v)).snd ∧ (true && true) = true) ((∃ (c_1 : ChR), ∃ (d : ChR), [O.agg [O.d (D.v (Value.int IntKind.u8 (fromHel (HelR.mk (IntKind.u32.wrap (valF (partF c.v (0 : Int) (↑(Int.toNat (4 : Int)) : Int)).fst)) (IntKind.u32.wrap (valF (partF c.v (4 : Int) (↑(Int.toNat (4 : Int)) : Int)).fst)) (IntKind.u16.wrap (valF (partF c.v (8 : Int) (↑(Int.toNat (2 : Int)) : Int)).fst)) (IntKind.u16.wrap (valF (partF c.v (10 : Int) (↑(Int.toNat (2 : Int)) : Int)).fst)) (IntKind.u32.wrap (valF (partF c.v (12 : Int) (↑(Int.toNat (4 : Int)) : Int)).fst)) []) (decide (c.t = (2 : Int)))).fst.t)), O.d (D.v (Value.int IntKind.u8 (fromHel (HelR.mk (IntKind.u32.wrap (valF (partF c.v (0 : Int) (↑(Int.toNat (4 : Int)) : Int)).fst)) (IntKind.u32.wrap (valF (partF c.v (4 : Int) (↑(Int.toNat (4 : Int)) : Int)).fst)) (IntKind.u16.wrap (valF (partF c.v (8 : Int) (↑(Int.toNat (2 : Int)) : Int)).fst)) (IntKind.u16.wrap (valF (partF c.v (10 : Int) (↑(Int.toNat (2 : Int)) : Int)).fst)) (IntKind.u32.wrap (valF (partF c.v (12 : Int) (↑(Int.toNat (4 : Int)) : Int)).fst)) []) (decide (c.t = (2 : Int)))).fst.f)), O.d (D.ints IntKind.u8 (fromHel (HelR.mk (IntKind.u32.wrap (valF (partF c.v (0 : Int) (↑(Int.toNat (4 : Int)) : Int)).fst)) (IntKind.u32.wrap (valF (partF c.v (4 : Int) (↑(Int.toNat (4 : Int)) : Int)).fst)) (IntKind.u16.wrap (valF (partF c.v (8 : Int) (↑(Int.toNat (2 : Int)) : Int)).fst)) (IntKind.u16.wrap (valF (partF c.v (10 : Int) (↑(Int.toNat (2 : Int)) : Int)).fst)) (IntKind.u32.wrap (valF (partF c.v (12 : Int) (↑(Int.toNat (4 : Int)) : Int)).fst)) []) (decide (c.t = (2 : Int)))).fst.v)], O.agg [O.d (D.v (Value.int IntKind.u8 c.t)), O.d (D.v (Value.int IntKind.u8 c.f)), O.d (D.ints IntKind.u8 c.v)]] = [O.agg [O.d (D.v (Value.int IntKind.u8 c_1.t)), O.d (D.v (Value.int IntKind.u8 c_1.f)), O.d (D.ints IntKind.u8 c_1.v)], O.agg [O.d (D.v (Value.int IntKind.u8 d.t)), O.d (D.v (Value.int IntKind.u8 d.f)), O.d (D.ints IntKind.u8 d.v)]]) ∧
  sw (!sameCh (ChR.mk (fromHel (HelR.mk (IntKind.u32.wrap (valF (partF c.v (0 : Int) (↑(Int.toNat (4 : Int)) : Int)).fst)) (IntKind.u32.wrap (valF (partF c.v (4 : Int) (↑(Int.toNat (4 : Int)) : Int)).fst)) (IntKind.u16.wrap (valF (partF c.v (8 : Int) (↑(Int.toNat (2 : Int)) : Int)).fst)) (IntKind.u16.wrap (valF (partF c.v (10 : Int) (↑(Int.toNat (2 : Int)) : Int)).fst)) (IntKind.u32.wrap (valF (partF c.v (12 : Int) (↑(Int.toNat (4 : Int)) : Int)).fst)) []) (decide (c.t = (2 : Int)))).fst.t (fromHel (HelR.mk (IntKind.u32.wrap (valF (partF c.v (0 : Int) (↑(Int.toNat (4 : Int)) : Int)).fst)) (IntKind.u32.wrap (valF (partF c.v (4 : Int) (↑(Int.toNat (4 : Int)) : Int)).fst)) (IntKind.u16.wrap (valF (partF c.v (8 : Int) (↑(Int.toNat (2 : Int)) : Int)).fst)) (IntKind.u16.wrap (valF (partF c.v (10 : Int) (↑(Int.toNat (2 : Int)) : Int)).fst)) (IntKind.u32.wrap (valF (partF c.v (12 : Int) (↑(Int.toNat (4 : Int)) : Int)).fst)) []) (decide (c.t = (2 : Int)))).fst.f (fromHel (HelR.mk (IntKind.u32.wrap (valF (partF c.v (0 : Int) (↑(Int.toNat (4 : Int)) : Int)).fst)) (IntKind.u32.wrap (valF (partF c.v (4 : Int) (↑(Int.toNat (4 : Int)) : Int)).fst)) (IntKind.u16.wrap (valF (partF c.v (8 : Int) (↑(Int.toNat (2 : Int)) : Int)).fst)) (IntKind.u16.wrap (valF (partF c.v (10 : Int) (↑(Int.toNat (2 : Int)) : Int)).fst)) (IntKind.u32.wrap (valF (partF c.v (12 : Int) (↑(Int.toNat (4 : Int)) : Int)).fst)) []) (decide (c.t = (2 : Int)))).fst.v) (ChR.mk c.t c.f c.v)) ((0 : Int) = (toHel (ChR.mk c.t c.f c.v)).fst.tag ∧
  (0 : Int) = (toHel (ChR.mk c.t c.f c.v)).fst.win ∧ (0 : Int) = (toHel (ChR.mk c.t c.f c.v)).fst.out ∧ (0 : Int) = (toHel (ChR.mk c.t c.f c.v)).fst.inn ∧
  (0 : Int) = (toHel (ChR.mk c.t c.f c.v)).fst.tsn ∧ (toHel (ChR.mk c.t c.f c.v)).fst.cookie = [] ∧ (2 : Int) = (toHel (ChR.mk c.t c.f c.v)).snd ∧ (true && true) = true) (IntKind.u32.wrap (valF (partF c.v (0 : Int) (↑(Int.toNat (4 : Int)) : Int)).fst) = (toHel (ChR.mk c.t c.f c.v)).fst.tag ∧
  IntKind.u32.wrap (valF (partF c.v (4 : Int) (↑(Int.toNat (4 : Int)) : Int)).fst) = (toHel (ChR.mk c.t c.f c.v)).fst.win ∧ IntKind.u16.wrap (valF (partF c.v (8 : Int) (↑(Int.toNat (2 : Int)) : Int)).fst) = (toHel (ChR.mk c.t c.f c.v)).fst.out ∧
  IntKind.u16.wrap (valF (partF c.v (10 : Int) (↑(Int.toNat (2 : Int)) : Int)).fst) = (toHel (ChR.mk c.t c.f c.v)).fst.inn ∧ IntKind.u32.wrap (valF (partF c.v (12 : Int) (↑(Int.toNat (4 : Int)) : Int)).fst) = (toHel (ChR.mk c.t c.f c.v)).fst.tsn ∧
  (toHel (ChR.mk c.t c.f c.v)).fst.cookie = [] ∧ (0 : Int) = (toHel (ChR.mk c.t c.f c.v)).snd ∧ (true && true) = true)))))) (True ∧ sw (decide ((↑c.v.length : Int) < (16 : Int))) ((0 : Int) = (toHel (ChR.mk c.t c.f c.v)).fst.tag ∧
  (0 : Int) = (toHel (ChR.mk c.t c.f c.v)).fst.win ∧ (0 : Int) = (toHel (ChR.mk c.t c.f c.v)).fst.out ∧ (0 : Int) = (toHel (ChR.mk c.t c.f c.v)).fst.inn ∧
  (0 : Int) = (toHel (ChR.mk c.t c.f c.v)).fst.tsn ∧ (toHel (ChR.mk c.t c.f c.v)).fst.cookie = [] ∧ (2 : Int) = (toHel (ChR.mk c.t c.f c.v)).snd ∧ (true && true) = true) ((∃ (b : List Int), ∃ (i : Int), ∃ (k : Nat), [O.d (D.ints IntKind.u8 c.v), O.d (D.v (Value.int IntKind.i64 (0 : Int))), O.d (D.v (Value.int IntKind.i64 (4 : Int)))] = [O.d (D.ints IntKind.u8 b), O.d (D.v (Value.int IntKind.i64 i)), O.d (D.v (Value.int IntKind.i64 (↑k : Int)))] ∧
  sm b.length ∧ okB b ∧ okI i ∧ (1 : Nat) ≤ k ∧ k ≤ (7 : Nat)) ∧ (∃ (b : List Int), ∃ (i : Int), ∃ (k : Nat), [O.d (D.ints IntKind.u8 c.v), O.d (D.v (Value.int IntKind.i64 (4 : Int))), O.d (D.v (Value.int IntKind.i64 (4 : Int)))] = [O.d (D.ints IntKind.u8 b), O.d (D.v (Value.int IntKind.i64 i)), O.d (D.v (Value.int IntKind.i64 (↑k : Int)))] ∧
  sm b.length ∧ okB b ∧ okI i ∧ (1 : Nat) ≤ k ∧ k ≤ (7 : Nat)) ∧ (∃ (b : List Int), ∃ (i : Int), ∃ (k : Nat), [O.d (D.ints IntKind.u8 c.v), O.d (D.v (Value.int IntKind.i64 (8 : Int))), O.d (D.v (Value.int IntKind.i64 (2 : Int)))] = [O.d (D.ints IntKind.u8 b), O.d (D.v (Value.int IntKind.i64 i)), O.d (D.v (Value.int IntKind.i64 (↑k : Int)))] ∧
  sm b.length ∧ okB b ∧ okI i ∧ (1 : Nat) ≤ k ∧ k ≤ (7 : Nat)) ∧ (∃ (b : List Int), ∃ (i : Int), ∃ (k : Nat), [O.d (D.ints IntKind.u8 c.v), O.d (D.v (Value.int IntKind.i64 (10 : Int))), O.d (D.v (Value.int IntKind.i64 (2 : Int)))] = [O.d (D.ints IntKind.u8 b), O.d (D.v (Value.int IntKind.i64 i)), O.d (D.v (Value.int IntKind.i64 (↑k : Int)))] ∧
  sm b.length ∧ okB b ∧ okI i ∧ (1 : Nat) ≤ k ∧ k ≤ (7 : Nat)) ∧ (∃ (b : List Int), ∃ (i : Int), ∃ (k : Nat), [O.d (D.ints IntKind.u8 c.v), O.d (D.v (Value.int IntKind.i64 (12 : Int))), O.d (D.v (Value.int IntKind.i64 (4 : Int)))] = [O.d (D.ints IntKind.u8 b), O.d (D.v (Value.int IntKind.i64 i)), O.d (D.v (Value.int IntKind.i64 (↑k : Int)))] ∧
  sm b.length ∧ okB b ∧ okI i ∧ (1 : Nat) ≤ k ∧ k ≤ (7 : Nat)) ∧ True ∧ sw (decide (c.t = (2 : Int))) (True ∧ sw (decide ((↑c.v.length : Int) < (20 : Int))) ((0 : Int) = (toHel (ChR.mk c.t c.f c.v)).fst.tag ∧
  (0 : Int) = (toHel (ChR.mk c.t c.f c.v)).fst.win ∧ (0 : Int) = (toHel (ChR.mk c.t c.f c.v)).fst.out ∧ (0 : Int) = (toHel (ChR.mk c.t c.f c.v)).fst.inn ∧
  (0 : Int) = (toHel (ChR.mk c.t c.f c.v)).fst.tsn ∧ (toHel (ChR.mk c.t c.f c.v)).fst.cookie = [] ∧ (2 : Int) = (toHel (ChR.mk c.t c.f c.v)).snd ∧ (true && true) = true) ((∃ (b : List Int), ∃ (i : Int), ∃ (k : Nat), [O.d (D.ints IntKind.u8 c.v), O.d (D.v (Value.int IntKind.i64 (18 : Int))), O.d (D.v (Value.int IntKind.i64 (2 : Int)))] = [O.d (D.ints IntKind.u8 b), O.d (D.v (Value.int IntKind.i64 i)), O.d (D.v (Value.int IntKind.i64 (↑k : Int)))] ∧
  sm b.length ∧ okB b ∧ okI i ∧ (1 : Nat) ≤ k ∧ k ≤ (7 : Nat)) ∧ True ∧ True ∧ sw (decide (IntKind.i64.wrap (valF (partF c.v (18 : Int) (↑(Int.toNat (2 : Int)) : Int)).fst - (4 : Int)) < (0 : Int))) ((0 : Int) = (toHel (ChR.mk c.t c.f c.v)).fst.tag ∧
  (0 : Int) = (toHel (ChR.mk c.t c.f c.v)).fst.win ∧ (0 : Int) = (toHel (ChR.mk c.t c.f c.v)).fst.out ∧ (0 : Int) = (toHel (ChR.mk c.t c.f c.v)).fst.inn ∧
  (0 : Int) = (toHel (ChR.mk c.t c.f c.v)).fst.tsn ∧ (toHel (ChR.mk c.t c.f c.v)).fst.cookie = [] ∧ (2 : Int) = (toHel (ChR.mk c.t c.f c.v)).snd ∧ (true && true) = true) (True ∧
  True ∧ sw (decide (IntKind.i64.wrap ((↑c.v.length : Int) - (20 : Int)) < IntKind.i64.wrap (valF (partF c.v (18 : Int) (↑(Int.toNat (2 : Int)) : Int)).fst - (4 : Int)))) ((0 : Int) = (toHel (ChR.mk c.t c.f c.v)).fst.tag ∧
  (0 : Int) = (toHel (ChR.mk c.t c.f c.v)).fst.win ∧ (0 : Int) = (toHel (ChR.mk c.t c.f c.v)).fst.out ∧ (0 : Int) = (toHel (ChR.mk c.t c.f c.v)).fst.inn ∧
  (0 : Int) = (toHel (ChR.mk c.t c.f c.v)).fst.tsn ∧ (toHel (ChR.mk c.t c.f c.v)).fst.cookie = [] ∧ (2 : Int) = (toHel (ChR.mk c.t c.f c.v)).snd ∧ (true && true) = true) (True ∧
  ((0 : Int) ≤ (20 : Int) ∧ (20 : Int) ≤ IntKind.i64.wrap ((20 : Int) + IntKind.i64.wrap (valF (partF c.v (18 : Int) (↑(Int.toNat (2 : Int)) : Int)).fst - (4 : Int))) ∧
  IntKind.i64.wrap ((20 : Int) + IntKind.i64.wrap (valF (partF c.v (18 : Int) (↑(Int.toNat (2 : Int)) : Int)).fst - (4 : Int))) ≤ (↑c.v.length : Int)) ∧ True ∧
  ((0 : Nat) + (List.take ((IntKind.i64.wrap ((20 : Int) + IntKind.i64.wrap (valF (partF c.v (18 : Int) (↑(Int.toNat (2 : Int)) : Int)).fst - (4 : Int)))).toNat - Int.toNat (20 : Int)) (List.drop (Int.toNat (20 : Int)) c.v)).length) * Try.prog.types[(5 : Nat)].bytes ≤ (140737488355328 : Nat) ∧
  True ∧ (∃ (h : HelR), ∃ (b : Bool), [O.agg [O.d (D.v (Value.int IntKind.u32 (IntKind.u32.wrap (valF (partF c.v (0 : Int) (↑(Int.toNat (4 : Int)) : Int)).fst)))), O.d (D.v (Value.int IntKind.u32 (IntKind.u32.wrap (valF (partF c.v (4 : Int) (↑(Int.toNat (4 : Int)) : Int)).fst)))), O.d (D.v (Value.int IntKind.u16 (IntKind.u16.wrap (valF (partF c.v (8 : Int) (↑(Int.toNat (2 : Int)) : Int)).fst)))), O.d (D.v (Value.int IntKind.u16 (IntKind.u16.wrap (valF (partF c.v (10 : Int) (↑(Int.toNat (2 : Int)) : Int)).fst)))), O.d (D.v (Value.int IntKind.u32 (IntKind.u32.wrap (valF (partF c.v (12 : Int) (↑(Int.toNat (4 : Int)) : Int)).fst)))), O.d (D.ints IntKind.u8 ([] ++ List.take ((IntKind.i64.wrap ((20 : Int) + IntKind.i64.wrap (valF (partF c.v (18 : Int) (↑(Int.toNat (2 : Int)) : Int)).fst - (4 : Int)))).toNat - Int.toNat (20 : Int)) (List.drop (Int.toNat (20 : Int)) c.v)))], O.d (D.v (Value.bool (decide (c.t = (2 : Int)))))] = [O.agg [O.d (D.v (Value.int IntKind.u32 h.tag)), O.d (D.v (Value.int IntKind.u32 h.win)), O.d (D.v (Value.int IntKind.u16 h.out)), O.d (D.v (Value.int IntKind.u16 h.inn)), O.d (D.v (Value.int IntKind.u32 h.tsn)), O.d (D.ints IntKind.u8 h.cookie)], O.d (D.v (Value.bool b))] ∧
  okHel h) ∧ True ∧ sw (!decide ((fromHel (HelR.mk (IntKind.u32.wrap (valF (partF c.v (0 : Int) (↑(Int.toNat (4 : Int)) : Int)).fst)) (IntKind.u32.wrap (valF (partF c.v (4 : Int) (↑(Int.toNat (4 : Int)) : Int)).fst)) (IntKind.u16.wrap (valF (partF c.v (8 : Int) (↑(Int.toNat (2 : Int)) : Int)).fst)) (IntKind.u16.wrap (valF (partF c.v (10 : Int) (↑(Int.toNat (2 : Int)) : Int)).fst)) (IntKind.u32.wrap (valF (partF c.v (12 : Int) (↑(Int.toNat (4 : Int)) : Int)).fst)) ([] ++ List.take ((IntKind.i64.wrap ((20 : Int) + IntKind.i64.wrap (valF (partF c.v (18 : Int) (↑(Int.toNat (2 : Int)) : Int)).fst - (4 : Int)))).toNat - Int.toNat (20 : Int)) (List.drop (Int.toNat (20 : Int)) c.v))) (decide (c.t = (2 : Int)))).snd = (0 : Int))) ((0 : Int) = (toHel (ChR.mk c.t c.f c.v)).fst.tag ∧
  (0 : Int) = (toHel (ChR.mk c.t c.f c.v)).fst.win ∧ (0 : Int) = (toHel (ChR.mk c.t c.f c.v)).fst.out ∧ (0 : Int) = (toHel (ChR.mk c.t c.f c.v)).fst.inn ∧
  (0 : Int) = (toHel (ChR.mk c.t c.f c.v)).fst.tsn ∧ (toHel (ChR.mk c.t c.f c.v)).fst.cookie = [] ∧ (2 : Int) = (toHel (ChR.mk c.t c.f c.v)).snd ∧ (true && true) = true) ((∃ (c_1 : ChR), ∃ (d : ChR), [O.agg [O.d (D.v (Value.int IntKind.u8 (fromHel (HelR.mk (IntKind.u32.wrap (valF (partF c.v (0 : Int) (↑(Int.toNat (4 : Int)) : Int)).fst)) (IntKind.u32.wrap (valF (partF c.v (4 : Int) (↑(Int.toNat (4 : Int)) : Int)).fst)) (IntKind.u16.wrap (valF (partF c.v (8 : Int) (↑(Int.toNat (2 : Int)) : Int)).fst)) (IntKind.u16.wrap (valF (partF c.v (10 : Int) (↑(Int.toNat (2 : Int)) : Int)).fst)) (IntKind.u32.wrap (valF (partF c.v (12 : Int) (↑(Int.toNat (4 : Int)) : Int)).fst)) ([] ++ List.take ((IntKind.i64.wrap ((20 : Int) + IntKind.i64.wrap (valF (partF c.v (18 : Int) (↑(Int.toNat (2 : Int)) : Int)).fst - (4 : Int)))).toNat - Int.toNat (20 : Int)) (List.drop (Int.toNat (20 : Int)) c.v))) (decide (c.t = (2 : Int)))).fst.t)), O.d (D.v (Value.int IntKind.u8 (fromHel (HelR.mk (IntKind.u32.wrap (valF (partF c.v (0 : Int) (↑(Int.toNat (4 : Int)) : Int)).fst)) (IntKind.u32.wrap (valF (partF c.v (4 : Int) (↑(Int.toNat (4 : Int)) : Int)).fst)) (IntKind.u16.wrap (valF (partF c.v (8 : Int) (↑(Int.toNat (2 : Int)) : Int)).fst)) (IntKind.u16.wrap (valF (partF c.v (10 : Int) (↑(Int.toNat (2 : Int)) : Int)).fst)) (IntKind.u32.wrap (valF (partF c.v (12 : Int) (↑(Int.toNat (4 : Int)) : Int)).fst)) ([] ++ List.take ((IntKind.i64.wrap ((20 : Int) + IntKind.i64.wrap (valF (partF c.v (18 : Int) (↑(Int.toNat (2 : Int)) : Int)).fst - (4 : Int)))).toNat - Int.toNat (20 : Int)) (List.drop (Int.toNat (20 : Int)) c.v))) (decide (c.t = (2 : Int)))).fst.f)), O.d (D.ints IntKind.u8 (fromHel (HelR.mk (IntKind.u32.wrap (valF (partF c.v (0 : Int) (↑(Int.toNat (4 : Int)) : Int)).fst)) (IntKind.u32.wrap (valF (partF c.v (4 : Int) (↑(Int.toNat (4 : Int)) : Int)).fst)) (IntKind.u16.wrap (valF (partF c.v (8 : Int) (↑(Int.toNat (2 : Int)) : Int)).fst)) (IntKind.u16.wrap (valF (partF c.v (10 : Int) (↑(Int.toNat (2 : Int)) : Int)).fst)) (IntKind.u32.wrap (valF (partF c.v (12 : Int) (↑(Int.toNat (4 : Int)) : Int)).fst)) ([] ++ List.take ((IntKind.i64.wrap ((20 : Int) + IntKind.i64.wrap (valF (partF c.v (18 : Int) (↑(Int.toNat (2 : Int)) : Int)).fst - (4 : Int)))).toNat - Int.toNat (20 : Int)) (List.drop (Int.toNat (20 : Int)) c.v))) (decide (c.t = (2 : Int)))).fst.v)], O.agg [O.d (D.v (Value.int IntKind.u8 c.t)), O.d (D.v (Value.int IntKind.u8 c.f)), O.d (D.ints IntKind.u8 c.v)]] = [O.agg [O.d (D.v (Value.int IntKind.u8 c_1.t)), O.d (D.v (Value.int IntKind.u8 c_1.f)), O.d (D.ints IntKind.u8 c_1.v)], O.agg [O.d (D.v (Value.int IntKind.u8 d.t)), O.d (D.v (Value.int IntKind.u8 d.f)), O.d (D.ints IntKind.u8 d.v)]]) ∧
  sw (!sameCh (ChR.mk (fromHel (HelR.mk (IntKind.u32.wrap (valF (partF c.v (0 : Int) (↑(Int.toNat (4 : Int)) : Int)).fst)) (IntKind.u32.wrap (valF (partF c.v (4 : Int) (↑(Int.toNat (4 : Int)) : Int)).fst)) (IntKind.u16.wrap (valF (partF c.v (8 : Int) (↑(Int.toNat (2 : Int)) : Int)).fst)) (IntKind.u16.wrap (valF (partF c.v (10 : Int) (↑(Int.toNat (2 : Int)) : Int)).fst)) (IntKind.u32.wrap (valF (partF c.v (12 : Int) (↑(Int.toNat (4 : Int)) : Int)).fst)) ([] ++ List.take ((IntKind.i64.wrap ((20 : Int) + IntKind.i64.wrap (valF (partF c.v (18 : Int) (↑(Int.toNat (2 : Int)) : Int)).fst - (4 : Int)))).toNat - Int.toNat (20 : Int)) (List.drop (Int.toNat (20 : Int)) c.v))) (decide (c.t = (2 : Int)))).fst.t (fromHel (HelR.mk (IntKind.u32.wrap (valF (partF c.v (0 : Int) (↑(Int.toNat (4 : Int)) : Int)).fst)) (IntKind.u32.wrap (valF (partF c.v (4 : Int) (↑(Int.toNat (4 : Int)) : Int)).fst)) (IntKind.u16.wrap (valF (partF c.v (8 : Int) (↑(Int.toNat (2 : Int)) : Int)).fst)) (IntKind.u16.wrap (valF (partF c.v (10 : Int) (↑(Int.toNat (2 : Int)) : Int)).fst)) (IntKind.u32.wrap (valF (partF c.v (12 : Int) (↑(Int.toNat (4 : Int)) : Int)).fst)) ([] ++ List.take ((IntKind.i64.wrap ((20 : Int) + IntKind.i64.wrap (valF (partF c.v (18 : Int) (↑(Int.toNat (2 : Int)) : Int)).fst - (4 : Int)))).toNat - Int.toNat (20 : Int)) (List.drop (Int.toNat (20 : Int)) c.v))) (decide (c.t = (2 : Int)))).fst.f (fromHel (HelR.mk (IntKind.u32.wrap (valF (partF c.v (0 : Int) (↑(Int.toNat (4 : Int)) : Int)).fst)) (IntKind.u32.wrap (valF (partF c.v (4 : Int) (↑(Int.toNat (4 : Int)) : Int)).fst)) (IntKind.u16.wrap (valF (partF c.v (8 : Int) (↑(Int.toNat (2 : Int)) : Int)).fst)) (IntKind.u16.wrap (valF (partF c.v (10 : Int) (↑(Int.toNat (2 : Int)) : Int)).fst)) (IntKind.u32.wrap (valF (partF c.v (12 : Int) (↑(Int.toNat (4 : Int)) : Int)).fst)) ([] ++ List.take ((IntKind.i64.wrap ((20 : Int) + IntKind.i64.wrap (valF (partF c.v (18 : Int) (↑(Int.toNat (2 : Int)) : Int)).fst - (4 : Int)))).toNat - Int.toNat (20 : Int)) (List.drop (Int.toNat (20 : Int)) c.v))) (decide (c.t = (2 : Int)))).fst.v) (ChR.mk c.t c.f c.v)) ((0 : Int) = (toHel (ChR.mk c.t c.f c.v)).fst.tag ∧
  (0 : Int) = (toHel (ChR.mk c.t c.f c.v)).fst.win ∧ (0 : Int) = (toHel (ChR.mk c.t c.f c.v)).fst.out ∧ (0 : Int) = (toHel (ChR.mk c.t c.f c.v)).fst.inn ∧
  (0 : Int) = (toHel (ChR.mk c.t c.f c.v)).fst.tsn ∧ (toHel (ChR.mk c.t c.f c.v)).fst.cookie = [] ∧ (2 : Int) = (toHel (ChR.mk c.t c.f c.v)).snd ∧ (true && true) = true) (IntKind.u32.wrap (valF (partF c.v (0 : Int) (↑(Int.toNat (4 : Int)) : Int)).fst) = (toHel (ChR.mk c.t c.f c.v)).fst.tag ∧
  IntKind.u32.wrap (valF (partF c.v (4 : Int) (↑(Int.toNat (4 : Int)) : Int)).fst) = (toHel (ChR.mk c.t c.f c.v)).fst.win ∧ IntKind.u16.wrap (valF (partF c.v (8 : Int) (↑(Int.toNat (2 : Int)) : Int)).fst) = (toHel (ChR.mk c.t c.f c.v)).fst.out ∧
  IntKind.u16.wrap (valF (partF c.v (10 : Int) (↑(Int.toNat (2 : Int)) : Int)).fst) = (toHel (ChR.mk c.t c.f c.v)).fst.inn ∧ IntKind.u32.wrap (valF (partF c.v (12 : Int) (↑(Int.toNat (4 : Int)) : Int)).fst) = (toHel (ChR.mk c.t c.f c.v)).fst.tsn ∧
  [] ++ List.take ((IntKind.i64.wrap ((20 : Int) + IntKind.i64.wrap (valF (partF c.v (18 : Int) (↑(Int.toNat (2 : Int)) : Int)).fst - (4 : Int)))).toNat - Int.toNat (20 : Int)) (List.drop (Int.toNat (20 : Int)) c.v) = (toHel (ChR.mk c.t c.f c.v)).fst.cookie ∧
  (0 : Int) = (toHel (ChR.mk c.t c.f c.v)).snd ∧ (!false && true && true) = true)))))) (True ∧ (∃ (h : HelR), ∃ (b : Bool), [O.agg [O.d (D.v (Value.int IntKind.u32 (IntKind.u32.wrap (valF (partF c.v (0 : Int) (↑(Int.toNat (4 : Int)) : Int)).fst)))), O.d (D.v (Value.int IntKind.u32 (IntKind.u32.wrap (valF (partF c.v (4 : Int) (↑(Int.toNat (4 : Int)) : Int)).fst)))), O.d (D.v (Value.int IntKind.u16 (IntKind.u16.wrap (valF (partF c.v (8 : Int) (↑(Int.toNat (2 : Int)) : Int)).fst)))), O.d (D.v (Value.int IntKind.u16 (IntKind.u16.wrap (valF (partF c.v (10 : Int) (↑(Int.toNat (2 : Int)) : Int)).fst)))), O.d (D.v (Value.int IntKind.u32 (IntKind.u32.wrap (valF (partF c.v (12 : Int) (↑(Int.toNat (4 : Int)) : Int)).fst)))), O.d (D.ints IntKind.u8 [])], O.d (D.v (Value.bool (decide (c.t = (2 : Int)))))] = [O.agg [O.d (D.v (Value.int IntKind.u32 h.tag)), O.d (D.v (Value.int IntKind.u32 h.win)), O.d (D.v (Value.int IntKind.u16 h.out)), O.d (D.v (Value.int IntKind.u16 h.inn)), O.d (D.v (Value.int IntKind.u32 h.tsn)), O.d (D.ints IntKind.u8 h.cookie)], O.d (D.v (Value.bool b))] ∧
  okHel h) ∧ True ∧ sw (!decide ((fromHel (HelR.mk (IntKind.u32.wrap (valF (partF c.v (0 : Int) (↑(Int.toNat (4 : Int)) : Int)).fst)) (IntKind.u32.wrap (valF (partF c.v (4 : Int) (↑(Int.toNat (4 : Int)) : Int)).fst)) (IntKind.u16.wrap (valF (partF c.v (8 : Int) (↑(Int.toNat (2 : Int)) : Int)).fst)) (IntKind.u16.wrap (valF (partF c.v (10 : Int) (↑(Int.toNat (2 : Int)) : Int)).fst)) (IntKind.u32.wrap (valF (partF c.v (12 : Int) (↑(Int.toNat (4 : Int)) : Int)).fst)) []) (decide (c.t = (2 : Int)))).snd = (0 : Int))) ((0 : Int) = (toHel (ChR.mk c.t c.f c.v)).fst.tag ∧
  (0 : Int) = (toHel (ChR.mk c.t c.f c.v)).fst.win ∧ (0 : Int) = (toHel (ChR.mk c.t c.f c.v)).fst.out ∧ (0 : Int) = (toHel (ChR.mk c.t c.f c.v)).fst.inn ∧
  (0 : Int) = (toHel (ChR.mk c.t c.f c.v)).fst.tsn ∧ (toHel (ChR.mk c.t c.f c.v)).fst.cookie = [] ∧ (2 : Int) = (toHel (ChR.mk c.t c.f c.v)).snd ∧ (true && true) = true) ((∃ (c_1 : ChR), ∃ (d : ChR), [O.agg [O.d (D.v (Value.int IntKind.u8 (fromHel (HelR.mk (IntKind.u32.wrap (valF (partF c.v (0 : Int) (↑(Int.toNat (4 : Int)) : Int)).fst)) (IntKind.u32.wrap (valF (partF c.v (4 : Int) (↑(Int.toNat (4 : Int)) : Int)).fst)) (IntKind.u16.wrap (valF (partF c.v (8 : Int) (↑(Int.toNat (2 : Int)) : Int)).fst)) (IntKind.u16.wrap (valF (partF c.v (10 : Int) (↑(Int.toNat (2 : Int)) : Int)).fst)) (IntKind.u32.wrap (valF (partF c.v (12 : Int) (↑(Int.toNat (4 : Int)) : Int)).fst)) []) (decide (c.t = (2 : Int)))).fst.t)), O.d (D.v (Value.int IntKind.u8 (fromHel (HelR.mk (IntKind.u32.wrap (valF (partF c.v (0 : Int) (↑(Int.toNat (4 : Int)) : Int)).fst)) (IntKind.u32.wrap (valF (partF c.v (4 : Int) (↑(Int.toNat (4 : Int)) : Int)).fst)) (IntKind.u16.wrap (valF (partF c.v (8 : Int) (↑(Int.toNat (2 : Int)) : Int)).fst)) (IntKind.u16.wrap (valF (partF c.v (10 : Int) (↑(Int.toNat (2 : Int)) : Int)).fst)) (IntKind.u32.wrap (valF (partF c.v (12 : Int) (↑(Int.toNat (4 : Int)) : Int)).fst)) []) (decide (c.t = (2 : Int)))).fst.f)), O.d (D.ints IntKind.u8 (fromHel (HelR.mk (IntKind.u32.wrap (valF (partF c.v (0 : Int) (↑(Int.toNat (4 : Int)) : Int)).fst)) (IntKind.u32.wrap (valF (partF c.v (4 : Int) (↑(Int.toNat (4 : Int)) : Int)).fst)) (IntKind.u16.wrap (valF (partF c.v (8 : Int) (↑(Int.toNat (2 : Int)) : Int)).fst)) (IntKind.u16.wrap (valF (partF c.v (10 : Int) (↑(Int.toNat (2 : Int)) : Int)).fst)) (IntKind.u32.wrap (valF (partF c.v (12 : Int) (↑(Int.toNat (4 : Int)) : Int)).fst)) []) (decide (c.t = (2 : Int)))).fst.v)], O.agg [O.d (D.v (Value.int IntKind.u8 c.t)), O.d (D.v (Value.int IntKind.u8 c.f)), O.d (D.ints IntKind.u8 c.v)]] = [O.agg [O.d (D.v (Value.int IntKind.u8 c_1.t)), O.d (D.v (Value.int IntKind.u8 c_1.f)), O.d (D.ints IntKind.u8 c_1.v)], O.agg [O.d (D.v (Value.int IntKind.u8 d.t)), O.d (D.v (Value.int IntKind.u8 d.f)), O.d (D.ints IntKind.u8 d.v)]]) ∧
  sw (!sameCh (ChR.mk (fromHel (HelR.mk (IntKind.u32.wrap (valF (partF c.v (0 : Int) (↑(Int.toNat (4 : Int)) : Int)).fst)) (IntKind.u32.wrap (valF (partF c.v (4 : Int) (↑(Int.toNat (4 : Int)) : Int)).fst)) (IntKind.u16.wrap (valF (partF c.v (8 : Int) (↑(Int.toNat (2 : Int)) : Int)).fst)) (IntKind.u16.wrap (valF (partF c.v (10 : Int) (↑(Int.toNat (2 : Int)) : Int)).fst)) (IntKind.u32.wrap (valF (partF c.v (12 : Int) (↑(Int.toNat (4 : Int)) : Int)).fst)) []) (decide (c.t = (2 : Int)))).fst.t (fromHel (HelR.mk (IntKind.u32.wrap (valF (partF c.v (0 : Int) (↑(Int.toNat (4 : Int)) : Int)).fst)) (IntKind.u32.wrap (valF (partF c.v (4 : Int) (↑(Int.toNat (4 : Int)) : Int)).fst)) (IntKind.u16.wrap (valF (partF c.v (8 : Int) (↑(Int.toNat (2 : Int)) : Int)).fst)) (IntKind.u16.wrap (valF (partF c.v (10 : Int) (↑(Int.toNat (2 : Int)) : Int)).fst)) (IntKind.u32.wrap (valF (partF c.v (12 : Int) (↑(Int.toNat (4 : Int)) : Int)).fst)) []) (decide (c.t = (2 : Int)))).fst.f (fromHel (HelR.mk (IntKind.u32.wrap (valF (partF c.v (0 : Int) (↑(Int.toNat (4 : Int)) : Int)).fst)) (IntKind.u32.wrap (valF (partF c.v (4 : Int) (↑(Int.toNat (4 : Int)) : Int)).fst)) (IntKind.u16.wrap (valF (partF c.v (8 : Int) (↑(Int.toNat (2 : Int)) : Int)).fst)) (IntKind.u16.wrap (valF (partF c.v (10 : Int) (↑(Int.toNat (2 : Int)) : Int)).fst)) (IntKind.u32.wrap (valF (partF c.v (12 : Int) (↑(Int.toNat (4 : Int)) : Int)).fst)) []) (decide (c.t = (2 : Int)))).fst.v) (ChR.mk c.t c.f c.v)) ((0 : Int) = (toHel (ChR.mk c.t c.f c.v)).fst.tag ∧
  (0 : Int) = (toHel (ChR.mk c.t c.f c.v)).fst.win ∧ (0 : Int) = (toHel (ChR.mk c.t c.f c.v)).fst.out ∧ (0 : Int) = (toHel (ChR.mk c.t c.f c.v)).fst.inn ∧
  (0 : Int) = (toHel (ChR.mk c.t c.f c.v)).fst.tsn ∧ (toHel (ChR.mk c.t c.f c.v)).fst.cookie = [] ∧ (2 : Int) = (toHel (ChR.mk c.t c.f c.v)).snd ∧ (true && true) = true) (IntKind.u32.wrap (valF (partF c.v (0 : Int) (↑(Int.toNat (4 : Int)) : Int)).fst) = (toHel (ChR.mk c.t c.f c.v)).fst.tag ∧
  IntKind.u32.wrap (valF (partF c.v (4 : Int) (↑(Int.toNat (4 : Int)) : Int)).fst) = (toHel (ChR.mk c.t c.f c.v)).fst.win ∧ IntKind.u16.wrap (valF (partF c.v (8 : Int) (↑(Int.toNat (2 : Int)) : Int)).fst) = (toHel (ChR.mk c.t c.f c.v)).fst.out ∧
  IntKind.u16.wrap (valF (partF c.v (10 : Int) (↑(Int.toNat (2 : Int)) : Int)).fst) = (toHel (ChR.mk c.t c.f c.v)).fst.inn ∧ IntKind.u32.wrap (valF (partF c.v (12 : Int) (↑(Int.toNat (4 : Int)) : Int)).fst) = (toHel (ChR.mk c.t c.f c.v)).fst.tsn ∧
  (toHel (ChR.mk c.t c.f c.v)).fst.cookie = [] ∧ (0 : Int) = (toHel (ChR.mk c.t c.f c.v)).snd ∧ (true && true) = true))))) := by
  simp only [↓sw_iff, ↓Bool.and_eq_true, ↓decide_eq_true_eq, ↓decide_eq_false_iff_not, ↓Bool.not_eq_true', ↓Bool.not_eq_false', true_and, and_true, Nat.zero_add, List.nil_append, Nat.mul_one, bytes5, toNat2, toNat4, ch_eta, num_def]
  intro c h1 h2
  obtain ⟨w1, w2, w3, w4, w5, w6, w7⟩ := num_w h1
  simp only [w1, w2, w3, w4, w5, w7, hel1_eta, hel1_nil, toHel_eq h1 h2]
  have hh := helRef_ok h1 h2
  have n18 := num_rng h1 18 (k := 2)
  have p2 : (256 : Int) ^ 2 = 65536 := rfl
  rw [p2] at n18
  have h2' := h2
  unfold sm at h2'
  have e20 : IntKind.i64.wrap ((c.v.length : Int) - 20) = (c.v.length : Int) - 20 := wrap_i64_id (by omega) (by omega)
  have e21 : IntKind.i64.wrap (20 + (numAt c.v 18 2 - 4)) = 20 + (numAt c.v 18 2 - 4) := wrap_i64_id (by omega) (by omega)
  have t20 : Int.toNat 20 = 20 := rfl
  simp only [e20, e21, t20]
  refine ⟨fun a => ⟨fun b => err_leaf (ref_e1 (.inl ⟨a, b⟩)), fun b => ⟨fun l => err_leaf (ref_e1 (.inr (by omega))), fun l => ?_⟩⟩, fun a => ⟨fun l => err_leaf (ref_e1 (.inr (by omega))), fun l => ?_⟩⟩
  all_goals
    have c1 : ¬ (c.t ≠ 1 ∧ c.t ≠ 2 ∨ c.v.length < 16) := by omega
    refine ⟨⟨c.v, 0, 4, rfl, h2, h1, by unfold okI; omega, by decide, by decide⟩, ⟨c.v, 4, 4, rfl, h2, h1, by unfold okI; omega, by decide, by decide⟩, ⟨c.v, 8, 2, rfl, h2, h1, by unfold okI; omega, by decide, by decide⟩, ⟨c.v, 10, 2, rfl, h2, h1, by unfold okI; omega, by decide, by decide⟩, ⟨c.v, 12, 4, rfl, h2, h1, by unfold okI; omega, by decide, by decide⟩,
      fun t2 => ⟨fun l2 => err_leaf (ref_e2 ⟨t2, by omega⟩), fun l2 => ⟨⟨c.v, 18, 2, rfl, h2, h1, by unfold okI; omega, by decide, by decide⟩, fun n0 => err_leaf (ref_e3 ⟨t2, .inl n0⟩), fun n0 => ⟨fun n1 => err_leaf (ref_e3 ⟨t2, .inr n1⟩), fun n1 => ?_⟩⟩⟩, fun t2 => ?_⟩
    · have c2 : ¬ (c.t = 2 ∧ c.v.length < 20) := by omega
      have c3 : ¬ (c.t = 2 ∧ (numAt c.v 18 2 - 4 < 0 ∨ (c.v.length : Int) - 20 < numAt c.v 18 2 - 4)) := by omega
      have e22 : (20 + (numAt c.v 18 2 - 4)).toNat - 20 = (numAt c.v 18 2 - 4).toNat := by omega
      rw [e22]
      have ho : helRef c = hel1 c.v ((c.v.drop 20).take (numAt c.v 18 2 - 4).toNat) := by unfold helRef; rw [if_pos t2]; rfl
      rw [ho] at hh
      have hb : okB (fromHel (hel1 c.v ((c.v.drop 20).take (numAt c.v 18 2 - 4).toNat)) (decide (c.t = 2))).1.v := fromHel_okB hh.2.2.2.2.2.1 _
      rw [sameCh_eq hb h1]
      have hl3 : ((c.v.drop 20).take (numAt c.v 18 2 - 4).toNat).length ≤ c.v.length := by rw [List.length_take, List.length_drop]; omega
      exact ⟨⟨by omega, by omega, by omega⟩, by omega, ⟨_, _, rfl, hh⟩, fun e => err_leaf (ref_e4 ho (.inl e)), fun e => ⟨⟨_, _, rfl⟩, fun e2 => err_leaf (ref_e4 ho (.inr e2)), fun e2 => ok_leaf (ref_ok ho c1 c2 c3 e e2)⟩⟩
    · have c2 : ¬ (c.t = 2 ∧ c.v.length < 20) := fun x => t2 x.1
      have c3 : ¬ (c.t = 2 ∧ (numAt c.v 18 2 - 4 < 0 ∨ (c.v.length : Int) - 20 < numAt c.v 18 2 - 4)) := fun x => t2 x.1
      have ho : helRef c = hel0 c.v := by unfold helRef; rw [if_neg t2]
      rw [ho] at hh
      have hb : okB (fromHel (hel0 c.v) (decide (c.t = 2))).1.v := fromHel_okB hh.2.2.2.2.2.1 _
      rw [sameCh_eq hb h1]
      exact ⟨⟨hel0 c.v, _, rfl, hh⟩, fun e => err_leaf (ref_e4 ho (.inl e)), fun e => ⟨⟨(fromHel (hel0 c.v) (decide (c.t = 2))).1, c, rfl⟩, fun e2 => err_leaf (ref_e4 ho (.inr e2)), fun e2 => ok_leaf0 (ref_ok ho c1 c2 c3 e e2)⟩⟩
set_option maxRecDepth 100000 in
theorem ok168 : FnIs Try.prog 168 toHelC := by
  refine fnIs (C := (ctrs c16)) (by kernel_rfl) c16_ok Try.func168 (code := code168) (by kernel_rfl) (by kernel_rfl) ?_
  rintro a ⟨c, rfl, h1, h2⟩
  exact ⟨anns [] [2, 9, 13], kcast (vc168 c h1 h2) (by kernel_rfl)⟩

end Go.ZR

/- A list of chunks, however it was laid, copied; the statement of hellos. -/
set_option maxRecDepth 100000
namespace Go.ZR
open Go.Z Go.ZM Go.Proofs
def ownWC : Ctr := rC 1 (fun a => ∃ l A, a = [.d A] ∧ asCh A l ∧ okChs l) fun a => [.own 38 (chsD (chsOf (dO (at_ a 0))))]
theorem chsOf_one (c : ChR) : chsOf (.recs 3 1 fun i j => [D.v (.int .u8 c.t), D.v (.int .u8 c.f), D.ints .u8 c.v].getD (i * 3 + j) (.v undef)) = [c] := rfl
theorem asCh_one (c : ChR) : asCh (.recs 3 1 fun i j => [D.v (.int .u8 c.t), D.v (.int .u8 c.f), D.ints .u8 c.v].getD (i * 3 + j) (.v undef)) [c] :=
  ⟨rfl, reads_recs fun i hi j hj => by
    obtain rfl : i = 0 := by omega
    rw [Nat.zero_mul, Nat.zero_add]
    exact ch_cell (c := c) (l := [c]) (i := 0) rfl hj⟩
def chOk (c : ChR) : Prop := ((0 ≤ c.t ∧ c.t ≤ 255) ∧ (0 ≤ c.f ∧ c.f ≤ 255) ∧ okB c.v) ∧ sm c.v.length
def helLawC : Ctr := trueC 3 fun a => ∃ h b c, a = [helO h, bO b, chO c] ∧ okHel h ∧ chOk c
def c17 : List (Nat × Ctr) := [(155, fromHelC), (116, fromHelC), (118, sameC), (158, toHelC), (168, toHelC)]
theorem c17_ok : COk Try.prog (ctrs c17) := (cok_cons ok155 (cok_cons ok116 (cok_cons ok118 (cok_cons ok158 (cok_cons ok168 cok_nil)))))
end Go.ZR

/- A piece of a message: plain functions, laws, contracts. -/
set_option maxRecDepth 100000
namespace Go.ZM
open Go.Z Go.ZR

structure PieR where
  tsn : Int
  str : Int
  seq : Int
  b : Bool
  e : Bool
  u : Bool
  bytes : List Int
def noPie : PieR := ⟨0, 0, 0, false, false, false, []⟩
def okPie (p : PieR) : Prop := (0 ≤ p.tsn ∧ p.tsn ≤ 4294967295) ∧ (0 ≤ p.str ∧ p.str ≤ 65535) ∧ (0 ≤ p.seq ∧ p.seq ≤ 65535) ∧ okB p.bytes ∧ sm p.bytes.length
def flagF (b : Bool) (n : Int) : Int := if b = true then n else 0
def pieF (p : PieR) : Int := flagF p.u 4 + flagF p.b 2 + flagF p.e 1
def pieH (p : PieR) : List Int := be p.tsn 4 ++ be p.str 2 ++ be p.seq 2
def pieB (p : PieR) : List Int := pieH p ++ be 46 4 ++ p.bytes
def fromPie (p : PieR) : ChR × Int :=
  if p.bytes.length = 0 ∨ 8 ≤ p.str then (noCh, 2) else if 256 < p.bytes.length then (noCh, 4) else (⟨0, pieF p, pieB p⟩, 0)
def bitF (f m : Int) : Bool := decide (0 < bits .and .u8 f m)
def pie1 (v : List Int) (f : Int) (X : List Int) : PieR := ⟨numAt v 0 4, numAt v 4 2, numAt v 6 2, bitF f 2, bitF f 1, bitF f 4, X⟩
/-- As the program reads it. -/
def pieOf (c : ChR) : PieR := pie1 c.v c.f (if 12 ≤ c.v.length then c.v.drop 12 else [])
def toPie (c : ChR) : PieR × Int := if (fromPie (pieOf c)).2 ≠ 0 ∨ sameB (fromPie (pieOf c)).1 c = false then (noPie, 2) else (pieOf c, 0)
def samePie (p q : PieR) : Bool := decide (p.tsn = q.tsn) && decide (p.str = q.str) && decide (p.seq = q.seq) && (p.b == q.b) && (p.e == q.e) && (p.u == q.u) && decide (bstr p.bytes = bstr q.bytes)
/-- As the document reads it. -/
def pieRef (c : ChR) : PieR := ⟨numAt c.v 0 4, numAt c.v 4 2, numAt c.v 6 2, decide (c.f / 2 % 2 = 1), decide (c.f % 2 = 1), decide (4 ≤ c.f), c.v.drop 12⟩
def badPie (c : ChR) : Prop := c.t ≠ 0 ∨ 7 < c.f ∨ c.v.length < 13 ∨ 268 < c.v.length ∨ 8 ≤ numAt c.v 4 2 ∨ numAt c.v 8 4 ≠ 46
instance (c : ChR) : Decidable (badPie c) := by unfold badPie; infer_instance
def toPieRef (c : ChR) : PieR × Int := if badPie c then (noPie, 2) else (pieRef c, 0)

theorem pieH_len (p : PieR) : (pieH p).length = 8 := by simp [pieH, be_len]
theorem pieB_len (p : PieR) : (pieB p).length = 12 + p.bytes.length := by simp [pieB, pieH_len, be_len]; omega
theorem flag_or (p : PieR) : bits .or .u8 (bits .or .u8 (flagF p.u 4) (flagF p.b 2)) (flagF p.e 1) = pieF p := by
  unfold pieF
  cases p.u <;> cases p.b <;> cases p.e <;> rfl
theorem bit_pieF (p : PieR) : bitF (pieF p) 2 = p.b ∧ bitF (pieF p) 1 = p.e ∧ bitF (pieF p) 4 = p.u := by
  unfold pieF
  cases p.u <;> cases p.b <;> cases p.e <;> decide +kernel
theorem bit_all : ∀ n : Fin 256, (bitF (n : Int) 2 = decide ((n : Int) / 2 % 2 = 1) ∧ bitF (n : Int) 1 = decide ((n : Int) % 2 = 1)) ∧ (((n : Int) ≤ 7 → bitF (n : Int) 4 = decide (4 ≤ (n : Int))) ∧ ((n : Int) ≤ 7 ↔ flagF (bitF n 4) 4 + flagF (bitF n 2) 2 + flagF (bitF n 1) 1 = (n : Int))) := by decide +kernel
theorem bit_f {f : Int} (h0 : 0 ≤ f) (h1 : f ≤ 255) : (bitF f 2 = decide (f / 2 % 2 = 1) ∧ bitF f 1 = decide (f % 2 = 1)) ∧ (f ≤ 7 → bitF f 4 = decide (4 ≤ f)) ∧ (f ≤ 7 ↔ flagF (bitF f 4) 4 + flagF (bitF f 2) 2 + flagF (bitF f 1) 1 = f) := by
  have := bit_all ⟨f.toNat, by omega⟩
  simp only [show ((f.toNat : Nat) : Int) = f by omega] at this
  exact this
theorem at_take {v : List Int} (hv : okB v) {i k : Nat} (h : i + k ≤ v.length) : be (numAt v (i : Int) k) k = (v.drop i).take k := by
  unfold numAt getF
  rw [part_get (by omega) (by omega) (by omega) (by omega)]
  simp only [Int.toNat_natCast]
  have hl : ((v.drop i).take k).length = k := by rw [List.length_take, List.length_drop]; omega
  have := be_val (okB_take (okB_drop hv i) k)
  rw [hl] at this
  exact this
theorem take_drop_add (v : List Int) (i k : Nat) : (v.drop i).take k ++ v.drop (i + k) = v.drop i := by
  rw [← List.drop_drop]; exact List.take_append_drop k _
theorem pie_split {v : List Int} (hv : okB v) (h : 12 ≤ v.length) : be (numAt v 0 4) 4 ++ be (numAt v 4 2) 2 ++ be (numAt v 6 2) 2 ++ be (numAt v 8 4) 4 ++ v.drop 12 = v := by
  rw [show be (numAt v 0 4) 4 = _ from at_take (i := 0) hv (by omega), show be (numAt v 4 2) 2 = _ from at_take (i := 4) hv (by omega), show be (numAt v 6 2) 2 = _ from at_take (i := 6) hv (by omega), show be (numAt v 8 4) 4 = _ from at_take (i := 8) hv (by omega)]
  rw [List.append_assoc, take_drop_add, List.append_assoc, take_drop_add, List.append_assoc, take_drop_add, take_drop_add, List.drop_zero]
theorem pie_nums {p : PieR} (ok : okPie p) : numAt (pieB p) 0 4 = p.tsn ∧ numAt (pieB p) 4 2 = p.str ∧ numAt (pieB p) 6 2 = p.seq ∧ numAt (pieB p) 8 4 = 46 ∧ (pieB p).drop 12 = p.bytes := by
  obtain ⟨h1, h2, h3, _⟩ := ok
  have p4 : (256 : Int) ^ 4 = 4294967296 := rfl
  have p2 : (256 : Int) ^ 2 = 65536 := rfl
  refine ⟨?_, ?_, ?_, ?_, ?_⟩
  · have := num_in (v := pieB p) (a := []) (n := p.tsn) (k := 4) (r := be p.str 2 ++ be p.seq 2 ++ be 46 4 ++ p.bytes) 0 (by simp [pieB, pieH]) rfl
    rw [p4] at this; exact this.trans (by omega)
  · have := num_in (v := pieB p) (a := be p.tsn 4) (n := p.str) (k := 2) (r := be p.seq 2 ++ be 46 4 ++ p.bytes) 4 (by simp [pieB, pieH]) (by simp [be_len])
    rw [p2] at this; exact this.trans (by omega)
  · have := num_in (v := pieB p) (a := be p.tsn 4 ++ be p.str 2) (n := p.seq) (k := 2) (r := be 46 4 ++ p.bytes) 6 (by simp [pieB, pieH]) (by simp [be_len])
    rw [p2] at this; exact this.trans (by omega)
  · exact num_in (v := pieB p) (a := pieH p) (n := 46) (k := 4) (r := p.bytes) 8 (by simp [pieB]) (pieH_len p)
  · have : pieB p = (pieH p ++ be 46 4) ++ p.bytes := by simp [pieB]
    rw [this, List.drop_append_of_le_length (by simp [pieH_len, be_len]), List.drop_of_length_le (by simp [pieH_len, be_len]), List.nil_append]
theorem fromPie_ok {p : PieR} (e : (fromPie p).2 = 0) : (p.bytes.length ≠ 0 ∧ p.str < 8 ∧ p.bytes.length ≤ 256) ∧ (fromPie p).1 = ⟨0, pieF p, pieB p⟩ := by
  unfold fromPie at e ⊢
  split at e
  · cases e
  rename_i h1
  split at e
  · cases e
  rename_i h2
  rw [if_neg h1, if_neg h2]
  rw [not_or] at h1
  exact ⟨⟨h1.1, by omega, by omega⟩, rfl⟩
theorem fromPie_go {p : PieR} (h1 : p.bytes.length ≠ 0) (h2 : p.str < 8) (h3 : p.bytes.length ≤ 256) : fromPie p = (⟨0, pieF p, pieB p⟩, 0) := by
  unfold fromPie
  rw [if_neg (by omega), if_neg (by omega)]
theorem toPie_made {p : PieR} (ok : okPie p) (e : (fromPie p).2 = 0) : toPie (fromPie p).1 = (p, 0) := by
  obtain ⟨h, h1⟩ := fromPie_ok e
  obtain ⟨n1, n2, n3, n4, n5⟩ := pie_nums ok
  obtain ⟨b1, b2, b3⟩ := bit_pieF p
  have hp : pieOf (fromPie p).1 = p := by
    rw [h1]
    unfold pieOf pie1
    simp only
    rw [n1, n2, n3, n5, b1, b2, b3, if_pos (by rw [pieB_len]; omega)]
  unfold toPie
  rw [hp, e, sameB_eq.2 rfl]; simp
theorem toPie_eq {c : ChR} (hv : okB c.v) (hf : 0 ≤ c.f ∧ c.f ≤ 255) : toPie c = toPieRef c := by
  obtain ⟨⟨f1, f2⟩, f3, f4⟩ := bit_f hf.1 hf.2
  by_cases hb : badPie c
  · unfold toPieRef
    rw [if_pos hb]
    unfold toPie
    by_cases e : (fromPie (pieOf c)).2 = 0
    · have hs : sameB (fromPie (pieOf c)).1 c = false := by
        cases hs : sameB (fromPie (pieOf c)).1 c with
        | false => rfl
        | true =>
          exfalso
          obtain ⟨⟨h1, h2, h3⟩, h4⟩ := fromPie_ok e
          have hc := sameB_eq.1 hs
          rw [h4] at hc
          have hl : 12 ≤ c.v.length := by
            rcases Nat.lt_or_ge c.v.length 12 with h | h
            · exfalso
              apply h1
              unfold pieOf pie1
              simp only
              rw [if_neg (by omega)]; rfl
            · exact h
          have hX : (pieOf c).bytes = c.v.drop 12 := by unfold pieOf pie1; simp only; rw [if_pos hl]
          rw [hX, List.length_drop] at h1 h3
          have ht : c.t = 0 := by rw [← hc]
          have hff : pieF (pieOf c) = c.f := by rw [← congrArg ChR.f hc]
          have hvv : pieB (pieOf c) = c.v := by rw [← congrArg ChR.v hc]
          have h46 : numAt c.v 8 4 = 46 := by
            rw [← hvv]
            exact num_in (v := pieB (pieOf c)) (a := pieH (pieOf c)) (n := 46) (k := 4) (r := (pieOf c).bytes) 8 (by simp [pieB]) (pieH_len _)
          have h7 : c.f ≤ 7 := f4.2 hff
          have h8 : numAt c.v 4 2 < 8 := h2
          unfold badPie at hb
          omega
      rw [if_pos (.inr hs)]
    · rw [if_pos (.inl e)]
  · unfold toPieRef
    rw [if_neg hb]
    unfold badPie at hb
    have hl : 12 ≤ c.v.length := by omega
    have hX : pieOf c = pieRef c := by
      unfold pieOf pie1 pieRef
      rw [f1, f2, f3 (by omega), if_pos hl]
    have hP : pieB (pieRef c) = c.v := by
      have := pie_split hv hl
      rw [show numAt c.v 8 4 = 46 by omega] at this
      exact this
    have hF : pieF (pieRef c) = c.f := by rw [← hX]; exact f4.1 (by omega)
    have hbl : (pieRef c).bytes.length = c.v.length - 12 := List.length_drop
    have hg : fromPie (pieRef c) = (c, 0) := by
      rw [fromPie_go (by omega) (by show numAt c.v 4 2 < 8; omega) (by omega), hP, hF]
      have ht : c.t = 0 := by omega
      cases c; simp only at ht ⊢; rw [ht]
    unfold toPie
    rw [hX, hg, sameB_eq.2 rfl]; simp
theorem samePie_refl (h : PieR) : samePie h h = true := by simp [samePie]
theorem fromPie_len (p : PieR) : (fromPie p).1.v.length ≤ 300 := by
  unfold fromPie
  split
  · exact Nat.zero_le _
  split
  · exact Nat.zero_le _
  · simp only; rw [pieB_len]; omega
theorem fromPie_okB {p : PieR} (hc : okB p.bytes) : okB (fromPie p).1.v := by
  unfold fromPie
  split
  · exact fun x hx => by cases hx
  split
  · exact fun x hx => by cases hx
  exact okB_append (okB_append (okB_append (okB_append (be_ok _ _) (be_ok _ _)) (be_ok _ _)) (be_ok _ _)) hc
theorem pieF_rng (p : PieR) : 0 ≤ pieF p ∧ pieF p ≤ 7 := by
  unfold pieF; cases p.u <;> cases p.b <;> cases p.e <;> decide
theorem fromPie_f (p : PieR) : 0 ≤ (fromPie p).1.f ∧ (fromPie p).1.f ≤ 255 := by
  unfold fromPie
  split
  · exact ⟨by decide, by decide⟩
  split
  · exact ⟨by decide, by decide⟩
  · have := pieF_rng p; simp only; omega
theorem pie1_ok {v X : List Int} {f : Int} (hv : okB v) (hX : okB X) (hs : sm X.length) : okPie (pie1 v f X) := by
  have a1 := num_rng hv 0 (k := 4)
  have a2 := num_rng hv 4 (k := 2)
  have a3 := num_rng hv 6 (k := 2)
  have p4 : (256 : Int) ^ 4 = 4294967296 := rfl
  have p2 : (256 : Int) ^ 2 = 65536 := rfl
  rw [p4] at a1
  rw [p2] at a2 a3
  refine ⟨?_, ?_, ?_, hX, hs⟩ <;> simp only [pie1] <;> omega
end Go.ZM
namespace Go.ZR
open Go.Z Go.ZM Go.Proofs
def pieL (p : PieR) (ck : O) : O := .agg [iO .u32 p.tsn, iO .u16 p.str, iO .u16 p.seq, bO p.b, bO p.e, bO p.u, ck]
def pieO (p : PieR) : O := pieL p (bsO p.bytes)
def pieN (p : PieR) : O := pieL p (bsN p.bytes)
def pieOfO : O → PieR
  | .agg [a, b, c, d, e, f, g] => ⟨vi (dO a), vi (dO b), vi (dO c), vb (dO d), vb (dO e), vb (dO f), vl (dO g)⟩
  | _ => noPie
def flagC : Ctr := nC 2 true (fun a => ∃ b n, a = [bO b, iO .u8 n]) fun a => [iO .u8 (flagF (vb (dO (at_ a 0))) (vi (dO (at_ a 1))))]
def fromPieC : Ctr := nC 1 false (fun a => ∃ p, a = [pieO p] ∧ okPie p) fun a => [chN (fromPie (pieOfO (at_ a 0))).1, iO .i64 (fromPie (pieOfO (at_ a 0))).2]
def toPieC : Ctr := nC 1 false (fun a => ∃ c, a = [chO c] ∧ okB c.v ∧ sm c.v.length ∧ 0 ≤ c.f ∧ c.f ≤ 255) fun a => [pieN (toPie (chOf (at_ a 0))).1, iO .i64 (toPie (chOf (at_ a 0))).2]
def samePieC : Ctr := nC 2 true (fun a => ∃ h g, a = [pieO h, pieO g]) fun a => [bO (samePie (pieOfO (at_ a 0)) (pieOfO (at_ a 1)))]
def c18 : List (Nat × Ctr) := [(198, putC)]
def c19 : List (Nat × Ctr) := [(200, rdC), (82, cloneC), (202, sameBC)]
end Go.ZR

/- What a side has heard: plain functions, laws. -/
set_option maxRecDepth 100000
namespace Go.ZM
open Go.Z Go.ZR

structure HeaR where
  cum : Int
  win : Int
  gaps : List (Int × Int)
  dups : List Int
def noHea : HeaR := ⟨0, 0, [], []⟩
def gapCell (l : List (Int × Int)) (i j : Nat) : D :=
  match j with
  | 0 => .v (.int .u16 (l.getD i (0, 0)).1)
  | _ => .v (.int .u16 (l.getD i (0, 0)).2)
def gapAt (g : Nat → D) : Int × Int := (vi (g 0), vi (g 1))
def gapsOf : D → List (Int × Int)
  | .recs _ n f => (List.range n).map fun i => gapAt (f i)
  | _ => []
theorem gapsOf_gaps (l : List (Int × Int)) : gapsOf (.recs 2 l.length (gapCell l)) = l := range_getD l (0, 0)
def okG (g : Int × Int) : Prop := (0 ≤ g.1 ∧ g.1 ≤ 65535) ∧ (0 ≤ g.2 ∧ g.2 ≤ 65535)
def okGs (l : List (Int × Int)) : Prop := l.length ≤ 1073741824 ∧ ∀ g, g ∈ l → okG g
def okDs (l : List Int) : Prop := l.length ≤ 1073741824 ∧ ∀ n, n ∈ l → 0 ≤ n ∧ n ≤ 4294967295
def okHea (h : HeaR) : Prop := (0 ≤ h.cum ∧ h.cum ≤ 4294967295) ∧ (0 ≤ h.win ∧ h.win ≤ 4294967295) ∧ okGs h.gaps ∧ okDs h.dups
def apartG : Int → List (Int × Int) → Bool
  | _, [] => true
  | a, g :: l => if g.1 < a + 2 ∨ g.2 < g.1 then false else apartG g.2 l
def apartF (l : List (Int × Int)) : Bool := apartG 0 l
def gapB (g : Int × Int) : List Int := be g.1 2 ++ be g.2 2
def gapsB (l : List (Int × Int)) : List Int := l.flatMap gapB
def dupsB (l : List Int) : List Int := l.flatMap fun n => be n 4
def heaH (h : HeaR) : List Int := be h.cum 4 ++ be h.win 4 ++ be (h.gaps.length : Int) 2 ++ be (h.dups.length : Int) 2
def heaB (h : HeaR) : List Int := heaH h ++ gapsB h.gaps ++ dupsB h.dups
def fromHea (h : HeaR) : ChR × Int :=
  if apartF h.gaps = false then (noCh, 2) else if 64 < h.gaps.length ∨ 64 < h.dups.length then (noCh, 4) else (⟨3, 0, heaB h⟩, 0)
def gapsG (v : List Int) (n : Nat) : List (Int × Int) := (List.range n).map fun (k : Nat) => (numAt v ((12 + 4 * k : Nat) : Int) 2, numAt v ((14 + 4 * k : Nat) : Int) 2)
def dupsG (v : List Int) (g n : Nat) : List Int := (List.range n).map fun (k : Nat) => numAt v ((12 + 4 * g + 4 * k : Nat) : Int) 4
def nGap (v : List Int) : Int := numAt v 8 2
def nDup (v : List Int) : Int := numAt v 10 2
def hea1 (v : List Int) (g d : Nat) : HeaR := ⟨numAt v 0 4, numAt v 4 4, gapsG v g, dupsG v g d⟩
def heaOf (v : List Int) : HeaR := hea1 v (nGap v).toNat (nDup v).toNat
def badHea (c : ChR) : Prop := c.t ≠ 3 ∨ c.f ≠ 0 ∨ c.v.length < 12 ∨ 64 < nGap c.v ∨ 64 < nDup c.v
instance (c : ChR) : Decidable (badHea c) := by unfold badHea; infer_instance
def toHea (c : ChR) : HeaR × Int :=
  if badHea c then (noHea, 2) else if (c.v.length : Int) ≠ 12 + 4 * nGap c.v + 4 * nDup c.v ∨ apartF (heaOf c.v).gaps = false then (noHea, 2) else (heaOf c.v, 0)
def toHeaRef (c : ChR) : HeaR × Int :=
  if c.t ≠ 3 ∨ c.v.length < 12 then (noHea, 2) else
  if 64 < nGap c.v ∨ 64 < nDup c.v ∨ (c.v.length : Int) ≠ 12 + 4 * nGap c.v + 4 * nDup c.v then (noHea, 2) else
  if (fromHea (heaOf c.v)).2 ≠ 0 ∨ sameB (fromHea (heaOf c.v)).1 c = false then (noHea, 2) else (heaOf c.v, 0)
def sameHea (h g : HeaR) : Bool :=
  (List.range (min h.gaps.length g.gaps.length)).all (fun i => decide (h.gaps.getD i (0, 0) = g.gaps.getD i (0, 0))) &&
  (List.range (min h.dups.length g.dups.length)).all (fun i => decide (h.dups.getD i 0 = g.dups.getD i 0)) &&
  (decide (h.cum = g.cum) && decide (h.win = g.win) && decide (h.gaps.length = g.gaps.length) && decide (h.dups.length = g.dups.length))

theorem gapsB_len (l : List (Int × Int)) : (gapsB l).length = 4 * l.length := by
  induction l with
  | nil => rfl
  | cons g l ih => unfold gapsB at ih ⊢; rw [List.flatMap_cons, List.length_append, ih]; simp [gapB, be_len]; omega
theorem dupsB_len (l : List Int) : (dupsB l).length = 4 * l.length := by
  induction l with
  | nil => rfl
  | cons g l ih => unfold dupsB at ih ⊢; rw [List.flatMap_cons, List.length_append, ih]; simp [be_len]; omega
theorem heaH_len (h : HeaR) : (heaH h).length = 12 := by simp [heaH, be_len]
theorem heaB_len (h : HeaR) : (heaB h).length = 12 + 4 * h.gaps.length + 4 * h.dups.length := by
  unfold heaB; rw [List.length_append, List.length_append, heaH_len, gapsB_len, dupsB_len]
theorem gapsB_append (l m : List (Int × Int)) : gapsB (l ++ m) = gapsB l ++ gapsB m := List.flatMap_append
theorem dupsB_append (l m : List Int) : dupsB (l ++ m) = dupsB l ++ dupsB m := List.flatMap_append
theorem gapsB_one (g : Int × Int) : gapsB [g] = gapB g := by simp [gapsB]
theorem dupsB_one (n : Int) : dupsB [n] = be n 4 := by simp [dupsB]
theorem gapsG_len (v : List Int) (n : Nat) : (gapsG v n).length = n := by simp [gapsG]
theorem dupsG_len (v : List Int) (g n : Nat) : (dupsG v g n).length = n := by simp [dupsG]
theorem gapsG_succ (v : List Int) (n : Nat) : gapsG v (n + 1) = gapsG v n ++ [(numAt v ((12 + 4 * n : Nat) : Int) 2, numAt v ((14 + 4 * n : Nat) : Int) 2)] := by
  unfold gapsG; rw [List.range_succ, List.map_append]; rfl
theorem dupsG_succ (v : List Int) (g n : Nat) : dupsG v g (n + 1) = dupsG v g n ++ [numAt v ((12 + 4 * g + 4 * n : Nat) : Int) 4] := by
  unfold dupsG; rw [List.range_succ, List.map_append]; rfl
theorem take_two (v : List Int) (i a b : Nat) : (v.drop i).take a ++ (v.drop (i + a)).take b = (v.drop i).take (a + b) := by
  rw [List.take_add, List.drop_drop]
theorem gaps_split {v : List Int} (hv : okB v) : ∀ n, 12 + 4 * n ≤ v.length → gapsB (gapsG v n) = (v.drop 12).take (4 * n)
  | 0, _ => by simp [gapsG, gapsB]
  | n + 1, h => by
    rw [gapsG_succ, gapsB_append, gaps_split hv n (by omega), gapsB_one]
    unfold gapB
    rw [at_take hv (by omega), at_take hv (by omega), show 14 + 4 * n = (12 + 4 * n) + 2 by omega, take_two, take_two]
    rfl
theorem dups_split {v : List Int} (hv : okB v) (g : Nat) : ∀ n, 12 + 4 * g + 4 * n ≤ v.length → dupsB (dupsG v g n) = (v.drop (12 + 4 * g)).take (4 * n)
  | 0, _ => by simp [dupsG, dupsB]
  | n + 1, h => by
    rw [dupsG_succ, dupsB_append, dups_split hv g n (by omega), dupsB_one]
    rw [at_take hv (by omega), take_two]
    rfl
theorem n_rng {v : List Int} (hv : okB v) : (0 ≤ nGap v ∧ nGap v ≤ 65535) ∧ (0 ≤ nDup v ∧ nDup v ≤ 65535) := by
  have a1 := num_rng hv 8 (k := 2)
  have a2 := num_rng hv 10 (k := 2)
  have p2 : (256 : Int) ^ 2 = 65536 := rfl
  rw [p2] at a1 a2
  unfold nGap nDup
  omega
theorem hea_split {v : List Int} (hv : okB v) (h : (v.length : Int) = 12 + 4 * nGap v + 4 * nDup v) : heaB (heaOf v) = v := by
  obtain ⟨⟨g0, g1⟩, ⟨d0, d1⟩⟩ := n_rng hv
  have hl : v.length = 12 + 4 * (nGap v).toNat + 4 * (nDup v).toNat := by omega
  unfold heaB heaOf heaH hea1
  simp only
  rw [gaps_split hv _ (by omega), dups_split hv _ _ (by omega), gapsG_len, dupsG_len]
  rw [show (((nGap v).toNat : Nat) : Int) = nGap v by omega, show (((nDup v).toNat : Nat) : Int) = nDup v by omega]
  unfold nGap nDup
  rw [show be (numAt v 0 4) 4 = _ from at_take (i := 0) hv (by omega), show be (numAt v 4 4) 4 = _ from at_take (i := 4) hv (by omega), show be (numAt v 8 2) 2 = _ from at_take (i := 8) hv (by omega), show be (numAt v 10 2) 2 = _ from at_take (i := 10) hv (by omega)]
  have s1 : (v.drop 0).take 4 ++ (v.drop 4).take 4 = (v.drop 0).take 8 := take_two v 0 4 4
  have s2 : (v.drop 0).take 8 ++ (v.drop 8).take 2 = (v.drop 0).take 10 := take_two v 0 8 2
  have s3 : (v.drop 0).take 10 ++ (v.drop 10).take 2 = (v.drop 0).take 12 := take_two v 0 10 2
  have s4 : ∀ G, (v.drop 0).take 12 ++ (v.drop 12).take G = (v.drop 0).take (12 + G) := fun G => take_two v 0 12 G
  have s5 : ∀ G D, (v.drop 0).take G ++ (v.drop G).take D = (v.drop 0).take (G + D) := fun G D => by
    have := take_two v 0 G D
    rwa [Nat.zero_add] at this
  rw [s1, s2, s3, s4, s5, List.drop_zero]
  exact List.take_of_length_le (by unfold nGap nDup at hl; omega)
theorem gapsG_get (v : List Int) (n k : Nat) (h : k < (gapsG v n).length) : (gapsG v n)[k] = (numAt v ((12 + 4 * k : Nat) : Int) 2, numAt v ((14 + 4 * k : Nat) : Int) 2) := by
  simp [gapsG]
theorem dupsG_get (v : List Int) (g n k : Nat) (h : k < (dupsG v g n).length) : (dupsG v g n)[k] = numAt v ((12 + 4 * g + 4 * k : Nat) : Int) 4 := by
  simp [dupsG]
theorem gap_in {l : List (Int × Int)} {H R : List Int} (hH : H.length = 12) (hl : ∀ g, g ∈ l → okG g) : gapsG (H ++ gapsB l ++ R) l.length = l := by
  apply List.ext_getElem (gapsG_len _ _)
  intro k h1 h2
  have hs : l = l.take k ++ (l[k] :: l.drop (k + 1)) := by rw [List.getElem_cons_drop, List.take_append_drop]
  have hg := hl _ (List.getElem_mem h2)
  have p2 : (256 : Int) ^ 2 = 65536 := rfl
  have e : H ++ gapsB l ++ R = (H ++ gapsB (l.take k)) ++ (be l[k].1 2 ++ (be l[k].2 2 ++ (gapsB (l.drop (k + 1)) ++ R))) := by
    have : gapsB l = gapsB (l.take k) ++ (gapB l[k] ++ gapsB (l.drop (k + 1))) := by
      conv => lhs; rw [hs]
      rw [gapsB_append, show l[k] :: l.drop (k + 1) = [l[k]] ++ l.drop (k + 1) from rfl, gapsB_append, gapsB_one]
    rw [this]; simp [gapB]
  have ht : (l.take k).length = k := by rw [List.length_take]; omega
  have a1 := num_in (12 + 4 * k) e (by rw [List.length_append, hH, gapsB_len, ht])
  have e2 : H ++ gapsB l ++ R = (H ++ gapsB (l.take k) ++ be l[k].1 2) ++ (be l[k].2 2 ++ (gapsB (l.drop (k + 1)) ++ R)) := by rw [e]; simp
  have a2 := num_in (14 + 4 * k) e2 (by rw [List.length_append, List.length_append, hH, gapsB_len, ht, be_len]; omega)
  rw [gapsG_get, a1, a2, p2]
  obtain ⟨x, y⟩ := hg
  exact Prod.ext (by simp only; omega) (by simp only; omega)
theorem dup_in {l : List Int} {H : List Int} {g : Nat} (hH : H.length = 12 + 4 * g) (hl : ∀ n, n ∈ l → 0 ≤ n ∧ n ≤ 4294967295) : dupsG (H ++ dupsB l) g l.length = l := by
  apply List.ext_getElem (dupsG_len _ _ _)
  intro k h1 h2
  have hs : l = l.take k ++ (l[k] :: l.drop (k + 1)) := by rw [List.getElem_cons_drop, List.take_append_drop]
  have hg := hl _ (List.getElem_mem h2)
  have p4 : (256 : Int) ^ 4 = 4294967296 := rfl
  have e : H ++ dupsB l = (H ++ dupsB (l.take k)) ++ (be l[k] 4 ++ dupsB (l.drop (k + 1))) := by
    have : dupsB l = dupsB (l.take k) ++ (be l[k] 4 ++ dupsB (l.drop (k + 1))) := by
      conv => lhs; rw [hs]
      rw [dupsB_append, show l[k] :: l.drop (k + 1) = [l[k]] ++ l.drop (k + 1) from rfl, dupsB_append, dupsB_one]
    rw [this]; simp
  have ht : (l.take k).length = k := by rw [List.length_take]; omega
  have a1 := num_in (12 + 4 * g + 4 * k) e (by rw [List.length_append, hH, dupsB_len, ht])
  rw [dupsG_get, a1, p4]
  omega
theorem fromHea_ok {h : HeaR} (e : (fromHea h).2 = 0) : (apartF h.gaps = true ∧ h.gaps.length ≤ 64 ∧ h.dups.length ≤ 64) ∧ (fromHea h).1 = ⟨3, 0, heaB h⟩ := by
  unfold fromHea at e ⊢
  split at e
  · cases e
  rename_i h1
  split at e
  · cases e
  rename_i h2
  rw [if_neg h1, if_neg h2]
  exact ⟨⟨by simpa using h1, by omega, by omega⟩, rfl⟩
theorem hea_nums {h : HeaR} (ok : okHea h) (hg : h.gaps.length ≤ 64) (hd : h.dups.length ≤ 64) : nGap (heaB h) = (h.gaps.length : Int) ∧ nDup (heaB h) = (h.dups.length : Int) ∧ heaOf (heaB h) = h := by
  obtain ⟨h1, h2, ⟨_, h3⟩, ⟨_, h4⟩⟩ := ok
  have p4 : (256 : Int) ^ 4 = 4294967296 := rfl
  have p2 : (256 : Int) ^ 2 = 65536 := rfl
  have a1 : numAt (heaB h) 0 4 = h.cum := by
    have := num_in (v := heaB h) (a := []) (n := h.cum) (k := 4) (r := be h.win 4 ++ be (h.gaps.length : Int) 2 ++ be (h.dups.length : Int) 2 ++ gapsB h.gaps ++ dupsB h.dups) 0 (by simp [heaB, heaH]) rfl
    rw [p4] at this; exact this.trans (by omega)
  have a2 : numAt (heaB h) 4 4 = h.win := by
    have := num_in (v := heaB h) (a := be h.cum 4) (n := h.win) (k := 4) (r := be (h.gaps.length : Int) 2 ++ be (h.dups.length : Int) 2 ++ gapsB h.gaps ++ dupsB h.dups) 4 (by simp [heaB, heaH]) (by simp [be_len])
    rw [p4] at this; exact this.trans (by omega)
  have a3 : nGap (heaB h) = (h.gaps.length : Int) := by
    have := num_in (v := heaB h) (a := be h.cum 4 ++ be h.win 4) (n := (h.gaps.length : Int)) (k := 2) (r := be (h.dups.length : Int) 2 ++ gapsB h.gaps ++ dupsB h.dups) 8 (by simp [heaB, heaH]) (by simp [be_len])
    rw [p2] at this; exact this.trans (by omega)
  have a4 : nDup (heaB h) = (h.dups.length : Int) := by
    have := num_in (v := heaB h) (a := be h.cum 4 ++ be h.win 4 ++ be (h.gaps.length : Int) 2) (n := (h.dups.length : Int)) (k := 2) (r := gapsB h.gaps ++ dupsB h.dups) 10 (by simp [heaB, heaH]) (by simp [be_len])
    rw [p2] at this; exact this.trans (by omega)
  refine ⟨a3, a4, ?_⟩
  unfold heaOf hea1
  rw [a1, a2, a3, a4, Int.toNat_natCast, Int.toNat_natCast]
  unfold heaB
  rw [gap_in (heaH_len h) h3, dup_in (by rw [List.length_append, heaH_len, gapsB_len]) h4]
theorem toHea_made {h : HeaR} (ok : okHea h) (e : (fromHea h).2 = 0) : toHea (fromHea h).1 = (h, 0) := by
  obtain ⟨⟨h0, h1, h2⟩, h3⟩ := fromHea_ok e
  obtain ⟨a1, a2, a3⟩ := hea_nums ok h1 h2
  have hl := heaB_len h
  unfold toHea badHea
  rw [h3]
  simp only
  rw [a1, a2, a3, if_neg, if_neg]
  · rw [h0]; simp; omega
  · omega
theorem toHea_eq {c : ChR} (hv : okB c.v) : toHea c = toHeaRef c := by
  unfold toHea toHeaRef
  by_cases hb : c.t ≠ 3 ∨ c.v.length < 12
  · rw [if_pos (by unfold badHea; omega), if_pos hb]
  rw [if_neg hb]
  by_cases hc : 64 < nGap c.v ∨ 64 < nDup c.v ∨ (c.v.length : Int) ≠ 12 + 4 * nGap c.v + 4 * nDup c.v
  · rw [if_pos hc]
    split
    · rfl
    · rename_i hh
      unfold badHea at hh
      rw [if_pos (.inl (by omega))]
  rw [if_neg hc]
  have hl : (c.v.length : Int) = 12 + 4 * nGap c.v + 4 * nDup c.v := by omega
  have hs := hea_split hv hl
  have hg : (heaOf c.v).gaps.length ≤ 64 := by unfold heaOf hea1; simp only; rw [gapsG_len]; omega
  have hd : (heaOf c.v).dups.length ≤ 64 := by unfold heaOf hea1; simp only; rw [dupsG_len]; omega
  cases ha : apartF (heaOf c.v).gaps with
  | false =>
    have hf : fromHea (heaOf c.v) = (noCh, 2) := by unfold fromHea; rw [if_pos ha]
    rw [if_pos (c := (fromHea (heaOf c.v)).2 ≠ 0 ∨ _) (.inl (by rw [hf]; decide))]
    split
    · rfl
    · rw [if_pos (.inr rfl)]
  | true =>
    have hf : fromHea (heaOf c.v) = (⟨3, 0, c.v⟩, 0) := by unfold fromHea; rw [if_neg (by rw [ha]; decide), if_neg (by omega), hs]
    rw [hf]
    by_cases h0 : c.f = 0
    · have : (⟨3, 0, c.v⟩ : ChR) = c := by
        have : c.t = 3 := by omega
        cases c; simp only at this h0 ⊢; rw [this, h0]
      rw [if_neg (by unfold badHea; omega), if_neg (by simp; omega), if_neg]
      rw [sameB_eq.2 this]; simp
    · have hsb : sameB ⟨3, 0, c.v⟩ c = false := by
        simp only [sameB, Bool.and_eq_false_iff, decide_eq_false_iff_not]
        exact .inl (.inr fun h => h0 h.symm)
      rw [if_pos (by unfold badHea; omega), if_pos (.inr hsb)]
theorem sameHea_refl (h : HeaR) : sameHea h h = true := by
  unfold sameHea
  simp
theorem gapsB_ok : ∀ l, okB (gapsB l)
  | [] => fun x hx => by cases hx
  | g :: l => by unfold gapsB; rw [List.flatMap_cons]; exact okB_append (okB_append (be_ok _ _) (be_ok _ _)) (gapsB_ok l)
theorem dupsB_ok : ∀ l, okB (dupsB l)
  | [] => fun x hx => by cases hx
  | g :: l => by unfold dupsB; rw [List.flatMap_cons]; exact okB_append (be_ok _ _) (dupsB_ok l)
theorem fromHea_okB (h : HeaR) : okB (fromHea h).1.v := by
  unfold fromHea
  split
  · exact fun x hx => by cases hx
  split
  · exact fun x hx => by cases hx
  exact okB_append (okB_append (okB_append (okB_append (okB_append (be_ok _ _) (be_ok _ _)) (be_ok _ _)) (be_ok _ _)) (gapsB_ok _)) (dupsB_ok _)
theorem fromHea_len (h : HeaR) : (fromHea h).1.v.length ≤ 600 := by
  unfold fromHea
  split
  · exact Nat.zero_le _
  split
  · exact Nat.zero_le _
  · simp only; rw [heaB_len]; omega
theorem apartG_append (l : List (Int × Int)) : ∀ a m, apartG a (l ++ m) = (apartG a l && apartG ((l.getLast?.map Prod.snd).getD a) m) := by
  induction l with
  | nil => intro a m; rfl
  | cons g l ih =>
    intro a m
    rw [List.cons_append, apartG, apartG]
    split
    · rfl
    · rw [ih]
      cases l with
      | nil => rfl
      | cons g' l => rw [List.getLast?_cons_cons]; cases h : (g' :: l).getLast? with
        | none => simp at h
        | some x => rfl
end Go.ZM

/- What a side has heard: contracts. -/
set_option maxRecDepth 100000
namespace Go.ZR
open Go.Z Go.ZM Go.Proofs
def gapsD (l : List (Int × Int)) : D := .recs 2 l.length (gapCell l)
def dupsD (l : List Int) : D := .ints .u32 l
def heaO (h : HeaR) : O := .agg [iO .u32 h.cum, iO .u32 h.win, .d (gapsD h.gaps), .d (dupsD h.dups)]
def heaN (h : HeaR) : O := .agg [iO .u32 h.cum, iO .u32 h.win, .own 43 (gapsD h.gaps), .own 22 (dupsD h.dups)]
def heaOfO : O → HeaR
  | .agg [a, b, c, d] => ⟨vi (dO a), vi (dO b), gapsOf (dO c), vl (dO d)⟩
  | _ => noHea
def apartC : Ctr := nC 1 true (fun a => ∃ l, a = [.d (gapsD l)] ∧ okGs l) fun a => [bO (apartF (gapsOf (dO (at_ a 0))))]
def fromHeaC : Ctr := nC 1 false (fun a => ∃ h, a = [heaO h] ∧ okHea h) fun a => [chN (fromHea (heaOfO (at_ a 0))).1, iO .i64 (fromHea (heaOfO (at_ a 0))).2]
def allC : Ctr where
  own := [true]
  pre := fun a => ∃ (v : List Int) (i : Int) (b : Bool), a = [rdO v i b] ∧ sm v.length
  res := fun a => [bO (!(rdOf (at_ a 0)).2.2 && decide ((rdOf (at_ a 0)).2.1 = ((rdOf (at_ a 0)).1.length : Int)))]
  upd := fun a => [rdO (rdOf (at_ a 0)).1 (rdOf (at_ a 0)).2.1 (rdOf (at_ a 0)).2.2]
  ro := true
  quiet := false
def toHeaC : Ctr := rC 1 (fun a => ∃ c, a = [chO c] ∧ okB c.v ∧ sm c.v.length ∧ 0 ≤ c.f ∧ c.f ≤ 255) fun a => [heaN (toHea (chOf (at_ a 0))).1, iO .i64 (toHea (chOf (at_ a 0))).2]
def sameHeaC : Ctr := nC 2 true (fun a => ∃ h g, a = [heaO h, heaO g] ∧ okHea h ∧ okHea g) fun a => [bO (sameHea (heaOfO (at_ a 0)) (heaOfO (at_ a 1)))]
def apartAnn (s t : Nat) (l : List (Int × Int)) : LoopAnn where
  γ := Nat × Int
  pre := fun g => g.1 ≤ l.length ∧ (0 ≤ g.2 ∧ g.2 ≤ 65535) ∧ apartG g.2 (l.drop g.1) = apartF l
  μ := fun g => l.length - g.1
  items := fun g => [(s, .c (iO .i64 (g.1 : Int))), (t, .c (iO .i64 g.2))]
def gapsAnn (s t : Nat) (h : HeaR) : LoopAnn where
  γ := Nat
  pre := fun i => i ≤ h.gaps.length
  μ := fun i => h.gaps.length - i
  items := fun i => [(s, .c (iO .i64 (i : Int))), (t, .c (bsN (heaH h ++ gapsB (h.gaps.take i))))]
def dupsAnn (s t : Nat) (h : HeaR) : LoopAnn where
  γ := Nat
  pre := fun i => i ≤ h.dups.length
  μ := fun i => h.dups.length - i
  items := fun i => [(s, .c (iO .i64 (i : Int))), (t, .c (bsN (heaH h ++ gapsB h.gaps ++ dupsB (h.dups.take i))))]
def samesG (s : Nat) (h g : HeaR) : LoopAnn where
  γ := Nat
  pre := fun i => i ≤ h.gaps.length ∧ i ≤ g.gaps.length ∧ ∀ j, j < i → h.gaps.getD j (0, 0) = g.gaps.getD j (0, 0)
  μ := fun i => h.gaps.length - i
  items := fun i => [(s, .c (iO .i64 (i : Int)))]
def samesD (s : Nat) (h g : HeaR) : LoopAnn where
  γ := Nat
  pre := fun i => i ≤ h.dups.length ∧ i ≤ g.dups.length ∧ ∀ j, j < i → h.dups.getD j 0 = g.dups.getD j 0
  μ := fun i => h.dups.length - i
  items := fun i => [(s, .c (iO .i64 (i : Int)))]
def c24 : List (Nat × Ctr) := [(198, putC), (128, apartC)]
def c25 : List (Nat × Ctr) := [(65, putC), (64, apartC)]
/-- As read so far: the reader, and what was taken. -/
def readG (c : ChR) (s rd he : Nat) : LoopAnn where
  γ := Nat
  pre := fun i => i ≤ (nGap c.v).toNat
  μ := fun i => (nGap c.v).toNat - i
  items := fun i => [(s, .c (iO .i64 (i : Int))), (rd, .blk [.o (bsO c.v), .o (iO .i64 ((12 + 4 * i : Nat) : Int)), .o (bO (decide (c.v.length < 12 + 4 * i)))]), (he, .blk [.same, .same, .o (.own 43 (gapsD (gapsG c.v i))), .same])]
def readD (c : ChR) (s rd he : Nat) : LoopAnn where
  γ := Nat
  pre := fun i => i ≤ (nDup c.v).toNat
  μ := fun i => (nDup c.v).toNat - i
  items := fun i => [(s, .c (iO .i64 (i : Int))), (rd, .blk [.o (bsO c.v), .o (iO .i64 ((12 + 4 * (nGap c.v).toNat + 4 * i : Nat) : Int)), .o (bO (decide (c.v.length < 12 + 4 * (nGap c.v).toNat + 4 * i)))]), (he, .blk [.same, .same, .same, .o (.own 22 (dupsD (dupsG c.v (nGap c.v).toNat i)))])]
def readG' (c : ChR) (s he : Nat) : LoopAnn where
  γ := Nat
  pre := fun i => i ≤ (nGap c.v).toNat
  μ := fun i => (nGap c.v).toNat - i
  items := fun i => [(s, .c (iO .i64 (i : Int))), (he, .blk [.same, .same, .o (.own 43 (gapsD (gapsG c.v i))), .same])]
def readD' (c : ChR) (s he : Nat) : LoopAnn where
  γ := Nat
  pre := fun i => i ≤ (nDup c.v).toNat
  μ := fun i => (nDup c.v).toNat - i
  items := fun i => [(s, .c (iO .i64 (i : Int))), (he, .blk [.same, .same, .same, .o (.own 22 (dupsD (dupsG c.v (nGap c.v).toNat i)))])]
def c26 : List (Nat × Ctr) := [(200, rdC), (296, allC), (128, apartC)]
def c27 : List (Nat × Ctr) := [(212, numQ), (23, fromHeaC), (118, sameC)]
end Go.ZR

/- What was heard: walked. -/
namespace Go.ZR
open Go.Proofs
open Go.Z Go.ZM Go.RowKit
set_option maxRecDepth 100000

theorem hea_eta (h : HeaR) : HeaR.mk h.cum h.win h.gaps h.dups = h := rfl
theorem take_snoc {α : Type} {l : List α} {i : Nat} (d : α) (h : i < l.length) : l.take (i + 1) = l.take i ++ [l.getD i d] := by
  rw [List.take_succ_eq_append_getElem h]; simp [List.getD, List.getElem?_eq_getElem h]
theorem drop_getD {α : Type} {l : List α} {i : Nat} (d : α) (h : i < l.length) : l.drop i = l.getD i d :: l.drop (i + 1) := by
  rw [List.drop_eq_getElem_cons h]; simp [List.getD, List.getElem?_eq_getElem h]
theorem fromHea_e1 {h : HeaR} (e : apartF h.gaps = false) : fromHea h = (noCh, 2) := by unfold fromHea; rw [if_pos e]
theorem fromHea_e2 {h : HeaR} (e : apartF h.gaps = true) (e' : 64 < h.gaps.length ∨ 64 < h.dups.length) : fromHea h = (noCh, 4) := by unfold fromHea; rw [if_neg (by rw [e]; decide), if_pos e']
theorem fromHea_e3 {h : HeaR} (e : apartF h.gaps = true) (e' : ¬ (64 < h.gaps.length ∨ 64 < h.dups.length)) : fromHea h = (⟨3, 0, heaB h⟩, 0) := by unfold fromHea; rw [if_neg (by rw [e]; decide), if_neg e']
noncomputable def code128 : Code := match Try.f128.body with | some c => c | none => .skip
set_option maxHeartbeats 4000000 in
theorem vc128 : ∀ (l : List (Int × Int)), okGs l → ∃ (g0 : Nat × Int), (g0.fst ≤ l.length ∧ ((0 : Int) ≤ g0.snd ∧ g0.snd ≤ (65535 : Int)) ∧ apartG g0.snd (List.drop g0.fst l) = apartF l) ∧
  (0 : Int) = (↑g0.fst : Int) ∧ (0 : Int) = g0.snd ∧ (true && true) = true ∧ ∀ (g : Nat × Int), g.fst ≤ l.length ∧ ((0 : Int) ≤ g.snd ∧ g.snd ≤ (65535 : Int)) ∧
  apartG g.snd (List.drop g.fst l) = apartF l → True ∧ sw (decide ((↑g.fst : Int) < (↑l.length : Int))) (((0 : Int) ≤ (↑g.fst : Int) ∧ (↑g.fst : Int) < (↑l.length : Int)) ∧
  True ∧ True ∧ sw (!decide (IntKind.i64.wrap (l.getD (↑g.fst : Int).toNat ((0 : Int), (0 : Int))).fst < IntKind.i64.wrap (g.snd + (2 : Int)))) (SV.p (1 : Nat) (1 : Nat) = SV.p (1 : Nat) (1 : Nat)) True ∧
  sw (!decide (IntKind.i64.wrap (l.getD (↑g.fst : Int).toNat ((0 : Int), (0 : Int))).fst < IntKind.i64.wrap (g.snd + (2 : Int)))) ([!decide (IntKind.i64.wrap (l.getD (↑g.fst : Int).toNat ((0 : Int), (0 : Int))).fst < IntKind.i64.wrap (g.snd + (2 : Int)))] = [!decide (IntKind.i64.wrap (l.getD (↑g.fst : Int).toNat ((0 : Int), (0 : Int))).fst < IntKind.i64.wrap (g.snd + (2 : Int)))] ∧
  SV.c (Value.int IntKind.u16 (l.getD (↑g.fst : Int).toNat ((0 : Int), (0 : Int))).snd) = SV.c (Value.int IntKind.u16 (l.getD (↑g.fst : Int).toNat ((0 : Int), (0 : Int))).snd)) True ∧
  sw (!decide (IntKind.i64.wrap (l.getD (↑g.fst : Int).toNat ((0 : Int), (0 : Int))).fst < IntKind.i64.wrap (g.snd + (2 : Int)))) (SV.p (1 : Nat) (0 : Nat) = SV.p (1 : Nat) (0 : Nat)) True ∧
  sw (!decide (IntKind.i64.wrap (l.getD (↑g.fst : Int).toNat ((0 : Int), (0 : Int))).fst < IntKind.i64.wrap (g.snd + (2 : Int)))) ([!decide (IntKind.i64.wrap (l.getD (↑g.fst : Int).toNat ((0 : Int), (0 : Int))).fst < IntKind.i64.wrap (g.snd + (2 : Int)))] = [!decide (IntKind.i64.wrap (l.getD (↑g.fst : Int).toNat ((0 : Int), (0 : Int))).fst < IntKind.i64.wrap (g.snd + (2 : Int)))] ∧
  SV.c (Value.int IntKind.u16 (l.getD (↑g.fst : Int).toNat ((0 : Int), (0 : Int))).fst) = SV.c (Value.int IntKind.u16 (l.getD (↑g.fst : Int).toNat ((0 : Int), (0 : Int))).fst)) True ∧
  sw (!decide (IntKind.i64.wrap (l.getD (↑g.fst : Int).toNat ((0 : Int), (0 : Int))).fst < IntKind.i64.wrap (g.snd + (2 : Int)))) ([!decide (IntKind.i64.wrap (l.getD (↑g.fst : Int).toNat ((0 : Int), (0 : Int))).fst < IntKind.i64.wrap (g.snd + (2 : Int)))] = [!decide (IntKind.i64.wrap (l.getD (↑g.fst : Int).toNat ((0 : Int), (0 : Int))).fst < IntKind.i64.wrap (g.snd + (2 : Int)))] ∧
  [!decide (IntKind.i64.wrap (l.getD (↑g.fst : Int).toNat ((0 : Int), (0 : Int))).fst < IntKind.i64.wrap (g.snd + (2 : Int)))] = [!decide (IntKind.i64.wrap (l.getD (↑g.fst : Int).toNat ((0 : Int), (0 : Int))).fst < IntKind.i64.wrap (g.snd + (2 : Int)))] ∧
  True ∧ SV.c (Value.bool (decide ((l.getD (↑g.fst : Int).toNat ((0 : Int), (0 : Int))).snd < (l.getD (↑g.fst : Int).toNat ((0 : Int), (0 : Int))).fst))) = SV.c (Value.bool (decide ((l.getD (↑g.fst : Int).toNat ((0 : Int), (0 : Int))).snd < (l.getD (↑g.fst : Int).toNat ((0 : Int), (0 : Int))).fst)))) True ∧
  [!decide (IntKind.i64.wrap (l.getD (↑g.fst : Int).toNat ((0 : Int), (0 : Int))).fst < IntKind.i64.wrap (g.snd + (2 : Int)))] = [!decide (IntKind.i64.wrap (l.getD (↑g.fst : Int).toNat ((0 : Int), (0 : Int))).fst < IntKind.i64.wrap (g.snd + (2 : Int)))] ∧
  sw (decide (IntKind.i64.wrap (l.getD (↑g.fst : Int).toNat ((0 : Int), (0 : Int))).fst < IntKind.i64.wrap (g.snd + (2 : Int))) || decide ((l.getD (↑g.fst : Int).toNat ((0 : Int), (0 : Int))).snd < (l.getD (↑g.fst : Int).toNat ((0 : Int), (0 : Int))).fst)) (false = apartF (gapsOf (D.recs (2 : Nat) l.length (gapCell l))) ∧
  (true && true) = true) (True ∧ ∃ (g' : Nat × Int), (g'.fst ≤ l.length ∧ ((0 : Int) ≤ g'.snd ∧ g'.snd ≤ (65535 : Int)) ∧ apartG g'.snd (List.drop g'.fst l) = apartF l) ∧
  l.length - g'.fst < l.length - g.fst ∧ (IntKind.i64.wrap ((↑g.fst : Int) + (1 : Int)) = (↑g'.fst : Int) ∧ IntKind.i64.wrap (l.getD (↑g.fst : Int).toNat ((0 : Int), (0 : Int))).snd = g'.snd ∧
  (true && true && true) = true) ∧ (some (SV.c (Value.int IntKind.i64 (↑l.length : Int))) = some (SV.c (Value.int IntKind.i64 (↑l.length : Int))) ∧ some (SV.a (0 : Nat)) = some (SV.a (0 : Nat)) ∧
  some (SV.a (0 : Nat)) = some (SV.a (0 : Nat)) ∧ True) ∧ some (R.ro (D.recs (2 : Nat) l.length (gapCell l))) = some (R.ro (D.recs (2 : Nat) l.length (gapCell l))) ∧
  True)) (true = apartF (gapsOf (D.recs (2 : Nat) l.length (gapCell l))) ∧ (true && true) = true) := by
  simp only [↓sw_iff, ↓Bool.and_eq_true, ↓decide_eq_true_eq, ↓decide_eq_false_iff_not, ↓Bool.not_eq_true', ↓Bool.not_eq_false', true_and, and_true, implies_true, Int.toNat_natCast, gapsOf_gaps]
  intro l h
  refine ⟨(0, 0), ⟨Nat.zero_le _, ⟨by decide, by decide⟩, rfl⟩, rfl, rfl, ?_⟩
  rintro ⟨i, a⟩ ⟨g1, ⟨g2, g3⟩, g4⟩
  simp only at g1 g2 g3 g4 ⊢
  have hL := h.1
  refine ⟨fun hlt => ?_, fun hge => ?_⟩
  · have hi : i < l.length := by omega
    obtain ⟨⟨m1, m2⟩, ⟨m3, m4⟩⟩ := h.2 _ (getD_mem (d := ((0 : Int), (0 : Int))) hi)
    have w1 : IntKind.i64.wrap (l.getD i (0, 0)).1 = _ := wrap_i64_id (by omega) (by omega)
    have w2 : IntKind.i64.wrap (a + 2) = _ := wrap_i64_id (by omega) (by omega)
    have w3 : IntKind.i64.wrap (l.getD i (0, 0)).2 = _ := wrap_i64_id (by omega) (by omega)
    have w4 : IntKind.i64.wrap ((i : Int) + 1) = _ := wrap_i64_id (by omega) (by omega)
    rw [drop_getD (0, 0) hi, apartG] at g4
    refine ⟨⟨by omega, by omega⟩, fun e => ?_, fun e => ?_⟩
    · have e' : (l.getD i (0, 0)).1 < a + 2 ∨ (l.getD i (0, 0)).2 < (l.getD i (0, 0)).1 := by
        rcases Bool.or_eq_true_iff.1 e with e | e
        · have e := of_decide_eq_true e
          rw [w1, w2] at e
          exact .inl e
        · exact .inr (of_decide_eq_true e)
      rw [if_pos e'] at g4; exact g4
    obtain ⟨e1, e2⟩ := Bool.or_eq_false_iff.1 e
    have e1 := of_decide_eq_false e1
    have e2 := of_decide_eq_false e2
    rw [w1, w2] at e1
    rw [if_neg (by omega)] at g4
    exact ⟨(i + 1, (l.getD i (0, 0)).2), ⟨hi, ⟨m3, m4⟩, g4⟩, by simp only; omega, w4, w3⟩
  · rw [List.drop_of_length_le (by omega)] at g4
    exact g4
set_option maxRecDepth 100000 in
theorem ok128 : FnIs Try.prog 128 apartC := by
  refine fnIs (C := (ctrs c0)) (by kernel_rfl) c0_ok Try.func128 (code := code128) (by kernel_rfl) (by kernel_rfl) ?_
  rintro a ⟨l, rfl, h⟩
  exact ⟨anns [(3, apartAnn 8 3 l)], kcast (vc128 l h) (by kernel_rfl)⟩

noncomputable def code64 : Code := match Try.f64.body with | some c => c | none => .skip
set_option maxHeartbeats 4000000 in
theorem vc64 : ∀ (l : List (Int × Int)), okGs l → ∃ (g0 : Nat × Int), (g0.fst ≤ l.length ∧ ((0 : Int) ≤ g0.snd ∧ g0.snd ≤ (65535 : Int)) ∧ apartG g0.snd (List.drop g0.fst l) = apartF l) ∧
  (0 : Int) = (↑g0.fst : Int) ∧ (0 : Int) = g0.snd ∧ (true && true) = true ∧ ∀ (g : Nat × Int), g.fst ≤ l.length ∧ ((0 : Int) ≤ g.snd ∧ g.snd ≤ (65535 : Int)) ∧
  apartG g.snd (List.drop g.fst l) = apartF l → True ∧ sw (decide ((↑g.fst : Int) < (↑l.length : Int))) (((0 : Int) ≤ (↑g.fst : Int) ∧ (↑g.fst : Int) < (↑l.length : Int)) ∧
  True ∧ True ∧ sw (!decide (IntKind.i64.wrap (l.getD (↑g.fst : Int).toNat ((0 : Int), (0 : Int))).fst < IntKind.i64.wrap (g.snd + (2 : Int)))) (SV.a (0 : Nat) = SV.a (0 : Nat)) True ∧
  sw (!decide (IntKind.i64.wrap (l.getD (↑g.fst : Int).toNat ((0 : Int), (0 : Int))).fst < IntKind.i64.wrap (g.snd + (2 : Int)))) (SV.c (Value.int IntKind.i64 (↑g.fst : Int)) = SV.c (Value.int IntKind.i64 (↑g.fst : Int))) True ∧
  sw (!decide (IntKind.i64.wrap (l.getD (↑g.fst : Int).toNat ((0 : Int), (0 : Int))).fst < IntKind.i64.wrap (g.snd + (2 : Int)))) ([!decide (IntKind.i64.wrap (l.getD (↑g.fst : Int).toNat ((0 : Int), (0 : Int))).fst < IntKind.i64.wrap (g.snd + (2 : Int)))] = [!decide (IntKind.i64.wrap (l.getD (↑g.fst : Int).toNat ((0 : Int), (0 : Int))).fst < IntKind.i64.wrap (g.snd + (2 : Int)))] ∧
  [!decide (IntKind.i64.wrap (l.getD (↑g.fst : Int).toNat ((0 : Int), (0 : Int))).fst < IntKind.i64.wrap (g.snd + (2 : Int)))] = [!decide (IntKind.i64.wrap (l.getD (↑g.fst : Int).toNat ((0 : Int), (0 : Int))).fst < IntKind.i64.wrap (g.snd + (2 : Int)))] ∧
  ((0 : Int) ≤ (↑g.fst : Int) ∧ (↑g.fst : Int) < (↑l.length : Int)) ∧ SV.e (0 : Nat) Try.prog.types[(43 : Nat)].size (↑g.fst : Int).toNat (0 : Nat) = SV.e (0 : Nat) Try.prog.types[(43 : Nat)].size (↑g.fst : Int).toNat (0 : Nat)) True ∧
  sw (!decide (IntKind.i64.wrap (l.getD (↑g.fst : Int).toNat ((0 : Int), (0 : Int))).fst < IntKind.i64.wrap (g.snd + (2 : Int)))) ([!decide (IntKind.i64.wrap (l.getD (↑g.fst : Int).toNat ((0 : Int), (0 : Int))).fst < IntKind.i64.wrap (g.snd + (2 : Int)))] = [!decide (IntKind.i64.wrap (l.getD (↑g.fst : Int).toNat ((0 : Int), (0 : Int))).fst < IntKind.i64.wrap (g.snd + (2 : Int)))] ∧
  SV.e (0 : Nat) Try.prog.types[(43 : Nat)].size (↑g.fst : Int).toNat (0 : Nat) = SV.e (0 : Nat) Try.prog.types[(43 : Nat)].size (↑g.fst : Int).toNat (0 : Nat)) True ∧
  sw (!decide (IntKind.i64.wrap (l.getD (↑g.fst : Int).toNat ((0 : Int), (0 : Int))).fst < IntKind.i64.wrap (g.snd + (2 : Int)))) ([!decide (IntKind.i64.wrap (l.getD (↑g.fst : Int).toNat ((0 : Int), (0 : Int))).fst < IntKind.i64.wrap (g.snd + (2 : Int)))] = [!decide (IntKind.i64.wrap (l.getD (↑g.fst : Int).toNat ((0 : Int), (0 : Int))).fst < IntKind.i64.wrap (g.snd + (2 : Int)))] ∧
  SV.c (Value.int IntKind.u16 (l.getD (↑g.fst : Int).toNat ((0 : Int), (0 : Int))).fst) = SV.c (Value.int IntKind.u16 (l.getD (↑g.fst : Int).toNat ((0 : Int), (0 : Int))).fst)) True ∧
  sw (!decide (IntKind.i64.wrap (l.getD (↑g.fst : Int).toNat ((0 : Int), (0 : Int))).fst < IntKind.i64.wrap (g.snd + (2 : Int)))) (SV.a (0 : Nat) = SV.a (0 : Nat)) True ∧
  sw (!decide (IntKind.i64.wrap (l.getD (↑g.fst : Int).toNat ((0 : Int), (0 : Int))).fst < IntKind.i64.wrap (g.snd + (2 : Int)))) (SV.c (Value.int IntKind.i64 (↑g.fst : Int)) = SV.c (Value.int IntKind.i64 (↑g.fst : Int))) True ∧
  sw (!decide (IntKind.i64.wrap (l.getD (↑g.fst : Int).toNat ((0 : Int), (0 : Int))).fst < IntKind.i64.wrap (g.snd + (2 : Int)))) ([!decide (IntKind.i64.wrap (l.getD (↑g.fst : Int).toNat ((0 : Int), (0 : Int))).fst < IntKind.i64.wrap (g.snd + (2 : Int)))] = [!decide (IntKind.i64.wrap (l.getD (↑g.fst : Int).toNat ((0 : Int), (0 : Int))).fst < IntKind.i64.wrap (g.snd + (2 : Int)))] ∧
  [!decide (IntKind.i64.wrap (l.getD (↑g.fst : Int).toNat ((0 : Int), (0 : Int))).fst < IntKind.i64.wrap (g.snd + (2 : Int)))] = [!decide (IntKind.i64.wrap (l.getD (↑g.fst : Int).toNat ((0 : Int), (0 : Int))).fst < IntKind.i64.wrap (g.snd + (2 : Int)))] ∧
  ((0 : Int) ≤ (↑g.fst : Int) ∧ (↑g.fst : Int) < (↑l.length : Int)) ∧ SV.e (0 : Nat) Try.prog.types[(43 : Nat)].size (↑g.fst : Int).toNat (0 : Nat) = SV.e (0 : Nat) Try.prog.types[(43 : Nat)].size (↑g.fst : Int).toNat (0 : Nat)) True ∧
  sw (!decide (IntKind.i64.wrap (l.getD (↑g.fst : Int).toNat ((0 : Int), (0 : Int))).fst < IntKind.i64.wrap (g.snd + (2 : Int)))) ([!decide (IntKind.i64.wrap (l.getD (↑g.fst : Int).toNat ((0 : Int), (0 : Int))).fst < IntKind.i64.wrap (g.snd + (2 : Int)))] = [!decide (IntKind.i64.wrap (l.getD (↑g.fst : Int).toNat ((0 : Int), (0 : Int))).fst < IntKind.i64.wrap (g.snd + (2 : Int)))] ∧
  SV.e (0 : Nat) Try.prog.types[(43 : Nat)].size (↑g.fst : Int).toNat (1 : Nat) = SV.e (0 : Nat) Try.prog.types[(43 : Nat)].size (↑g.fst : Int).toNat (1 : Nat)) True ∧
  sw (!decide (IntKind.i64.wrap (l.getD (↑g.fst : Int).toNat ((0 : Int), (0 : Int))).fst < IntKind.i64.wrap (g.snd + (2 : Int)))) ([!decide (IntKind.i64.wrap (l.getD (↑g.fst : Int).toNat ((0 : Int), (0 : Int))).fst < IntKind.i64.wrap (g.snd + (2 : Int)))] = [!decide (IntKind.i64.wrap (l.getD (↑g.fst : Int).toNat ((0 : Int), (0 : Int))).fst < IntKind.i64.wrap (g.snd + (2 : Int)))] ∧
  SV.c (Value.int IntKind.u16 (l.getD (↑g.fst : Int).toNat ((0 : Int), (0 : Int))).snd) = SV.c (Value.int IntKind.u16 (l.getD (↑g.fst : Int).toNat ((0 : Int), (0 : Int))).snd)) True ∧
  sw (!decide (IntKind.i64.wrap (l.getD (↑g.fst : Int).toNat ((0 : Int), (0 : Int))).fst < IntKind.i64.wrap (g.snd + (2 : Int)))) ([!decide (IntKind.i64.wrap (l.getD (↑g.fst : Int).toNat ((0 : Int), (0 : Int))).fst < IntKind.i64.wrap (g.snd + (2 : Int)))] = [!decide (IntKind.i64.wrap (l.getD (↑g.fst : Int).toNat ((0 : Int), (0 : Int))).fst < IntKind.i64.wrap (g.snd + (2 : Int)))] ∧
  [!decide (IntKind.i64.wrap (l.getD (↑g.fst : Int).toNat ((0 : Int), (0 : Int))).fst < IntKind.i64.wrap (g.snd + (2 : Int)))] = [!decide (IntKind.i64.wrap (l.getD (↑g.fst : Int).toNat ((0 : Int), (0 : Int))).fst < IntKind.i64.wrap (g.snd + (2 : Int)))] ∧
  True ∧ SV.c (Value.bool (decide ((l.getD (↑g.fst : Int).toNat ((0 : Int), (0 : Int))).snd < (l.getD (↑g.fst : Int).toNat ((0 : Int), (0 : Int))).fst))) = SV.c (Value.bool (decide ((l.getD (↑g.fst : Int).toNat ((0 : Int), (0 : Int))).snd < (l.getD (↑g.fst : Int).toNat ((0 : Int), (0 : Int))).fst)))) True ∧
  [!decide (IntKind.i64.wrap (l.getD (↑g.fst : Int).toNat ((0 : Int), (0 : Int))).fst < IntKind.i64.wrap (g.snd + (2 : Int)))] = [!decide (IntKind.i64.wrap (l.getD (↑g.fst : Int).toNat ((0 : Int), (0 : Int))).fst < IntKind.i64.wrap (g.snd + (2 : Int)))] ∧
  sw (decide (IntKind.i64.wrap (l.getD (↑g.fst : Int).toNat ((0 : Int), (0 : Int))).fst < IntKind.i64.wrap (g.snd + (2 : Int))) || decide ((l.getD (↑g.fst : Int).toNat ((0 : Int), (0 : Int))).snd < (l.getD (↑g.fst : Int).toNat ((0 : Int), (0 : Int))).fst)) (false = apartF (gapsOf (D.recs (2 : Nat) l.length (gapCell l))) ∧
  (true && true) = true) (((0 : Int) ≤ (↑g.fst : Int) ∧ (↑g.fst : Int) < (↑l.length : Int)) ∧ True ∧ ∃ (g' : Nat × Int), (g'.fst ≤ l.length ∧ ((0 : Int) ≤ g'.snd ∧
  g'.snd ≤ (65535 : Int)) ∧ apartG g'.snd (List.drop g'.fst l) = apartF l) ∧ l.length - g'.fst < l.length - g.fst ∧ (IntKind.i64.wrap ((↑g.fst : Int) + (1 : Int)) = (↑g'.fst : Int) ∧
  IntKind.i64.wrap (l.getD (↑g.fst : Int).toNat ((0 : Int), (0 : Int))).snd = g'.snd ∧ (true && true && true) = true) ∧ (some (SV.a (0 : Nat)) = some (SV.a (0 : Nat)) ∧
  True) ∧ some (R.ro (D.recs (2 : Nat) l.length (gapCell l))) = some (R.ro (D.recs (2 : Nat) l.length (gapCell l))) ∧ True)) (true = apartF (gapsOf (D.recs (2 : Nat) l.length (gapCell l))) ∧
  (true && true) = true) := by
  simp only [↓sw_iff, ↓Bool.and_eq_true, ↓decide_eq_true_eq, ↓decide_eq_false_iff_not, ↓Bool.not_eq_true', ↓Bool.not_eq_false', true_and, and_true, implies_true, Int.toNat_natCast, gapsOf_gaps]
  intro l h
  refine ⟨(0, 0), ⟨Nat.zero_le _, ⟨by decide, by decide⟩, rfl⟩, rfl, rfl, ?_⟩
  rintro ⟨i, a⟩ ⟨g1, ⟨g2, g3⟩, g4⟩
  simp only at g1 g2 g3 g4 ⊢
  have hL := h.1
  refine ⟨fun hlt => ?_, fun hge => ?_⟩
  · have hi : i < l.length := by omega
    obtain ⟨⟨m1, m2⟩, ⟨m3, m4⟩⟩ := h.2 _ (getD_mem (d := ((0 : Int), (0 : Int))) hi)
    have w1 : IntKind.i64.wrap (l.getD i (0, 0)).1 = _ := wrap_i64_id (by omega) (by omega)
    have w2 : IntKind.i64.wrap (a + 2) = _ := wrap_i64_id (by omega) (by omega)
    have w3 : IntKind.i64.wrap (l.getD i (0, 0)).2 = _ := wrap_i64_id (by omega) (by omega)
    have w4 : IntKind.i64.wrap ((i : Int) + 1) = _ := wrap_i64_id (by omega) (by omega)
    rw [drop_getD (0, 0) hi, apartG] at g4
    refine ⟨⟨by omega, by omega⟩, fun _ => ⟨by omega, by omega⟩, fun _ => ⟨by omega, by omega⟩, fun e => ?_, fun e => ?_⟩
    · have e' : (l.getD i (0, 0)).1 < a + 2 ∨ (l.getD i (0, 0)).2 < (l.getD i (0, 0)).1 := by
        rcases Bool.or_eq_true_iff.1 e with e | e
        · have e := of_decide_eq_true e
          rw [w1, w2] at e
          exact .inl e
        · exact .inr (of_decide_eq_true e)
      rw [if_pos e'] at g4; exact g4
    obtain ⟨e1, e2⟩ := Bool.or_eq_false_iff.1 e
    have e1 := of_decide_eq_false e1
    have e2 := of_decide_eq_false e2
    rw [w1, w2] at e1
    rw [if_neg (by omega)] at g4
    exact ⟨⟨by omega, by omega⟩, (i + 1, (l.getD i (0, 0)).2), ⟨hi, ⟨m3, m4⟩, g4⟩, by simp only; omega, w4, w3⟩
  · rw [List.drop_of_length_le (by omega)] at g4
    exact g4
set_option maxRecDepth 100000 in
theorem ok64 : FnIs Try.prog 64 apartC := by
  refine fnIs (C := (ctrs c0)) (by kernel_rfl) c0_ok Try.func64 (code := code64) (by kernel_rfl) (by kernel_rfl) ?_
  rintro a ⟨l, rfl, h⟩
  exact ⟨anns [(3, apartAnn 4 3 l)], kcast (vc64 l h) (by kernel_rfl)⟩

theorem c24_ok : COk Try.prog (ctrs c24) := cok_cons ok198 (cok_cons ok128 cok_nil)
theorem c25_ok : COk Try.prog (ctrs c25) := cok_cons ok65 (cok_cons ok64 cok_nil)

noncomputable def code23 : Code := match Try.f23.body with | some c => c | none => .skip
set_option maxHeartbeats 4000000 in
theorem vc23 : ∀ (h : HeaR), okHea h → (∃ (l : List (Int × Int)), [O.d (D.recs (2 : Nat) h.gaps.length (gapCell h.gaps))] = [O.d (D.recs (2 : Nat) l.length (gapCell l))] ∧
  okGs l) ∧ sw (!apartF (gapsOf (D.recs (2 : Nat) h.gaps.length (gapCell h.gaps)))) ((0 : Int) = (fromHea (HeaR.mk h.cum h.win (gapsOf (D.recs (2 : Nat) h.gaps.length (gapCell h.gaps))) h.dups)).fst.t ∧
  (0 : Int) = (fromHea (HeaR.mk h.cum h.win (gapsOf (D.recs (2 : Nat) h.gaps.length (gapCell h.gaps))) h.dups)).fst.f ∧ (fromHea (HeaR.mk h.cum h.win (gapsOf (D.recs (2 : Nat) h.gaps.length (gapCell h.gaps))) h.dups)).fst.v = [] ∧
  (2 : Int) = (fromHea (HeaR.mk h.cum h.win (gapsOf (D.recs (2 : Nat) h.gaps.length (gapCell h.gaps))) h.dups)).snd ∧ (true && true) = true) (True ∧ sw (!decide ((64 : Int) < (↑h.gaps.length : Int))) (SV.p (2 : Nat) (3 : Nat) = SV.p (2 : Nat) (3 : Nat)) True ∧
  sw (!decide ((64 : Int) < (↑h.gaps.length : Int))) ([!decide ((64 : Int) < (↑h.gaps.length : Int))] = [!decide ((64 : Int) < (↑h.gaps.length : Int))] ∧
  SV.a (1 : Nat) = SV.a (1 : Nat)) True ∧ sw (!decide ((64 : Int) < (↑h.gaps.length : Int))) ([!decide ((64 : Int) < (↑h.gaps.length : Int))] = [!decide ((64 : Int) < (↑h.gaps.length : Int))] ∧
  SV.c (Value.int IntKind.i64 (↑h.dups.length : Int)) = SV.c (Value.int IntKind.i64 (↑h.dups.length : Int))) True ∧ sw (!decide ((64 : Int) < (↑h.gaps.length : Int))) ([!decide ((64 : Int) < (↑h.gaps.length : Int))] = [!decide ((64 : Int) < (↑h.gaps.length : Int))] ∧
  True ∧ SV.c (Value.bool (decide ((64 : Int) < (↑h.dups.length : Int)))) = SV.c (Value.bool (decide ((64 : Int) < (↑h.dups.length : Int))))) True ∧ [!decide ((64 : Int) < (↑h.gaps.length : Int))] = [!decide ((64 : Int) < (↑h.gaps.length : Int))] ∧
  sw (decide ((64 : Int) < (↑h.gaps.length : Int)) || decide ((64 : Int) < (↑h.dups.length : Int))) ((0 : Int) = (fromHea (HeaR.mk h.cum h.win (gapsOf (D.recs (2 : Nat) h.gaps.length (gapCell h.gaps))) h.dups)).fst.t ∧
  (0 : Int) = (fromHea (HeaR.mk h.cum h.win (gapsOf (D.recs (2 : Nat) h.gaps.length (gapCell h.gaps))) h.dups)).fst.f ∧ (fromHea (HeaR.mk h.cum h.win (gapsOf (D.recs (2 : Nat) h.gaps.length (gapCell h.gaps))) h.dups)).fst.v = [] ∧
  (4 : Int) = (fromHea (HeaR.mk h.cum h.win (gapsOf (D.recs (2 : Nat) h.gaps.length (gapCell h.gaps))) h.dups)).snd ∧ (true && true) = true) ((∃ (b : List Int), ∃ (n : Int), ∃ (k : Nat), [O.d (D.ints IntKind.u8 []), O.d (D.v (Value.int IntKind.u64 (IntKind.u64.wrap h.cum))), O.d (D.v (Value.int IntKind.i64 (4 : Int)))] = [O.d (D.ints IntKind.u8 b), O.d (D.v (Value.int IntKind.u64 n)), O.d (D.v (Value.int IntKind.i64 (↑k : Int)))] ∧
  sm b.length ∧ (1 : Nat) ≤ k ∧ k ≤ (8 : Nat)) ∧ (∃ (b : List Int), ∃ (n : Int), ∃ (k : Nat), [O.d (D.ints IntKind.u8 ([] ++ be (IntKind.u64.wrap h.cum) (Int.toNat (4 : Int)))), O.d (D.v (Value.int IntKind.u64 (IntKind.u64.wrap h.win))), O.d (D.v (Value.int IntKind.i64 (4 : Int)))] = [O.d (D.ints IntKind.u8 b), O.d (D.v (Value.int IntKind.u64 n)), O.d (D.v (Value.int IntKind.i64 (↑k : Int)))] ∧
  sm b.length ∧ (1 : Nat) ≤ k ∧ k ≤ (8 : Nat)) ∧ (∃ (b : List Int), ∃ (n : Int), ∃ (k : Nat), [O.d (D.ints IntKind.u8 ([] ++ be (IntKind.u64.wrap h.cum) (Int.toNat (4 : Int)) ++ be (IntKind.u64.wrap h.win) (Int.toNat (4 : Int)))), O.d (D.v (Value.int IntKind.u64 (IntKind.u64.wrap (↑h.gaps.length : Int)))), O.d (D.v (Value.int IntKind.i64 (2 : Int)))] = [O.d (D.ints IntKind.u8 b), O.d (D.v (Value.int IntKind.u64 n)), O.d (D.v (Value.int IntKind.i64 (↑k : Int)))] ∧
  sm b.length ∧ (1 : Nat) ≤ k ∧ k ≤ (8 : Nat)) ∧ (∃ (b : List Int), ∃ (n : Int), ∃ (k : Nat), [O.d (D.ints IntKind.u8 ([] ++ be (IntKind.u64.wrap h.cum) (Int.toNat (4 : Int)) ++ be (IntKind.u64.wrap h.win) (Int.toNat (4 : Int)) ++ be (IntKind.u64.wrap (↑h.gaps.length : Int)) (Int.toNat (2 : Int)))), O.d (D.v (Value.int IntKind.u64 (IntKind.u64.wrap (↑h.dups.length : Int)))), O.d (D.v (Value.int IntKind.i64 (2 : Int)))] = [O.d (D.ints IntKind.u8 b), O.d (D.v (Value.int IntKind.u64 n)), O.d (D.v (Value.int IntKind.i64 (↑k : Int)))] ∧
  sm b.length ∧ (1 : Nat) ≤ k ∧ k ≤ (8 : Nat)) ∧ ∃ (g0 : Nat), g0 ≤ h.gaps.length ∧ (0 : Int) = (↑g0 : Int) ∧ [] ++ be (IntKind.u64.wrap h.cum) (Int.toNat (4 : Int)) ++ be (IntKind.u64.wrap h.win) (Int.toNat (4 : Int)) ++ be (IntKind.u64.wrap (↑h.gaps.length : Int)) (Int.toNat (2 : Int)) ++ be (IntKind.u64.wrap (↑h.dups.length : Int)) (Int.toNat (2 : Int)) = heaH h ++ gapsB (List.take g0 h.gaps) ∧
  (!false && true && true) = true ∧ ∀ (g : Nat), g ≤ h.gaps.length → True ∧ sw (decide ((↑g : Int) < (↑h.gaps.length : Int))) (((0 : Int) ≤ (↑g : Int) ∧ (↑g : Int) < (↑h.gaps.length : Int)) ∧
  (∃ (b : List Int), ∃ (n : Int), ∃ (k : Nat), [O.d (D.ints IntKind.u8 (heaH h ++ gapsB (List.take g h.gaps))), O.d (D.v (Value.int IntKind.u64 (IntKind.u64.wrap (h.gaps.getD (↑g : Int).toNat ((0 : Int), (0 : Int))).fst))), O.d (D.v (Value.int IntKind.i64 (2 : Int)))] = [O.d (D.ints IntKind.u8 b), O.d (D.v (Value.int IntKind.u64 n)), O.d (D.v (Value.int IntKind.i64 (↑k : Int)))] ∧
  sm b.length ∧ (1 : Nat) ≤ k ∧ k ≤ (8 : Nat)) ∧ ((0 : Int) ≤ (↑g : Int) ∧ (↑g : Int) < (↑h.gaps.length : Int)) ∧ (∃ (b : List Int), ∃ (n : Int), ∃ (k : Nat), [O.d (D.ints IntKind.u8 (heaH h ++ gapsB (List.take g h.gaps) ++ be (IntKind.u64.wrap (h.gaps.getD (↑g : Int).toNat ((0 : Int), (0 : Int))).fst) (Int.toNat (2 : Int)))), O.d (D.v (Value.int IntKind.u64 (IntKind.u64.wrap (h.gaps.getD (↑g : Int).toNat ((0 : Int), (0 : Int))).snd))), O.d (D.v (Value.int IntKind.i64 (2 : Int)))] = [O.d (D.ints IntKind.u8 b), O.d (D.v (Value.int IntKind.u64 n)), O.d (D.v (Value.int IntKind.i64 (↑k : Int)))] ∧
  sm b.length ∧ (1 : Nat) ≤ k ∧ k ≤ (8 : Nat)) ∧ True ∧ ∃ (g' : Nat), g' ≤ h.gaps.length ∧ h.gaps.length - g' < h.gaps.length - g ∧ (IntKind.i64.wrap ((↑g : Int) + (1 : Int)) = (↑g' : Int) ∧
  heaH h ++ gapsB (List.take g h.gaps) ++ be (IntKind.u64.wrap (h.gaps.getD (↑g : Int).toNat ((0 : Int), (0 : Int))).fst) (Int.toNat (2 : Int)) ++ be (IntKind.u64.wrap (h.gaps.getD (↑g : Int).toNat ((0 : Int), (0 : Int))).snd) (Int.toNat (2 : Int)) = heaH h ++ gapsB (List.take g' h.gaps) ∧
  (!false && true && true && ((Nat.ble (8 : Nat) (10 : Nat) || (Nat.beq (7 : Nat) (10 : Nat) || false)) && true)) = true) ∧ (some (SV.a (7 : Nat)) = some (SV.a (7 : Nat)) ∧
  some (SV.c (Value.int IntKind.u64 (IntKind.u64.wrap (↑h.dups.length : Int)))) = some (SV.c (Value.int IntKind.u64 (IntKind.u64.wrap (↑h.dups.length : Int)))) ∧
  some (SV.c (Value.int IntKind.i64 (↑h.dups.length : Int))) = some (SV.c (Value.int IntKind.i64 (↑h.dups.length : Int))) ∧ some (SV.a (1 : Nat)) = some (SV.a (1 : Nat)) ∧
  some (SV.p (2 : Nat) (3 : Nat)) = some (SV.p (2 : Nat) (3 : Nat)) ∧ some (SV.a (6 : Nat)) = some (SV.a (6 : Nat)) ∧ some (SV.a (6 : Nat)) = some (SV.a (6 : Nat)) ∧
  some (SV.c (Value.int IntKind.u64 (IntKind.u64.wrap (↑h.gaps.length : Int)))) = some (SV.c (Value.int IntKind.u64 (IntKind.u64.wrap (↑h.gaps.length : Int)))) ∧
  some (SV.c (Value.int IntKind.i64 (↑h.gaps.length : Int))) = some (SV.c (Value.int IntKind.i64 (↑h.gaps.length : Int))) ∧ some (SV.a (0 : Nat)) = some (SV.a (0 : Nat)) ∧
  some (SV.p (2 : Nat) (2 : Nat)) = some (SV.p (2 : Nat) (2 : Nat)) ∧ some (SV.a (5 : Nat)) = some (SV.a (5 : Nat)) ∧ some (SV.a (5 : Nat)) = some (SV.a (5 : Nat)) ∧
  some (SV.c (Value.int IntKind.u64 (IntKind.u64.wrap h.win))) = some (SV.c (Value.int IntKind.u64 (IntKind.u64.wrap h.win))) ∧ some (SV.c (Value.int IntKind.u32 h.win)) = some (SV.c (Value.int IntKind.u32 h.win)) ∧
  some (SV.p (2 : Nat) (1 : Nat)) = some (SV.p (2 : Nat) (1 : Nat)) ∧ some (SV.a (4 : Nat)) = some (SV.a (4 : Nat)) ∧ some (SV.a (4 : Nat)) = some (SV.a (4 : Nat)) ∧
  some (SV.c (Value.int IntKind.u64 (IntKind.u64.wrap h.cum))) = some (SV.c (Value.int IntKind.u64 (IntKind.u64.wrap h.cum))) ∧ some (SV.c (Value.int IntKind.u32 h.cum)) = some (SV.c (Value.int IntKind.u32 h.cum)) ∧
  some (SV.p (2 : Nat) (0 : Nat)) = some (SV.p (2 : Nat) (0 : Nat)) ∧ some (SV.c (Value.bool (decide ((64 : Int) < (↑h.gaps.length : Int)) || decide ((64 : Int) < (↑h.dups.length : Int))))) = some (SV.c (Value.bool (decide ((64 : Int) < (↑h.gaps.length : Int)) || decide ((64 : Int) < (↑h.dups.length : Int))))) ∧
  some (SV.w [!decide ((64 : Int) < (↑h.gaps.length : Int))] (SV.c (Value.bool (decide ((64 : Int) < (↑h.dups.length : Int)))))) = some (SV.w [!decide ((64 : Int) < (↑h.gaps.length : Int))] (SV.c (Value.bool (decide ((64 : Int) < (↑h.dups.length : Int)))))) ∧
  some (SV.w [!decide ((64 : Int) < (↑h.gaps.length : Int))] (SV.c (Value.int IntKind.i64 (↑h.dups.length : Int)))) = some (SV.w [!decide ((64 : Int) < (↑h.gaps.length : Int))] (SV.c (Value.int IntKind.i64 (↑h.dups.length : Int)))) ∧
  some (SV.w [!decide ((64 : Int) < (↑h.gaps.length : Int))] (SV.a (1 : Nat))) = some (SV.w [!decide ((64 : Int) < (↑h.gaps.length : Int))] (SV.a (1 : Nat))) ∧
  some (SV.w [!decide ((64 : Int) < (↑h.gaps.length : Int))] (SV.p (2 : Nat) (3 : Nat))) = some (SV.w [!decide ((64 : Int) < (↑h.gaps.length : Int))] (SV.p (2 : Nat) (3 : Nat))) ∧
  some (SV.c (Value.bool (decide ((64 : Int) < (↑h.gaps.length : Int))))) = some (SV.c (Value.bool (decide ((64 : Int) < (↑h.gaps.length : Int))))) ∧ some (SV.c (Value.bool (decide ((64 : Int) < (↑h.gaps.length : Int))))) = some (SV.c (Value.bool (decide ((64 : Int) < (↑h.gaps.length : Int))))) ∧
  some (SV.c (Value.int IntKind.i64 (↑h.gaps.length : Int))) = some (SV.c (Value.int IntKind.i64 (↑h.gaps.length : Int))) ∧ some (SV.a (0 : Nat)) = some (SV.a (0 : Nat)) ∧
  some (SV.p (2 : Nat) (2 : Nat)) = some (SV.p (2 : Nat) (2 : Nat)) ∧ some (SV.c (Value.bool !apartF (gapsOf (D.recs (2 : Nat) h.gaps.length (gapCell h.gaps))))) = some (SV.c (Value.bool !apartF (gapsOf (D.recs (2 : Nat) h.gaps.length (gapCell h.gaps))))) ∧
  some (SV.c (Value.bool (apartF (gapsOf (D.recs (2 : Nat) h.gaps.length (gapCell h.gaps)))))) = some (SV.c (Value.bool (apartF (gapsOf (D.recs (2 : Nat) h.gaps.length (gapCell h.gaps)))))) ∧
  some (SV.a (0 : Nat)) = some (SV.a (0 : Nat)) ∧ some (SV.p (2 : Nat) (2 : Nat)) = some (SV.p (2 : Nat) (2 : Nat)) ∧ some (SV.c (Value.int IntKind.i64 (0 : Int))) = some (SV.c (Value.int IntKind.i64 (0 : Int))) ∧
  some (SV.p (3 : Nat) (0 : Nat)) = some (SV.p (3 : Nat) (0 : Nat)) ∧ some (SV.p (2 : Nat) (0 : Nat)) = some (SV.p (2 : Nat) (0 : Nat)) ∧ some (SV.agg [SV.c (Value.int IntKind.u32 h.cum), SV.c (Value.int IntKind.u32 h.win), SV.a (0 : Nat), SV.a (1 : Nat)]) = some (SV.agg [SV.c (Value.int IntKind.u32 h.cum), SV.c (Value.int IntKind.u32 h.win), SV.a (0 : Nat), SV.a (1 : Nat)]) ∧
  True) ∧ some (R.own (5 : Nat) (D.ints IntKind.u8 ([] ++ be (IntKind.u64.wrap h.cum) (Int.toNat (4 : Int)) ++ be (IntKind.u64.wrap h.win) (Int.toNat (4 : Int)) ++ be (IntKind.u64.wrap (↑h.gaps.length : Int)) (Int.toNat (2 : Int))))) = some (R.own (5 : Nat) (D.ints IntKind.u8 ([] ++ be (IntKind.u64.wrap h.cum) (Int.toNat (4 : Int)) ++ be (IntKind.u64.wrap h.win) (Int.toNat (4 : Int)) ++ be (IntKind.u64.wrap (↑h.gaps.length : Int)) (Int.toNat (2 : Int))))) ∧
  some (R.own (5 : Nat) (D.ints IntKind.u8 ([] ++ be (IntKind.u64.wrap h.cum) (Int.toNat (4 : Int)) ++ be (IntKind.u64.wrap h.win) (Int.toNat (4 : Int))))) = some (R.own (5 : Nat) (D.ints IntKind.u8 ([] ++ be (IntKind.u64.wrap h.cum) (Int.toNat (4 : Int)) ++ be (IntKind.u64.wrap h.win) (Int.toNat (4 : Int))))) ∧
  some (R.own (5 : Nat) (D.ints IntKind.u8 ([] ++ be (IntKind.u64.wrap h.cum) (Int.toNat (4 : Int))))) = some (R.own (5 : Nat) (D.ints IntKind.u8 ([] ++ be (IntKind.u64.wrap h.cum) (Int.toNat (4 : Int))))) ∧
  some (R.blk (38 : Nat) [SV.c (Value.int IntKind.u8 (0 : Int)), SV.c (Value.int IntKind.u8 (0 : Int)), SV.nil]) = some (R.blk (38 : Nat) [SV.c (Value.int IntKind.u8 (0 : Int)), SV.c (Value.int IntKind.u8 (0 : Int)), SV.nil]) ∧
  some (R.blk (35 : Nat) [SV.c (Value.int IntKind.u32 h.cum), SV.c (Value.int IntKind.u32 h.win), SV.a (0 : Nat), SV.a (1 : Nat)]) = some (R.blk (35 : Nat) [SV.c (Value.int IntKind.u32 h.cum), SV.c (Value.int IntKind.u32 h.win), SV.a (0 : Nat), SV.a (1 : Nat)]) ∧
  some (R.ro (D.ints IntKind.u32 h.dups)) = some (R.ro (D.ints IntKind.u32 h.dups)) ∧ some (R.ro (D.recs (2 : Nat) h.gaps.length (gapCell h.gaps))) = some (R.ro (D.recs (2 : Nat) h.gaps.length (gapCell h.gaps))) ∧
  True) (∃ (g0_1 : Nat), g0_1 ≤ h.dups.length ∧ (0 : Int) = (↑g0_1 : Int) ∧ heaH h ++ gapsB (List.take g h.gaps) = heaH h ++ gapsB h.gaps ++ dupsB (List.take g0_1 h.dups) ∧
  (!false && true && true) = true ∧ ∀ (g_1 : Nat), g_1 ≤ h.dups.length → True ∧ sw (decide ((↑g_1 : Int) < (↑h.dups.length : Int))) (((0 : Int) ≤ (↑g_1 : Int) ∧
  (↑g_1 : Int) < (↑h.dups.length : Int)) ∧ (∃ (b : List Int), ∃ (n : Int), ∃ (k : Nat), [O.d (D.ints IntKind.u8 (heaH h ++ gapsB h.gaps ++ dupsB (List.take g_1 h.dups))), O.d (D.v (Value.int IntKind.u64 (IntKind.u64.wrap (h.dups.getD (↑g_1 : Int).toNat (0 : Int))))), O.d (D.v (Value.int IntKind.i64 (4 : Int)))] = [O.d (D.ints IntKind.u8 b), O.d (D.v (Value.int IntKind.u64 n)), O.d (D.v (Value.int IntKind.i64 (↑k : Int)))] ∧
  sm b.length ∧ (1 : Nat) ≤ k ∧ k ≤ (8 : Nat)) ∧ True ∧ ∃ (g' : Nat), g' ≤ h.dups.length ∧ h.dups.length - g' < h.dups.length - g_1 ∧ (IntKind.i64.wrap ((↑g_1 : Int) + (1 : Int)) = (↑g' : Int) ∧
  heaH h ++ gapsB h.gaps ++ dupsB (List.take g_1 h.dups) ++ be (IntKind.u64.wrap (h.dups.getD (↑g_1 : Int).toNat (0 : Int))) (Int.toNat (4 : Int)) = heaH h ++ gapsB h.gaps ++ dupsB (List.take g' h.dups) ∧
  (!false && true && true && ((Nat.ble (9 : Nat) (10 : Nat) || (Nat.beq (8 : Nat) (10 : Nat) || false)) && true)) = true) ∧ (some (SV.c (Value.bool (decide ((↑g : Int) < (↑h.gaps.length : Int))))) = some (SV.c (Value.bool (decide ((↑g : Int) < (↑h.gaps.length : Int))))) ∧
  some (SV.c (Value.int IntKind.i64 (↑h.gaps.length : Int))) = some (SV.c (Value.int IntKind.i64 (↑h.gaps.length : Int))) ∧ some (SV.a (0 : Nat)) = some (SV.a (0 : Nat)) ∧
  some (SV.p (2 : Nat) (2 : Nat)) = some (SV.p (2 : Nat) (2 : Nat)) ∧ some (SV.c (Value.int IntKind.i64 (↑g : Int))) = some (SV.c (Value.int IntKind.i64 (↑g : Int))) ∧
  some (SV.c (Value.int IntKind.i64 (↑g : Int))) = some (SV.c (Value.int IntKind.i64 (↑g : Int))) ∧ some (SV.a (7 : Nat)) = some (SV.a (7 : Nat)) ∧ some (SV.c (Value.int IntKind.u64 (IntKind.u64.wrap (↑h.dups.length : Int)))) = some (SV.c (Value.int IntKind.u64 (IntKind.u64.wrap (↑h.dups.length : Int)))) ∧
  some (SV.c (Value.int IntKind.i64 (↑h.dups.length : Int))) = some (SV.c (Value.int IntKind.i64 (↑h.dups.length : Int))) ∧ some (SV.a (1 : Nat)) = some (SV.a (1 : Nat)) ∧
  some (SV.p (2 : Nat) (3 : Nat)) = some (SV.p (2 : Nat) (3 : Nat)) ∧ some (SV.a (6 : Nat)) = some (SV.a (6 : Nat)) ∧ some (SV.a (6 : Nat)) = some (SV.a (6 : Nat)) ∧
  some (SV.c (Value.int IntKind.u64 (IntKind.u64.wrap (↑h.gaps.length : Int)))) = some (SV.c (Value.int IntKind.u64 (IntKind.u64.wrap (↑h.gaps.length : Int)))) ∧
  some (SV.c (Value.int IntKind.i64 (↑h.gaps.length : Int))) = some (SV.c (Value.int IntKind.i64 (↑h.gaps.length : Int))) ∧ some (SV.a (0 : Nat)) = some (SV.a (0 : Nat)) ∧
  some (SV.p (2 : Nat) (2 : Nat)) = some (SV.p (2 : Nat) (2 : Nat)) ∧ some (SV.a (5 : Nat)) = some (SV.a (5 : Nat)) ∧ some (SV.a (5 : Nat)) = some (SV.a (5 : Nat)) ∧
  some (SV.c (Value.int IntKind.u64 (IntKind.u64.wrap h.win))) = some (SV.c (Value.int IntKind.u64 (IntKind.u64.wrap h.win))) ∧ some (SV.c (Value.int IntKind.u32 h.win)) = some (SV.c (Value.int IntKind.u32 h.win)) ∧
  some (SV.p (2 : Nat) (1 : Nat)) = some (SV.p (2 : Nat) (1 : Nat)) ∧ some (SV.a (4 : Nat)) = some (SV.a (4 : Nat)) ∧ some (SV.a (4 : Nat)) = some (SV.a (4 : Nat)) ∧
  some (SV.c (Value.int IntKind.u64 (IntKind.u64.wrap h.cum))) = some (SV.c (Value.int IntKind.u64 (IntKind.u64.wrap h.cum))) ∧ some (SV.c (Value.int IntKind.u32 h.cum)) = some (SV.c (Value.int IntKind.u32 h.cum)) ∧
  some (SV.p (2 : Nat) (0 : Nat)) = some (SV.p (2 : Nat) (0 : Nat)) ∧ some (SV.c (Value.bool (decide ((64 : Int) < (↑h.gaps.length : Int)) || decide ((64 : Int) < (↑h.dups.length : Int))))) = some (SV.c (Value.bool (decide ((64 : Int) < (↑h.gaps.length : Int)) || decide ((64 : Int) < (↑h.dups.length : Int))))) ∧
  some (SV.w [!decide ((64 : Int) < (↑h.gaps.length : Int))] (SV.c (Value.bool (decide ((64 : Int) < (↑h.dups.length : Int)))))) = some (SV.w [!decide ((64 : Int) < (↑h.gaps.length : Int))] (SV.c (Value.bool (decide ((64 : Int) < (↑h.dups.length : Int)))))) ∧
  some (SV.w [!decide ((64 : Int) < (↑h.gaps.length : Int))] (SV.c (Value.int IntKind.i64 (↑h.dups.length : Int)))) = some (SV.w [!decide ((64 : Int) < (↑h.gaps.length : Int))] (SV.c (Value.int IntKind.i64 (↑h.dups.length : Int)))) ∧
  some (SV.w [!decide ((64 : Int) < (↑h.gaps.length : Int))] (SV.a (1 : Nat))) = some (SV.w [!decide ((64 : Int) < (↑h.gaps.length : Int))] (SV.a (1 : Nat))) ∧
  some (SV.w [!decide ((64 : Int) < (↑h.gaps.length : Int))] (SV.p (2 : Nat) (3 : Nat))) = some (SV.w [!decide ((64 : Int) < (↑h.gaps.length : Int))] (SV.p (2 : Nat) (3 : Nat))) ∧
  some (SV.c (Value.bool (decide ((64 : Int) < (↑h.gaps.length : Int))))) = some (SV.c (Value.bool (decide ((64 : Int) < (↑h.gaps.length : Int))))) ∧ some (SV.c (Value.bool (decide ((64 : Int) < (↑h.gaps.length : Int))))) = some (SV.c (Value.bool (decide ((64 : Int) < (↑h.gaps.length : Int))))) ∧
  some (SV.c (Value.int IntKind.i64 (↑h.gaps.length : Int))) = some (SV.c (Value.int IntKind.i64 (↑h.gaps.length : Int))) ∧ some (SV.a (0 : Nat)) = some (SV.a (0 : Nat)) ∧
  some (SV.p (2 : Nat) (2 : Nat)) = some (SV.p (2 : Nat) (2 : Nat)) ∧ some (SV.c (Value.bool !apartF (gapsOf (D.recs (2 : Nat) h.gaps.length (gapCell h.gaps))))) = some (SV.c (Value.bool !apartF (gapsOf (D.recs (2 : Nat) h.gaps.length (gapCell h.gaps))))) ∧
  some (SV.c (Value.bool (apartF (gapsOf (D.recs (2 : Nat) h.gaps.length (gapCell h.gaps)))))) = some (SV.c (Value.bool (apartF (gapsOf (D.recs (2 : Nat) h.gaps.length (gapCell h.gaps)))))) ∧
  some (SV.a (0 : Nat)) = some (SV.a (0 : Nat)) ∧ some (SV.p (2 : Nat) (2 : Nat)) = some (SV.p (2 : Nat) (2 : Nat)) ∧ some (SV.c (Value.int IntKind.i64 (0 : Int))) = some (SV.c (Value.int IntKind.i64 (0 : Int))) ∧
  some (SV.p (3 : Nat) (0 : Nat)) = some (SV.p (3 : Nat) (0 : Nat)) ∧ some (SV.p (2 : Nat) (0 : Nat)) = some (SV.p (2 : Nat) (0 : Nat)) ∧ some (SV.agg [SV.c (Value.int IntKind.u32 h.cum), SV.c (Value.int IntKind.u32 h.win), SV.a (0 : Nat), SV.a (1 : Nat)]) = some (SV.agg [SV.c (Value.int IntKind.u32 h.cum), SV.c (Value.int IntKind.u32 h.win), SV.a (0 : Nat), SV.a (1 : Nat)]) ∧
  True) ∧ some R.dead = some R.dead ∧ some (R.own (5 : Nat) (D.ints IntKind.u8 ([] ++ be (IntKind.u64.wrap h.cum) (Int.toNat (4 : Int)) ++ be (IntKind.u64.wrap h.win) (Int.toNat (4 : Int)) ++ be (IntKind.u64.wrap (↑h.gaps.length : Int)) (Int.toNat (2 : Int))))) = some (R.own (5 : Nat) (D.ints IntKind.u8 ([] ++ be (IntKind.u64.wrap h.cum) (Int.toNat (4 : Int)) ++ be (IntKind.u64.wrap h.win) (Int.toNat (4 : Int)) ++ be (IntKind.u64.wrap (↑h.gaps.length : Int)) (Int.toNat (2 : Int))))) ∧
  some (R.own (5 : Nat) (D.ints IntKind.u8 ([] ++ be (IntKind.u64.wrap h.cum) (Int.toNat (4 : Int)) ++ be (IntKind.u64.wrap h.win) (Int.toNat (4 : Int))))) = some (R.own (5 : Nat) (D.ints IntKind.u8 ([] ++ be (IntKind.u64.wrap h.cum) (Int.toNat (4 : Int)) ++ be (IntKind.u64.wrap h.win) (Int.toNat (4 : Int))))) ∧
  some (R.own (5 : Nat) (D.ints IntKind.u8 ([] ++ be (IntKind.u64.wrap h.cum) (Int.toNat (4 : Int))))) = some (R.own (5 : Nat) (D.ints IntKind.u8 ([] ++ be (IntKind.u64.wrap h.cum) (Int.toNat (4 : Int))))) ∧
  some (R.blk (38 : Nat) [SV.c (Value.int IntKind.u8 (0 : Int)), SV.c (Value.int IntKind.u8 (0 : Int)), SV.nil]) = some (R.blk (38 : Nat) [SV.c (Value.int IntKind.u8 (0 : Int)), SV.c (Value.int IntKind.u8 (0 : Int)), SV.nil]) ∧
  some (R.blk (35 : Nat) [SV.c (Value.int IntKind.u32 h.cum), SV.c (Value.int IntKind.u32 h.win), SV.a (0 : Nat), SV.a (1 : Nat)]) = some (R.blk (35 : Nat) [SV.c (Value.int IntKind.u32 h.cum), SV.c (Value.int IntKind.u32 h.win), SV.a (0 : Nat), SV.a (1 : Nat)]) ∧
  some (R.ro (D.ints IntKind.u32 h.dups)) = some (R.ro (D.ints IntKind.u32 h.dups)) ∧ some (R.ro (D.recs (2 : Nat) h.gaps.length (gapCell h.gaps))) = some (R.ro (D.recs (2 : Nat) h.gaps.length (gapCell h.gaps))) ∧
  True) ((3 : Int) = (fromHea (HeaR.mk h.cum h.win (gapsOf (D.recs (2 : Nat) h.gaps.length (gapCell h.gaps))) h.dups)).fst.t ∧ (0 : Int) = (fromHea (HeaR.mk h.cum h.win (gapsOf (D.recs (2 : Nat) h.gaps.length (gapCell h.gaps))) h.dups)).fst.f ∧
  heaH h ++ gapsB h.gaps ++ dupsB (List.take g_1 h.dups) = (fromHea (HeaR.mk h.cum h.win (gapsOf (D.recs (2 : Nat) h.gaps.length (gapCell h.gaps))) h.dups)).fst.v ∧
  (0 : Int) = (fromHea (HeaR.mk h.cum h.win (gapsOf (D.recs (2 : Nat) h.gaps.length (gapCell h.gaps))) h.dups)).snd ∧ (!false && true && true) = true)))) := by
  simp only [↓sw_iff, ↓Bool.and_eq_true, ↓decide_eq_true_eq, ↓decide_eq_false_iff_not, ↓Bool.not_eq_true', ↓Bool.not_eq_false', true_and, and_true, implies_true, Bool.or_false, Nat.ble, Nat.beq, Int.toNat_natCast, List.nil_append, toNat2, toNat4, gapsOf_gaps, hea_eta]
  intro h ok
  obtain ⟨k1, k2, ⟨k3, k4⟩, ⟨k5, k6⟩⟩ := ok
  rw [u64_id (n := h.cum) k1.1 k1.2 (by decide), u64_id (n := h.win) k2.1 k2.2 (by decide), u64_id (n := (h.gaps.length : Int)) (m := 1073741824) (by omega) (by omega) (by decide), u64_id (n := (h.dups.length : Int)) (m := 1073741824) (by omega) (by omega) (by decide)]
  simp only [Bool.or_eq_true, Bool.or_eq_false_iff, decide_eq_true_eq, decide_eq_false_iff_not]
  refine ⟨⟨_, rfl, k3, k4⟩, fun e => leaf0 (fromHea_e1 e), fun e => ⟨fun e' => leaf0 (fromHea_e2 e (by omega)), fun e' => ?_⟩⟩
  rw [fromHea_e3 e (by omega)]
  refine ⟨⟨_, _, 4, rfl, by unfold sm; simp [], by decide, by decide⟩, ⟨_, _, 4, rfl, by unfold sm; simp [be_len], by decide, by decide⟩, ⟨_, _, 2, rfl, by unfold sm; simp [be_len], by decide, by decide⟩, ⟨_, _, 2, rfl, by unfold sm; simp [be_len], by decide, by decide⟩, 0, Nat.zero_le _, rfl, by simp [heaH, gapsB], ?_⟩
  intro i hi
  refine ⟨fun hlt => ?_, fun hge => ?_⟩
  · have hi' : i < h.gaps.length := by omega
    obtain ⟨⟨m1, m2⟩, ⟨m3, m4⟩⟩ := k4 _ (getD_mem (d := ((0 : Int), (0 : Int))) hi')
    rw [u64_id (n := (h.gaps.getD i (0, 0)).1) m1 m2 (by decide), u64_id (n := (h.gaps.getD i (0, 0)).2) m3 m4 (by decide)]
    have hl : (heaH h ++ gapsB (h.gaps.take i)).length ≤ 1000 := by rw [List.length_append, heaH_len, gapsB_len, List.length_take]; omega
    refine ⟨⟨by omega, by omega⟩, ⟨_, _, 2, rfl, by unfold sm; omega, by decide, by decide⟩, ⟨by omega, by omega⟩, ⟨_, _, 2, rfl, by unfold sm; rw [List.length_append, be_len]; omega, by decide, by decide⟩, i + 1, by omega, by omega, by rw [wrap_i64_id (by omega) (by omega)]; rfl, ?_⟩
    rw [take_snoc (0, 0) hi', gapsB_append, gapsB_one]; simp [gapB]
  · have ht : h.gaps.take i = h.gaps := List.take_of_length_le (by omega)
    rw [ht]
    refine ⟨0, Nat.zero_le _, rfl, by simp [dupsB], ?_⟩
    intro j hj
    refine ⟨fun hlt => ?_, fun hge => ?_⟩
    · have hj' : j < h.dups.length := by omega
      obtain ⟨m1, m2⟩ := k6 _ (getD_mem (d := (0 : Int)) hj')
      rw [u64_id (n := h.dups.getD j 0) m1 m2 (by decide)]
      have hl : (heaH h ++ gapsB h.gaps ++ dupsB (h.dups.take j)).length ≤ 1000 := by rw [List.length_append, List.length_append, heaH_len, gapsB_len, dupsB_len, List.length_take]; omega
      refine ⟨⟨by omega, by omega⟩, ⟨_, _, 4, rfl, by unfold sm; omega, by decide, by decide⟩, j + 1, by omega, by omega, by rw [wrap_i64_id (by omega) (by omega)]; rfl, ?_⟩
      rw [take_snoc 0 hj', dupsB_append, dupsB_one]; simp
    · rw [List.take_of_length_le (by omega)]
      exact ⟨rfl, rfl, rfl, rfl⟩
set_option maxRecDepth 100000 in
theorem ok23 : FnIs Try.prog 23 fromHeaC := by
  refine fnIs (C := (ctrs c25)) (by kernel_rfl) c25_ok Try.func23 (code := code23) (by kernel_rfl) (by kernel_rfl) ?_
  rintro a ⟨h, rfl, ok⟩
  exact ⟨anns [(10, gapsAnn 5 4 h), (15, dupsAnn 6 4 h)], kcast (vc23 h ok) (by kernel_rfl)⟩

end Go.ZR

/- What was heard, compared: walked. -/
namespace Go.ZR
open Go.Proofs
open Go.Z Go.ZM Go.RowKit
set_option maxRecDepth 100000

theorem hea_no1 {h g : HeaR} {i : Nat} (h1 : i < h.gaps.length) (h2 : i < g.gaps.length) (e : ¬ h.gaps.getD i (0, 0) = g.gaps.getD i (0, 0)) : false = sameHea h g := by
  have : (List.range (min h.gaps.length g.gaps.length)).all (fun i => decide (h.gaps.getD i (0, 0) = g.gaps.getD i (0, 0))) = false := by
    rw [List.all_eq_false]; exact ⟨i, List.mem_range.2 (by omega), by simpa using e⟩
  unfold sameHea
  rw [this]; rfl
theorem hea_no2 {h g : HeaR} {i : Nat} (h1 : i < h.dups.length) (h2 : i < g.dups.length) (e : ¬ h.dups.getD i 0 = g.dups.getD i 0) : false = sameHea h g := by
  have : (List.range (min h.dups.length g.dups.length)).all (fun i => decide (h.dups.getD i 0 = g.dups.getD i 0)) = false := by
    rw [List.all_eq_false]; exact ⟨i, List.mem_range.2 (by omega), by simpa using e⟩
  unfold sameHea
  rw [this, Bool.and_false]; rfl
theorem hea_end {h g : HeaR} {i k : Nat} (h1 : ∀ j, j < i → h.gaps.getD j (0, 0) = g.gaps.getD j (0, 0)) (h2 : ¬ i < h.gaps.length ∨ ¬ i < g.gaps.length) (h3 : ∀ j, j < k → h.dups.getD j 0 = g.dups.getD j 0) (h4 : ¬ k < h.dups.length ∨ ¬ k < g.dups.length) :
    (decide (h.cum = g.cum) && decide (h.win = g.win) && decide ((h.gaps.length : Int) = (g.gaps.length : Int)) && decide ((h.dups.length : Int) = (g.dups.length : Int))) = sameHea h g := by
  have e1 : decide ((h.gaps.length : Int) = (g.gaps.length : Int)) = decide (h.gaps.length = g.gaps.length) := by rw [decide_eq_decide]; omega
  have e2 : decide ((h.dups.length : Int) = (g.dups.length : Int)) = decide (h.dups.length = g.dups.length) := by rw [decide_eq_decide]; omega
  have a1 : (List.range (min h.gaps.length g.gaps.length)).all (fun i => decide (h.gaps.getD i (0, 0) = g.gaps.getD i (0, 0))) = true := by
    rw [List.all_eq_true]; intro j hj; have := List.mem_range.1 hj; exact decide_eq_true (h1 j (by omega))
  have a2 : (List.range (min h.dups.length g.dups.length)).all (fun i => decide (h.dups.getD i 0 = g.dups.getD i 0)) = true := by
    rw [List.all_eq_true]; intro j hj; have := List.mem_range.1 hj; exact decide_eq_true (h3 j (by omega))
  unfold sameHea
  rw [e1, e2, a1, a2]; rfl
noncomputable def code24 : Code := match Try.f24.body with | some c => c | none => .skip
set_option maxHeartbeats 4000000 in
theorem vc24 : ∀ (h g : HeaR), okHea h → okHea g → ∃ (g0 : Nat), (g0 ≤ h.gaps.length ∧ g0 ≤ g.gaps.length ∧ ∀ (j : Nat), j < g0 → h.gaps.getD j ((0 : Int), (0 : Int)) = g.gaps.getD j ((0 : Int), (0 : Int))) ∧
  (0 : Int) = (↑g0 : Int) ∧ (true && true) = true ∧ ∀ (g_1 : Nat), (g_1 ≤ h.gaps.length ∧ g_1 ≤ g.gaps.length ∧ ∀ (j : Nat), j < g_1 → h.gaps.getD j ((0 : Int), (0 : Int)) = g.gaps.getD j ((0 : Int), (0 : Int))) →
  True ∧ sw (decide ((↑g_1 : Int) < (↑h.gaps.length : Int))) (SV.c (Value.int IntKind.i64 (↑g_1 : Int)) = SV.c (Value.int IntKind.i64 (↑g_1 : Int))) True ∧
  sw (decide ((↑g_1 : Int) < (↑h.gaps.length : Int))) (SV.p (5 : Nat) (2 : Nat) = SV.p (5 : Nat) (2 : Nat)) True ∧ sw (decide ((↑g_1 : Int) < (↑h.gaps.length : Int))) ([decide ((↑g_1 : Int) < (↑h.gaps.length : Int))] = [decide ((↑g_1 : Int) < (↑h.gaps.length : Int))] ∧
  SV.a (2 : Nat) = SV.a (2 : Nat)) True ∧ sw (decide ((↑g_1 : Int) < (↑h.gaps.length : Int))) ([decide ((↑g_1 : Int) < (↑h.gaps.length : Int))] = [decide ((↑g_1 : Int) < (↑h.gaps.length : Int))] ∧
  SV.c (Value.int IntKind.i64 (↑g.gaps.length : Int)) = SV.c (Value.int IntKind.i64 (↑g.gaps.length : Int))) True ∧ sw (decide ((↑g_1 : Int) < (↑h.gaps.length : Int))) ([decide ((↑g_1 : Int) < (↑h.gaps.length : Int))] = [decide ((↑g_1 : Int) < (↑h.gaps.length : Int))] ∧
  [decide ((↑g_1 : Int) < (↑h.gaps.length : Int))] = [decide ((↑g_1 : Int) < (↑h.gaps.length : Int))] ∧ True ∧ SV.c (Value.bool (decide ((↑g_1 : Int) < (↑g.gaps.length : Int)))) = SV.c (Value.bool (decide ((↑g_1 : Int) < (↑g.gaps.length : Int))))) True ∧
  [decide ((↑g_1 : Int) < (↑h.gaps.length : Int))] = [decide ((↑g_1 : Int) < (↑h.gaps.length : Int))] ∧ sw (decide ((↑g_1 : Int) < (↑h.gaps.length : Int)) && decide ((↑g_1 : Int) < (↑g.gaps.length : Int))) (((0 : Int) ≤ (↑g_1 : Int) ∧
  (↑g_1 : Int) < (↑h.gaps.length : Int)) ∧ ((0 : Int) ≤ (↑g_1 : Int) ∧ (↑g_1 : Int) < (↑g.gaps.length : Int)) ∧ sw (!(decide ((h.gaps.getD (↑g_1 : Int).toNat ((0 : Int), (0 : Int))).fst = (g.gaps.getD (↑g_1 : Int).toNat ((0 : Int), (0 : Int))).fst) && decide ((h.gaps.getD (↑g_1 : Int).toNat ((0 : Int), (0 : Int))).snd = (g.gaps.getD (↑g_1 : Int).toNat ((0 : Int), (0 : Int))).snd))) (false = sameHea (HeaR.mk h.cum h.win (gapsOf (D.recs (2 : Nat) h.gaps.length (gapCell h.gaps))) h.dups) (HeaR.mk g.cum g.win (gapsOf (D.recs (2 : Nat) g.gaps.length (gapCell g.gaps))) g.dups) ∧
  (true && true) = true) (True ∧ ∃ (g' : Nat), (g' ≤ h.gaps.length ∧ g' ≤ g.gaps.length ∧ ∀ (j : Nat), j < g' → h.gaps.getD j ((0 : Int), (0 : Int)) = g.gaps.getD j ((0 : Int), (0 : Int))) ∧
  h.gaps.length - g' < h.gaps.length - g_1 ∧ (IntKind.i64.wrap ((↑g_1 : Int) + (1 : Int)) = (↑g' : Int) ∧ (true && true && true) = true) ∧ (some (SV.p (5 : Nat) (0 : Nat)) = some (SV.p (5 : Nat) (0 : Nat)) ∧
  some (SV.p (4 : Nat) (0 : Nat)) = some (SV.p (4 : Nat) (0 : Nat)) ∧ some (SV.agg [SV.c (Value.int IntKind.u32 h.cum), SV.c (Value.int IntKind.u32 h.win), SV.a (0 : Nat), SV.a (1 : Nat)]) = some (SV.agg [SV.c (Value.int IntKind.u32 h.cum), SV.c (Value.int IntKind.u32 h.win), SV.a (0 : Nat), SV.a (1 : Nat)]) ∧
  some (SV.agg [SV.c (Value.int IntKind.u32 g.cum), SV.c (Value.int IntKind.u32 g.win), SV.a (2 : Nat), SV.a (3 : Nat)]) = some (SV.agg [SV.c (Value.int IntKind.u32 g.cum), SV.c (Value.int IntKind.u32 g.win), SV.a (2 : Nat), SV.a (3 : Nat)]) ∧
  True) ∧ some (R.blk (35 : Nat) [SV.c (Value.int IntKind.u32 g.cum), SV.c (Value.int IntKind.u32 g.win), SV.a (2 : Nat), SV.a (3 : Nat)]) = some (R.blk (35 : Nat) [SV.c (Value.int IntKind.u32 g.cum), SV.c (Value.int IntKind.u32 g.win), SV.a (2 : Nat), SV.a (3 : Nat)]) ∧
  some (R.blk (35 : Nat) [SV.c (Value.int IntKind.u32 h.cum), SV.c (Value.int IntKind.u32 h.win), SV.a (0 : Nat), SV.a (1 : Nat)]) = some (R.blk (35 : Nat) [SV.c (Value.int IntKind.u32 h.cum), SV.c (Value.int IntKind.u32 h.win), SV.a (0 : Nat), SV.a (1 : Nat)]) ∧
  some (R.ro (D.ints IntKind.u32 g.dups)) = some (R.ro (D.ints IntKind.u32 g.dups)) ∧ some (R.ro (D.recs (2 : Nat) g.gaps.length (gapCell g.gaps))) = some (R.ro (D.recs (2 : Nat) g.gaps.length (gapCell g.gaps))) ∧
  some (R.ro (D.ints IntKind.u32 h.dups)) = some (R.ro (D.ints IntKind.u32 h.dups)) ∧ some (R.ro (D.recs (2 : Nat) h.gaps.length (gapCell h.gaps))) = some (R.ro (D.recs (2 : Nat) h.gaps.length (gapCell h.gaps))) ∧
  True)) (∃ (g0_1 : Nat), (g0_1 ≤ h.dups.length ∧ g0_1 ≤ g.dups.length ∧ ∀ (j : Nat), j < g0_1 → h.dups.getD j (0 : Int) = g.dups.getD j (0 : Int)) ∧ (0 : Int) = (↑g0_1 : Int) ∧
  (true && true) = true ∧ ∀ (g_2 : Nat), (g_2 ≤ h.dups.length ∧ g_2 ≤ g.dups.length ∧ ∀ (j : Nat), j < g_2 → h.dups.getD j (0 : Int) = g.dups.getD j (0 : Int)) →
  True ∧ sw (decide ((↑g_2 : Int) < (↑h.dups.length : Int))) (SV.c (Value.int IntKind.i64 (↑g_2 : Int)) = SV.c (Value.int IntKind.i64 (↑g_2 : Int))) True ∧
  sw (decide ((↑g_2 : Int) < (↑h.dups.length : Int))) (SV.p (5 : Nat) (3 : Nat) = SV.p (5 : Nat) (3 : Nat)) True ∧ sw (decide ((↑g_2 : Int) < (↑h.dups.length : Int))) ([decide ((↑g_2 : Int) < (↑h.dups.length : Int))] = [decide ((↑g_2 : Int) < (↑h.dups.length : Int))] ∧
  SV.a (3 : Nat) = SV.a (3 : Nat)) True ∧ sw (decide ((↑g_2 : Int) < (↑h.dups.length : Int))) ([decide ((↑g_2 : Int) < (↑h.dups.length : Int))] = [decide ((↑g_2 : Int) < (↑h.dups.length : Int))] ∧
  SV.c (Value.int IntKind.i64 (↑g.dups.length : Int)) = SV.c (Value.int IntKind.i64 (↑g.dups.length : Int))) True ∧ sw (decide ((↑g_2 : Int) < (↑h.dups.length : Int))) ([decide ((↑g_2 : Int) < (↑h.dups.length : Int))] = [decide ((↑g_2 : Int) < (↑h.dups.length : Int))] ∧
  [decide ((↑g_2 : Int) < (↑h.dups.length : Int))] = [decide ((↑g_2 : Int) < (↑h.dups.length : Int))] ∧ True ∧ SV.c (Value.bool (decide ((↑g_2 : Int) < (↑g.dups.length : Int)))) = SV.c (Value.bool (decide ((↑g_2 : Int) < (↑g.dups.length : Int))))) True ∧
  [decide ((↑g_2 : Int) < (↑h.dups.length : Int))] = [decide ((↑g_2 : Int) < (↑h.dups.length : Int))] ∧ sw (decide ((↑g_2 : Int) < (↑h.dups.length : Int)) && decide ((↑g_2 : Int) < (↑g.dups.length : Int))) (((0 : Int) ≤ (↑g_2 : Int) ∧
  (↑g_2 : Int) < (↑h.dups.length : Int)) ∧ ((0 : Int) ≤ (↑g_2 : Int) ∧ (↑g_2 : Int) < (↑g.dups.length : Int)) ∧ True ∧ sw (!decide (h.dups.getD (↑g_2 : Int).toNat (0 : Int) = g.dups.getD (↑g_2 : Int).toNat (0 : Int))) (false = sameHea (HeaR.mk h.cum h.win (gapsOf (D.recs (2 : Nat) h.gaps.length (gapCell h.gaps))) h.dups) (HeaR.mk g.cum g.win (gapsOf (D.recs (2 : Nat) g.gaps.length (gapCell g.gaps))) g.dups) ∧
  (true && true) = true) (True ∧ ∃ (g' : Nat), (g' ≤ h.dups.length ∧ g' ≤ g.dups.length ∧ ∀ (j : Nat), j < g' → h.dups.getD j (0 : Int) = g.dups.getD j (0 : Int)) ∧
  h.dups.length - g' < h.dups.length - g_2 ∧ (IntKind.i64.wrap ((↑g_2 : Int) + (1 : Int)) = (↑g' : Int) ∧ (true && true && true) = true) ∧ (some (SV.c (Value.bool (decide ((↑g_1 : Int) < (↑h.gaps.length : Int)) && decide ((↑g_1 : Int) < (↑g.gaps.length : Int))))) = some (SV.c (Value.bool (decide ((↑g_1 : Int) < (↑h.gaps.length : Int)) && decide ((↑g_1 : Int) < (↑g.gaps.length : Int))))) ∧
  some (SV.w [decide ((↑g_1 : Int) < (↑h.gaps.length : Int))] (SV.c (Value.bool (decide ((↑g_1 : Int) < (↑g.gaps.length : Int)))))) = some (SV.w [decide ((↑g_1 : Int) < (↑h.gaps.length : Int))] (SV.c (Value.bool (decide ((↑g_1 : Int) < (↑g.gaps.length : Int)))))) ∧
  some (SV.w [decide ((↑g_1 : Int) < (↑h.gaps.length : Int))] (SV.c (Value.int IntKind.i64 (↑g.gaps.length : Int)))) = some (SV.w [decide ((↑g_1 : Int) < (↑h.gaps.length : Int))] (SV.c (Value.int IntKind.i64 (↑g.gaps.length : Int)))) ∧
  some (SV.w [decide ((↑g_1 : Int) < (↑h.gaps.length : Int))] (SV.a (2 : Nat))) = some (SV.w [decide ((↑g_1 : Int) < (↑h.gaps.length : Int))] (SV.a (2 : Nat))) ∧
  some (SV.w [decide ((↑g_1 : Int) < (↑h.gaps.length : Int))] (SV.p (5 : Nat) (2 : Nat))) = some (SV.w [decide ((↑g_1 : Int) < (↑h.gaps.length : Int))] (SV.p (5 : Nat) (2 : Nat))) ∧
  some (SV.w [decide ((↑g_1 : Int) < (↑h.gaps.length : Int))] (SV.c (Value.int IntKind.i64 (↑g_1 : Int)))) = some (SV.w [decide ((↑g_1 : Int) < (↑h.gaps.length : Int))] (SV.c (Value.int IntKind.i64 (↑g_1 : Int)))) ∧
  some (SV.c (Value.bool (decide ((↑g_1 : Int) < (↑h.gaps.length : Int))))) = some (SV.c (Value.bool (decide ((↑g_1 : Int) < (↑h.gaps.length : Int))))) ∧
  some (SV.c (Value.bool (decide ((↑g_1 : Int) < (↑h.gaps.length : Int))))) = some (SV.c (Value.bool (decide ((↑g_1 : Int) < (↑h.gaps.length : Int))))) ∧
  some (SV.c (Value.int IntKind.i64 (↑h.gaps.length : Int))) = some (SV.c (Value.int IntKind.i64 (↑h.gaps.length : Int))) ∧ some (SV.a (0 : Nat)) = some (SV.a (0 : Nat)) ∧
  some (SV.p (4 : Nat) (2 : Nat)) = some (SV.p (4 : Nat) (2 : Nat)) ∧ some (SV.c (Value.int IntKind.i64 (↑g_1 : Int))) = some (SV.c (Value.int IntKind.i64 (↑g_1 : Int))) ∧
  some (SV.c (Value.int IntKind.i64 (↑g_1 : Int))) = some (SV.c (Value.int IntKind.i64 (↑g_1 : Int))) ∧ some (SV.p (5 : Nat) (0 : Nat)) = some (SV.p (5 : Nat) (0 : Nat)) ∧
  some (SV.p (4 : Nat) (0 : Nat)) = some (SV.p (4 : Nat) (0 : Nat)) ∧ some (SV.agg [SV.c (Value.int IntKind.u32 h.cum), SV.c (Value.int IntKind.u32 h.win), SV.a (0 : Nat), SV.a (1 : Nat)]) = some (SV.agg [SV.c (Value.int IntKind.u32 h.cum), SV.c (Value.int IntKind.u32 h.win), SV.a (0 : Nat), SV.a (1 : Nat)]) ∧
  some (SV.agg [SV.c (Value.int IntKind.u32 g.cum), SV.c (Value.int IntKind.u32 g.win), SV.a (2 : Nat), SV.a (3 : Nat)]) = some (SV.agg [SV.c (Value.int IntKind.u32 g.cum), SV.c (Value.int IntKind.u32 g.win), SV.a (2 : Nat), SV.a (3 : Nat)]) ∧
  True) ∧ some (R.blk (35 : Nat) [SV.c (Value.int IntKind.u32 g.cum), SV.c (Value.int IntKind.u32 g.win), SV.a (2 : Nat), SV.a (3 : Nat)]) = some (R.blk (35 : Nat) [SV.c (Value.int IntKind.u32 g.cum), SV.c (Value.int IntKind.u32 g.win), SV.a (2 : Nat), SV.a (3 : Nat)]) ∧
  some (R.blk (35 : Nat) [SV.c (Value.int IntKind.u32 h.cum), SV.c (Value.int IntKind.u32 h.win), SV.a (0 : Nat), SV.a (1 : Nat)]) = some (R.blk (35 : Nat) [SV.c (Value.int IntKind.u32 h.cum), SV.c (Value.int IntKind.u32 h.win), SV.a (0 : Nat), SV.a (1 : Nat)]) ∧
  some (R.ro (D.ints IntKind.u32 g.dups)) = some (R.ro (D.ints IntKind.u32 g.dups)) ∧ some (R.ro (D.recs (2 : Nat) g.gaps.length (gapCell g.gaps))) = some (R.ro (D.recs (2 : Nat) g.gaps.length (gapCell g.gaps))) ∧
  some (R.ro (D.ints IntKind.u32 h.dups)) = some (R.ro (D.ints IntKind.u32 h.dups)) ∧ some (R.ro (D.recs (2 : Nat) h.gaps.length (gapCell h.gaps))) = some (R.ro (D.recs (2 : Nat) h.gaps.length (gapCell h.gaps))) ∧
  True)) (True ∧ sw (decide (h.cum = g.cum)) (SV.p (4 : Nat) (1 : Nat) = SV.p (4 : Nat) (1 : Nat)) True ∧ sw (decide (h.cum = g.cum)) ([decide (h.cum = g.cum)] = [decide (h.cum = g.cum)] ∧
  SV.c (Value.int IntKind.u32 h.win) = SV.c (Value.int IntKind.u32 h.win)) True ∧ sw (decide (h.cum = g.cum)) (SV.p (5 : Nat) (1 : Nat) = SV.p (5 : Nat) (1 : Nat)) True ∧
  sw (decide (h.cum = g.cum)) ([decide (h.cum = g.cum)] = [decide (h.cum = g.cum)] ∧ SV.c (Value.int IntKind.u32 g.win) = SV.c (Value.int IntKind.u32 g.win)) True ∧
  sw (decide (h.cum = g.cum)) ([decide (h.cum = g.cum)] = [decide (h.cum = g.cum)] ∧ [decide (h.cum = g.cum)] = [decide (h.cum = g.cum)] ∧ True ∧ SV.c (Value.bool (decide (h.win = g.win))) = SV.c (Value.bool (decide (h.win = g.win)))) True ∧
  [decide (h.cum = g.cum)] = [decide (h.cum = g.cum)] ∧ sw (decide (h.cum = g.cum) && decide (h.win = g.win)) (SV.p (4 : Nat) (2 : Nat) = SV.p (4 : Nat) (2 : Nat)) True ∧
  sw (decide (h.cum = g.cum) && decide (h.win = g.win)) ([decide (h.cum = g.cum) && decide (h.win = g.win)] = [decide (h.cum = g.cum) && decide (h.win = g.win)] ∧
  SV.a (0 : Nat) = SV.a (0 : Nat)) True ∧ sw (decide (h.cum = g.cum) && decide (h.win = g.win)) ([decide (h.cum = g.cum) && decide (h.win = g.win)] = [decide (h.cum = g.cum) && decide (h.win = g.win)] ∧
  SV.c (Value.int IntKind.i64 (↑h.gaps.length : Int)) = SV.c (Value.int IntKind.i64 (↑h.gaps.length : Int))) True ∧ sw (decide (h.cum = g.cum) && decide (h.win = g.win)) (SV.p (5 : Nat) (2 : Nat) = SV.p (5 : Nat) (2 : Nat)) True ∧
  sw (decide (h.cum = g.cum) && decide (h.win = g.win)) ([decide (h.cum = g.cum) && decide (h.win = g.win)] = [decide (h.cum = g.cum) && decide (h.win = g.win)] ∧
  SV.a (2 : Nat) = SV.a (2 : Nat)) True ∧ sw (decide (h.cum = g.cum) && decide (h.win = g.win)) ([decide (h.cum = g.cum) && decide (h.win = g.win)] = [decide (h.cum = g.cum) && decide (h.win = g.win)] ∧
  SV.c (Value.int IntKind.i64 (↑g.gaps.length : Int)) = SV.c (Value.int IntKind.i64 (↑g.gaps.length : Int))) True ∧ sw (decide (h.cum = g.cum) && decide (h.win = g.win)) ([decide (h.cum = g.cum) && decide (h.win = g.win)] = [decide (h.cum = g.cum) && decide (h.win = g.win)] ∧
  [decide (h.cum = g.cum) && decide (h.win = g.win)] = [decide (h.cum = g.cum) && decide (h.win = g.win)] ∧ True ∧ SV.c (Value.bool (decide ((↑h.gaps.length : Int) = (↑g.gaps.length : Int)))) = SV.c (Value.bool (decide ((↑h.gaps.length : Int) = (↑g.gaps.length : Int))))) True ∧
  [decide (h.cum = g.cum) && decide (h.win = g.win)] = [decide (h.cum = g.cum) && decide (h.win = g.win)] ∧ sw (decide (h.cum = g.cum) && decide (h.win = g.win) && decide ((↑h.gaps.length : Int) = (↑g.gaps.length : Int))) (SV.p (4 : Nat) (3 : Nat) = SV.p (4 : Nat) (3 : Nat)) True ∧
  sw (decide (h.cum = g.cum) && decide (h.win = g.win) && decide ((↑h.gaps.length : Int) = (↑g.gaps.length : Int))) ([decide (h.cum = g.cum) && decide (h.win = g.win) && decide ((↑h.gaps.length : Int) = (↑g.gaps.length : Int))] = [decide (h.cum = g.cum) && decide (h.win = g.win) && decide ((↑h.gaps.length : Int) = (↑g.gaps.length : Int))] ∧
  SV.a (1 : Nat) = SV.a (1 : Nat)) True ∧ sw (decide (h.cum = g.cum) && decide (h.win = g.win) && decide ((↑h.gaps.length : Int) = (↑g.gaps.length : Int))) ([decide (h.cum = g.cum) && decide (h.win = g.win) && decide ((↑h.gaps.length : Int) = (↑g.gaps.length : Int))] = [decide (h.cum = g.cum) && decide (h.win = g.win) && decide ((↑h.gaps.length : Int) = (↑g.gaps.length : Int))] ∧
  SV.c (Value.int IntKind.i64 (↑h.dups.length : Int)) = SV.c (Value.int IntKind.i64 (↑h.dups.length : Int))) True ∧ sw (decide (h.cum = g.cum) && decide (h.win = g.win) && decide ((↑h.gaps.length : Int) = (↑g.gaps.length : Int))) (SV.p (5 : Nat) (3 : Nat) = SV.p (5 : Nat) (3 : Nat)) True ∧
  sw (decide (h.cum = g.cum) && decide (h.win = g.win) && decide ((↑h.gaps.length : Int) = (↑g.gaps.length : Int))) ([decide (h.cum = g.cum) && decide (h.win = g.win) && decide ((↑h.gaps.length : Int) = (↑g.gaps.length : Int))] = [decide (h.cum = g.cum) && decide (h.win = g.win) && decide ((↑h.gaps.length : Int) = (↑g.gaps.length : Int))] ∧
  SV.a (3 : Nat) = SV.a (3 : Nat)) True ∧ sw (decide (h.cum = g.cum) && decide (h.win = g.win) && decide ((↑h.gaps.length : Int) = (↑g.gaps.length : Int))) ([decide (h.cum = g.cum) && decide (h.win = g.win) && decide ((↑h.gaps.length : Int) = (↑g.gaps.length : Int))] = [decide (h.cum = g.cum) && decide (h.win = g.win) && decide ((↑h.gaps.length : Int) = (↑g.gaps.length : Int))] ∧
  SV.c (Value.int IntKind.i64 (↑g.dups.length : Int)) = SV.c (Value.int IntKind.i64 (↑g.dups.length : Int))) True ∧ sw (decide (h.cum = g.cum) && decide (h.win = g.win) && decide ((↑h.gaps.length : Int) = (↑g.gaps.length : Int))) ([decide (h.cum = g.cum) && decide (h.win = g.win) && decide ((↑h.gaps.length : Int) = (↑g.gaps.length : Int))] = [decide (h.cum = g.cum) && decide (h.win = g.win) && decide ((↑h.gaps.length : Int) = (↑g.gaps.length : Int))] ∧
  [decide (h.cum = g.cum) && decide (h.win = g.win) && decide ((↑h.gaps.length : Int) = (↑g.gaps.length : Int))] = [decide (h.cum = g.cum) && decide (h.win = g.win) && decide ((↑h.gaps.length : Int) = (↑g.gaps.length : Int))] ∧
  True ∧ SV.c (Value.bool (decide ((↑h.dups.length : Int) = (↑g.dups.length : Int)))) = SV.c (Value.bool (decide ((↑h.dups.length : Int) = (↑g.dups.length : Int))))) True ∧
  [decide (h.cum = g.cum) && decide (h.win = g.win) && decide ((↑h.gaps.length : Int) = (↑g.gaps.length : Int))] = [decide (h.cum = g.cum) && decide (h.win = g.win) && decide ((↑h.gaps.length : Int) = (↑g.gaps.length : Int))] ∧
  (decide (h.cum = g.cum) && decide (h.win = g.win) && decide ((↑h.gaps.length : Int) = (↑g.gaps.length : Int)) && decide ((↑h.dups.length : Int) = (↑g.dups.length : Int))) = sameHea (HeaR.mk h.cum h.win (gapsOf (D.recs (2 : Nat) h.gaps.length (gapCell h.gaps))) h.dups) (HeaR.mk g.cum g.win (gapsOf (D.recs (2 : Nat) g.gaps.length (gapCell g.gaps))) g.dups) ∧
  (true && true) = true)) := by
  simp only [↓sw_iff, ↓Bool.and_eq_true, ↓Bool.and_eq_false_iff, ↓decide_eq_true_eq, ↓decide_eq_false_iff_not, ↓Bool.not_eq_true', ↓Bool.not_eq_false', true_and, and_true, implies_true, Int.toNat_natCast, gapsOf_gaps, hea_eta]
  intro h g oh og
  obtain ⟨_, _, ⟨k1, _⟩, ⟨k2, _⟩⟩ := oh
  refine ⟨0, ⟨Nat.zero_le _, Nat.zero_le _, fun j hj => absurd hj (Nat.not_lt_zero _)⟩, rfl, ?_⟩
  rintro i ⟨g1, g2, g3⟩
  refine ⟨fun hlt => ⟨⟨by omega, by omega⟩, ⟨by omega, by omega⟩, fun e => ?_, fun e => ?_⟩, fun hge => ⟨0, ⟨Nat.zero_le _, Nat.zero_le _, fun j hj => absurd hj (Nat.not_lt_zero _)⟩, rfl, ?_⟩⟩
  · exact hea_no1 (i := i) (by omega) (by omega) fun x => by rw [x] at e; simp at e
  · have e' : h.gaps.getD i (0, 0) = g.gaps.getD i (0, 0) := Prod.ext e.1 e.2
    refine ⟨i + 1, ⟨by omega, by omega, fun j hj => ?_⟩, by omega, by rw [wrap_i64_id (by omega) (by omega)]; rfl⟩
    by_cases hji : j = i
    · subst hji; exact e'
    · exact g3 j (by omega)
  · rintro k ⟨m1, m2, m3⟩
    refine ⟨fun hlt => ⟨⟨by omega, by omega⟩, ⟨by omega, by omega⟩, fun e => hea_no2 (by omega) (by omega) e, fun e => ⟨k + 1, ⟨by omega, by omega, fun j hj => ?_⟩, by omega, by rw [wrap_i64_id (by omega) (by omega)]; rfl⟩⟩, fun hge' => hea_end g3 (by omega) m3 (by omega)⟩
    by_cases hjk : j = k
    · subst hjk; exact e
    · exact m3 j (by omega)
set_option maxRecDepth 100000 in
theorem ok24 : FnIs Try.prog 24 sameHeaC := by
  refine fnIs (C := (ctrs c0)) (by kernel_rfl) c0_ok Try.func24 (code := code24) (by kernel_rfl) (by kernel_rfl) ?_
  rintro a ⟨h, g, rfl, oh, og⟩
  exact ⟨anns [(2, samesG 5 h g), (7, samesD 6 h g)], kcast (vc24 h g oh og) (by kernel_rfl)⟩

end Go.ZR

/- What is told of a track: model, contract. -/
set_option maxRecDepth 100000
namespace Go.ZM
open Go.Z Go.ZR
def noI : List Int := []
def w16 (x : Int) : Int := x % 65536
def lastG (acc : List (Int × Int)) : Int × Int := acc.getD (acc.length - 1) (0, 0)
def setTo (acc : List (Int × Int)) (d : Int) : List (Int × Int) := acc.set (acc.length - 1) ((lastG acc).1, d)
/-- Gaps out of how far the pieces are, in order. -/
def tellG : List Int → List (Int × Int) → List (Int × Int)
  | [], acc => acc
  | d :: r, acc => if 0 < acc.length ∧ (lastG acc).2 = w16 (d - 1) then tellG r (setTo acc d) else if acc.length < 64 then tellG r (acc ++ [(d, d)]) else acc
def dists (t : Trk) : List Int := (byFar' t.c t.ks).map fun x => w16 (w32 (x - t.c))
def tellF (t : Trk) (win : Int) : HeaR := ⟨t.c, win, tellG (dists t) [], t.du⟩
end Go.ZM
namespace Go.ZR
open Go.Z Go.ZM Go.Proofs
noncomputable def tellC : Ctr := { trC 1 (fun a => ∃ t w, a = [trO t, iO .u32 w] ∧ okT t) (fun a => [heaN (tellF (trOf (at_ a 0)) (vi (dO (at_ a 1))))]) fun a => ⟨(trOf (at_ a 0)).c, (trOf (at_ a 0)).ks, noI⟩ with ro := true }
noncomputable def tellA (t : Trk) : LoopAnn where
  γ := Nat × List (Int × Int)
  pre := fun g => g.1 ≤ t.ks.length ∧ g.2.length ≤ 64 ∧ tellG ((dists t).drop g.1) g.2 = tellG (dists t) []
  μ := fun g => t.ks.length - g.1
  items := fun g => [(29, .c (iO .i64 (g.1 : Int))), (5, .blk [.same, .same, .o (.own 43 (gapsD g.2)), .same])]
noncomputable def s3 : List (Nat × Ctr) := [(21, aheadC)]
theorem s3_ok : COk Try.prog (ctrs s3) := cok_cons ok21 cok_nil
end Go.ZR
