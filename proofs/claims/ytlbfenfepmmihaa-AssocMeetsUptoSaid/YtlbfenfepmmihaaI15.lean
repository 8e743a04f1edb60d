/- Part 15 of what the closing text rests on. -/
import Derived.Test.YtlbfenfepmmihaaI13
import Derived.Test.YtlbfenfepmmihaaRows
namespace Go.ZR
open Go.Proofs
open Go.Z Go.ZM Go.RowKit
set_option maxRecDepth 100000

theorem hel_eta (h : HelR) : HelR.mk h.tag h.win h.out h.inn h.tsn h.cookie = h := rfl
theorem ch_eta (c : ChR) : ChR.mk c.t c.f c.v = c := rfl
theorem u64_id {n m : Int} (h0 : 0 ≤ n) (h1 : n ≤ m) (hm : m ≤ 18446744073709551615) : IntKind.u64.wrap n = n := by rw [IntKind.wrap_u64]; omega
theorem hel_w {h : HelR} (ok : okHel h) : IntKind.u64.wrap h.tag = h.tag ∧ IntKind.u64.wrap h.win = h.win ∧ IntKind.u64.wrap h.out = h.out ∧ IntKind.u64.wrap h.inn = h.inn ∧ IntKind.u64.wrap h.tsn = h.tsn := by
  obtain ⟨h1, h2, h3, h4, h5, _⟩ := ok
  exact ⟨u64_id h1.1 h1.2 (by decide), u64_id h2.1 h2.2 (by decide), u64_id h3.1 h3.2 (by decide), u64_id h4.1 h4.2 (by decide), u64_id h5.1 h5.2 (by decide)⟩
def hel1 (v X : List Int) : HelR := { hel0 v with cookie := X }
theorem hel1_eta (v X : List Int) : HelR.mk (numAt v 0 4) (numAt v 4 4) (numAt v 8 2) (numAt v 10 2) (numAt v 12 4) X = hel1 v X := rfl
theorem hel1_nil (v : List Int) : hel1 v [] = hel0 v := rfl
theorem num_def (v : List Int) (i : Int) (k : Nat) : valF (partF v i (k : Int)).1 = numAt v i k := rfl
theorem num_w {v : List Int} (hv : okB v) : IntKind.u32.wrap (numAt v 0 4) = numAt v 0 4 ∧ IntKind.u32.wrap (numAt v 4 4) = numAt v 4 4 ∧ IntKind.u16.wrap (numAt v 8 2) = numAt v 8 2 ∧ IntKind.u16.wrap (numAt v 10 2) = numAt v 10 2 ∧ IntKind.u32.wrap (numAt v 12 4) = numAt v 12 4 ∧
    IntKind.i64.wrap (IntKind.i64.wrap (numAt v 18 2) - 4) = numAt v 18 2 - 4 ∧ IntKind.i64.wrap (numAt v 18 2 - 4) = numAt v 18 2 - 4 := by
  have a1 := num_rng hv 0 (k := 4)
  have a2 := num_rng hv 4 (k := 4)
  have a3 := num_rng hv 8 (k := 2)
  have a4 := num_rng hv 10 (k := 2)
  have a5 := num_rng hv 12 (k := 4)
  have a6 := num_rng hv 18 (k := 2)
  have p4 : (256 : Int) ^ 4 = 4294967296 := rfl
  have p2 : (256 : Int) ^ 2 = 65536 := rfl
  rw [p4] at a1 a2 a5
  rw [p2] at a3 a4 a6
  rw [wrap_i64_id (n := numAt v 18 2) (by omega) (by omega), wrap_i64_id (n := numAt v 18 2 - 4) (by omega) (by omega)]
  refine ⟨?_, ?_, ?_, ?_, ?_, rfl, rfl⟩
  · rw [IntKind.wrap_u32]; omega
  · rw [IntKind.wrap_u32]; omega
  · rw [IntKind.wrap_u16]; omega
  · rw [IntKind.wrap_u16]; omega
  · rw [IntKind.wrap_u32]; omega
theorem toHel_e1 {c : ChR} {H : HelR} (ho : helOf c = H) (e : ¬ (fromHel H (decide (c.t = 2))).2 = 0) : toHel c = (noHel, 2) := by subst ho; unfold toHel; rw [if_pos (.inl e)]
theorem toHel_e2 {c : ChR} {H : HelR} (ho : helOf c = H) (e : sameB (fromHel H (decide (c.t = 2))).1 c = false) : toHel c = (noHel, 2) := by subst ho; unfold toHel; rw [if_pos (.inr e)]
theorem toHel_e3 {c : ChR} {H : HelR} (ho : helOf c = H) (e : (fromHel H (decide (c.t = 2))).2 = 0) (e' : sameB (fromHel H (decide (c.t = 2))).1 c = true) : toHel c = (H, 0) := by
  subst ho; unfold toHel; rw [if_neg]; rw [e, e']; simp
theorem err_leaf {r : HelR × Int} (h : r = (noHel, 2)) : 0 = r.1.tag ∧ 0 = r.1.win ∧ 0 = r.1.out ∧ 0 = r.1.inn ∧ 0 = r.1.tsn ∧ r.1.cookie = [] ∧ 2 = r.2 := by rw [h]; exact ⟨rfl, rfl, rfl, rfl, rfl, rfl, rfl⟩
theorem ok_leaf {r : HelR × Int} {v X : List Int} (h : r = (hel1 v X, 0)) : numAt v 0 4 = r.1.tag ∧ numAt v 4 4 = r.1.win ∧ numAt v 8 2 = r.1.out ∧ numAt v 10 2 = r.1.inn ∧ numAt v 12 4 = r.1.tsn ∧ X = r.1.cookie ∧ 0 = r.2 := by rw [h]; exact ⟨rfl, rfl, rfl, rfl, rfl, rfl, rfl⟩
theorem ok_leaf0 {r : HelR × Int} {v : List Int} (h : r = (hel0 v, 0)) : numAt v 0 4 = r.1.tag ∧ numAt v 4 4 = r.1.win ∧ numAt v 8 2 = r.1.out ∧ numAt v 10 2 = r.1.inn ∧ numAt v 12 4 = r.1.tsn ∧ r.1.cookie = [] ∧ 0 = r.2 := by rw [h]; exact ⟨rfl, rfl, rfl, rfl, rfl, rfl, rfl⟩
theorem ref_e1 {c : ChR} (h : c.t ≠ 1 ∧ c.t ≠ 2 ∨ c.v.length < 16) : toHelRef c = (noHel, 2) := by unfold toHelRef; rw [if_pos h]
theorem ref_e2 {c : ChR} (h : c.t = 2 ∧ c.v.length < 20) : toHelRef c = (noHel, 2) := by
  unfold toHelRef; split
  · rfl
  · first | rfl | rw [if_pos h]
theorem ref_e3 {c : ChR} (h : c.t = 2 ∧ (numAt c.v 18 2 - 4 < 0 ∨ (c.v.length : Int) - 20 < numAt c.v 18 2 - 4)) : toHelRef c = (noHel, 2) := by
  unfold toHelRef; split
  · rfl
  split
  · rfl
  · first | rfl | rw [if_pos h]
theorem ref_e4 {c : ChR} {H : HelR} (ho : helRef c = H) (e : ¬ (fromHel H (decide (c.t = 2))).2 = 0 ∨ sameB (fromHel H (decide (c.t = 2))).1 c = false) : toHelRef c = (noHel, 2) := by
  subst ho; unfold toHelRef; split
  · rfl
  split
  · rfl
  split
  · rfl
  · first | rfl | rw [if_pos e]
theorem ref_ok {c : ChR} {H : HelR} (ho : helRef c = H) (h1 : ¬ (c.t ≠ 1 ∧ c.t ≠ 2 ∨ c.v.length < 16)) (h2 : ¬ (c.t = 2 ∧ c.v.length < 20)) (h3 : ¬ (c.t = 2 ∧ (numAt c.v 18 2 - 4 < 0 ∨ (c.v.length : Int) - 20 < numAt c.v 18 2 - 4)))
    (e : (fromHel H (decide (c.t = 2))).2 = 0) (e' : sameB (fromHel H (decide (c.t = 2))).1 c = true) : toHelRef c = (H, 0) := by
  subst ho; unfold toHelRef; rw [if_neg h1, if_neg h2, if_neg h3, if_neg]; rw [e, e']; simp
theorem from_e1 {h : HelR} {b : Bool} (e : greetF h b = false) : fromHel h b = (noCh, 2) := by unfold fromHel; rw [if_pos e]
theorem from_e2 {h : HelR} {b : Bool} (e : greetF h b = true) (e' : 256 < h.cookie.length) : fromHel h b = (noCh, 4) := by unfold fromHel; rw [if_neg (by rw [e]; simp), if_pos e']
theorem from_t {h : HelR} (e : greetF h true = true) (e' : ¬ 256 < h.cookie.length) : fromHel h true = (⟨2, 0, ckB h⟩, 0) := by unfold fromHel; rw [if_neg (by rw [e]; simp), if_neg e']; rfl
theorem from_f {h : HelR} (e : greetF h false = true) (e' : ¬ 256 < h.cookie.length) : fromHel h false = (⟨1, 0, helB h⟩, 0) := by unfold fromHel; rw [if_neg (by rw [e]; simp), if_neg e']; rfl
theorem leaf0 {r : ChR × Int} {e : Int} (h : r = (noCh, e)) : 0 = r.1.t ∧ 0 = r.1.f ∧ r.1.v = [] ∧ e = r.2 := by rw [h]; exact ⟨rfl, rfl, rfl, rfl⟩
theorem greet_f {h : HelR} {b : Bool} : greetF h b = false ↔ h.tag = 0 ∨ h.out = 0 ∨ h.inn = 0 ∨ (b = false ∧ 0 < h.cookie.length) := by
  unfold greetF
  cases b <;> simp
  · constructor
    · intro h1
      by_cases a : h.tag = 0
      · exact .inl a
      by_cases b : h.out = 0
      · exact .inr (.inl b)
      by_cases c : h.inn = 0
      · exact .inr (.inr (.inl c))
      · exact .inr (.inr (.inr (List.length_pos_iff.2 (h1 a b c))))
    · rintro (h1 | h1 | h1 | h1) a b c
      · exact absurd h1 a
      · exact absurd h1 b
      · exact absurd h1 c
      · exact List.length_pos_iff.1 h1
  · constructor
    · intro h1
      by_cases a : h.tag = 0
      · exact .inl a
      by_cases b : h.out = 0
      · exact .inr (.inl b)
      · exact .inr (.inr (h1 a b))
    · rintro (h1 | h1 | h1) a b
      · exact absurd h1 a
      · exact absurd h1 b
      · exact h1
theorem from_rest {h : HelR} {b : Bool} (hs : sm h.cookie.length) (hg : greetF h b = true) (hl : ¬ 256 < h.cookie.length) : (∃ (b_1 : List Int) (n : Int) (k : Nat), [O.d (D.ints IntKind.u8 ([] : List Int)), O.d (D.v (Value.int IntKind.u64 h.tag)), O.d (D.v (Value.int IntKind.i64 (4 : Int)))] = [O.d (D.ints IntKind.u8 b_1), O.d (D.v (Value.int IntKind.u64 n)), O.d (D.v (Value.int IntKind.i64 (k : Int)))] ∧ sm b_1.length ∧ 1 ≤ k ∧ k ≤ 8) ∧ (∃ (b_1 : List Int) (n : Int) (k : Nat), [O.d (D.ints IntKind.u8 (be h.tag 4)), O.d (D.v (Value.int IntKind.u64 h.win)), O.d (D.v (Value.int IntKind.i64 (4 : Int)))] = [O.d (D.ints IntKind.u8 b_1), O.d (D.v (Value.int IntKind.u64 n)), O.d (D.v (Value.int IntKind.i64 (k : Int)))] ∧ sm b_1.length ∧ 1 ≤ k ∧ k ≤ 8) ∧ (∃ (b_1 : List Int) (n : Int) (k : Nat), [O.d (D.ints IntKind.u8 (be h.tag 4 ++ be h.win 4)), O.d (D.v (Value.int IntKind.u64 h.out)), O.d (D.v (Value.int IntKind.i64 2))] = [O.d (D.ints IntKind.u8 b_1), O.d (D.v (Value.int IntKind.u64 n)), O.d (D.v (Value.int IntKind.i64 (k : Int)))] ∧ sm b_1.length ∧ 1 ≤ k ∧ k ≤ 8) ∧ (∃ (b_1 : List Int) (n : Int) (k : Nat), [O.d (D.ints IntKind.u8 (be h.tag 4 ++ be h.win 4 ++ be h.out 2)), O.d (D.v (Value.int IntKind.u64 h.inn)), O.d (D.v (Value.int IntKind.i64 2))] = [O.d (D.ints IntKind.u8 b_1), O.d (D.v (Value.int IntKind.u64 n)), O.d (D.v (Value.int IntKind.i64 (k : Int)))] ∧ sm b_1.length ∧ 1 ≤ k ∧ k ≤ 8) ∧ (∃ (b_1 : List Int) (n : Int) (k : Nat), [O.d (D.ints IntKind.u8 (be h.tag 4 ++ be h.win 4 ++ be h.out 2 ++ be h.inn 2)), O.d (D.v (Value.int IntKind.u64 h.tsn)), O.d (D.v (Value.int IntKind.i64 (4 : Int)))] = [O.d (D.ints IntKind.u8 b_1), O.d (D.v (Value.int IntKind.u64 n)), O.d (D.v (Value.int IntKind.i64 (k : Int)))] ∧ sm b_1.length ∧ 1 ≤ k ∧ k ≤ 8) ∧ (b = false → 1 = (fromHel h b).fst.t ∧ 0 = (fromHel h b).fst.f ∧ be h.tag 4 ++ be h.win 4 ++ be h.out 2 ++ be h.inn 2 ++ be h.tsn 4 = (fromHel h b).fst.v ∧ 0 = (fromHel h b).snd) ∧ (b = true → (∃ (b_1 : List Int) (n : Int) (k : Nat), [O.d (D.ints IntKind.u8 (be h.tag 4 ++ be h.win 4 ++ be h.out 2 ++ be h.inn 2 ++ be h.tsn 4)), O.d (D.v (Value.int IntKind.u64 7)), O.d (D.v (Value.int IntKind.i64 2))] = [O.d (D.ints IntKind.u8 b_1), O.d (D.v (Value.int IntKind.u64 n)), O.d (D.v (Value.int IntKind.i64 (k : Int)))] ∧ sm b_1.length ∧ 1 ≤ k ∧ k ≤ 8) ∧ (∃ (b_1 : List Int) (n : Int) (k : Nat), [O.d (D.ints IntKind.u8 (be h.tag 4 ++ be h.win 4 ++ be h.out 2 ++ be h.inn 2 ++ be h.tsn 4 ++ be 7 2)), O.d (D.v (Value.int IntKind.u64 (IntKind.u64.wrap (IntKind.i64.wrap (4 + (h.cookie.length : Int)))))), O.d (D.v (Value.int IntKind.i64 2))] = [O.d (D.ints IntKind.u8 b_1), O.d (D.v (Value.int IntKind.u64 n)), O.d (D.v (Value.int IntKind.i64 (k : Int)))] ∧ sm b_1.length ∧ 1 ≤ k ∧ k ≤ 8) ∧ (∃ l : List Int, [O.d (D.ints IntKind.u8 h.cookie)] = [O.d (D.ints IntKind.u8 l)] ∧ sm l.length) ∧ 20 + (padF h.cookie).length ≤ 140737488355328 ∧ 2 = (fromHel h b).fst.t ∧ 0 = (fromHel h b).fst.f ∧ be h.tag 4 ++ be h.win 4 ++ be h.out 2 ++ be h.inn 2 ++ be h.tsn 4 ++ be 7 2 ++ be (IntKind.u64.wrap (IntKind.i64.wrap (4 + (h.cookie.length : Int)))) 2 ++ padF h.cookie = (fromHel h b).fst.v ∧ 0 = (fromHel h b).snd) := by
  have hs' := hs
  unfold sm at hs'
  have hp := padN_le h.cookie.length
  refine ⟨⟨_, _, 4, rfl, by unfold sm; simp, by decide, by decide⟩, ⟨_, _, 4, rfl, by unfold sm; simp [be_len], by decide, by decide⟩, ⟨_, _, 2, rfl, by unfold sm; simp [be_len], by decide, by decide⟩, ⟨_, _, 2, rfl, by unfold sm; simp [be_len], by decide, by decide⟩, ⟨_, _, 4, rfl, by unfold sm; simp [be_len], by decide, by decide⟩, fun hb => ?_, fun hb => ?_⟩
  · subst hb; rw [from_f hg hl]; exact ⟨rfl, rfl, rfl, rfl⟩
  · subst hb
    rw [from_t hg hl, wrap_len hs']
    exact ⟨⟨_, _, 2, rfl, by unfold sm; simp [be_len], by decide, by decide⟩, ⟨_, _, 2, rfl, by unfold sm; simp [be_len], by decide, by decide⟩, ⟨_, rfl, hs⟩, by rw [padF_len]; omega, rfl, rfl, by simp [ckB, helB], rfl⟩
theorem c6_ok : COk Try.prog (ctrs c6) := (cok_cons ok65 (cok_cons ok156 cok_nil))
noncomputable def code197 : Code := match Try.f197.body with | some c => c | none => .skip
@[reducible] noncomputable def q197_0 (x0 : HelR) : Bool := !decide (x0.tag = (0 : Int))
@[reducible] noncomputable def q197_1 (x0 : HelR) : SV := SV.c (Value.bool !decide (x0.out = (0 : Int)))
@[reducible] noncomputable def q197_2 (x0 : HelR) : Bool := q197_0 x0 && !decide (x0.out = (0 : Int))
@[reducible] noncomputable def q197_3 (x0 : HelR) : SV := SV.c (Value.bool !decide (x0.inn = (0 : Int)))
@[reducible] noncomputable def q197_4 (x0 : HelR) : Bool := q197_2 x0 && !decide (x0.inn = (0 : Int))
@[reducible] def q197_5 (x0 : Bool) (x1 : HelR) : Prop := [!x0, q197_4 x1] = [!x0, q197_4 x1]
@[reducible] noncomputable def q197_6 (x0 : HelR) : Int := (↑x0.cookie.length : Int)
@[reducible] noncomputable def q197_7 (x0 : HelR) : SV := SV.c (Value.bool (decide (q197_6 x0 = (0 : Int))))
@[reducible] noncomputable def q197_8 (x0 : Bool) (x1 : HelR) : SV := SV.c (Value.bool (x0 || decide (q197_6 x1 = (0 : Int))))
set_option maxHeartbeats 4000000 in
theorem vc197 : ∀ (h : HelR) (b : Bool), True ∧ sw (q197_0 h) (SV.p (1 : Nat) (2 : Nat) = SV.p (1 : Nat) (2 : Nat)) True ∧ sw (q197_0 h) ([q197_0 h] = [q197_0 h] ∧
  SV.c (Value.int IntKind.u16 h.out) = SV.c (Value.int IntKind.u16 h.out)) True ∧ sw (q197_0 h) ([q197_0 h] = [q197_0 h] ∧ True ∧ q197_1 h = q197_1 h) True ∧
  [q197_0 h] = [q197_0 h] ∧ sw (q197_2 h) (SV.p (1 : Nat) (3 : Nat) = SV.p (1 : Nat) (3 : Nat)) True ∧ sw (q197_2 h) ([q197_2 h] = [q197_2 h] ∧ SV.c (Value.int IntKind.u16 h.inn) = SV.c (Value.int IntKind.u16 h.inn)) True ∧
  sw (q197_2 h) ([q197_2 h] = [q197_2 h] ∧ True ∧ q197_3 h = q197_3 h) True ∧ [q197_2 h] = [q197_2 h] ∧ sw (q197_4 h) (SV.c (Value.bool b) = SV.c (Value.bool b)) True ∧
  sw (q197_4 h) ([q197_4 h] = [q197_4 h] ∧ SV.c (Value.bool b) = SV.c (Value.bool b)) True ∧ sw (!b && q197_4 h) (SV.p (1 : Nat) (5 : Nat) = SV.p (1 : Nat) (5 : Nat)) True ∧
  sw (!b && q197_4 h) (q197_5 b h ∧ SV.a (0 : Nat) = SV.a (0 : Nat)) True ∧ sw (!b && q197_4 h) (q197_5 b h ∧ SV.c (Value.int IntKind.i64 (q197_6 h)) = SV.c (Value.int IntKind.i64 (q197_6 h))) True ∧
  sw (!b && q197_4 h) (q197_5 b h ∧ True ∧ q197_7 h = q197_7 h) True ∧ sw (q197_4 h) ([q197_4 h] = [q197_4 h] ∧ q197_5 b h ∧ q197_8 b h = q197_8 b h) True ∧
  [q197_4 h] = [q197_4 h] ∧ (q197_4 h && (b || decide (q197_6 h = (0 : Int)))) = greetF (HelR.mk h.tag h.win h.out h.inn h.tsn h.cookie) b ∧ true = true := by
  delta q197_0 q197_1 q197_2 q197_3 q197_4 q197_5 q197_6 q197_7 q197_8
  simp only [↓sw_iff, ↓Bool.and_eq_true, ↓Bool.and_eq_false_iff, ↓decide_eq_true_eq, ↓decide_eq_false_iff_not, ↓Bool.not_eq_true', ↓Bool.not_eq_false', true_and, and_true, implies_true, hel_eta]
  intro h b
  unfold greetF
  have : decide ((h.cookie.length : Int) = 0) = decide (h.cookie.length = 0) := by rw [decide_eq_decide]; omega
  rw [this]
set_option maxRecDepth 100000 in
theorem ok197 : FnIs Try.prog 197 greetC := by
  refine fnIs (C := (ctrs c0)) (by kernel_rfl) c0_ok Try.func197 (code := code197) (by kernel_rfl) (by kernel_rfl) ?_
  rintro a ⟨h, b, rfl⟩
  exact ⟨anns [], kcast (vc197 h b) (by kernel_rfl)⟩

theorem c12_ok : COk Try.prog (ctrs c12) := cok_cons ok197 (cok_cons ok198 (cok_cons ok199 cok_nil))

noncomputable def code155 : Code := match Try.f155.body with | some c => c | none => .skip
@[reducible] noncomputable def q155_0 (x0 : HelR) (x1 : Bool) : List O := [O.agg [iO .u32 x0.tag, iO .u32 x0.win, iO .u16 x0.out, iO .u16 x0.inn, iO .u32 x0.tsn, O.d (D.ints IntKind.u8 x0.cookie)], O.d (D.v (Value.bool x1))]
@[reducible] noncomputable def q155_1 (x0 : HelR) (x1 : Bool) : ChR := (fromHel (HelR.mk x0.tag x0.win x0.out x0.inn x0.tsn x0.cookie) x1).fst
@[reducible] noncomputable def q155_2 (x0 : HelR) (x1 : Bool) : Int := (fromHel (HelR.mk x0.tag x0.win x0.out x0.inn x0.tsn x0.cookie) x1).snd
@[reducible] noncomputable def q155_3 (x0 : HelR) : Int := (↑x0.cookie.length : Int)
@[reducible] noncomputable def q155_4 : List O := [iO .i64 (4 : Int)]
@[reducible] noncomputable def q155_5 (x0 : List Int) (x1 : Int) (x2 : Nat) : List O := [O.d (D.ints IntKind.u8 x0), iO .u64 x1, iO .i64 (↑x2 : Int)]
@[reducible] def q155_6 (x0 : List Int) (x1 : Nat) : Prop := sm x0.length ∧ (1 : Nat) ≤ x1 ∧ x1 ≤ (8 : Nat)
@[reducible] noncomputable def q155_7 : List O := [iO .i64 (2 : Int)]
@[reducible] noncomputable def q155_8 (x0 : HelR) : List Int := [] ++ be (IntKind.u64.wrap x0.tag) (Int.toNat (4 : Int)) ++ be (IntKind.u64.wrap x0.win) (Int.toNat (4 : Int)) ++ be (IntKind.u64.wrap x0.out) (Int.toNat (2 : Int)) ++ be (IntKind.u64.wrap x0.inn) (Int.toNat (2 : Int)) ++ be (IntKind.u64.wrap x0.tsn) (Int.toNat (4 : Int))
@[reducible] def q155_9 (x0 : HelR) (x1 : Bool) : Prop := (0 : Int) = q155_2 x0 x1 ∧ (true && true && true) = true
set_option maxHeartbeats 4000000 in
theorem vc155 : ∀ (h : HelR) (b : Bool), okHel h → (∃ (h_1 : HelR), ∃ (b_1 : Bool), q155_0 h b = q155_0 h_1 b_1) ∧ sw (!greetF (HelR.mk h.tag h.win h.out h.inn h.tsn h.cookie) b) ((0 : Int) = (q155_1 h b).t ∧
  (0 : Int) = (q155_1 h b).f ∧ (q155_1 h b).v = [] ∧ (2 : Int) = q155_2 h b ∧ true = true) (True ∧ sw (decide ((256 : Int) < q155_3 h)) ((0 : Int) = (q155_1 h b).t ∧
  (0 : Int) = (q155_1 h b).f ∧ (q155_1 h b).v = [] ∧ (4 : Int) = q155_2 h b ∧ true = true) (((∃ (b_1 : List Int), ∃ (n : Int), ∃ (k : Nat), O.d (D.ints IntKind.u8 []) :: iO .u64 (IntKind.u64.wrap h.tag) :: q155_4 = q155_5 b_1 n k ∧
  q155_6 b_1 k) ∧ ((∃ (b_1 : List Int), ∃ (n : Int), ∃ (k : Nat), O.d (D.ints IntKind.u8 ([] ++ be (IntKind.u64.wrap h.tag) (Int.toNat (4 : Int)))) :: iO .u64 (IntKind.u64.wrap h.win) :: q155_4 = q155_5 b_1 n k ∧
  q155_6 b_1 k) ∧ ((∃ (b_1 : List Int), ∃ (n : Int), ∃ (k : Nat), O.d (D.ints IntKind.u8 ([] ++ be (IntKind.u64.wrap h.tag) (Int.toNat (4 : Int)) ++ be (IntKind.u64.wrap h.win) (Int.toNat (4 : Int)))) :: iO .u64 (IntKind.u64.wrap h.out) :: q155_7 = q155_5 b_1 n k ∧
  q155_6 b_1 k) ∧ ((∃ (b_1 : List Int), ∃ (n : Int), ∃ (k : Nat), O.d (D.ints IntKind.u8 ([] ++ be (IntKind.u64.wrap h.tag) (Int.toNat (4 : Int)) ++ be (IntKind.u64.wrap h.win) (Int.toNat (4 : Int)) ++ be (IntKind.u64.wrap h.out) (Int.toNat (2 : Int)))) :: iO .u64 (IntKind.u64.wrap h.inn) :: q155_7 = q155_5 b_1 n k ∧
  q155_6 b_1 k) ∧ ((∃ (b_1 : List Int), ∃ (n : Int), ∃ (k : Nat), O.d (D.ints IntKind.u8 ([] ++ be (IntKind.u64.wrap h.tag) (Int.toNat (4 : Int)) ++ be (IntKind.u64.wrap h.win) (Int.toNat (4 : Int)) ++ be (IntKind.u64.wrap h.out) (Int.toNat (2 : Int)) ++ be (IntKind.u64.wrap h.inn) (Int.toNat (2 : Int)))) :: iO .u64 (IntKind.u64.wrap h.tsn) :: q155_4 = q155_5 b_1 n k ∧
  q155_6 b_1 k) ∧ sw (!b) ((1 : Int) = (q155_1 h b).t ∧ (0 : Int) = (q155_1 h b).f ∧ q155_8 h = (q155_1 h b).v ∧ q155_9 h b) (True ∧ ((∃ (b_1 : List Int), ∃ (n : Int), ∃ (k : Nat), O.d (D.ints IntKind.u8 (q155_8 h)) :: iO .u64 (7 : Int) :: q155_7 = q155_5 b_1 n k ∧
  q155_6 b_1 k) ∧ ((∃ (b_1 : List Int), ∃ (n : Int), ∃ (k : Nat), O.d (D.ints IntKind.u8 (q155_8 h ++ be (7 : Int) (Int.toNat (2 : Int)))) :: iO .u64 (IntKind.u64.wrap (IntKind.i64.wrap ((4 : Int) + q155_3 h))) :: q155_7 = q155_5 b_1 n k ∧
  q155_6 b_1 k) ∧ (∃ (l : List Int), [O.d (D.ints IntKind.u8 h.cookie)] = [O.d (D.ints IntKind.u8 l)] ∧ sm l.length) ∧ True ∧ ((20 : Nat) + (padF h.cookie).length) * Try.prog.types[5].bytes ≤ (140737488355328 : Nat) ∧
  (2 : Int) = (q155_1 h b).t ∧ (0 : Int) = (q155_1 h b).f ∧ q155_8 h ++ be (7 : Int) (Int.toNat (2 : Int)) ++ be (IntKind.u64.wrap (IntKind.i64.wrap ((4 : Int) + q155_3 h))) (Int.toNat (2 : Int)) ++ padF h.cookie = (q155_1 h b).v ∧
  q155_9 h b) ∧ True) ∧ True)) ∧ True) ∧ True) ∧ True) ∧ True) ∧ True)) := by
  delta q155_0 q155_1 q155_2 q155_3 q155_4 q155_5 q155_6 q155_7 q155_8 q155_9 iO
  simp only [↓sw_iff, ↓Bool.and_eq_true, ↓decide_eq_true_eq, ↓decide_eq_false_iff_not, ↓Bool.not_eq_true', ↓Bool.not_eq_false', true_and, and_true, List.nil_append, Nat.mul_one, bytes5, toNat2, toNat4, hel_eta]
  intro h b ok
  obtain ⟨w1, w2, w3, w4, w5⟩ := hel_w ok
  simp only [w1, w2, w3, w4, w5]
  have hs : sm h.cookie.length := ok.2.2.2.2.2.2
  refine ⟨⟨h, b, rfl⟩, fun hg => leaf0 (from_e1 hg), fun hg => ⟨fun hl => leaf0 (from_e2 hg (by omega)), fun hl => from_rest hs hg (by omega)⟩⟩
set_option maxRecDepth 100000 in
theorem ok155 : FnIs Try.prog 155 fromHelC := by
  refine fnIs (C := (ctrs c12)) (by kernel_rfl) c12_ok Try.func155 (code := code155) (by kernel_rfl) (by kernel_rfl) ?_
  rintro a ⟨h, b, rfl, ok⟩
  exact ⟨anns [], kcast (vc155 h b ok) (by kernel_rfl)⟩

noncomputable def code116 : Code := match Try.f116.body with | some c => c | none => .skip
@[reducible] noncomputable def q116_0 (x0 : HelR) (x1 : Bool) : ChR := (fromHel (HelR.mk x0.tag x0.win x0.out x0.inn x0.tsn x0.cookie) x1).fst
@[reducible] noncomputable def q116_1 (x0 : HelR) (x1 : Bool) : Int := (fromHel (HelR.mk x0.tag x0.win x0.out x0.inn x0.tsn x0.cookie) x1).snd
@[reducible] def q116_2 (x0 : HelR) (x1 : Bool) : Prop := (0 : Int) = (q116_0 x0 x1).t ∧ (0 : Int) = (q116_0 x0 x1).f ∧ (q116_0 x0 x1).v = [] ∧ (2 : Int) = q116_1 x0 x1 ∧
  true = true
@[reducible] noncomputable def q116_3 (x0 : HelR) : Int := (↑x0.cookie.length : Int)
@[reducible] noncomputable def q116_4 : List O := [iO .i64 (4 : Int)]
@[reducible] noncomputable def q116_5 (x0 : List Int) (x1 : Int) (x2 : Nat) : List O := [O.d (D.ints IntKind.u8 x0), iO .u64 x1, iO .i64 (↑x2 : Int)]
@[reducible] def q116_6 (x0 : List Int) (x1 : Nat) : Prop := sm x0.length ∧ (1 : Nat) ≤ x1 ∧ x1 ≤ (8 : Nat)
@[reducible] noncomputable def q116_7 : List O := [iO .i64 (2 : Int)]
@[reducible] noncomputable def q116_8 (x0 : HelR) : List Int := [] ++ be (IntKind.u64.wrap x0.tag) (Int.toNat (4 : Int)) ++ be (IntKind.u64.wrap x0.win) (Int.toNat (4 : Int)) ++ be (IntKind.u64.wrap x0.out) (Int.toNat (2 : Int)) ++ be (IntKind.u64.wrap x0.inn) (Int.toNat (2 : Int)) ++ be (IntKind.u64.wrap x0.tsn) (Int.toNat (4 : Int))
@[reducible] def q116_9 (x0 : HelR) (x1 : Bool) : Prop := (0 : Int) = q116_1 x0 x1 ∧ (true && true && true) = true
@[reducible] def q116_11 (x0 : HelR) (x1 : Bool) : Prop := True ∧ sw (decide ((256 : Int) < q116_3 x0)) ((0 : Int) = (q116_0 x0 x1).t ∧ (0 : Int) = (q116_0 x0 x1).f ∧
  (q116_0 x0 x1).v = [] ∧ (4 : Int) = q116_1 x0 x1 ∧ true = true) ((∃ (b_1 : List Int), ∃ (n : Int), ∃ (k : Nat), O.d (D.ints IntKind.u8 []) :: iO .u64 (IntKind.u64.wrap x0.tag) :: q116_4 = q116_5 b_1 n k ∧
  q116_6 b_1 k) ∧ (∃ (b_1 : List Int), ∃ (n : Int), ∃ (k : Nat), O.d (D.ints IntKind.u8 ([] ++ be (IntKind.u64.wrap x0.tag) (Int.toNat (4 : Int)))) :: iO .u64 (IntKind.u64.wrap x0.win) :: q116_4 = q116_5 b_1 n k ∧
  q116_6 b_1 k) ∧ (∃ (b_1 : List Int), ∃ (n : Int), ∃ (k : Nat), O.d (D.ints IntKind.u8 ([] ++ be (IntKind.u64.wrap x0.tag) (Int.toNat (4 : Int)) ++ be (IntKind.u64.wrap x0.win) (Int.toNat (4 : Int)))) :: iO .u64 (IntKind.u64.wrap x0.out) :: q116_7 = q116_5 b_1 n k ∧
  q116_6 b_1 k) ∧ (∃ (b_1 : List Int), ∃ (n : Int), ∃ (k : Nat), O.d (D.ints IntKind.u8 ([] ++ be (IntKind.u64.wrap x0.tag) (Int.toNat (4 : Int)) ++ be (IntKind.u64.wrap x0.win) (Int.toNat (4 : Int)) ++ be (IntKind.u64.wrap x0.out) (Int.toNat (2 : Int)))) :: iO .u64 (IntKind.u64.wrap x0.inn) :: q116_7 = q116_5 b_1 n k ∧
  q116_6 b_1 k) ∧ (∃ (b_1 : List Int), ∃ (n : Int), ∃ (k : Nat), O.d (D.ints IntKind.u8 ([] ++ be (IntKind.u64.wrap x0.tag) (Int.toNat (4 : Int)) ++ be (IntKind.u64.wrap x0.win) (Int.toNat (4 : Int)) ++ be (IntKind.u64.wrap x0.out) (Int.toNat (2 : Int)) ++ be (IntKind.u64.wrap x0.inn) (Int.toNat (2 : Int)))) :: iO .u64 (IntKind.u64.wrap x0.tsn) :: q116_4 = q116_5 b_1 n k ∧
  q116_6 b_1 k) ∧ sw (!x1) ((1 : Int) = (q116_0 x0 x1).t ∧ (0 : Int) = (q116_0 x0 x1).f ∧ q116_8 x0 = (q116_0 x0 x1).v ∧ q116_9 x0 x1) ((∃ (b_1 : List Int), ∃ (n : Int), ∃ (k : Nat), O.d (D.ints IntKind.u8 (q116_8 x0)) :: iO .u64 (7 : Int) :: q116_7 = q116_5 b_1 n k ∧
  q116_6 b_1 k) ∧ True ∧ (∃ (b_1 : List Int), ∃ (n : Int), ∃ (k : Nat), O.d (D.ints IntKind.u8 (q116_8 x0 ++ be (7 : Int) (Int.toNat (2 : Int)))) :: iO .u64 (IntKind.u64.wrap (IntKind.i64.wrap ((4 : Int) + q116_3 x0))) :: q116_7 = q116_5 b_1 n k ∧
  q116_6 b_1 k) ∧ (∃ (l : List Int), [O.d (D.ints IntKind.u8 x0.cookie)] = [O.d (D.ints IntKind.u8 l)] ∧ sm l.length) ∧ True ∧ ((20 : Nat) + (padF x0.cookie).length) * Try.prog.types[5].bytes ≤ (140737488355328 : Nat) ∧
  (2 : Int) = (q116_0 x0 x1).t ∧ (0 : Int) = (q116_0 x0 x1).f ∧ q116_8 x0 ++ be (7 : Int) (Int.toNat (2 : Int)) ++ be (IntKind.u64.wrap (IntKind.i64.wrap ((4 : Int) + q116_3 x0))) (Int.toNat (2 : Int)) ++ padF x0.cookie = (q116_0 x0 x1).v ∧
  q116_9 x0 x1))
set_option maxHeartbeats 4000000 in
theorem vc116 : ∀ (h : HelR) (b : Bool), okHel h → True ∧ sw (decide (h.tag = (0 : Int))) (q116_2 h b) (True ∧ sw (decide (h.out = (0 : Int))) (q116_2 h b) (True ∧
  sw (decide (h.inn = (0 : Int))) (q116_2 h b) (sw (!b) (True ∧ sw (decide ((0 : Int) < q116_3 h)) (q116_2 h b) (q116_11 h b)) (q116_11 h b)))) := by
  delta q116_0 q116_1 q116_2 q116_3 q116_4 q116_5 q116_6 q116_7 q116_8 q116_9 q116_11 iO
  simp only [↓sw_iff, ↓Bool.and_eq_true, ↓decide_eq_true_eq, ↓decide_eq_false_iff_not, ↓Bool.not_eq_true', ↓Bool.not_eq_false', true_and, and_true, List.nil_append, Nat.mul_one, bytes5, toNat2, toNat4, hel_eta]
  intro h b ok
  obtain ⟨w1, w2, w3, w4, w5⟩ := hel_w ok
  simp only [w1, w2, w3, w4, w5]
  have hs : sm h.cookie.length := ok.2.2.2.2.2.2
  have gr : ∀ b, ¬ h.tag = 0 → ¬ h.out = 0 → ¬ h.inn = 0 → (b = true ∨ ¬ 0 < h.cookie.length) → greetF h b = true := fun b a1 a2 a3 a4 => by
    cases hg : greetF h b with
    | true => rfl
    | false =>
      rcases greet_f.1 hg with x | x | x | x
      · exact absurd x a1
      · exact absurd x a2
      · exact absurd x a3
      · rcases a4 with y | y
        · rw [x.1] at y; cases y
        · exact absurd x.2 y
  refine ⟨fun a1 => leaf0 (from_e1 (greet_f.2 (.inl a1))), fun a1 => ⟨fun a2 => leaf0 (from_e1 (greet_f.2 (.inr (.inl a2)))), fun a2 => ⟨fun a3 => leaf0 (from_e1 (greet_f.2 (.inr (.inr (.inl a3))))), fun a3 => ⟨fun a4 => ⟨fun a5 => leaf0 (from_e1 (greet_f.2 (.inr (.inr (.inr ⟨a4, by omega⟩))))), fun a5 => ?_⟩, fun a4 => ?_⟩⟩⟩⟩
  · have hg := gr b a1 a2 a3 (.inr (by omega))
    exact ⟨fun hl => leaf0 (from_e2 hg (by omega)), fun hl => from_rest hs hg (by omega)⟩
  · have hg := gr b a1 a2 a3 (.inl a4)
    exact ⟨fun hl => leaf0 (from_e2 hg (by omega)), fun hl => from_rest hs hg (by omega)⟩
set_option maxRecDepth 100000 in
theorem ok116 : FnIs Try.prog 116 fromHelC := by
  refine fnIs (C := (ctrs c6)) (by kernel_rfl) c6_ok Try.func116 (code := code116) (by kernel_rfl) (by kernel_rfl) ?_
  rintro a ⟨h, b, rfl, ok⟩
  exact ⟨anns [] [1], kcast (vc116 h b ok) (by kernel_rfl)⟩

theorem c16_ok : COk Try.prog (ctrs c16) := cok_cons ok212q (cok_cons ok116 (cok_cons ok118 cok_nil))

noncomputable def code163 : Code := match Try.f163.body with | some c => c | none => .skip
@[reducible] noncomputable def q163_0 (x0 : List Int) : Int := (↑x0.length : Int)
@[reducible] noncomputable def q163_1 (x0 : List Int) (x1 : List Int) : Bool := !decide (q163_0 x0 = q163_0 x1)
@[reducible] def q163_2 : Prop := true = true
@[reducible] def q163_3 (x0 : List Int) (x1 : List Int) : Prop := false = decide (x0 = x1) ∧ q163_2
@[reducible] def q163_4 (x0 : Nat) (x1 : List Int) (x2 : List Int) : Prop := x0 ≤ x1.length ∧ ∀ (j : Nat), j < x0 → x1.getD j (0 : Int) = x2.getD j (0 : Int)
@[reducible] noncomputable def q163_5 (x0 : Nat) : Int := (↑x0 : Int)
@[reducible] noncomputable def q163_6 (x0 : List Int) (x1 : Nat) : Int := x0.getD (q163_5 x1).toNat (0 : Int)
@[reducible] def q163_7 (x0 : List Int) : Prop := some (SV.c (Value.int IntKind.i64 (q163_0 x0))) = some (SV.c (Value.int IntKind.i64 (q163_0 x0)))
@[reducible] def q163_8 : Prop := some (SV.a (0 : Nat)) = some (SV.a (0 : Nat))
@[reducible] def q163_9 : Prop := some (SV.a (1 : Nat)) = some (SV.a (1 : Nat))
@[reducible] def q163_10 (x0 : List Int) : Prop := some (R.ro (D.ints IntKind.u8 x0)) = some (R.ro (D.ints IntKind.u8 x0))
set_option maxHeartbeats 4000000 in
theorem vc163 : ∀ (l m : List Int), sm l.length → True ∧ sw (q163_1 l m) (q163_3 l m) (∃ (g0 : Nat), q163_4 g0 l m ∧ (0 : Int) = q163_5 g0 ∧ q163_2 ∧ ∀ (g : Nat), q163_4 g l m →
  True ∧ sw (decide (q163_5 g < q163_0 l)) (((0 : Int) ≤ q163_5 g ∧ q163_5 g < q163_0 l) ∧ ((0 : Int) ≤ q163_5 g ∧ q163_5 g < q163_0 m) ∧ True ∧ sw (!decide (q163_6 l g = q163_6 m g)) (q163_3 l m) (True ∧
  ∃ (g' : Nat), q163_4 g' l m ∧ l.length - g' < l.length - g ∧ (IntKind.i64.wrap (q163_5 g + (1 : Int)) = q163_5 g' ∧ (true && true && true) = true) ∧ (q163_7 l ∧
  q163_8 ∧ some (SV.c (Value.bool (q163_1 l m))) = some (SV.c (Value.bool (q163_1 l m))) ∧ q163_7 m ∧ q163_9 ∧ q163_7 l ∧ q163_8 ∧ q163_8 ∧ q163_9 ∧ True) ∧
  q163_10 m ∧ q163_10 l ∧ True)) (true = decide (l = m) ∧ q163_2)) := by
  delta q163_0 q163_1 q163_2 q163_3 q163_4 q163_5 q163_6 q163_7 q163_8 q163_9 q163_10
  simp only [↓sw_iff, ↓Bool.and_eq_true, ↓decide_eq_true_eq, ↓decide_eq_false_iff_not, ↓Bool.not_eq_true', ↓Bool.not_eq_false', true_and, and_true, Int.toNat_natCast]
  intro l m h
  unfold sm at h
  refine ⟨fun e => (decide_eq_false (fun x => e (by rw [x]))).symm, fun e => ⟨0, ⟨Nat.zero_le _, fun j hj => absurd hj (Nat.not_lt_zero _)⟩, rfl, ?_⟩⟩
  rintro g ⟨g1, g2⟩
  refine ⟨fun t => ⟨⟨by omega, by omega⟩, ⟨by omega, by omega⟩, fun e => (decide_eq_false (fun x => e (by rw [x]))).symm, fun e => ⟨g + 1, ⟨by omega, fun j hj => ?_⟩, by omega, by rw [wrap_i64_id (by omega) (by omega)]; rfl⟩⟩, fun t => (decide_eq_true ?_).symm⟩
  · by_cases hjg : j = g
    · subst hjg; exact e
    · exact g2 j (by omega)
  · apply List.ext_getElem (by omega)
    intro i i1 i2
    have := g2 i (by omega)
    simpa [List.getD, List.getElem?_eq_getElem i1, List.getElem?_eq_getElem i2] using this
set_option maxRecDepth 100000 in
theorem ok163 : FnIs Try.prog 163 eqC := by
  refine fnIs (C := (ctrs c0)) (by kernel_rfl) c0_ok Try.func163 (code := code163) (by kernel_rfl) (by kernel_rfl) ?_
  rintro a ⟨l, m, rfl, h⟩
  exact ⟨anns [(4, eqAnn l m)], kcast (vc163 l m h) (by kernel_rfl)⟩

theorem c13_ok : COk Try.prog (ctrs c13) := cok_cons ok163 cok_nil

noncomputable def code202 : Code := match Try.f202.body with | some c => c | none => .skip
@[reducible] noncomputable def q202_0 (x0 : ChR) (x1 : ChR) : Bool := decide (x0.t = x1.t)
@[reducible] def q202_1 (x0 : ChR) (x1 : ChR) : Prop := [q202_0 x0 x1] = [q202_0 x0 x1]
@[reducible] noncomputable def q202_2 (x0 : ChR) (x1 : ChR) : Bool := q202_0 x0 x1 && decide (x0.f = x1.f)
@[reducible] def q202_3 (x0 : ChR) (x1 : ChR) : Prop := [q202_2 x0 x1] = [q202_2 x0 x1]
@[reducible] noncomputable def q202_4 (x0 : ChR) (x1 : ChR) : SV := SV.c (Value.bool (decide (x0.v = x1.v)))
set_option maxHeartbeats 4000000 in
theorem vc202 : ∀ (c d : ChR), okCh c → True ∧ sw (q202_0 c d) (SV.p (2 : Nat) (1 : Nat) = SV.p (2 : Nat) (1 : Nat)) True ∧ sw (q202_0 c d) (q202_1 c d ∧
  SV.c (Value.int IntKind.u8 c.f) = SV.c (Value.int IntKind.u8 c.f)) True ∧ sw (q202_0 c d) (SV.p (3 : Nat) (1 : Nat) = SV.p (3 : Nat) (1 : Nat)) True ∧ sw (q202_0 c d) (q202_1 c d ∧
  SV.c (Value.int IntKind.u8 d.f) = SV.c (Value.int IntKind.u8 d.f)) True ∧ sw (q202_0 c d) (q202_1 c d ∧ q202_1 c d ∧ True ∧ SV.c (Value.bool (decide (c.f = d.f))) = SV.c (Value.bool (decide (c.f = d.f)))) True ∧
  q202_1 c d ∧ sw (q202_2 c d) (SV.p (2 : Nat) (2 : Nat) = SV.p (2 : Nat) (2 : Nat)) True ∧ sw (q202_2 c d) (q202_3 c d ∧ SV.a (0 : Nat) = SV.a (0 : Nat)) True ∧
  sw (q202_2 c d) (SV.p (3 : Nat) (2 : Nat) = SV.p (3 : Nat) (2 : Nat)) True ∧ sw (q202_2 c d) (q202_3 c d ∧ SV.a (1 : Nat) = SV.a (1 : Nat)) True ∧ sw (q202_2 c d) (q202_3 c d ∧
  q202_3 c d ∧ (∃ (l : List Int), ∃ (m : List Int), [O.d (D.ints IntKind.u8 c.v), O.d (D.ints IntKind.u8 d.v)] = [O.d (D.ints IntKind.u8 l), O.d (D.ints IntKind.u8 m)] ∧
  sm l.length) ∧ q202_4 c d = q202_4 c d) True ∧ q202_3 c d ∧ (q202_2 c d && decide (c.v = d.v)) = sameB (ChR.mk c.t c.f c.v) (ChR.mk d.t d.f d.v) ∧ true = true := by
  delta q202_0 q202_1 q202_2 q202_3 q202_4
  simp only [↓sw_iff, ↓Bool.and_eq_true, ↓Bool.and_eq_false_iff, ↓decide_eq_true_eq, ↓decide_eq_false_iff_not, true_and, and_true, implies_true, ch_eta]
  intro c d h
  exact ⟨fun _ => ⟨_, _, rfl, h⟩, rfl⟩
set_option maxRecDepth 100000 in
theorem ok202 : FnIs Try.prog 202 sameBC := by
  refine fnIs (C := (ctrs c13)) (by kernel_rfl) c13_ok Try.func202 (code := code202) (by kernel_rfl) (by kernel_rfl) ?_
  rintro a ⟨c, d, rfl, h⟩
  exact ⟨anns [], kcast (vc202 c d h) (by kernel_rfl)⟩

noncomputable def code200 : Code := match Try.f200.body with | some c => c | none => .skip
set_option maxHeartbeats 4000000 in
theorem vc200 : ∀ (v : List Int) (i : Int) (b : Bool) (k : Nat), sm v.length → okB v → (0 : Int) ≤ i → i ≤ (1099511627776 : Int) → (1 : Nat) ≤ k → k ≤ (8 : Nat) →
  (∃ (b_1 : List Int), ∃ (i_1 : Int), ∃ (k_1 : Nat), [O.d (D.ints IntKind.u8 v), iO .i64 i, iO .i64 (↑k : Int)] = [O.d (D.ints IntKind.u8 b_1), iO .i64 i_1, iO .i64 (↑k_1 : Int)] ∧
  sm b_1.length ∧ okB b_1 ∧ okI i_1 ∧ (1 : Nat) ≤ k_1 ∧ k_1 ≤ (8 : Nat)) ∧ True ∧ sw (!b) (SV.c (Value.int IntKind.i64 (partF v i (↑(↑k : Int).toNat : Int)).snd) = SV.c (Value.int IntKind.i64 (partF v i (↑(↑k : Int).toNat : Int)).snd)) True ∧
  sw (!b) ([!b] = [!b] ∧ True ∧ SV.c (Value.bool !decide ((partF v i (↑(↑k : Int).toNat : Int)).snd = (0 : Int))) = SV.c (Value.bool !decide ((partF v i (↑(↑k : Int).toNat : Int)).snd = (0 : Int)))) True ∧
  [!b] = [!b] ∧ v = v ∧ IntKind.i64.wrap (i + (↑k : Int)) = i + (↑k : Int) ∧ (b || !decide ((partF v i (↑(↑k : Int).toNat : Int)).snd = (0 : Int))) = (b || !decide ((getF v i (↑k : Int).toNat).snd = (0 : Int))) ∧
  valF (partF v i (↑(↑k : Int).toNat : Int)).fst = numAt v i (↑k : Int).toNat ∧ (true && true && true) = true := by
  delta iO
  simp only [↓sw_iff, ↓Bool.and_eq_true, ↓Bool.not_eq_true', ↓Bool.not_eq_false', true_and, and_true, implies_true, Int.toNat_natCast, num_def]
  intro v i b k h1 h2 h3 h4 h5 h6
  refine ⟨⟨v, i, k, rfl, h1, h2, by unfold okI; omega, h5, h6⟩, wrap_i64_id (by omega) (by omega), rfl⟩
set_option maxRecDepth 100000 in
theorem ok200 : FnIs Try.prog 200 rdC := by
  refine fnIs (C := (ctrs c14)) (by kernel_rfl) c14_ok Try.func200 (code := code200) (by kernel_rfl) (by kernel_rfl) ?_
  rintro a ⟨v, i, b, k, rfl, h1, h2, h3, h4, h5, h6⟩
  exact ⟨anns [], kcast (vc200 v i b k h1 h2 h3 h4 h5 h6) (by kernel_rfl)⟩

theorem c15_ok : COk Try.prog (ctrs c15) := cok_cons ok200 (cok_cons ok201 (cok_cons ok155 (cok_cons ok202 cok_nil)))

noncomputable def code158 : Code := match Try.f158.body with | some c => c | none => .skip
@[reducible] noncomputable def q158_0 (x0 : ChR) : O := O.d (D.ints IntKind.u8 x0.v)
@[reducible] noncomputable def q158_1 : List O := [iO .i64 (4 : Int)]
@[reducible] noncomputable def q158_2 (x0 : List Int) (x1 : Int) (x2 : Bool) (x3 : Nat) : List O := [O.ptr 302 [O.d (D.ints IntKind.u8 x0), iO .i64 x1, O.d (D.v (Value.bool x2))], iO .i64 (↑x3 : Int)]
@[reducible] def q158_3 (x0 : List Int) (x1 : Int) (x2 : Nat) : Prop := sm x0.length ∧ okB x0 ∧ (0 : Int) ≤ x1 ∧ x1 ≤ (1099511627776 : Int) ∧ (1 : Nat) ≤ x2 ∧
  x2 ≤ (8 : Nat)
@[reducible] noncomputable def q158_4 (x0 : ChR) : Bool := false || !decide ((getF x0.v (0 : Int) (Int.toNat (4 : Int))).snd = (0 : Int))
@[reducible] noncomputable def q158_5 (x0 : ChR) : Bool := q158_4 x0 || !decide ((getF x0.v ((0 : Int) + (4 : Int)) (Int.toNat (4 : Int))).snd = (0 : Int))
@[reducible] noncomputable def q158_6 : List O := [iO .i64 (2 : Int)]
@[reducible] noncomputable def q158_7 (x0 : ChR) : Bool := q158_5 x0 || !decide ((getF x0.v ((0 : Int) + (4 : Int) + (4 : Int)) (Int.toNat (2 : Int))).snd = (0 : Int))
@[reducible] noncomputable def q158_8 (x0 : ChR) : Bool := q158_7 x0 || !decide ((getF x0.v ((0 : Int) + (4 : Int) + (4 : Int) + (2 : Int)) (Int.toNat (2 : Int))).snd = (0 : Int))
@[reducible] noncomputable def q158_9 (x0 : ChR) : Bool := decide (x0.t = (2 : Int))
@[reducible] noncomputable def q158_10 (x0 : ChR) : Bool := q158_8 x0 || !decide ((getF x0.v ((0 : Int) + (4 : Int) + (4 : Int) + (2 : Int) + (2 : Int)) (Int.toNat (4 : Int))).snd = (0 : Int))
@[reducible] noncomputable def q158_11 (x0 : ChR) : Int := IntKind.u32.wrap (numAt x0.v (0 : Int) (Int.toNat (4 : Int)))
@[reducible] noncomputable def q158_12 (x0 : ChR) : Int := IntKind.u32.wrap (numAt x0.v ((0 : Int) + (4 : Int)) (Int.toNat (4 : Int)))
@[reducible] noncomputable def q158_13 (x0 : ChR) : Int := IntKind.u16.wrap (numAt x0.v ((0 : Int) + (4 : Int) + (4 : Int)) (Int.toNat (2 : Int)))
@[reducible] noncomputable def q158_14 (x0 : ChR) : Int := IntKind.u16.wrap (numAt x0.v ((0 : Int) + (4 : Int) + (4 : Int) + (2 : Int)) (Int.toNat (2 : Int)))
@[reducible] noncomputable def q158_15 (x0 : ChR) : Int := IntKind.u32.wrap (numAt x0.v ((0 : Int) + (4 : Int) + (4 : Int) + (2 : Int) + (2 : Int)) (Int.toNat (4 : Int)))
@[reducible] noncomputable def q158_16 (x0 : ChR) : List Int := (partF x0.v ((0 : Int) + (4 : Int) + (4 : Int) + (2 : Int) + (2 : Int) + (4 : Int) + (2 : Int) + (2 : Int)) (IntKind.i64.wrap (IntKind.i64.wrap (numAt x0.v ((0 : Int) + (4 : Int) + (4 : Int) + (2 : Int) + (2 : Int) + (4 : Int) + (2 : Int)) (Int.toNat (2 : Int))) - (4 : Int)))).fst
@[reducible] noncomputable def q158_17 (x0 : HelR) (x1 : Bool) : List O := [O.agg [iO .u32 x0.tag, iO .u32 x0.win, iO .u16 x0.out, iO .u16 x0.inn, iO .u32 x0.tsn, O.d (D.ints IntKind.u8 x0.cookie)], O.d (D.v (Value.bool x1))]
@[reducible] noncomputable def q158_18 (x0 : ChR) : ChR × Int := fromHel (HelR.mk (q158_11 x0) (q158_12 x0) (q158_13 x0) (q158_14 x0) (q158_15 x0) (q158_16 x0)) (q158_9 x0)
@[reducible] noncomputable def q158_19 (x0 : ChR) : HelR := (toHel (ChR.mk x0.t x0.f x0.v)).fst
@[reducible] def q158_20 (x0 : ChR) : Prop := (0 : Int) = (q158_19 x0).tag ∧ (0 : Int) = (q158_19 x0).win ∧ (0 : Int) = (q158_19 x0).out ∧ (0 : Int) = (q158_19 x0).inn ∧
  (0 : Int) = (q158_19 x0).tsn ∧ (q158_19 x0).cookie = [] ∧ (2 : Int) = (toHel (ChR.mk x0.t x0.f x0.v)).snd ∧ true = true
@[reducible] noncomputable def q158_21 (x0 : ChR) : O := O.agg [iO .u8 x0.t, iO .u8 x0.f, q158_0 x0]
@[reducible] noncomputable def q158_22 (x0 : ChR) : ChR × Int := fromHel (HelR.mk (q158_11 x0) (q158_12 x0) (q158_13 x0) (q158_14 x0) (q158_15 x0) []) (q158_9 x0)
@[reducible] def q158_23 (x0 : ChR) : Prop := True ∧ (∃ (h : HelR), ∃ (b : Bool), [O.agg [iO .u32 (q158_11 x0), iO .u32 (q158_12 x0), iO .u16 (q158_13 x0), iO .u16 (q158_14 x0), iO .u32 (q158_15 x0), O.d (D.ints IntKind.u8 [])], O.d (D.v (Value.bool (q158_9 x0)))] = q158_17 h b ∧
  okHel h) ∧ True ∧ sw (!decide ((q158_22 x0).snd = (0 : Int))) (q158_20 x0) ((∃ (c_1 : ChR), ∃ (d : ChR), [O.agg [iO .u8 (q158_22 x0).fst.t, iO .u8 (q158_22 x0).fst.f, O.d (D.ints IntKind.u8 (q158_22 x0).fst.v)], q158_21 x0] = [q158_21 c_1, q158_21 d] ∧
  okCh c_1) ∧ sw (!sameB (ChR.mk (q158_22 x0).fst.t (q158_22 x0).fst.f (q158_22 x0).fst.v) (ChR.mk x0.t x0.f x0.v)) (q158_20 x0) (q158_11 x0 = (q158_19 x0).tag ∧
  q158_12 x0 = (q158_19 x0).win ∧ q158_13 x0 = (q158_19 x0).out ∧ q158_14 x0 = (q158_19 x0).inn ∧ q158_15 x0 = (q158_19 x0).tsn ∧ (q158_19 x0).cookie = [] ∧
  (0 : Int) = (toHel (ChR.mk x0.t x0.f x0.v)).snd ∧ true = true))
set_option maxHeartbeats 4000000 in
theorem vc158 : ∀ (c : ChR), okB c.v → sm c.v.length → (∃ (v : List Int), ∃ (i : Int), ∃ (b : Bool), ∃ (k : Nat), O.ptr 302 [q158_0 c, iO .i64 (0 : Int), O.d (D.v (Value.bool false))] :: q158_1 = q158_2 v i b k ∧
  q158_3 v i k) ∧ (∃ (v : List Int), ∃ (i : Int), ∃ (b : Bool), ∃ (k : Nat), O.ptr 302 [q158_0 c, iO .i64 ((0 : Int) + (4 : Int)), O.d (D.v (Value.bool (q158_4 c)))] :: q158_1 = q158_2 v i b k ∧
  q158_3 v i k) ∧ (∃ (v : List Int), ∃ (i : Int), ∃ (b : Bool), ∃ (k : Nat), O.ptr 302 [q158_0 c, iO .i64 ((0 : Int) + (4 : Int) + (4 : Int)), O.d (D.v (Value.bool (q158_5 c)))] :: q158_6 = q158_2 v i b k ∧
  q158_3 v i k) ∧ (∃ (v : List Int), ∃ (i : Int), ∃ (b : Bool), ∃ (k : Nat), O.ptr 302 [q158_0 c, iO .i64 ((0 : Int) + (4 : Int) + (4 : Int) + (2 : Int)), O.d (D.v (Value.bool (q158_7 c)))] :: q158_6 = q158_2 v i b k ∧
  q158_3 v i k) ∧ (∃ (v : List Int), ∃ (i : Int), ∃ (b : Bool), ∃ (k : Nat), O.ptr 302 [q158_0 c, iO .i64 ((0 : Int) + (4 : Int) + (4 : Int) + (2 : Int) + (2 : Int)), O.d (D.v (Value.bool (q158_8 c)))] :: q158_1 = q158_2 v i b k ∧
  q158_3 v i k) ∧ True ∧ sw (q158_9 c) ((∃ (v : List Int), ∃ (i : Int), ∃ (b : Bool), ∃ (k : Nat), O.ptr 302 [q158_0 c, iO .i64 ((0 : Int) + (4 : Int) + (4 : Int) + (2 : Int) + (2 : Int) + (4 : Int)), O.d (D.v (Value.bool (q158_10 c)))] :: q158_6 = q158_2 v i b k ∧
  q158_3 v i k) ∧ True ∧ sw (decide (numAt c.v ((0 : Int) + (4 : Int) + (4 : Int) + (2 : Int) + (2 : Int) + (4 : Int)) (Int.toNat (2 : Int)) = (7 : Int))) ((∃ (v : List Int), ∃ (i : Int), ∃ (b : Bool), ∃ (k : Nat), O.ptr 302 [q158_0 c, iO .i64 ((0 : Int) + (4 : Int) + (4 : Int) + (2 : Int) + (2 : Int) + (4 : Int) + (2 : Int)), O.d (D.v (Value.bool (q158_10 c || !decide ((getF c.v ((0 : Int) + (4 : Int) + (4 : Int) + (2 : Int) + (2 : Int) + (4 : Int)) (Int.toNat (2 : Int))).snd = (0 : Int)))))] :: q158_6 = q158_2 v i b k ∧
  q158_3 v i k) ∧ True ∧ ((∃ (b : List Int), ∃ (i : Int), ∃ (n : Int), [q158_0 c, iO .i64 ((0 : Int) + (4 : Int) + (4 : Int) + (2 : Int) + (2 : Int) + (4 : Int) + (2 : Int) + (2 : Int)), iO .i64 (IntKind.i64.wrap (IntKind.i64.wrap (numAt c.v ((0 : Int) + (4 : Int) + (4 : Int) + (2 : Int) + (2 : Int) + (4 : Int) + (2 : Int)) (Int.toNat (2 : Int))) - (4 : Int)))] = [O.d (D.ints IntKind.u8 b), iO .i64 i, iO .i64 n] ∧
  sm b.length ∧ okI i ∧ okI n) ∧ (True ∧ (∃ (h : HelR), ∃ (b : Bool), [O.agg [iO .u32 (q158_11 c), iO .u32 (q158_12 c), iO .u16 (q158_13 c), iO .u16 (q158_14 c), iO .u32 (q158_15 c), O.d (D.ints IntKind.u8 (q158_16 c))], O.d (D.v (Value.bool (q158_9 c)))] = q158_17 h b ∧
  okHel h) ∧ True ∧ sw (!decide ((q158_18 c).snd = (0 : Int))) (q158_20 c) ((∃ (c_1 : ChR), ∃ (d : ChR), [O.agg [iO .u8 (q158_18 c).fst.t, iO .u8 (q158_18 c).fst.f, O.d (D.ints IntKind.u8 (q158_18 c).fst.v)], q158_21 c] = [q158_21 c_1, q158_21 d] ∧
  okCh c_1) ∧ sw (!sameB (ChR.mk (q158_18 c).fst.t (q158_18 c).fst.f (q158_18 c).fst.v) (ChR.mk c.t c.f c.v)) (q158_20 c) (q158_11 c = (q158_19 c).tag ∧ q158_12 c = (q158_19 c).win ∧
  q158_13 c = (q158_19 c).out ∧ q158_14 c = (q158_19 c).inn ∧ q158_15 c = (q158_19 c).tsn ∧ q158_16 c = (q158_19 c).cookie ∧ (0 : Int) = (toHel (ChR.mk c.t c.f c.v)).snd ∧
  (true && true && true) = true))) ∧ True) ∧ True) (q158_23 c)) (q158_23 c) := by
  delta q158_0 q158_1 q158_2 q158_3 q158_4 q158_5 q158_6 q158_7 q158_8 q158_9 q158_10 q158_11 q158_12 q158_13 q158_14 q158_15 q158_16 q158_17 q158_18
    q158_19 q158_20 q158_21 q158_22 q158_23 iO
  simp only [↓sw_iff, ↓Bool.and_eq_true, ↓decide_eq_true_eq, ↓decide_eq_false_iff_not, ↓Bool.not_eq_true', ↓Bool.not_eq_false', true_and, and_true, Bool.false_or, toNat2, toNat4, ch_eta, Int.reduceAdd]
  intro c h1 h2
  obtain ⟨w1, w2, w3, w4, w5, w6, w7⟩ := num_w h1
  simp only [w1, w2, w3, w4, w5, w6, hel1_eta, hel1_nil]
  have hh := helOf_ok h1 h2
  have n18 := num_rng h1 18 (k := 2)
  have p2 : (256 : Int) ^ 2 = 65536 := rfl
  rw [p2] at n18
  have sml : ∀ H b, okCh (fromHel H b).1 := fun H b => by have := fromHel_len H b; unfold okCh sm; omega
  refine ⟨⟨c.v, 0, _, 4, rfl, h2, h1, by decide, by decide, by decide, by decide⟩, ⟨c.v, 4, _, 4, rfl, h2, h1, by decide, by decide, by decide, by decide⟩, ⟨c.v, 8, _, 2, rfl, h2, h1, by decide, by decide, by decide, by decide⟩, ⟨c.v, 10, _, 2, rfl, h2, h1, by decide, by decide, by decide, by decide⟩, ⟨c.v, 12, _, 4, rfl, h2, h1, by decide, by decide, by decide, by decide⟩,
    fun t2 => ⟨⟨c.v, 16, _, 2, rfl, h2, h1, by decide, by decide, by decide, by decide⟩, fun t7 => ⟨⟨c.v, 18, _, 2, rfl, h2, h1, by decide, by decide, by decide, by decide⟩, ⟨c.v, 20, _, rfl, h2, by unfold okI; omega, by unfold okI; omega⟩, ?_⟩, fun t7 => ?_⟩, fun t2 => ?_⟩
  · have ho : helOf c = hel1 c.v (partF c.v 20 (numAt c.v 18 2 - 4)).1 := by unfold helOf; rw [if_pos ⟨t2, t7⟩]; rfl
    rw [ho] at hh
    exact ⟨⟨hel1 c.v (partF c.v 20 (numAt c.v 18 2 - 4)).1, _, rfl, hh⟩, fun e => err_leaf (toHel_e1 ho e), fun e => ⟨⟨(fromHel (hel1 c.v (partF c.v 20 (numAt c.v 18 2 - 4)).1) (decide (c.t = 2))).1, c, rfl, sml _ _⟩, fun e2 => err_leaf (toHel_e2 ho e2), fun e2 => ok_leaf (toHel_e3 ho e e2)⟩⟩
  · have ho : helOf c = hel0 c.v := by unfold helOf; rw [if_neg (fun x => t7 x.2)]
    rw [ho] at hh
    exact ⟨⟨hel0 c.v, _, rfl, hh⟩, fun e => err_leaf (toHel_e1 ho e), fun e => ⟨⟨(fromHel (hel0 c.v) (decide (c.t = 2))).1, c, rfl, sml _ _⟩, fun e2 => err_leaf (toHel_e2 ho e2), fun e2 => ok_leaf0 (toHel_e3 ho e e2)⟩⟩
  · have ho : helOf c = hel0 c.v := by unfold helOf; rw [if_neg (fun x => t2 x.1)]
    rw [ho] at hh
    exact ⟨⟨hel0 c.v, _, rfl, hh⟩, fun e => err_leaf (toHel_e1 ho e), fun e => ⟨⟨(fromHel (hel0 c.v) (decide (c.t = 2))).1, c, rfl, sml _ _⟩, fun e2 => err_leaf (toHel_e2 ho e2), fun e2 => ok_leaf0 (toHel_e3 ho e e2)⟩⟩
set_option maxRecDepth 100000 in
theorem ok158 : FnIs Try.prog 158 toHelC := by
  refine fnIs (C := (ctrs c15)) (by kernel_rfl) c15_ok Try.func158 (code := code158) (by kernel_rfl) (by kernel_rfl) ?_
  rintro a ⟨c, rfl, h1, h2⟩
  exact ⟨anns [] [3, 7], kcast (vc158 c h1 h2) (by kernel_rfl)⟩

noncomputable def code168 : Code := match Try.f168.body with | some c => c | none => .skip
@[reducible] noncomputable def q168_0 (x0 : ChR) : Bool := decide (x0.t = (2 : Int))
@[reducible] noncomputable def q168_1 (x0 : ChR) : HelR := (toHel (ChR.mk x0.t x0.f x0.v)).fst
@[reducible] def q168_2 (x0 : ChR) : Prop := (0 : Int) = (q168_1 x0).tag ∧ (0 : Int) = (q168_1 x0).win ∧ (0 : Int) = (q168_1 x0).out ∧ (0 : Int) = (q168_1 x0).inn ∧
  (0 : Int) = (q168_1 x0).tsn ∧ (q168_1 x0).cookie = [] ∧ (2 : Int) = (toHel (ChR.mk x0.t x0.f x0.v)).snd ∧ true = true
@[reducible] noncomputable def q168_3 (x0 : ChR) : Int := (↑x0.v.length : Int)
@[reducible] noncomputable def q168_4 (x0 : ChR) : O := O.d (D.ints IntKind.u8 x0.v)
@[reducible] noncomputable def q168_5 : List O := [iO .i64 (4 : Int)]
@[reducible] noncomputable def q168_6 (x0 : List Int) (x1 : Int) (x2 : Nat) : List O := [O.d (D.ints IntKind.u8 x0), iO .i64 x1, iO .i64 (↑x2 : Int)]
@[reducible] def q168_7 (x0 : List Int) (x1 : Int) (x2 : Nat) : Prop := sm x0.length ∧ okB x0 ∧ okI x1 ∧ (1 : Nat) ≤ x2 ∧ x2 ≤ (7 : Nat)
@[reducible] noncomputable def q168_8 : List O := [iO .i64 (2 : Int)]
@[reducible] noncomputable def q168_9 : Int := (↑(Int.toNat (2 : Int)) : Int)
@[reducible] noncomputable def q168_10 (x0 : ChR) : Int := IntKind.i64.wrap (valF (partF x0.v (18 : Int) q168_9).fst - (4 : Int))
@[reducible] noncomputable def q168_12 : Int := (↑(Int.toNat (4 : Int)) : Int)
@[reducible] noncomputable def q168_13 (x0 : ChR) : Int := IntKind.u32.wrap (valF (partF x0.v (0 : Int) q168_12).fst)
@[reducible] noncomputable def q168_14 (x0 : ChR) : Int := IntKind.u32.wrap (valF (partF x0.v (4 : Int) q168_12).fst)
@[reducible] noncomputable def q168_15 (x0 : ChR) : Int := IntKind.u16.wrap (valF (partF x0.v (8 : Int) q168_9).fst)
@[reducible] noncomputable def q168_16 (x0 : ChR) : Int := IntKind.u16.wrap (valF (partF x0.v (10 : Int) q168_9).fst)
@[reducible] noncomputable def q168_17 (x0 : ChR) : Int := IntKind.u32.wrap (valF (partF x0.v (12 : Int) q168_12).fst)
@[reducible] noncomputable def q168_18 (x0 : ChR) : List Int := [] ++ List.take ((IntKind.i64.wrap ((20 : Int) + q168_10 x0)).toNat - Int.toNat (20 : Int)) (List.drop (Int.toNat (20 : Int)) x0.v)
@[reducible] noncomputable def q168_19 (x0 : HelR) (x1 : Bool) : List O := [O.agg [iO .u32 x0.tag, iO .u32 x0.win, iO .u16 x0.out, iO .u16 x0.inn, iO .u32 x0.tsn, O.d (D.ints IntKind.u8 x0.cookie)], O.d (D.v (Value.bool x1))]
@[reducible] noncomputable def q168_20 (x0 : ChR) : ChR × Int := fromHel (HelR.mk (q168_13 x0) (q168_14 x0) (q168_15 x0) (q168_16 x0) (q168_17 x0) (q168_18 x0)) (q168_0 x0)
@[reducible] noncomputable def q168_21 (x0 : ChR) : O := O.agg [iO .u8 x0.t, iO .u8 x0.f, q168_4 x0]
@[reducible] noncomputable def q168_22 (x0 : ChR) : ChR × Int := fromHel (HelR.mk (q168_13 x0) (q168_14 x0) (q168_15 x0) (q168_16 x0) (q168_17 x0) []) (q168_0 x0)
@[reducible] def q168_23 (x0 : ChR) : Prop := True ∧ sw (decide (q168_3 x0 < (16 : Int))) (q168_2 x0) ((∃ (b : List Int), ∃ (i : Int), ∃ (k : Nat), q168_4 x0 :: iO .i64 (0 : Int) :: q168_5 = q168_6 b i k ∧
  q168_7 b i k) ∧ (∃ (b : List Int), ∃ (i : Int), ∃ (k : Nat), q168_4 x0 :: iO .i64 (4 : Int) :: q168_5 = q168_6 b i k ∧ q168_7 b i k) ∧
  (∃ (b : List Int), ∃ (i : Int), ∃ (k : Nat), q168_4 x0 :: iO .i64 (8 : Int) :: q168_8 = q168_6 b i k ∧ q168_7 b i k) ∧ (∃ (b : List Int), ∃ (i : Int), ∃ (k : Nat), q168_4 x0 :: iO .i64 (10 : Int) :: q168_8 = q168_6 b i k ∧
  q168_7 b i k) ∧ (∃ (b : List Int), ∃ (i : Int), ∃ (k : Nat), q168_4 x0 :: iO .i64 (12 : Int) :: q168_5 = q168_6 b i k ∧ q168_7 b i k) ∧
  True ∧ sw (q168_0 x0) (True ∧ sw (decide (q168_3 x0 < (20 : Int))) (q168_2 x0) ((∃ (b : List Int), ∃ (i : Int), ∃ (k : Nat), q168_4 x0 :: iO .i64 (18 : Int) :: q168_8 = q168_6 b i k ∧
  q168_7 b i k) ∧ True ∧ True ∧ sw (decide (q168_10 x0 < (0 : Int))) (q168_2 x0) (True ∧ True ∧ sw (decide (IntKind.i64.wrap (q168_3 x0 - (20 : Int)) < q168_10 x0)) (q168_2 x0) (True ∧
  ((0 : Int) ≤ (20 : Int) ∧ (20 : Int) ≤ IntKind.i64.wrap ((20 : Int) + q168_10 x0) ∧ IntKind.i64.wrap ((20 : Int) + q168_10 x0) ≤ q168_3 x0) ∧ True ∧ ((0 : Nat) + (List.take ((IntKind.i64.wrap ((20 : Int) + q168_10 x0)).toNat - Int.toNat (20 : Int)) (List.drop (Int.toNat (20 : Int)) x0.v)).length) * Try.prog.types[5].bytes ≤ (140737488355328 : Nat) ∧
  True ∧ (∃ (h : HelR), ∃ (b : Bool), [O.agg [iO .u32 (q168_13 x0), iO .u32 (q168_14 x0), iO .u16 (q168_15 x0), iO .u16 (q168_16 x0), iO .u32 (q168_17 x0), O.d (D.ints IntKind.u8 (q168_18 x0))], O.d (D.v (Value.bool (q168_0 x0)))] = q168_19 h b ∧
  okHel h) ∧ True ∧ sw (!decide ((q168_20 x0).snd = (0 : Int))) (q168_2 x0) ((∃ (c_1 : ChR), ∃ (d : ChR), [O.agg [iO .u8 (q168_20 x0).fst.t, iO .u8 (q168_20 x0).fst.f, O.d (D.ints IntKind.u8 (q168_20 x0).fst.v)], q168_21 x0] = [q168_21 c_1, q168_21 d]) ∧
  sw (!sameCh (ChR.mk (q168_20 x0).fst.t (q168_20 x0).fst.f (q168_20 x0).fst.v) (ChR.mk x0.t x0.f x0.v)) (q168_2 x0) (q168_13 x0 = (q168_1 x0).tag ∧ q168_14 x0 = (q168_1 x0).win ∧
  q168_15 x0 = (q168_1 x0).out ∧ q168_16 x0 = (q168_1 x0).inn ∧ q168_17 x0 = (q168_1 x0).tsn ∧ q168_18 x0 = (q168_1 x0).cookie ∧ (0 : Int) = (toHel (ChR.mk x0.t x0.f x0.v)).snd ∧
  (true && true && true) = true)))))) (True ∧ (∃ (h : HelR), ∃ (b : Bool), [O.agg [iO .u32 (q168_13 x0), iO .u32 (q168_14 x0), iO .u16 (q168_15 x0), iO .u16 (q168_16 x0), iO .u32 (q168_17 x0), O.d (D.ints IntKind.u8 [])], O.d (D.v (Value.bool (q168_0 x0)))] = q168_19 h b ∧
  okHel h) ∧ True ∧ sw (!decide ((q168_22 x0).snd = (0 : Int))) (q168_2 x0) ((∃ (c_1 : ChR), ∃ (d : ChR), [O.agg [iO .u8 (q168_22 x0).fst.t, iO .u8 (q168_22 x0).fst.f, O.d (D.ints IntKind.u8 (q168_22 x0).fst.v)], q168_21 x0] = [q168_21 c_1, q168_21 d]) ∧
  sw (!sameCh (ChR.mk (q168_22 x0).fst.t (q168_22 x0).fst.f (q168_22 x0).fst.v) (ChR.mk x0.t x0.f x0.v)) (q168_2 x0) (q168_13 x0 = (q168_1 x0).tag ∧ q168_14 x0 = (q168_1 x0).win ∧
  q168_15 x0 = (q168_1 x0).out ∧ q168_16 x0 = (q168_1 x0).inn ∧ q168_17 x0 = (q168_1 x0).tsn ∧ (q168_1 x0).cookie = [] ∧ (0 : Int) = (toHel (ChR.mk x0.t x0.f x0.v)).snd ∧
  true = true))))
set_option maxHeartbeats 4000000 in
theorem vc168 : ∀ (c : ChR), okB c.v → sm c.v.length → True ∧ sw (!decide (c.t = (1 : Int))) (True ∧ sw (!q168_0 c) (q168_2 c) (q168_23 c)) (q168_23 c) := by
  delta q168_0 q168_1 q168_2 q168_3 q168_4 q168_5 q168_6 q168_7 q168_8 q168_9 q168_10 q168_12 q168_13 q168_14 q168_15 q168_16 q168_17 q168_18 q168_19
    q168_20 q168_21 q168_22 q168_23 iO
  simp only [↓sw_iff, ↓Bool.and_eq_true, ↓decide_eq_true_eq, ↓decide_eq_false_iff_not, ↓Bool.not_eq_true', ↓Bool.not_eq_false', true_and, and_true, Nat.zero_add, List.nil_append, Nat.mul_one, bytes5, toNat2, toNat4, ch_eta, num_def]
  intro c h1 h2
  obtain ⟨w1, w2, w3, w4, w5, w6, w7⟩ := num_w h1
  simp only [w1, w2, w3, w4, w5, w7, hel1_eta, hel1_nil, toHel_eq h1 h2]
  have hh := helRef_ok h1 h2
  have n18 := num_rng h1 18 (k := 2)
  have p2 : (256 : Int) ^ 2 = 65536 := rfl
  rw [p2] at n18
  have h2' := h2
  unfold sm at h2'
  have e20 : IntKind.i64.wrap ((c.v.length : Int) - 20) = (c.v.length : Int) - 20 := wrap_i64_id (by omega) (by omega)
  have e21 : IntKind.i64.wrap (20 + (numAt c.v 18 2 - 4)) = 20 + (numAt c.v 18 2 - 4) := wrap_i64_id (by omega) (by omega)
  have t20 : Int.toNat 20 = 20 := rfl
  simp only [e20, e21, t20]
  refine ⟨fun a => ⟨fun b => err_leaf (ref_e1 (.inl ⟨a, b⟩)), fun b => ⟨fun l => err_leaf (ref_e1 (.inr (by omega))), fun l => ?_⟩⟩, fun a => ⟨fun l => err_leaf (ref_e1 (.inr (by omega))), fun l => ?_⟩⟩
  all_goals
    have c1 : ¬ (c.t ≠ 1 ∧ c.t ≠ 2 ∨ c.v.length < 16) := by omega
    refine ⟨⟨c.v, 0, 4, rfl, h2, h1, by unfold okI; omega, by decide, by decide⟩, ⟨c.v, 4, 4, rfl, h2, h1, by unfold okI; omega, by decide, by decide⟩, ⟨c.v, 8, 2, rfl, h2, h1, by unfold okI; omega, by decide, by decide⟩, ⟨c.v, 10, 2, rfl, h2, h1, by unfold okI; omega, by decide, by decide⟩, ⟨c.v, 12, 4, rfl, h2, h1, by unfold okI; omega, by decide, by decide⟩,
      fun t2 => ⟨fun l2 => err_leaf (ref_e2 ⟨t2, by omega⟩), fun l2 => ⟨⟨c.v, 18, 2, rfl, h2, h1, by unfold okI; omega, by decide, by decide⟩, fun n0 => err_leaf (ref_e3 ⟨t2, .inl n0⟩), fun n0 => ⟨fun n1 => err_leaf (ref_e3 ⟨t2, .inr n1⟩), fun n1 => ?_⟩⟩⟩, fun t2 => ?_⟩
    · have c2 : ¬ (c.t = 2 ∧ c.v.length < 20) := by omega
      have c3 : ¬ (c.t = 2 ∧ (numAt c.v 18 2 - 4 < 0 ∨ (c.v.length : Int) - 20 < numAt c.v 18 2 - 4)) := by omega
      have e22 : (20 + (numAt c.v 18 2 - 4)).toNat - 20 = (numAt c.v 18 2 - 4).toNat := by omega
      rw [e22]
      have ho : helRef c = hel1 c.v ((c.v.drop 20).take (numAt c.v 18 2 - 4).toNat) := by unfold helRef; rw [if_pos t2]; rfl
      rw [ho] at hh
      have hb : okB (fromHel (hel1 c.v ((c.v.drop 20).take (numAt c.v 18 2 - 4).toNat)) (decide (c.t = 2))).1.v := fromHel_okB hh.2.2.2.2.2.1 _
      rw [sameCh_eq hb h1]
      have hl3 : ((c.v.drop 20).take (numAt c.v 18 2 - 4).toNat).length ≤ c.v.length := by rw [List.length_take, List.length_drop]; omega
      exact ⟨⟨by omega, by omega, by omega⟩, by omega, ⟨_, _, rfl, hh⟩, fun e => err_leaf (ref_e4 ho (.inl e)), fun e => ⟨⟨_, _, rfl⟩, fun e2 => err_leaf (ref_e4 ho (.inr e2)), fun e2 => ok_leaf (ref_ok ho c1 c2 c3 e e2)⟩⟩
    · have c2 : ¬ (c.t = 2 ∧ c.v.length < 20) := fun x => t2 x.1
      have c3 : ¬ (c.t = 2 ∧ (numAt c.v 18 2 - 4 < 0 ∨ (c.v.length : Int) - 20 < numAt c.v 18 2 - 4)) := fun x => t2 x.1
      have ho : helRef c = hel0 c.v := by unfold helRef; rw [if_neg t2]
      rw [ho] at hh
      have hb : okB (fromHel (hel0 c.v) (decide (c.t = 2))).1.v := fromHel_okB hh.2.2.2.2.2.1 _
      rw [sameCh_eq hb h1]
      exact ⟨⟨hel0 c.v, _, rfl, hh⟩, fun e => err_leaf (ref_e4 ho (.inl e)), fun e => ⟨⟨(fromHel (hel0 c.v) (decide (c.t = 2))).1, c, rfl⟩, fun e2 => err_leaf (ref_e4 ho (.inr e2)), fun e2 => ok_leaf0 (ref_ok ho c1 c2 c3 e e2)⟩⟩
set_option maxRecDepth 100000 in
theorem ok168 : FnIs Try.prog 168 toHelC := by
  refine fnIs (C := (ctrs c16)) (by kernel_rfl) c16_ok Try.func168 (code := code168) (by kernel_rfl) (by kernel_rfl) ?_
  rintro a ⟨c, rfl, h1, h2⟩
  exact ⟨anns [] [2, 9, 13], kcast (vc168 c h1 h2) (by kernel_rfl)⟩

end Go.ZR

set_option maxRecDepth 100000
namespace Go.ZR
open Go.Z Go.ZM Go.Proofs
end Go.ZR
