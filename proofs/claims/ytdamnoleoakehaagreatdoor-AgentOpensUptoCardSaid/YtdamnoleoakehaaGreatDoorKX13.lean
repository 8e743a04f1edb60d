/- Part 13 of what the closing text rests on. -/
import Derived.Test.YtdamnoleoakehaaGreatDoorKX12
namespace Go.Q
noncomputable section
open Go.RowKit
open Go.Z hiding cond_false get

section
variable {Γ : Cx} {ρ : Rh} {θ : Tz} {P : Program}

theorem wrap_in (k : IntKind) {z : Int} (h : k.min ≤ z ∧ z ≤ k.max) : k.wrap z = z := by
  cases k <;> simp [IntKind.min, IntKind.max, IntKind.signed, IntKind.bits] at h <;> simp [IntKind.wrap, IntKind.signed, IntKind.bits] <;> omega
theorem inK_sound (hΓ : CxOk Γ ρ) {k : IntKind} {x : Lin} {d : DV} (h : inK Γ k x = some d) : d = .n k x ∧ k.wrap (x.ev ρ.a) = x.ev ρ.a := by
  obtain ⟨h1, h2⟩ := condO h
  cases h2
  exact ⟨rfl, wrap_in k (inI_sound hΓ.b h1)⟩
theorem boolV_some {o : Option Bool} {d : DV} (h : boolV o = some d) : ∃ b, o = some b ∧ d = .c (.bool b) := by
  cases o with
  | none => cases h
  | some b => cases h; exact ⟨b, rfl, rfl⟩
theorem notO_some {o : Option Bool} {b : Bool} (h : notO o = some b) : o = some (!b) := by
  cases o with
  | none => cases h
  | some c => cases h; simp
theorem W_bool (b : Bool) : W ρ θ (.c (.bool b)) (.bool b) := by simp only [W]

theorem opTab_sound (hΓ : CxOk Γ ρ) {op : BinOp} {T : Nat} {k : IntKind} {x y : Lin} {d : DV} : ∀ {l : List (BinOp × IntKind × Lin × Lin × Option Lin × Bool)}, (∀ e ∈ l, e ∈ Γ.ops) → opTab op k x y l = some d →
    ∃ c v, binV P op T (.int k (x.ev ρ.a)) (.int k (y.ev ρ.a)) = some (c, v) ∧ c ∧ W ρ θ d v
  | [], _, h => by cases h
  | (op', k', x', y', r, b) :: l, hl, h => by
    have next : opTab op k x y l = some d → ∃ c v, binV P op T (.int k (x.ev ρ.a)) (.int k (y.ev ρ.a)) = some (c, v) ∧ c ∧ W ρ θ d v := opTab_sound hΓ fun e he => hl e (.tail _ he)
    unfold opTab at h
    split at h
    · rename_i e1
      split at h
      · rename_i e2
        cases hb : (x.eqb x' && y.eqb y') with
        | false => rw [hb] at h; exact next h
        | true =>
          rw [hb] at h
          simp only [Bool.and_eq_true] at hb
          obtain rfl := Lin.eqb_eq hb.1
          obtain rfl := Lin.eqb_eq hb.2
          subst e1 e2
          obtain ⟨c, h1, h2⟩ := hΓ.op _ (hl _ (.head _))
          simp only [_root_.cond_true] at h
          have e : binV P op T (.int k (x.ev ρ.a)) (.int k (y.ev ρ.a)) = binV default op 0 (.int k (x.ev ρ.a)) (.int k (y.ev ρ.a)) := by cases op <;> rfl
          rw [e, h1]
          refine ⟨c, _, rfl, h2, ?_⟩
          cases r with
          | none => cases h; exact W_bool _
          | some z => cases h; simp only [W]
      · exact next h
    · exact next h

theorem symBin_sound (hΓ : CxOk Γ ρ) {op : BinOp} {T : Nat} {k : IntKind} {x y : Lin} {d : DV} (h : symBin Γ op k x y = some d) :
    ∃ c v, binV P op T (.int k (x.ev ρ.a)) (.int k (y.ev ρ.a)) = some (c, v) ∧ c ∧ W ρ θ d v := by
  unfold symBin at h
  split at h
  · obtain ⟨rfl, h2⟩ := inK_sound hΓ h
    rw [ev_add] at h2
    exact ⟨True, .int k (x.ev ρ.a + y.ev ρ.a), by simp [binV, h2], trivial, by simp only [W, ev_add]⟩
  · obtain ⟨rfl, h2⟩ := inK_sound hΓ h
    rw [ev_sub] at h2
    exact ⟨True, .int k (x.ev ρ.a - y.ev ρ.a), by simp [binV, h2], trivial, by simp only [W, ev_sub]⟩
  · obtain ⟨hl, h'⟩ := condO h
    obtain ⟨rfl, h2⟩ := inK_sound hΓ h'
    rw [ev_mul, Int.mul_comm] at h2
    rw [Lin.ev_of_lit hl]
    exact ⟨True, .int k (x.ev ρ.a * y.c), by simp [binV, h2], trivial, by simp only [W, ev_mul, Int.mul_comm]⟩
  all_goals first | (cases h; done) | skip
  all_goals
    obtain ⟨b, h1, rfl⟩ := boolV_some h
    refine ⟨True, .bool b, ?_, trivial, W_bool _⟩
    try have h1 := notO_some h1
    first
      | have h2 := eqD_sound hΓ.b h1
      | have h2 := leD_sound hΓ.b h1
    simp only [binV, if_true, Option.some.injEq, Prod.mk.injEq, Value.bool.injEq, true_and, h2]
    try (first
      | exact Bool.not_not b
      | (cases b <;> simp only [Bool.not_true, Bool.not_false, decide_eq_true_eq, decide_eq_false_iff_not] at h2 ⊢ <;> omega)
      | rfl)

theorem intD_sound (hΓ : CxOk Γ ρ) {op : BinOp} {T : Nat} {k k' : IntKind} {x y : Lin} {d : DV} (h : intD Γ op k k' x y = .ok d) (w : World) (ox oy : Operand) :
    ∃ v, W ρ θ d v ∧ (do eqGuard op T ox oy (.int k (x.ev ρ.a)) (.int k' (y.ev ρ.a)); binOp op T (.int k (x.ev ρ.a)) (.int k' (y.ev ρ.a)) : Sem Value).run P w = .ok v w := by
  unfold intD at h
  cases hb : (x.isLit && y.isLit) with
  | true =>
    rw [hb] at h
    simp only [Bool.and_eq_true] at hb
    simp only [_root_.cond_true] at h
    split at h <;> cases h
    rename_i v hv
    rw [Lin.ev_of_lit hb.1, Lin.ev_of_lit hb.2]
    obtain ⟨c, h1, h2⟩ := intBin_sound (P := P) (T := T) hv
    exact ⟨v, W_lift1 v, binV_sound h1 h2 ox oy w⟩
  | false =>
    rw [hb] at h
    simp only [_root_.cond_false] at h
    split at h
    · rename_i hk
      subst hk
      split at h <;> cases h
      rename_i hd
      have key : ∃ c v, binV P op T (.int k (x.ev ρ.a)) (.int k (y.ev ρ.a)) = some (c, v) ∧ c ∧ W ρ θ d v := by
        unfold orElseD at hd
        split at hd
        · rename_i h1
          cases hd
          exact opTab_sound hΓ (fun _ h => h) h1
        · exact symBin_sound hΓ hd
      obtain ⟨c, v, h1, h2, h3⟩ := key
      exact ⟨v, h3, binV_sound h1 h2 ox oy w⟩
    · obtain ⟨hsh, h'⟩ := cond_ok h
      split at h' <;> cases h'
      rename_i hd
      obtain ⟨c, v, h1, h2, h3⟩ := opTab_sound (P := P) (θ := θ) (T := T) hΓ (fun _ h => h) hd
      have e : binV P op T (.int k (x.ev ρ.a)) (.int k' (y.ev ρ.a)) = binV P op T (.int k (x.ev ρ.a)) (.int k (y.ev ρ.a)) := by
        cases op <;> simp only [isSh] at hsh <;> first | rfl | cases hsh
      exact ⟨v, h3, binV_sound (by rw [e]; exact h1) h2 ox oy w⟩

theorem sgs_append (x y : List Sg) : sgs ρ (x ++ y) = sgs ρ x ++ sgs ρ y := by
  induction x with
  | nil => rfl
  | cons a l ih => simp only [List.cons_append, sgs, ih, List.append_assoc]
theorem szS_ev (hΓ : CxOk Γ ρ) : ∀ l : List Sg, ((sgs ρ l).length : Int) = (szS Γ l).ev ρ.a
  | [] => by simp [sgs, szS, ev_lit]
  | .y x :: l => by
    have := szS_ev hΓ l
    simp only [sgs, szS, Sg.bytes, ev_add, ev_lit, List.length_append, List.length_cons, List.length_nil, Int.natCast_add]; omega
  | .b i :: l => by
    have := szS_ev hΓ l
    have := hΓ.len i
    simp only [sgs, szS, Sg.bytes, ev_add, List.length_append, List.length_map, Int.natCast_add]; omega
theorem byte_inj {a b : Int} (ha : 0 ≤ a ∧ a ≤ 255) (hb : 0 ≤ b ∧ b ≤ 255) (h : UInt8.ofNat a.toNat = UInt8.ofNat b.toNat) : a = b := by
  have h1 := congrArg UInt8.toNat h
  simp only [UInt8.toNat_ofNat'] at h1
  omega
theorem eqByte_sound (hΓ : CxOk Γ ρ) {x y : Lin} {b : Bool} (h : eqByte Γ x y = some b) : decide (UInt8.ofNat (x.ev ρ.a).toNat = UInt8.ofNat (y.ev ρ.a).toNat) = b := by
  unfold eqByte at h
  cases h1 : x.eqb y with
  | true => rw [h1] at h; cases h; rw [Lin.eqb_eq h1]; simp
  | false =>
    rw [h1] at h
    obtain ⟨h2, h3⟩ := condO h
    simp only [Bool.and_eq_true] at h2
    have e := eqD_sound hΓ.b h3
    have b1 := inI_sound hΓ.b h2.1
    have b2 := inI_sound hΓ.b h2.2
    cases b with
    | true => simp only [decide_eq_true_eq] at e; rw [e]; simp
    | false => simp only [decide_eq_false_iff_not] at e ⊢; exact fun h => e (byte_inj b1 b2 h)
theorem eqSg_sound (hΓ : CxOk Γ ρ) : ∀ {x y : List Sg} {b : Bool}, eqSg Γ x y = some b → decide (sgs ρ x = sgs ρ y) = b
  | [], [], b, h => by cases h; simp
  | [], .y z :: r, b, h => by cases h; simp [sgs, Sg.bytes]
  | [], .b i :: r, b, h => by cases h
  | .y x :: l, [], b, h => by cases h; simp [sgs, Sg.bytes]
  | .b i :: l, [], b, h => by cases h
  | .y x :: l, .b i :: r, b, h => by cases h
  | .b i :: l, .y x :: r, b, h => by cases h
  | .y x :: l, .y z :: r, b, h => by
    simp only [eqSg] at h
    split at h
    · rename_i h1
      have h1 := eqByte_sound hΓ h1
      have h2 := eqSg_sound hΓ h
      simp only [decide_eq_true_eq] at h1
      rw [← h2]
      simp only [sgs, Sg.bytes, h1, List.singleton_append, List.cons.injEq, true_and]
    · rename_i h1
      have h1 := eqByte_sound hΓ h1
      cases h
      simp only [decide_eq_false_iff_not] at h1 ⊢
      simp only [sgs, Sg.bytes, List.singleton_append, List.cons.injEq, not_and]
      exact fun h => absurd h h1
    · cases h
  | .b i :: l, .b j :: r, b, h => by
    simp only [eqSg] at h
    obtain ⟨h1, h2⟩ := condO h
    have h1 := nbeq h1
    subst h1
    have h3 := eqSg_sound hΓ h2
    rw [← h3]
    simp only [sgs, List.append_cancel_left_eq]
theorem sgB_eq : ∀ {x y : List Sg}, sgB x y = true → x = y
  | [], [], _ => rfl
  | [], .y _ :: _, h => by simp [sgB] at h
  | [], .b _ :: _, h => by simp [sgB] at h
  | .y _ :: _, [], h => by simp [sgB] at h
  | .b _ :: _, [], h => by simp [sgB] at h
  | .y _ :: _, .b _ :: _, h => by simp [sgB] at h
  | .b _ :: _, .y _ :: _, h => by simp [sgB] at h
  | .y x :: l, .y z :: r, h => by
    simp only [sgB, Bool.and_eq_true] at h
    rw [Lin.eqb_eq h.1, sgB_eq h.2]
  | .b i :: l, .b j :: r, h => by
    simp only [sgB, Bool.and_eq_true] at h
    rw [nbeq h.1, sgB_eq h.2]
theorem sqTab_sound (hΓ : CxOk Γ ρ) {x y : List Sg} {b : Bool} : ∀ {l : List (List Sg × List Sg × Bool)}, (∀ e ∈ l, e ∈ Γ.sq) → sqTab x y l = some b → decide (sgs ρ x = sgs ρ y) = b
  | [], _, h => by cases h
  | (x', y', c) :: l, hl, h => by
    unfold sqTab at h
    cases hb : (sgB x x' && sgB y y') with
    | false => rw [hb] at h; exact sqTab_sound hΓ (fun e he => hl e (.tail _ he)) h
    | true =>
      rw [hb] at h
      cases h
      simp only [Bool.and_eq_true] at hb
      rw [sgB_eq hb.1, sgB_eq hb.2]
      exact hΓ.sq _ (hl _ (.head _))
theorem eqStr_sound (hΓ : CxOk Γ ρ) {x y : List Sg} {b : Bool} (h : eqStr Γ x y = some b) : decide (sgs ρ x = sgs ρ y) = b := by
  unfold eqStr at h
  split at h
  · rename_i h1
    cases h
    exact sqTab_sound hΓ (fun _ h => h) h1
  · split at h
    · rename_i h1
      cases h
      have h2 := eqD_sound hΓ.b h1
      rw [← szS_ev hΓ, ← szS_ev hΓ] at h2
      simp only [decide_eq_false_iff_not] at h2 ⊢
      exact fun e => h2 (by rw [e])
    · exact eqSg_sound hΓ h
theorem strOf_beq (x y : List Sg) : (strOf ρ x == strOf ρ y) = decide (sgs ρ x = sgs ρ y) := by
  have e : ∀ a b : Array UInt8, ((⟨a⟩ : ByteArray) == ⟨b⟩) = (a == b) := fun _ _ => rfl
  unfold strOf
  rw [e, Bool.eq_iff_iff]
  simp
theorem strOf_data (x : List Sg) : (strOf ρ x).data.toList = sgs ρ x := by simp [strOf]

theorem partD_sound {T o : Nat} {l : List DV} {x : DV} {us : List Value} (h : partD P T l o = some x) (hl : WL ρ θ l us) (w : World) : ∃ u, W ρ θ x u ∧ (part T us.toArray o).run P w = .ok u w := by
  unfold partD at h
  split at h
  · rename_i s hk
    obtain ⟨h1, h2⟩ := condO h
    cases h2
    obtain ⟨k1, k2⟩ := run_kind hk w
    refine ⟨.agg ((us.drop o).take s).toArray, by simp only [W]; exact ⟨_, rfl, WL_take s (WL_drop o hl)⟩, ?_⟩
    simp [part, k1, k2]
  · rename_i s hk
    obtain ⟨v, h1, h2⟩ := WL_get hl h
    obtain ⟨k1, _⟩ := run_kind hk w
    exact ⟨v, h2, by simp [part, k1, h1]⟩
  · cases h

def fldC (n : Nat) (A B : Array Value) (f : Field) (_ : Option Bool × Unit) : Sem (ForInStep (Option Bool × Unit)) :=
  if f.name ≠ "_" then do
    let u ← part f.type A f.offset
    let v ← part f.type B f.offset
    let x ← Op.equalIn n f.type u v
    if (!x) = true then pure (ForInStep.done (some false, ())) else pure (ForInStep.yield (none, ()))
  else pure (ForInStep.yield (none, ()))
theorem eqFs_sound {eq : Nat → DV → DV → Option Bool} {n : Nat} (heq : ∀ {T : Nat} {x y : DV} {b : Bool} {u v : Value} (w : World), eq T x y = some b → W ρ θ x u → W ρ θ y v → (Op.equalIn n T u v).run P w = .ok b w)
    {xs ys : List DV} {us vs : List Value} (hx : WL ρ θ xs us) (hy : WL ρ θ ys vs) (w : World) : ∀ {l : List Field} {b : Bool}, eqFs eq P xs ys l = some b →
    (forIn (m := Sem) l ((none : Option Bool), ()) (fldC n us.toArray vs.toArray)).run P w = .ok (if b then none else some false, ()) w
  | [], b, h => by cases h; simp
  | f :: l, b, h => by
    unfold eqFs at h
    rw [List.forIn_cons]
    split at h
    · rename_i hn
      simp only [fldC, hn, ne_eq, not_true_eq_false, if_false, Sem.run_bind, Sem.run_pure, Result.andThen]
      exact eqFs_sound heq hx hy w h
    · rename_i hn
      split at h <;> try (cases h; done)
      rename_i x y h1 h2
      obtain ⟨u, e1, e2⟩ := partD_sound (P := P) h1 hx w
      obtain ⟨v, e3, e4⟩ := partD_sound (P := P) h2 hy w
      split at h
      · rename_i h3
        have e5 := heq w h3 e1 e3
        simp only [fldC, ne_eq, hn, not_false_eq_true, if_true, Sem.run_bind, e2, e4, e5, Result.andThen, Bool.not_true, Bool.false_eq_true, if_false, Sem.run_pure]
        exact eqFs_sound heq hx hy w h
      · rename_i h3
        cases h
        have e5 := heq w h3 e1 e3
        simp [fldC, hn, e2, e4, e5, Result.andThen]
      · cases h

theorem eqV_sound (hΓ : CxOk Γ ρ) : ∀ (d m : Nat) {T : Nat} {x y : DV} {b : Bool} {u v : Value} (w : World), eqV Γ P d T x y = some b → W ρ θ x u → W ρ θ y v → (Op.equalIn (d + m) T u v).run P w = .ok b w
  | 0, m, T, x, y, b, u, v, w, h, hu, hv => by cases h
  | d + 1, m, T, x, y, b, u, v, w, h, hu, hv => by
    rw [show d + 1 + m = (d + m) + 1 by omega, Op.equalIn]
    unfold eqV at h
    split at h <;> try (cases h; done)
    all_goals rename_i hT
    all_goals try simp only [W] at hu hv
    · subst hu hv; cases h; simp [Sem.run_bind, run_underlying hT, Result.andThen]
    · subst hu hv
      split at h <;> try (cases h; done)
      rename_i hk
      subst hk
      have := eqD_sound hΓ.b h
      simp only [Sem.run_bind, run_underlying hT, Result.andThen, if_true, Sem.run_pure]
      congr 1
    · subst hu hv
      have := eqStr_sound hΓ h
      simp only [Sem.run_bind, run_underlying hT, Result.andThen, Sem.run_pure]
      rw [strOf_beq, this]
    · subst hu hv; cases h; simp [Sem.run_bind, run_underlying hT, Result.andThen]
    · obtain ⟨L, _, _, rfl⟩ := hv; subst hu; cases h; simp [Sem.run_bind, run_underlying hT, Result.andThen]
    · obtain ⟨L, _, _, rfl⟩ := hu; subst hv; cases h; simp [Sem.run_bind, run_underlying hT, Result.andThen]
    · subst hu hv; cases h; simp [Sem.run_bind, run_underlying hT, Result.andThen]
    · obtain ⟨L, _, _, _, _, _, C, _, _, rfl⟩ := hu; subst hv; cases h; simp [Sem.run_bind, run_underlying hT, Result.andThen]
    · obtain ⟨L, _, _, _, _, _, C, _, _, rfl⟩ := hv; subst hu; cases h; simp [Sem.run_bind, run_underlying hT, Result.andThen]
    · subst hu hv; cases h; simp [Sem.run_bind, run_underlying hT, Result.andThen]
    · obtain ⟨L, _, rfl⟩ := hu; subst hv; cases h; simp [Sem.run_bind, run_underlying hT, Result.andThen]
    · subst hu hv; cases h; simp [Sem.run_bind, run_underlying hT, Result.andThen]
    · obtain ⟨cs, ds, rfl, _⟩ := hu; subst hv; cases h; simp [Sem.run_bind, run_underlying hT, Result.andThen]
    · rename_i fs xs ys
      obtain ⟨us, rfl, hx⟩ := hu
      obtain ⟨vs, rfl, hy⟩ := hv
      cases hst : P.stoodInHeld T with
      | true => rw [hst] at h; cases h
      | false =>
        rw [hst] at h
        have := eqFs_sound (P := P) (n := d + m) (fun w h hu hv => eqV_sound hΓ d m w h hu hv) hx hy w h
        simp only [Sem.run_bind, run_underlying hT, Result.andThen, run_prog, hst, Bool.false_eq_true, if_false, ← Array.forIn_toList]
        have e : (fun (f : Field) (s : Option Bool × Unit) =>
              if f.name ≠ "_" then do
                let u ← part f.type us.toArray f.offset
                let v ← part f.type vs.toArray f.offset
                let x ← Op.equalIn (d + m) f.type u v
                if (!x) = true then pure (ForInStep.done (some false, ())) else pure (ForInStep.yield (none, ()))
              else pure (ForInStep.yield (none, ()))) = fldC (d + m) us.toArray vs.toArray := rfl
        rw [e, this]
        cases b <;> rfl
theorem equal_sound (hΓ : CxOk Γ ρ) {T : Nat} {x y : DV} {b : Bool} {u v : Value} (w : World) (h : eqV Γ P eqDepth T x y = some b) (hu : W ρ θ x u) (hv : W ρ θ y v) : (Op.equal T u v).run P w = .ok b w :=
  eqV_sound hΓ eqDepth 9992 w h hu hv
end
end
end Go.Q

namespace Go.Q
noncomputable section
open Go.RowKit
open Go.Z hiding cond_false get

section
variable {Γ : Cx} {ρ : Rh} {θ : Tz} {P : Program} {s : St} {w : World}

inductive Eqb : Value → Prop
  | bool (b : Bool) : Eqb (.bool b)
  | ptr (a : Option Addr) : Eqb (.pointer a)
  | sl (a : Option Addr) (n c : Nat) : Eqb (.slice a n c)
  | map (r : Option Nat) : Eqb (.map r)
  | nf : Eqb .nilFunc
  | f (fn : Fn) (a b : Array Value) : Eqb (.func fn a b)
  | agg (cs : Array Value) : Eqb (.agg cs)
theorem binOp_eql {T : Nat} {u v : Value} (h : Eqb u) : binOp .eql T u v = (do pure (.bool (← Op.equal T u v))) ∧ binOp .neq T u v = (do pure (.bool (!(← Op.equal T u v)))) := by
  cases h <;> cases v <;> exact ⟨rfl, rfl⟩
theorem run_guard {op : BinOp} {T : Nat} {u v : Value} (h : Eqb u) (hg : (∃ cs, u = .agg cs) → P.eqGuardType P.depth T = false) (x y : Operand) (w : World) : (eqGuard op T x y u v).run P w = .ok () w := by
  cases h
  case agg cs =>
    have hg := hg ⟨cs, rfl⟩
    unfold eqGuard
    cases v <;> cases op <;> simp [Sem.run_bind, Result.andThen, hg]
  all_goals cases op <;> rfl
theorem okGuard_agg {T : Nat} {fs : Array Field} (h : okGuard P T = true) (hT : P.underlying T = some (.struct fs)) : P.eqGuardType P.depth T = false := by
  unfold okGuard isStruct at h
  rw [hT] at h
  simpa using h
theorem eqV_shape {d : Nat} {T : Nat} {x y : DV} {b : Bool} {u : Value} (h : eqV Γ P d T x y = some b) (hu : W ρ θ x u) (hn : ∀ k z, x ≠ .n k z) (hs : ∀ l, x ≠ .s l) : Eqb u ∧ ((∃ cs, u = .agg cs) → ∃ fs, P.underlying T = some (.struct fs)) := by
  cases d with
  | zero => cases h
  | succ d =>
    unfold eqV at h
    split at h <;> try (cases h; done)
    all_goals rename_i hT
    all_goals try simp only [W] at hu
    · subst hu; exact ⟨.bool _, fun ⟨_, h⟩ => by cases h⟩
    · exact absurd rfl (hn _ _)
    · exact absurd rfl (hs _)
    · subst hu; exact ⟨.ptr _, fun ⟨_, h⟩ => by cases h⟩
    · subst hu; exact ⟨.ptr _, fun ⟨_, h⟩ => by cases h⟩
    · obtain ⟨L, _, _, rfl⟩ := hu; exact ⟨.ptr _, fun ⟨_, h⟩ => by cases h⟩
    · subst hu; exact ⟨.sl _ _ _, fun ⟨_, h⟩ => by cases h⟩
    · obtain ⟨L, _, _, _, _, _, C, _, _, rfl⟩ := hu; exact ⟨.sl _ _ _, fun ⟨_, h⟩ => by cases h⟩
    · subst hu; exact ⟨.sl _ _ _, fun ⟨_, h⟩ => by cases h⟩
    · subst hu; exact ⟨.map _, fun ⟨_, h⟩ => by cases h⟩
    · obtain ⟨L, _, rfl⟩ := hu; exact ⟨.map _, fun ⟨_, h⟩ => by cases h⟩
    · subst hu; exact ⟨.nf, fun ⟨_, h⟩ => by cases h⟩
    · obtain ⟨cs, ds, rfl, _⟩ := hu; exact ⟨.f _ _ _, fun ⟨_, h⟩ => by cases h⟩
    · obtain ⟨cs, rfl, _⟩ := hu; exact ⟨.agg _, fun _ => ⟨_, hT⟩⟩
theorem eqV_n {d T : Nat} {k : IntKind} {z : Lin} {y : DV} {b : Bool} (h : eqV Γ P (d + 1) T (.n k z) y = some b) : ∃ k' z', y = .n k' z' := by
  simp only [eqV] at h
  cases hT : P.underlying T with
  | none => rw [hT] at h; simp at h
  | some D => cases D <;> cases y <;> first | exact ⟨_, _, rfl⟩ | (rw [hT] at h; simp at h)
theorem eqV_s {d T : Nat} {l : List Sg} {y : DV} {b : Bool} (h : eqV Γ P (d + 1) T (.s l) y = some b) : ∃ l', y = .s l' := by
  simp only [eqV] at h
  cases hT : P.underlying T with
  | none => rw [hT] at h; simp at h
  | some D => cases D <;> cases y <;> first | exact ⟨_, rfl⟩ | (rw [hT] at h; simp at h)
theorem strOf_append (x y : List Sg) : strOf ρ (x ++ y) = strOf ρ x ++ strOf ρ y := by
  apply ByteArray.ext
  rw [ByteArray.data_append]
  simp [strOf, sgs_append]
theorem strOf_size (x : List Sg) : (strOf ρ x).size = (sgs ρ x).length := by simp [strOf, ByteArray.size]

theorem binD_sound (hΓ : CxOk Γ ρ) {op : BinOp} {T : Nat} {x y r : DV} {u v : Value} (hu : W ρ θ x u) (hv : W ρ θ y v) (h : binD Γ P op T x y = .ok r) (ox oy : Operand) (w : World) :
    ∃ z, W ρ θ r z ∧ (do eqGuard op T ox oy u v; binOp op T u v : Sem Value).run P w = .ok z w := by
  unfold binD at h
  split at h
  · simp only [W] at hu hv
    subst hu hv
    exact intD_sound hΓ h w ox oy
  · rename_i a b
    simp only [W] at hu hv
    subst hu hv
    split at h
    · obtain ⟨h1, h2⟩ := cond_fail h
      cases h2
      have h2 := upLe_sound hΓ.b h1
      rw [← szS_ev hΓ, sgs_append, List.length_append] at h2
      refine ⟨.string (strOf ρ (a ++ b)), by simp only [W], binV_sound (c := ((strOf ρ a).size + (strOf ρ b).size : Nat) ≤ (9223372036854775807 : Int)) (by simp only [binV, strOf_append]) (by rw [strOf_size, strOf_size]; omega) ox oy w⟩
    · obtain ⟨b1, h1, rfl⟩ := boolV_some (optR_ok h)
      have h2 := eqStr_sound hΓ h1
      exact ⟨.bool b1, W_bool _, binV_sound (c := True) (by simp only [binV, strOf_data, h2]) trivial ox oy w⟩
    · obtain ⟨b1, h1, rfl⟩ := boolV_some (optR_ok h)
      have h2 := eqStr_sound hΓ (notO_some h1)
      exact ⟨.bool b1, W_bool _, binV_sound (c := True) (by simp only [binV, strOf_data, h2, Bool.not_not]) trivial ox oy w⟩
    · exact (fail_ok h).elim
  · rename_i hx1 hx2
    obtain ⟨hg, h⟩ := cond_fail h
    have key : ∀ {b : Bool}, eqV Γ P eqDepth T x y = some b → (eqGuard op T ox oy u v).run P w = .ok () w ∧ Eqb u ∧ (Op.equal T u v).run P w = .ok b w := fun {b} he => by
      have hxn : ∀ k z, x ≠ .n k z := by
        rintro k z rfl
        obtain ⟨k', z', rfl⟩ := eqV_n he
        exact hx1 _ _ _ _ rfl rfl
      have hxs : ∀ l, x ≠ .s l := by
        rintro l rfl
        obtain ⟨l', rfl⟩ := eqV_s he
        exact hx2 _ _ rfl rfl
      obtain ⟨h1, h2⟩ := eqV_shape (ρ := ρ) (θ := θ) he hu hxn hxs
      exact ⟨run_guard h1 (fun hc => let ⟨fs, hT⟩ := h2 hc; okGuard_agg hg hT) ox oy w, h1, equal_sound hΓ w he hu hv⟩
    split at h
    · obtain ⟨b1, h1, rfl⟩ := boolV_some (optR_ok h)
      obtain ⟨g1, g2, g3⟩ := key h1
      refine ⟨.bool b1, W_bool _, ?_⟩
      rw [(binOp_eql g2).1]
      simp [Sem.run_bind, g1, g3, Result.andThen]
    · obtain ⟨b1, h1, rfl⟩ := boolV_some (optR_ok h)
      obtain ⟨g1, g2, g3⟩ := key (notO_some h1)
      refine ⟨.bool b1, W_bool _, ?_⟩
      rw [(binOp_eql g2).2]
      simp [Sem.run_bind, g1, g3, Result.andThen]
    · exact (fail_ok h).elim

theorem unD_sound (hΓ : CxOk Γ ρ) {op : UnOp} {x r : DV} {u : Value} (hu : W ρ θ x u) (h : unD Γ op x = .ok r) (w : World) : ∃ z, W ρ θ r z ∧ (Op.unary op u).run P w = .ok z w := by
  unfold unD at h
  split at h
  · simp only [W] at hu; subst hu; cases h; exact ⟨_, W_bool _, rfl⟩
  · rename_i k a
    simp only [W] at hu; subst hu
    cases hl : a.isLit with
    | true => rw [hl] at h; cases h; rw [Lin.ev_of_lit hl]; exact ⟨_, W_int _ _, rfl⟩
    | false =>
      rw [hl] at h
      obtain ⟨rfl, h2⟩ := inK_sound hΓ (optR_ok h)
      rw [ev_mul] at h2
      refine ⟨.int k (k.wrap (0 - a.ev ρ.a)), ?_, rfl⟩
      simp only [W, ev_mul]
      rw [show (0 : Int) - a.ev ρ.a = -1 * a.ev ρ.a by omega, h2]
  · rename_i k a
    simp only [W] at hu; subst hu
    obtain ⟨hl, h⟩ := cond_fail h
    cases h
    rw [Lin.ev_of_lit hl]
    exact ⟨_, W_int _ _, rfl⟩
  · exact (fail_ok h).elim

theorem mid_sound (hΓ : CxOk Γ ρ) (hs : SatR ρ θ s w) {n es : Nat} {o len : Lin} {m : List Cl} {L : Ln} (hL : θ n = some L) (h : midD Γ s n es o len = some m) :
    ∃ pre ms post T fz, w.heap[L.b]? = some (.cells (pre ++ (ms ++ post)).toArray T fz) ∧ CW ρ θ m ms ∧ (pre.length : Int) = o.ev ρ.a ∧ (ms.length : Int) = es * len.ev ρ.a := by
  unfold midD at h
  split at h
  · rename_i T cs ex hr
    split at h <;> try (cases h; done)
    rename_i a b h1
    split at h <;> cases h
    rename_i c h2
    obtain ⟨as, bs, sp, fz, e1, e2, e3, e4, e5, e6, e7, e8⟩ := row_at hΓ hs hr h1 hL
    obtain ⟨_, ms, cs', rfl, f1, f2, f3⟩ := split_cells hΓ h2 e4
    rw [ev_mul] at f3
    exact ⟨as, ms, cs' ++ sp, T, fz, by rw [e1]; simp [List.append_assoc], f1, e5, f3⟩
  · split at h <;> try (cases h; done)
    rename_i o0 cs hwin
    cases hb : o.eqb o0 with
    | false => rw [hb] at h; cases h
    | true =>
      rw [hb] at h
      simp only [_root_.cond_true] at h
      split at h <;> cases h
      rename_i c h2
      have hget : s.get n = some (.win o0 cs) := by
        unfold winAt at hwin
        split at hwin <;> cases hwin
        assumption
      obtain ⟨L', hL', pre, ms0, post, T, fz, e1, e2, e3⟩ := hs.res n _ hget
      obtain rfl := Option.some.inj (hL.symm.trans hL')
      obtain ⟨_, ms, cs', rfl, f1, f2, f3⟩ := split_cells hΓ h2 e2
      rw [ev_mul] at f3
      exact ⟨pre, ms, cs' ++ post, T, fz, by rw [e1]; simp [List.append_assoc], f1, by rw [Lin.eqb_eq hb]; exact e3, f3⟩
def intsOfCl (ρ : Rh) : List Cl → List Int
  | [] => []
  | .v (.n _ x) :: l => x.ev ρ.a :: intsOfCl ρ l
  | .v _ :: l => intsOfCl ρ l
  | .b i :: l => ρ.b i ++ intsOfCl ρ l
theorem toSg_sound : ∀ {m : List Cl} {l : List Sg} {ms : List Value}, toSg m = some l → CW ρ θ m ms → ms = (intsOfCl ρ m).map (Value.int .u8) ∧ sgs ρ l = (intsOfCl ρ m).map fun n => UInt8.ofNat n.toNat
  | [], l, ms, h, hm => by cases h; obtain rfl := hm; exact ⟨rfl, rfl⟩
  | .b i :: m, l, ms, h, hm => by
    simp only [toSg] at h
    split at h <;> cases h
    rename_i l' h1
    obtain ⟨us, rfl, h2⟩ := hm
    obtain ⟨e1, e2⟩ := toSg_sound h1 h2
    exact ⟨by simp only [intsOfCl, List.map_append, blobV, e1], by simp only [sgs, Sg.bytes, intsOfCl, List.map_append, e2]⟩
  | .v d :: m, l, ms, h, hm => by
    obtain ⟨u, us, rfl, h2, _, h3⟩ := hm
    unfold toSg at h
    split at h <;> try (cases h; done)
    · rename_i heq; cases heq
    · rename_i x l' heq
      cases heq
      split at h <;> cases h
      rename_i l'' h1
      obtain ⟨e1, e2⟩ := toSg_sound h1 h3
      simp only [W] at h2
      exact ⟨by simp only [intsOfCl, List.map_cons, h2, e1], by simp only [sgs, Sg.bytes, intsOfCl, List.map_cons, e2, List.singleton_append]⟩
    · rename_i heq; cases heq
theorem ofSg_sound (hΓ : CxOk Γ ρ) : ∀ {l : List Sg} {m : List Cl}, ofSg Γ l = some m → CW ρ θ m ((sgs ρ l).map fun b => Value.int .u8 (b.toNat : Int))
  | [], m, h => by cases h; rfl
  | .y x :: l, m, h => by
    simp only [ofSg] at h
    obtain ⟨h1, h⟩ := condO h
    split at h <;> cases h
    rename_i m' h2
    have hb := inI_sound hΓ.b h1
    refine ⟨_, _, rfl, ?_, rfl, ofSg_sound hΓ h2⟩
    simp only [W, Value.int.injEq, true_and, UInt8.toNat_ofNat']
    omega
  | .b i :: l, m, h => by
    simp only [ofSg] at h
    split at h <;> cases h
    rename_i m' h2
    refine ⟨(sgs ρ l).map fun b => Value.int .u8 (b.toNat : Int), ?_, ofSg_sound hΓ h2⟩
    simp only [sgs, Sg.bytes, List.map_append, List.append_cancel_right_eq, blobV, List.map_map]
    refine List.map_congr_left fun n hn => ?_
    have := hΓ.byte i n hn
    simp only [Function.comp, Value.int.injEq, true_and, UInt8.toNat_ofNat']
    omega
theorem isU8_spec {e : Nat} (h : isU8 P e = true) : P.underlying e = some (.int .u8) := by
  unfold isU8 at h
  split at h
  · assumption
  · cases h

theorem cvTab_sound (hΓ : CxOk Γ ρ) {k : IntKind} {x : Lin} {d : DV} : ∀ {l : List (IntKind × Lin × Lin)}, (∀ e ∈ l, e ∈ Γ.cv) → cvTab k x l = some d → W ρ θ d (.int k (k.wrap (x.ev ρ.a)))
  | [], _, h => by cases h
  | (k', x', r) :: l, hl, h => by
    have next : cvTab k x l = some d → W ρ θ d (.int k (k.wrap (x.ev ρ.a))) := cvTab_sound hΓ fun e he => hl e (.tail _ he)
    unfold cvTab at h
    split at h
    · rename_i hk
      cases hb : x.eqb x' with
      | false => rw [hb] at h; exact next h
      | true =>
        rw [hb] at h
        cases h
        obtain rfl := Lin.eqb_eq hb
        subst hk
        simp only [W, hΓ.cv _ (hl _ (.head _))]
    · exact next h

theorem convD_sound (hΓ : CxOk Γ ρ) (hs : SatR ρ θ s w) {src dst : Nat} {x r : DV} {u : Value} (hu : W ρ θ x u) (h : convD Γ P src dst x s = .ok r) : ∃ z, W ρ θ r z ∧ (convert src dst u).run P w = .ok z w := by
  unfold convD at h
  split at h
  · rename_i k k' a h1 h2
    simp only [W] at hu; subst hu
    refine ⟨.int k (k.wrap (a.ev ρ.a)), ?_, by simp [convert, run_underlying h1, run_underlying h2, Conv.intToInt]⟩
    cases hl : a.isLit with
    | true => rw [hl] at h; cases h; rw [Lin.ev_of_lit hl]; exact W_int _ _
    | false =>
      rw [hl] at h
      simp only [_root_.cond_false] at h
      split at h <;> cases h
      rename_i hd
      unfold orElseD at hd
      split at hd
      · rename_i h3; cases hd; exact cvTab_sound hΓ (fun _ h => h) h3
      · obtain ⟨rfl, h3⟩ := inK_sound hΓ hd
        simp only [W, h3]
  · rename_i l h1 h2
    simp only [W] at hu; subst hu
    cases h
    exact ⟨.string (strOf ρ l), by simp only [W], by simp [convert, run_underlying h1, run_underlying h2]⟩
  · rename_i e h1 h2
    simp only [W] at hu; subst hu
    obtain ⟨h3, h⟩ := cond_fail h
    cases h
    refine ⟨.string (strOf ρ []), by simp only [W], ?_⟩
    rw [run_convert_bytes_string w src dst e none 0 0 h1 (isU8_spec h3) h2]
    rfl
  · rename_i e n es o len cp q h1 h2
    obtain ⟨h3, h⟩ := cond_fail h
    simp only [Bool.and_eq_true] at h3
    have hes := nbeq h3.2
    subst hes
    simp only [W] at hu
    obtain ⟨L, hL, _, ho, hlen, hq, C, hC, hlC, rfl⟩ := hu
    cases hl0 : len.eqb (lit 0) with
    | true =>
      rw [hl0] at h
      cases h
      have hz : (len.ev ρ.a).toNat = 0 := by rw [Lin.eqb_eq hl0, ev_lit]; rfl
      refine ⟨.string (strOf ρ []), by simp only [W], ?_⟩
      rw [run_convert_bytes_string w src dst e _ _ _ h1 (isU8_spec h3.1) h2]
      have := run_bytes_string (P := P) (w := w) (L := ⟨some ⟨L.b, if C = 0 then (q.ev ρ.a).toNat else (o.ev ρ.a).toNat, none⟩, (len.ev ρ.a).toNat, C⟩) (xs := []) (.inr rfl) (by rw [hz]; rfl) hlC (fun i z hz => by simp at hz)
      exact this
    | false =>
    rw [hl0] at h
    simp only [_root_.cond_false] at h
    split at h <;> try exact (fail_ok h).elim
    rename_i m hm
    replace h := optR_ok h
    split at h <;> cases h
    rename_i l hl
    obtain ⟨pre, ms, post, T, fz, e1, e2, e3, e4⟩ := mid_sound hΓ hs hL hm
    obtain ⟨f1, f2⟩ := toSg_sound hl e2
    refine ⟨.string (strOf ρ l), by simp only [W], ?_⟩
    rw [run_convert_bytes_string w src dst e _ _ _ h1 (isU8_spec h3.1) h2]
    have hml : ms.length = (len.ev ρ.a).toNat := by omega
    have := run_bytes_string (P := P) (w := w) (L := ⟨some ⟨L.b, if C = 0 then (q.ev ρ.a).toNat else (o.ev ρ.a).toNat, none⟩, (len.ev ρ.a).toNat, C⟩) (xs := intsOfCl ρ m) (.inr rfl) (by rw [← hml, f1]; simp) hlC (fun i z hz => by
      have hi := (List.getElem?_eq_some_iff.1 hz).1
      have hml2 : ms.length = (intsOfCl ρ m).length := by rw [f1]; simp
      have hc : C ≠ 0 := by omega
      simp only [Loc.b, Loc.o, if_neg hc]
      rw [cell_row e1, List.getElem?_append_right (by omega), show (o.ev ρ.a).toNat + i - pre.length = i by omega, List.getElem?_append_left (by omega), f1, List.getElem?_map, hz]
      rfl)
    have e : bstr (intsOfCl ρ m) = strOf ρ l := by simp [bstr, strOf, f2]
    rw [e] at this
    exact this
  · exact (fail_ok h).elim

theorem surely_true {o : Option Bool} (h : surely o = true) : o = some true := by
  unfold surely at h
  split at h
  · subst h; rfl
  · cases h
theorem le0_sound (hΓ : CxOk Γ ρ) {x y : Lin} (h : le0 Γ x y = true) : x.ev ρ.a ≤ y.ev ρ.a := by
  have := leD_sound hΓ.b (surely_true h)
  simpa using this

theorem indexAddrD_sound (hΓ : CxOk Γ ρ) {T : Nat} {x i r : DV} {u v : Value} (hu : W ρ θ x u) (hv : W ρ θ i v) (h : indexAddrD Γ P T x i = .ok r) (w : World) : ∃ z, W ρ θ r z ∧ (Instr.indexAt T u v).run P w = .ok z w := by
  unfold indexAddrD at h
  split at h
  · rename_i e n es o len cp q kk z hT
    split at h <;> try exact (fail_ok h).elim
    rename_i g s hk
    obtain ⟨h1, h⟩ := cond_fail h
    cases h
    simp only [Bool.and_eq_true] at h1
    have hes := nbeq h1.1
    subst hes
    have l1 := le0_sound hΓ h1.2.1
    have l2 := le0_sound hΓ h1.2.2
    rw [ev_lit] at l1
    rw [ev_add, ev_lit] at l2
    simp only [W] at hu hv
    obtain ⟨L, hL, _, ho, hlen, hq, C, hC, hlC, rfl⟩ := hu
    subst hv
    have hc : C ≠ 0 := by omega
    obtain ⟨_, k2⟩ := run_kind hk w
    have hin : 0 ≤ z.ev ρ.a ∧ z.ev ρ.a < ((len.ev ρ.a).toNat : Int) := ⟨l1, by omega⟩
    have e3 : (o.add (z.mul s)).ev ρ.a = o.ev ρ.a + s * z.ev ρ.a := by rw [ev_add, ev_mul]
    have e5 : (s : Int) * z.ev ρ.a = (((z.ev ρ.a).toNat * s : Nat) : Int) := by
      rw [Int.natCast_mul, Int.toNat_of_nonneg l1, Int.mul_comm]
    refine ⟨.pointer (some ⟨L.b, (o.ev ρ.a).toNat + (z.ev ρ.a).toNat * s, none⟩), ?_, ?_⟩
    · simp only [W]
      refine ⟨L, hL, by rw [e3, e5]; omega, ?_⟩
      rw [e3, e5]
      congr 3
      omega
    · simp [Instr.indexAt, asIntOf, run_underlying hT, k2, hin, add_mk, if_neg hc]
      intro hbad
      exact absurd hbad (by omega)
  · rename_i len e n o kk z hT
    split at h <;> try exact (fail_ok h).elim
    rename_i g s hk
    obtain ⟨h1, h⟩ := cond_fail h
    cases h
    simp only [Bool.and_eq_true] at h1
    have l1 := le0_sound hΓ h1.1
    have l2 := le0_sound hΓ h1.2
    rw [ev_lit] at l1
    rw [ev_add, ev_lit, ev_lit] at l2
    simp only [W] at hu hv
    obtain ⟨L, hL, ho, rfl⟩ := hu
    subst hv
    obtain ⟨_, k2⟩ := run_kind hk w
    have e3 : (o.add (z.mul s)).ev ρ.a = o.ev ρ.a + s * z.ev ρ.a := by rw [ev_add, ev_mul]
    have e5 : (s : Int) * z.ev ρ.a = (((z.ev ρ.a).toNat * s : Nat) : Int) := by
      rw [Int.natCast_mul, Int.toNat_of_nonneg l1, Int.mul_comm]
    have hlt : z.ev ρ.a < (len : Int) := by omega
    refine ⟨.pointer (some ⟨L.b, (o.ev ρ.a).toNat + (z.ev ρ.a).toNat * s, none⟩), ?_, ?_⟩
    · simp only [W]
      refine ⟨L, hL, by rw [e3, e5]; omega, ?_⟩
      rw [e3, e5]
      congr 3
      omega
    · simp [Instr.indexAt, asIntOf, run_underlying hT, k2, l1, hlt, Instr.sureAddr, add_mk]
  · exact (fail_ok h).elim

theorem sgAt_sound : ∀ {l : List Sg} {k : Nat} {x : Lin}, sgAt l k = some x → (sgs ρ l)[k]? = some (UInt8.ofNat (x.ev ρ.a).toNat)
  | [], _, _, h => by cases h
  | .b _ :: _, _, _, h => by cases h
  | .y x :: l, 0, z, h => by cases h; simp [sgs, Sg.bytes]
  | .y x :: l, k + 1, z, h => by
    simp only [sgAt] at h
    simpa [sgs, Sg.bytes] using sgAt_sound h
theorem natOf_some {x : Lin} {k : Nat} (h : natOf x = some k) : x.ev ρ.a = k := by
  unfold natOf at h
  split at h <;> cases h
  rename_i h1 h2
  simp [Lin.ev, h1, h2, evT]
theorem indexD_sound (hΓ : CxOk Γ ρ) {T : Nat} {x i r : DV} {u v : Value} (hu : W ρ θ x u) (hv : W ρ θ i v) (h : indexD Γ P T x i = .ok r) (w : World) : ∃ z, W ρ θ r z ∧ (Instr.index T u v).run P w = .ok z w := by
  unfold indexD at h
  split at h
  · rename_i l kk z hT
    split at h <;> try exact (fail_ok h).elim
    rename_i k hl hc
    split at h <;> try exact (fail_ok h).elim
    rename_i x hx
    obtain ⟨h1, h⟩ := cond_fail h
    cases h
    have hb := inI_sound hΓ.b h1
    simp only [W] at hu hv
    subst hu hv
    have hz : z.ev ρ.a = (k : Int) := by rw [Lin.ev_of_lit hl, hc]; rfl
    have hs := sgAt_sound (ρ := ρ) hx
    have hlt := (List.getElem?_eq_some_iff.1 hs).1
    refine ⟨.int .u8 (x.ev ρ.a), by simp only [W], ?_⟩
    rw [hz]
    have hlt' : k < (strOf ρ l).size := by rw [strOf_size]; exact hlt
    have hg : (strOf ρ l).data.toList[k]? = some (UInt8.ofNat (x.ev ρ.a).toNat) := by rw [strOf_data]; exact hs
    have hb2 : (strOf ρ l)[k]? = some (UInt8.ofNat (x.ev ρ.a).toNat) := by
      rw [ByteArray.getElem?_lt' _ _ hlt']
      have := (List.getElem?_eq_some_iff.1 hg).2
      have h9 : (strOf ρ l).data[k]'hlt' = UInt8.ofNat (x.ev ρ.a).toNat := by simpa using this
      exact congrArg some h9
    simp [Instr.index, asIntOf, run_underlying hT, hb2]
    omega
  · rename_i len e l kk z hT
    split at h <;> try exact (fail_ok h).elim
    rename_i g s k hk hl hc
    obtain ⟨h1, h⟩ := cond_fail h
    simp only [W] at hu hv
    obtain ⟨cs, rfl, hcs⟩ := hu
    subst hv
    have hz : z.ev ρ.a = (k : Int) := by rw [Lin.ev_of_lit hl, hc]; rfl
    obtain ⟨u, e1, e2⟩ := partD_sound (P := P) (optR_ok h) hcs w
    obtain ⟨_, k2⟩ := run_kind hk w
    have hlt := nblt h1
    refine ⟨u, e1, ?_⟩
    rw [hz]
    simp [Instr.index, asIntOf, run_underlying hT, k2, hlt, e2]
  · exact (fail_ok h).elim
end
end
end Go.Q

namespace Go.Q
noncomputable section
open Go.RowKit
open Go.Z hiding cond_false get

section
variable {Γ : Cx} {ρ : Rh} {θ : Tz} {P : Program} {s : St} {w : World}

theorem run_bound (k : IntKind) (i y : Nat) (code : BoundsCode) (h : i ≤ y) (w : World) : (Instr.sliceBound (.int k (i : Int)) y code).run P w = .ok i w := by
  simp [Instr.sliceBound, asIntOf, h]
def Bd (v : Option Value) (i d : Nat) : Prop := match v with
  | none => i = d
  | some v => ∃ k, v = .int k (i : Int)
theorem run_bounds (isSlice : Bool) (len cap : Nat) (lo hi mx : Option Value) (l h m : Nat) (hl : Bd lo l 0) (hh : Bd hi h len) (hm : Bd mx m cap) (hx : mx.isSome = true → hi.isSome = true) (h1 : l ≤ h) (h2 : h ≤ m) (h3 : m ≤ cap) (w : World) :
    (Instr.sliceBounds isSlice len cap lo hi mx).run P w = .ok (l, h, m) w := by
  unfold Instr.sliceBounds
  cases mx with
  | none =>
    simp only [Bd] at hm; subst hm
    cases hi with
    | none =>
      simp only [Bd] at hh; subst hh
      cases lo with
      | none => simp only [Bd] at hl; subst hl; rfl
      | some v => obtain ⟨k, rfl⟩ := hl; simp [run_bound, h1]
    | some v =>
      obtain ⟨k, rfl⟩ := hh
      cases lo with
      | none => simp only [Bd] at hl; subst hl; simp [run_bound, h2]
      | some v => obtain ⟨k, rfl⟩ := hl; simp [run_bound, h1, h2]
  | some v =>
    obtain ⟨k, rfl⟩ := hm
    cases hi with
    | none => simp at hx
    | some v =>
      obtain ⟨k, rfl⟩ := hh
      cases lo with
      | none => simp only [Bd] at hl; subst hl; simp [run_bound, h2, h3]
      | some v => obtain ⟨k, rfl⟩ := hl; simp [run_bound, h1, h2, h3]

theorem sliceL_sound (hΓ : CxOk Γ ρ) {n es : Nat} {o len q lo hi : Lin} {cp mx : Option Lin} {r : DV} {u : Value} (hu : W ρ θ (.l n es o len cp q) u) (h : sliceL Γ n es o len cp q lo hi mx = .ok r) :
    ∃ (a : Option Addr) (C l h m : Nat), u = .slice a (len.ev ρ.a).toNat C ∧ lo.ev ρ.a = l ∧ hi.ev ρ.a = h ∧ (match mx with | none => m = C | some x => x.ev ρ.a = m) ∧ l ≤ h ∧ h ≤ m ∧ m ≤ C ∧
      W ρ θ r (.slice (if m = l then a else a.map (·.add (l * es))) (h - l) (m - l)) := by
  unfold sliceL at h
  simp only [W] at hu
  obtain ⟨L, hL, hes, ho, hlen, hq, C, hC, hlC, rfl⟩ := hu
  obtain ⟨hb, h⟩ := cond_fail h
  simp only [Bool.and_eq_true] at hb
  obtain ⟨b1, b2, b3⟩ := hb
  have b1 := le0_sound hΓ b1
  have b2 := le0_sound hΓ b2
  rw [ev_lit] at b1
  have hCle : (o.ev ρ.a).toNat + C * es ≤ L.sz := by cases cp with
    | none => simp only at hC; omega
    | some c => simp only at hC; exact hC.2
  have hadd : ∀ A l, (some (⟨L.b, A, none⟩ : Addr)).map (·.add (l * es)) = some ⟨L.b, A + l * es, none⟩ := fun A l => by simp [add_mk]
  cases hlo : lo.eqb (lit 0) with
  | true =>
    rw [hlo] at h
    have hl0 := Lin.eqb_eq hlo
    subst hl0
    simp only [_root_.cond_true] at h
    cases mx with
    | none =>
      simp only at h b3
      cases h
      have b3 := le0_sound hΓ b3
      rw [ev_lit] at b2
      refine ⟨_, C, 0, (hi.ev ρ.a).toNat, C, rfl, by rw [ev_lit]; rfl, by omega, rfl, by omega, by omega, Nat.le_refl _, ?_⟩
      simp only [W]
      refine ⟨L, hL, hes, ho, by omega, hq, C, hC, by omega, ?_⟩
      rw [hadd]
      by_cases hc : C = 0 <;> simp [hc]
    | some m =>
      simp only [Bool.and_eq_true] at h b3
      obtain ⟨h4, h⟩ := cond_fail h
      cases h
      have b4 := le0_sound hΓ b3.1
      have b5 := le0_sound hΓ b3.2
      rw [ev_lit] at b2
      refine ⟨_, C, 0, (hi.ev ρ.a).toNat, (m.ev ρ.a).toNat, rfl, by rw [ev_lit]; rfl, by omega, by show _ = _; omega, by omega, by omega, by omega, ?_⟩
      simp only [W]
      have hmul : (m.ev ρ.a).toNat * es ≤ C * es := Nat.mul_le_mul_right _ (by omega)
      refine ⟨L, hL, hes, ho, by omega, ho, (m.ev ρ.a).toNat, ⟨by omega, by omega⟩, by omega, ?_⟩
      have hA : (if C = 0 then (q.ev ρ.a).toNat else (o.ev ρ.a).toNat) = (o.ev ρ.a).toNat := by
        simp only [Bool.or_eq_true] at h4
        rcases h4 with h4 | h4
        · rw [Lin.eqb_eq h4]; simp
        · have := le0_sound hΓ h4
          rw [ev_lit] at this
          rw [if_neg (by omega)]
      rw [hadd, hA]
      by_cases hc : (m.ev ρ.a).toNat = 0 <;> simp [hc]
  | false =>
    rw [hlo] at h
    simp only [_root_.cond_false] at h
    obtain ⟨h4, h⟩ := cond_fail h
    have h4 := le0_sound hΓ h4
    rw [ev_lit] at h4
    cases h
    have key : ∀ (M : Nat) (c' : Option Lin), (lo.ev ρ.a) ≤ hi.ev ρ.a → hi.ev ρ.a ≤ M → M ≤ C →
        (match c' with | none => L.sz = (o.ev ρ.a).toNat + M * es | some c => c.ev ρ.a = ((M - (lo.ev ρ.a).toNat : Nat) : Int)) →
        W ρ θ (.l n es (o.add (lo.mul es)) (hi.sub lo) c' o) (.slice (if M = (lo.ev ρ.a).toNat then some ⟨L.b, if C = 0 then (q.ev ρ.a).toNat else (o.ev ρ.a).toNat, none⟩ else (some (⟨L.b, if C = 0 then (q.ev ρ.a).toNat else (o.ev ρ.a).toNat, none⟩ : Addr)).map (·.add ((lo.ev ρ.a).toNat * es))) ((hi.ev ρ.a).toNat - (lo.ev ρ.a).toNat) (M - (lo.ev ρ.a).toNat)) := by
      intro M c' g1 g2 g3 g4
      have hc : C ≠ 0 := by omega
      have hlm : ((es : Int) * lo.ev ρ.a) = (((lo.ev ρ.a).toNat * es : Nat) : Int) := by
        rw [Int.natCast_mul, Int.toNat_of_nonneg b1, Int.mul_comm]
      have e1 : (o.add (lo.mul es)).ev ρ.a = o.ev ρ.a + (((lo.ev ρ.a).toNat * es : Nat) : Int) := by rw [ev_add, ev_mul, hlm]
      have e2 : (hi.sub lo).ev ρ.a = hi.ev ρ.a - lo.ev ρ.a := ev_sub _ _ _
      have hsub : (M - (lo.ev ρ.a).toNat) * es = M * es - (lo.ev ρ.a).toNat * es := Nat.sub_mul _ _ _
      have hmul : M * es ≤ C * es := Nat.mul_le_mul_right _ g3
      have hmul2 : (lo.ev ρ.a).toNat * es ≤ M * es := Nat.mul_le_mul_right _ (by omega)
      simp only [W]
      refine ⟨L, hL, hes, by rw [e1]; omega, by rw [e2]; omega, ho, M - (lo.ev ρ.a).toNat, ?_, by rw [e2]; omega, ?_⟩
      · cases c' with
        | none => simp only at g4 ⊢; rw [e1, hsub]; omega
        | some c => simp only at g4 ⊢; exact ⟨g4, by rw [e1, hsub]; omega⟩
      · rw [hadd, if_neg hc, e1, e2]
        have t1 : (o.ev ρ.a + (((lo.ev ρ.a).toNat * es : Nat) : Int)).toNat = (o.ev ρ.a).toNat + (lo.ev ρ.a).toNat * es := by omega
        have t2 : (hi.ev ρ.a - lo.ev ρ.a).toNat = (hi.ev ρ.a).toNat - (lo.ev ρ.a).toNat := by omega
        rw [t1, t2]
        by_cases hM : M = (lo.ev ρ.a).toNat
        · simp [hM]
        · rw [if_neg hM, if_neg (by omega)]
    cases mx with
    | none =>
      simp only at b3
      have b3 := le0_sound hΓ b3
      refine ⟨_, C, (lo.ev ρ.a).toNat, (hi.ev ρ.a).toNat, C, rfl, by omega, by omega, rfl, by omega, by omega, Nat.le_refl _, key C _ b2 (by omega) (Nat.le_refl _) ?_⟩
      cases cp with
      | none => exact hC
      | some c => simp only at hC ⊢; rw [ev_sub]; omega
    | some m =>
      simp only [Bool.and_eq_true] at b3
      have b4 := le0_sound hΓ b3.1
      have b5 := le0_sound hΓ b3.2
      refine ⟨_, C, (lo.ev ρ.a).toNat, (hi.ev ρ.a).toNat, (m.ev ρ.a).toNat, rfl, by omega, by omega, by show _ = _; omega, by omega, by omega, by omega, key (m.ev ρ.a).toNat _ b2 (by omega) (by omega) ?_⟩
      simp only; rw [ev_sub]; omega

theorem takeS_sound : ∀ {k : Nat} {l a b : List Sg}, takeS k l = some (a, b) → sgs ρ l = sgs ρ a ++ sgs ρ b ∧ (sgs ρ a).length = k
  | 0, l, a, b, h => by cases h; exact ⟨rfl, rfl⟩
  | k + 1, [], a, b, h => by cases h
  | k + 1, .b i :: l, a, b, h => by cases h
  | k + 1, .y x :: l, a, b, h => by
    simp only [takeS] at h
    split at h <;> cases h
    rename_i a' h1
    obtain ⟨e1, e2⟩ := takeS_sound h1
    exact ⟨by simp only [sgs, e1, List.append_assoc], by simp [sgs, Sg.bytes, e2]⟩
theorem strOf_extract (l : List Sg) (i j : Nat) : (strOf ρ l).extract i j = ⟨((sgs ρ l).toArray.extract i j)⟩ := by
  apply ByteArray.ext
  simp [strOf]
def OptEv (ρ : Rh) (x : Option Lin) (d j : Nat) : Prop := match x with
  | none => j = d
  | some y => y.ev ρ.a = j
theorem sliceStr_sound {l : List Sg} {lo hi : Option Lin} {r : DV} (h : sliceStr l lo hi = .ok r) :
    ∃ i j : Nat, OptEv ρ lo 0 i ∧ OptEv ρ hi (strOf ρ l).size j ∧ i ≤ j ∧ j ≤ (strOf ρ l).size ∧ W ρ θ r (.string ((strOf ρ l).extract i j)) := by
  unfold sliceStr at h
  split at h
  · exact (fail_ok h).elim
  rename_i a ha
  have hpre : ∃ j, OptEv ρ hi (strOf ρ l).size j ∧ ∃ b, sgs ρ l = sgs ρ a ++ b ∧ (sgs ρ a).length = j := by
    cases hi with
    | none => cases ha; exact ⟨_, rfl, [], by simp, by rw [strOf_size]⟩
    | some z =>
      simp only at ha
      split at ha
      · cases ha
      rename_i k hk
      split at ha
      · rename_i a' b' h1
        cases ha
        obtain ⟨e1, e2⟩ := takeS_sound (ρ := ρ) h1
        exact ⟨k, natOf_some hk, _, e1, e2⟩
      · cases ha
  obtain ⟨j, hj, b, e1, e2⟩ := hpre
  have hsz : (strOf ρ l).size = j + b.length := by rw [strOf_size, e1]; simp [e2]
  cases lo with
  | none =>
    cases h
    refine ⟨0, j, rfl, hj, Nat.zero_le _, by omega, ?_⟩
    simp only [W]
    rw [strOf_extract, e1]
    simp [strOf, ← e2]
  | some z =>
    simp only at h
    split at h
    · exact (fail_ok h).elim
    rename_i k hk
    split at h
    · rename_i a' b' h1
      cases h
      obtain ⟨f1, f2⟩ := takeS_sound (ρ := ρ) h1
      have hle : k ≤ j := by rw [← e2, f1]; simp [f2]
      refine ⟨k, j, natOf_some hk, hj, hle, by omega, ?_⟩
      simp only [W]
      rw [strOf_extract, e1]
      have : ((sgs ρ a' ++ sgs ρ b' ++ b).toArray.extract k j) = (sgs ρ b').toArray := by
        apply Array.ext'
        simp only [Array.toList_extract, List.extract_eq_take_drop, List.append_assoc]
        rw [List.drop_append, List.drop_of_length_le (by omega), f2, Nat.sub_self, List.drop_zero, List.nil_append]
        have hb : (sgs ρ b').length = j - k := by
          have := e2; rw [f1, List.length_append, f2] at this; omega
        rw [List.take_append, List.take_of_length_le (by omega), hb, Nat.sub_self, List.take_zero, List.append_nil]
      rw [f1, this]
      rfl
    · exact (fail_ok h).elim

def LinV (ρ : Rh) (x : Option Lin) (v : Option Value) : Prop := match x, v with
  | none, none => True
  | some x, some v => ∃ k, v = .int k (x.ev ρ.a)
  | _, _ => False
theorem sliceD_sound (hΓ : CxOk Γ ρ) {T : Nat} {x r : DV} {u : Value} {lo hi mx : Option Lin} {vl vh vm : Option Value} (hu : W ρ θ x u) (hl : LinV ρ lo vl) (hh : LinV ρ hi vh) (hm : LinV ρ mx vm) (hx : mx.isSome = true → hi.isSome = true)
    (h : sliceD Γ P T x lo hi mx = .ok r) (w : World) : ∃ z, W ρ θ r z ∧ (Instr.sliceAt T u vl vh vm).run P w = .ok z w := by
  have bd : ∀ {x : Option Lin} {v : Option Value} {i d : Nat}, LinV ρ x v → (x = none → i = d) → (∀ y, x = some y → y.ev ρ.a = i) → Bd v i d := by
    intro x v i d h1 h2 h3
    cases x <;> cases v <;> simp only [LinV] at h1
    · exact h2 rfl
    · obtain ⟨k, rfl⟩ := h1; exact ⟨k, by rw [h3 _ rfl]⟩
  have sm : ∀ {x : Option Lin} {v : Option Value}, LinV ρ x v → v.isSome = x.isSome := by
    intro x v h1
    cases x <;> cases v <;> simp [LinV] at h1 ⊢
  unfold sliceD at h
  split at h
  · rename_i e n es o len cp q hT
    split at h <;> try exact (fail_ok h).elim
    rename_i g sz hk
    obtain ⟨h1, h⟩ := cond_fail h
    have h1 := nbeq h1
    subst h1
    obtain ⟨a, C, l, h', m, rfl, e1, e2, e3, e4, e5, e6, e7⟩ := sliceL_sound hΓ hu h
    obtain ⟨_, k2⟩ := run_kind hk w
    have hb := run_bounds (P := P) true (len.ev ρ.a).toNat C vl vh vm l h' m (bd hl (fun e => by subst e; simp only [Option.getD_none, ev_lit] at e1; omega) (fun y e => by subst e; simpa using e1))
      (bd hh (fun e => by subst e; simp only [Option.getD_none] at e2; omega) (fun y e => by subst e; simpa using e2)) (bd hm (fun e => by subst e; exact e3) (fun y e => by subst e; exact e3)) (fun hv => by rw [sm hm] at hv; rw [sm hh]; exact hx hv) e4 e5 e6 w
    refine ⟨_, e7, ?_⟩
    simp [Instr.sliceAt, run_underlying hT, Instr.slice, hb, k2]
  · rename_i e hT
    split at h <;> try exact (fail_ok h).elim
    rename_i gs hk
    obtain ⟨g, sz⟩ := gs
    obtain ⟨h1, h⟩ := cond_fail h
    simp only [Bool.and_eq_true] at h1
    cases h
    simp only [W] at hu
    subst hu
    obtain ⟨_, k2⟩ := run_kind hk w
    have z : ∀ {x : Option Lin}, (x.getD (lit 0)).eqb (lit 0) = true → ∀ y, x = some y → y.ev ρ.a = (0 : Nat) := fun hx y e => by
      subst e
      have hx' : y.eqb (lit 0) = true := hx
      rw [Lin.eqb_eq hx', ev_lit]; rfl
    have hb := run_bounds (P := P) true 0 0 vl vh vm 0 0 0 (bd hl (fun _ => rfl) (z h1.1)) (bd hh (fun _ => rfl) (z h1.2.1)) (bd hm (fun _ => rfl) (z h1.2.2)) (fun hv => by rw [sm hm] at hv; rw [sm hh]; exact hx hv) (Nat.le_refl _) (Nat.le_refl _) (Nat.le_refl _) w
    refine ⟨.slice none 0 0, W_c _, ?_⟩
    simp [Instr.sliceAt, run_underlying hT, Instr.slice, hb, k2]
  · rename_i l hT
    split at h <;> try exact (fail_ok h).elim
    obtain ⟨i, j, e1, e2, e3, e4, e5⟩ := sliceStr_sound (ρ := ρ) (θ := θ) h
    simp only [W] at hu
    subst hu
    have hvm : vm = none := by
      cases vm with
      | none => rfl
      | some v => simp [LinV] at hm
    subst hvm
    have hb := run_bounds (P := P) false (strOf ρ l).size (strOf ρ l).size vl vh none i j (strOf ρ l).size (bd hl (fun e => by subst e; exact e1) (fun y e => by subst e; exact e1)) (bd hh (fun e => by subst e; exact e2) (fun y e => by subst e; exact e2)) rfl (fun h => by cases h) e3 e4 (Nat.le_refl _) w
    refine ⟨_, e5, ?_⟩
    simp [Instr.sliceAt, run_underlying hT, Instr.slice, hb]
  · exact (fail_ok h).elim
theorem sliceOp_sound (hΓ : CxOk Γ ρ) {T : Nat} {vs : List DV} {r : DV} {ev : Operand → Value} {x : Operand} {lo hi mx : Option Operand} (hv : WL ρ θ vs ((#[x] ++ lo.toArray ++ hi.toArray ++ mx.toArray).toList.map ev))
    (h : sliceOp Γ P T lo.isSome hi.isSome mx.isSome vs = .ok r) (w : World) : ∃ z, W ρ θ r z ∧ (Instr.sliceAt T (ev x) (lo.map ev) (hi.map ev) (mx.map ev)).run P w = .ok z w := by
  have lv : ∀ {k : IntKind} {z : Lin} {v : Value}, W ρ θ (.n k z) v → LinV ρ (some z) (some v) := fun {k z v} h => by
    simp only [W] at h
    exact ⟨k, h⟩
  unfold sliceOp at h
  split at h <;> rename_i e1 e2 e3 <;> (try exact (fail_ok h).elim) <;> cases lo <;> cases hi <;> cases mx <;> (try simp at e1) <;> (try simp at e2) <;> (try simp at e3) <;> simp only [Option.toArray, Array.append_empty, Array.toList_append, List.cons_append, List.nil_append, List.map_cons, List.map_nil, WL] at hv
  · exact sliceD_sound (lo := none) (hi := none) (mx := none) (vl := none) (vh := none) (vm := none) hΓ hv.1 trivial trivial trivial (fun h => by cases h) h w
  · exact sliceD_sound (hi := none) (mx := none) (vl := some _) (vh := none) (vm := none) hΓ hv.1 (lv hv.2.1) trivial trivial (fun h => by cases h) h w
  · exact sliceD_sound (lo := none) (mx := none) (vl := none) (vh := some _) (vm := none) hΓ hv.1 trivial (lv hv.2.1) trivial (fun h => by cases h) h w
  · exact sliceD_sound (mx := none) (vl := some _) (vh := some _) (vm := none) hΓ hv.1 (lv hv.2.1) (lv hv.2.2.1) trivial (fun h => by cases h) h w
  · exact sliceD_sound (lo := none) (vl := none) (vh := some _) (vm := some _) hΓ hv.1 trivial (lv hv.2.1) (lv hv.2.2.1) (fun _ => rfl) h w
  · exact sliceD_sound (vl := some _) (vh := some _) (vm := some _) hΓ hv.1 (lv hv.2.1) (lv hv.2.2.1) (lv hv.2.2.2.1) (fun _ => rfl) h w
end
end
end Go.Q

namespace Go.Q
noncomputable section
open Go.RowKit
open Go.Z hiding cond_false get

section
variable {Γ : Cx} {ρ : Rh} {θ : Tz} {P : Program} {s : St} {w : World}

theorem fieldD_sound {T f : Nat} {x r : DV} {u : Value} (hu : W ρ θ x u) (h : fieldD P T f x = .ok r) (w : World) : ∃ z, W ρ θ r z ∧ (Instr.field T u f).run P w = .ok z w := by
  unfold fieldD at h
  split at h <;> try exact (fail_ok h).elim
  rename_i fs l hT
  split at h <;> try exact (fail_ok h).elim
  rename_i fl hf
  simp only [W] at hu
  obtain ⟨cs, rfl, hcs⟩ := hu
  obtain ⟨z, h1, h2⟩ := partD_sound (P := P) (optR_ok h) hcs w
  exact ⟨z, h1, by simp [Instr.field, run_underlying hT, hf, asAgg, h2]⟩

def PW (ρ : Rh) (θ : Tz) : List (Nat × DV) → List (Nat × Value) → Prop
  | [], [] => True
  | x :: l, y :: m => (x.1 = y.1 ∧ W ρ θ x.2 y.2) ∧ PW ρ θ l m
  | _, _ => False
theorem PW_zip {parts : List (Nat × Value)} {vs : List DV} (hv : WL ρ θ vs (parts.map (·.2))) : PW ρ θ ((parts.map (·.1)).zip vs) parts := by
  induction parts generalizing vs with
  | nil => simp [PW]
  | cons p ps ih =>
    obtain ⟨s, ss, h1, h2, h3⟩ : ∃ s ss, vs = s :: ss ∧ W ρ θ s p.2 ∧ WL ρ θ ss (ps.map (·.2)) := by
      cases vs with
      | nil => simp only [List.map_cons, WL] at hv
      | cons s ss => simp only [List.map_cons, WL] at hv; exact ⟨s, ss, rfl, hv.1, hv.2⟩
    subst h1
    simp only [List.map_cons, List.zip_cons_cons]
    exact ⟨⟨rfl, h2⟩, ih h3⟩
theorem fillD_sound {placeV placeS : Nat → Option (Nat × Nat)} (hp : ∀ i r, placeS i = some r → placeV i = some r) :
    ∀ (parts : List (Nat × DV)) (vparts : List (Nat × Value)) (cells : List DV) (vcells : Array Value) (r : List DV),
      PW ρ θ parts vparts → WL ρ θ cells vcells.toList → fillD placeS cells parts = some r →
      ∃ out : Array Value, Instr.fill placeV vcells vparts = some out ∧ WL ρ θ r out.toList
  | [], _ :: _, _, _, _, hf, _, _ => hf.elim
  | _ :: _, [], _, _, _, hf, _, _ => hf.elim
  | [], [], cells, vcells, r, hf, hv, hr => by
    simp [fillD] at hr; subst hr
    exact ⟨vcells, rfl, hv⟩
  | (i, x) :: rest, (j, v) :: ys, cells, vcells, r, hf, hv, hr => by
      obtain ⟨⟨hj, hvv⟩, ht⟩ := hf
      simp only at hj hvv
      subst hj
      unfold fillD at hr
      split at hr <;> try (cases hr; done)
      rename_i off size cs hpl hcs
      obtain ⟨hc, hr⟩ := condO hr
      simp only [Bool.and_eq_true] at hc
      have e1 := nbeq hc.1
      have e2 := nble hc.2
      have hcv := (cellsD_sound hcs hvv).1
      have l1 := WL_length hcv
      have l2 := WL_length hv
      have hsz : v.cells.size = size := by have : v.cells.toList.length = v.cells.size := by simp
                                           omega
      have hsz2 : vcells.toList.length = vcells.size := by simp
      have hst := fill_step vcells off v.cells (by omega)
      have hvl : WL ρ θ (cells.take off ++ (cs ++ cells.drop (off + size))) (v.cells.zipIdx.foldl (fun a (x : Value × Nat) => a.setIfInBounds (off + x.2) x.1) vcells).toList := by
        rw [hst, hsz]
        exact WL_append (WL_take off hv) (WL_append hcv (WL_drop _ hv))
      obtain ⟨out, h1, h2⟩ := fillD_sound hp rest ys _ _ r ht hvl hr
      refine ⟨out, ?_, h2⟩
      unfold Instr.fill
      rw [hp i _ hpl]
      simp only
      rw [if_neg (by simp only [Bool.or_eq_true, decide_eq_true_eq, not_or]; exact ⟨fun hne => hne hsz, by omega⟩)]
      exact h1
theorem zeroL_some {T : Nat} {z : List DV} (h : zeroL P T = some z) : ∃ i zv, P.info? T = some i ∧ i.zero = some zv ∧ z = zv.cells.toList.map lift1 := by
  unfold zeroL at h
  split at h <;> try (cases h; done)
  rename_i i hi
  split at h <;> cases h
  rename_i zv hz
  exact ⟨i, zv, hi, hz, rfl⟩
theorem buildD_sound {T : Nat} {parts : List (Nat × Value)} {ixs : List Nat} {vs : List DV} {r : DV} (hix : parts.map (·.1) = ixs) (hvs : WL ρ θ vs (parts.map (·.2))) (h : buildD P T ixs vs = .ok r) (w : World) :
    ∃ z, W ρ θ r z ∧ (Instr.build T parts.toArray).run P w = .ok z w := by
  unfold buildD at h
  split at h <;> try exact (fail_ok h).elim
  rename_i z pl hz hpl hall
  split at h <;> cases h
  rename_i cs hcs
  obtain ⟨ti, zv, hti, hzv, rfl⟩ := zeroL_some hz
  have hf2 : PW ρ θ (ixs.zip vs) parts := by subst hix; exact PW_zip hvs
  have hz0 : WL ρ θ (zv.cells.toList.map lift1) zv.cells.toList := WL_lift1 _
  unfold placesT at hpl
  split at hpl
  · rename_i fs hu
    cases hpl
    obtain ⟨out, h1, h2⟩ := fillD_sound (ρ := ρ) (θ := θ) (placeV := fun i => (fs.map fun f => (f.offset, P.cellsOf f.type))[i]?) (fun i r hr => by
      cases hfi : fs[i]? with
      | none => rw [hfi] at hr; cases hr
      | some f =>
        rw [hfi] at hr
        simp only at hr
        cases hti' : P.info? f.type with
        | none => rw [hti'] at hr; cases hr
        | some t =>
          rw [hti'] at hr; cases hr
          simp [hfi, Program.cellsOf, hti']) _ _ _ _ _ hf2 hz0 hcs
    refine ⟨.agg out, by simp only [W]; exact ⟨out.toList, by simp, h2⟩, ?_⟩
    have hm : (fs.mapM fun f => (do pure (f.offset, ← sizeOf f.type) : Sem (Nat × Nat))).run P w = .ok (fs.map fun f => (f.offset, P.cellsOf f.type)) w := by
      refine run_mapM_array _ _ w fs (fun f hf => ?_)
      unfold allInfo at hall
      rw [hu] at hall
      have := List.all_eq_true.1 hall f hf
      obtain ⟨t, ht⟩ := Option.isSome_iff_exists.1 this
      simp [Go.Z.run_sizeOf ht, Program.cellsOf, ht]
    simp only [Instr.build, Sem.run_bind, run_zero hti hzv, Result.andThen, run_underlying hu, hm]
    rw [h1]
    rfl
  · rename_i n e hu
    split at hpl <;> cases hpl
    rename_i t ht
    obtain ⟨out, h1, h2⟩ := fillD_sound (ρ := ρ) (θ := θ) (placeV := fun i => some (i * t.size, t.size)) (fun i r hr => hr) _ _ _ _ _ hf2 hz0 hcs
    refine ⟨.agg out, by simp only [W]; exact ⟨out.toList, by simp, h2⟩, ?_⟩
    simp only [Instr.build, Sem.run_bind, run_zero hti hzv, Result.andThen, run_underlying hu, Go.Z.run_sizeOf ht]
    rw [h1]
    rfl
  · cases hpl

theorem mapAt_some {n : Nat} {es : List (DV × DV)} {ver : Nat} (h : mapAt s n = some (es, ver)) : s.get n = some (.map es ver) := by
  unfold mapAt at h
  split at h <;> cases h
  assumption
theorem EW_length : ∀ {es : List (DV × DV)} {ms : List MapEntry}, EW ρ θ es ms → es.length = ms.length
  | [], [], _ => rfl
  | [], _ :: _, h => h.elim
  | _ :: _, [], h => h.elim
  | (_, _) :: _, _ :: _, h => by simp [EW_length h.2.2]

theorem keyOk_sound (m : Nat) (e : Bool) : ∀ (d : Nat) {T : Nat} {x : DV} {u : Value}, keyOk P d T x = true → W ρ θ x u → (Instr.checkKey e (d + m) T u).run P w = .ok () w
  | 0, T, x, u, h, _ => by cases h
  | d + 1, T, x, u, h, hu => by
    rw [show d + 1 + m = (d + m) + 1 by omega, Instr.checkKey]
    unfold keyOk at h
    split at h <;> try (cases h; done)
    all_goals rename_i hT
    all_goals simp only [W] at hu
    · subst hu; simp [Sem.run_bind, run_underlying hT, Result.andThen]
    · subst hu; simp [Sem.run_bind, run_underlying hT, Result.andThen]
    · subst hu; simp [Sem.run_bind, run_underlying hT, Result.andThen]
    · rename_i fs xs
      obtain ⟨us, rfl, hx⟩ := hu
      have key : ∀ (l : List Field), keyFs (keyOk P d) P xs l = true → (forIn (m := Sem) l PUnit.unit (fun f (_ : PUnit) => do
          if f.name ≠ "_" then Instr.checkKey e (d + m) f.type (← part f.type us.toArray f.offset)
          pure (ForInStep.yield PUnit.unit))).run P w = .ok PUnit.unit w := by
        intro l
        induction l with
        | nil => intro _; rfl
        | cons f l ih =>
          intro hl
          unfold keyFs at hl
          split at hl <;> try (cases hl; done)
          rename_i x hx1
          simp only [Bool.and_eq_true] at hl
          obtain ⟨v, e1, e2⟩ := partD_sound (P := P) hx1 hx w
          have e3 := keyOk_sound m e d hl.1 e1
          rw [List.forIn_cons]
          have ih := ih hl.2
          by_cases hn : f.name = "_"
          · simp only [hn, ne_eq, not_true_eq_false, if_false, Sem.run_bind, Result.andThen, Sem.run_pure]
            exact ih
          · simp only [ne_eq, hn, not_false_eq_true, if_true, Sem.run_bind, e2, e3, Result.andThen, Sem.run_pure]
            exact ih
      simp only [Sem.run_bind, run_underlying hT, Result.andThen, ← Array.forIn_toList]
      have := key fs.toList h
      simp only [this]
      rfl

theorem sameNow_sound (hΓ : CxOk Γ ρ) {d T : Nat} {D : TypeDesc} {x y : DV} {b c : Bool} {u v : Value} (hT : P.underlying T = some D) (h : eqV Γ P (d + 1) T x y = some b) (hu : W ρ θ x u) (hv : W ρ θ y v) (hc : Instr.sameNow D u v = some c) : c = b := by
  simp only [eqV, hT] at h
  split at h <;> try (cases h; done)
  all_goals rename_i heq
  all_goals (try simp only [Option.some.injEq] at heq)
  all_goals (try subst heq)
  all_goals try simp only [W] at hu hv
  all_goals try (subst hu hv)
  · cases h; simp [Instr.sameNow] at hc; exact hc.symm
  · split at h <;> try (cases h; done)
    rename_i hk
    subst hk
    have := eqD_sound hΓ.b h
    simp [Instr.sameNow] at hc
    rw [← this, ← hc]
    rfl
  · have := eqStr_sound hΓ h
    simp [Instr.sameNow] at hc
    rw [← hc, strOf_beq, this]
  all_goals first
    | (simp [Instr.sameNow] at hc; done)
    | (obtain ⟨L, _, _, rfl⟩ := hv; simp [Instr.sameNow] at hc; done)
    | (obtain ⟨L, _, _, rfl⟩ := hu; simp [Instr.sameNow] at hc; done)
    | (obtain ⟨L, _, _, _, _, _, C, _, _, rfl⟩ := hu; simp [Instr.sameNow] at hc; done)
    | (obtain ⟨L, _, _, _, _, _, C, _, _, rfl⟩ := hv; simp [Instr.sameNow] at hc; done)
    | (obtain ⟨L, _, rfl⟩ := hu; simp [Instr.sameNow] at hc; done)
    | (obtain ⟨cs, ds, rfl, _⟩ := hu; simp [Instr.sameNow] at hc; done)
    | (obtain ⟨us, rfl, _⟩ := hu; obtain ⟨vs, rfl, _⟩ := hv; simp [Instr.sameNow] at hc; done)

def findF (f : MapEntry → Bool) : List MapEntry → Nat → Option (Nat × Value)
  | [], _ => none
  | e :: l, i => if f e then some (i, e.val) else findF f l (i + 1)
theorem run_find {kt : Nat} {D : TypeDesc} {kv : Value} {f : MapEntry → Bool} (hT : P.underlying kt = some D) (ms : List MapEntry) (hf : ∀ e ∈ ms, (Op.equal kt kv e.key).run P w = .ok (f e) w ∧ ∀ c, Instr.sameNow D kv e.key = some c → c = f e) :
    (Instr.findKey kt kv ms).run P w = .ok (findF f ms 0) w := by
  have h1 : ∀ (l : List MapEntry) (i : Nat), (∀ e ∈ l, e ∈ ms) → (Instr.findAsking kt kv l i).run P w = .ok (findF f l i) w := by
    intro l
    induction l with
    | nil => intro i _; rfl
    | cons e l ih =>
      intro i hl
      have h2 := (hf e (hl e (.head _))).1
      unfold Instr.findAsking findF
      simp only [Sem.run_bind, h2, Result.andThen]
      cases f e with
      | true => rfl
      | false => exact ih (i + 1) fun e he => hl e (.tail _ he)
  have h3 : ∀ (l : List MapEntry) (i : Nat) (r : Option (Nat × Value)), (∀ e ∈ l, e ∈ ms) → Instr.findNow D kv l i = some r → r = findF f l i := by
    intro l
    induction l with
    | nil => intro i r _ h; cases h; rfl
    | cons e l ih =>
      intro i r hl h
      unfold Instr.findNow at h
      unfold findF
      split at h
      · rename_i hc
        cases h
        rw [← (hf e (hl e (.head _))).2 _ hc]; rfl
      · rename_i hc
        rw [← (hf e (hl e (.head _))).2 _ hc]
        exact ih (i + 1) r (fun e he => hl e (.tail _ he)) h
      · cases h
  unfold Instr.findKey
  simp only [Sem.run_bind, run_underlying hT, Result.andThen]
  cases hn : Instr.findNow D kv ms 0 with
  | some r => simp only [h3 ms 0 r (fun _ h => h) hn]; rfl
  | none => exact h1 ms 0 fun _ h => h
theorem findF_none {f : MapEntry → Bool} : ∀ {l : List MapEntry} {i : Nat}, (∀ e ∈ l, f e = false) → findF f l i = none
  | [], _, _ => rfl
  | e :: l, i, h => by unfold findF; rw [h e (.head _)]; exact findF_none fun e he => h e (.tail _ he)
theorem findF_some {f : MapEntry → Bool} {e0 : MapEntry} : ∀ {l : List MapEntry} {i : Nat}, e0 ∈ l → f e0 = true → (∀ e ∈ l, f e = true → e = e0) → ∃ j, findF f l i = some (i + j, e0.val) ∧ l[j]? = some e0
  | [], _, h, _, _ => by cases h
  | e :: l, i, h, h1, h2 => by
    unfold findF
    cases hf : f e with
    | true =>
      obtain rfl := h2 e (.head _) hf
      exact ⟨0, rfl, rfl⟩
    | false =>
      rcases List.mem_cons.1 h with rfl | h
      · rw [h1] at hf; cases hf
      · obtain ⟨j, e1, e2⟩ := findF_some (i := i + 1) h h1 fun e he => h2 e (.tail _ he)
        exact ⟨j + 1, by simp only [Bool.false_eq_true, if_false, e1]; congr 2; omega, by simpa using e2⟩

theorem findD_sound (hΓ : CxOk Γ ρ) {kt : Nat} {D : TypeDesc} (hT : P.underlying kt = some D) {key : DV} {kv : Value} (hk : W ρ θ key kv) (w : World) : ∀ {es : List (DV × DV)} {i : Nat} {r : Option (Nat × DV)} {ms : List MapEntry}, findD Γ P kt key es i = some r → EW ρ θ es ms → (ms.map (·.born)).Nodup →
    ∃ f : MapEntry → Bool, (∀ e ∈ ms, (Op.equal kt kv e.key).run P w = .ok (f e) w ∧ ∀ c, Instr.sameNow D kv e.key = some c → c = f e) ∧
      (match r with
      | none => ∀ e ∈ ms, f e = false
      | some (j, v) => ∃ e j', j = i + j' ∧ ms[j']? = some e ∧ W ρ θ v e.val ∧ f e = true ∧ ∀ e' ∈ ms, f e' = true → e' = e)
  | [], i, r, [], h, _, _ => by cases h; exact ⟨fun _ => false, fun e he => (by cases he), fun e he => (by cases he)⟩
  | [], _, _, _ :: _, _, h, _ => h.elim
  | _ :: _, _, _, [], _, h, _ => h.elim
  | (k, v) :: es, i, r, e :: ms, h, hE, hnd => by
    obtain ⟨h1, h2, h3⟩ := hE
    simp only [List.map_cons, List.nodup_cons] at hnd
    have hne : ∀ e' ∈ ms, e' ≠ e := fun e' he' hee => hnd.1 (by rw [← hee]; exact List.mem_map.2 ⟨e', he', rfl⟩)
    unfold findD at h
    split at h
    · rename_i heq
      obtain ⟨hr, h⟩ := condO h
      cases h
      have rest : ∀ {es : List (DV × DV)} {ms : List MapEntry}, restNe Γ P kt key es = true → EW ρ θ es ms → ∀ e ∈ ms, (Op.equal kt kv e.key).run P w = .ok false w ∧ ∀ c, Instr.sameNow D kv e.key = some c → c = false := by
        intro es
        induction es with
        | nil => intro ms _ hE e he; cases ms with
          | nil => cases he
          | cons _ _ => exact hE.elim
        | cons p es ih =>
          intro ms hr hE e he
          obtain ⟨k', v'⟩ := p
          cases ms with
          | nil => cases he
          | cons e0 ms =>
            unfold restNe at hr
            simp only [Bool.and_eq_true] at hr
            obtain ⟨g1, g2, g3⟩ := hE
            rcases List.mem_cons.1 he with rfl | he
            · have hb := hr.1
              split at hb <;> try (cases hb; done)
              rename_i b hb1
              have : b = false := by simpa using hb
              subst this
              exact ⟨equal_sound hΓ w hb1 hk g1, fun c hc => sameNow_sound (d := 7) hΓ hT hb1 hk g1 hc⟩
            · exact ih hr.2 g3 e he
      refine ⟨fun e' => e'.born == e.born, fun e' he' => ?_, e, 0, by omega, rfl, h2, by simp, fun e' he' hb => ?_⟩
      · rcases List.mem_cons.1 he' with rfl | he'
        · simp only [beq_self_eq_true]
          exact ⟨equal_sound hΓ w heq hk h1, fun c hc => sameNow_sound (d := 7) hΓ hT heq hk h1 hc⟩
        · have hb : (e'.born == e.born) = false := by
            simp only [beq_eq_false_iff_ne, ne_eq]
            exact fun h => hnd.1 (by rw [← h]; exact List.mem_map.2 ⟨e', he', rfl⟩)
          show (Op.equal kt kv e'.key).run P w = .ok (e'.born == e.born) w ∧ ∀ c, Instr.sameNow D kv e'.key = some c → c = (e'.born == e.born)
          rw [hb]
          exact rest hr h3 e' he'
      · rcases List.mem_cons.1 he' with rfl | he'
        · rfl
        · simp only [beq_iff_eq] at hb
          exact absurd (by rw [← hb]; exact List.mem_map.2 ⟨e', he', rfl⟩) hnd.1
    · rename_i heq
      obtain ⟨f, g1, g2⟩ := findD_sound hΓ hT hk w h h3 hnd.2
      have hE0 : (Op.equal kt kv e.key).run P w = .ok false w ∧ ∀ c, Instr.sameNow D kv e.key = some c → c = false := ⟨equal_sound hΓ w heq hk h1, fun c hc => sameNow_sound (d := 7) hΓ hT heq hk h1 hc⟩
      have hfne : ∀ e' ∈ ms, (e'.born == e.born) = false := fun e' he' => by
        simp only [beq_eq_false_iff_ne, ne_eq]
        exact fun h => hnd.1 (by rw [← h]; exact List.mem_map.2 ⟨e', he', rfl⟩)
      refine ⟨fun e' => if e'.born == e.born then false else f e', fun e' he' => ?_, ?_⟩
      · rcases List.mem_cons.1 he' with rfl | he'
        · simp only [beq_self_eq_true, if_true]; exact hE0
        · simp only [hfne e' he', Bool.false_eq_true, if_false]; exact g1 e' he'
      · cases r with
        | none =>
          intro e' he'
          rcases List.mem_cons.1 he' with rfl | he'
          · simp
          · simp only [hfne e' he', Bool.false_eq_true, if_false]; exact g2 e' he'
        | some p =>
          obtain ⟨j, v'⟩ := p
          obtain ⟨e1, j', rfl, q1, q2, q3, q4⟩ := g2
          have hm1 := List.mem_of_getElem? q1
          refine ⟨e1, j' + 1, by omega, by simpa using q1, q2, by simp only [hfne e1 hm1, Bool.false_eq_true, if_false]; exact q3, fun e' he' hb => ?_⟩
          rcases List.mem_cons.1 he' with rfl | he'
          · simp at hb
          · simp only [hfne e' he', Bool.false_eq_true, if_false] at hb
            exact q4 e' he' hb
    · cases h

theorem zeroD_sound {T : Nat} {z : DV} (h : zeroD P T = some z) (w : World) : ∃ v, W ρ θ z v ∧ (zeroValue T).run P w = .ok v w := by
  unfold zeroD at h
  split at h <;> try (cases h; done)
  rename_i i hi
  split at h <;> cases h
  rename_i zv hz
  exact ⟨zv, W_lift _, run_zero hi hz w⟩
theorem okD_sound {ok : Bool} {x : DV} {b : Bool} {v : Value} (hv : W ρ θ x v) : W ρ θ (okD ok x b) (if ok then .tuple #[v, .bool b] else v) := by
  cases ok with
  | false => exact hv
  | true =>
    show W ρ θ (.t [x, .c (.bool b)]) _
    simp only [W]
    exact ⟨[v, .bool b], rfl, by simp only [WL]; exact ⟨hv, W_bool b, trivial⟩⟩

theorem entriesOf_sound (hs : SatR ρ θ s w) {x : DV} {es : List (DV × DV)} {u : Value} (hu : W ρ θ x u) (h : entriesOf s x = some es) :
    ∃ ms Vms : List MapEntry, ms.Perm Vms ∧ EW ρ θ es Vms ∧ (Vms.map (·.born)).Nodup ∧ ((u = .map none ∧ ms = []) ∨ ∃ b clock, u = .map (some b) ∧ w.heap[b]? = some (.map ms.toArray clock)) := by
  unfold entriesOf at h
  split at h
  · cases h
    simp only [W] at hu
    exact ⟨[], [], .refl _, trivial, by simp, .inl ⟨hu, rfl⟩⟩
  · rename_i n
    split at h <;> cases h
    rename_i ver hm
    simp only [W] at hu
    obtain ⟨L, hL, rfl⟩ := hu
    obtain ⟨L', hL', V, h1, h2, ms, h3, h4, h5, h6, h7⟩ := hs.res n _ (mapAt_some hm)
    obtain rfl := Option.some.inj (hL.symm.trans hL')
    exact ⟨ms, V.ms, h4, h5, h6, .inr ⟨_, _, rfl, h3⟩⟩
  · cases h

theorem keyOk_desc {d T : Nat} {x : DV} (h : keyOk P d T x = true) : ∃ D, P.underlying T = some D := by
  cases d with
  | zero => cases h
  | succ d =>
    unfold keyOk at h
    cases hT : P.underlying T with
    | none => rw [hT] at h; simp at h
    | some D => exact ⟨D, rfl⟩
theorem lookupD_sound (hΓ : CxOk Γ ρ) (hs : SatR ρ θ s w) {T : Nat} {ok : Bool} {x y r : DV} {u v : Value} (hu : W ρ θ x u) (hv : W ρ θ y v) (h : lookupD Γ P T ok x y s = .ok r) :
    ∃ z, W ρ θ r z ∧ (Instr.lookup T u v ok).run P w = .ok z w := by
  unfold lookupD at h
  split at h <;> try exact (fail_ok h).elim
  rename_i kt vt es hT hes
  obtain ⟨hk, h⟩ := cond_fail h
  obtain ⟨ms, Vms, hp, hE, hnd, hu'⟩ := entriesOf_sound hs hu hes
  have hck : ∀ e : Bool, (Instr.checkKey e 10000 kt v).run P w = .ok () w := fun e => keyOk_sound 9992 e eqDepth hk hv
  obtain ⟨D, hD⟩ := keyOk_desc hk
  -- the run, given what is found
  have fin : ∀ {r : Option (Nat × Value)} {z z0 : Value}, (Instr.findKey kt v ms).run P w = .ok r w → (match r with | some (_, z1) => z1 = z | none => (zeroValue vt).run P w = .ok z w) →
      (Instr.lookup T u v ok).run P w = .ok (if ok then .tuple #[z, .bool r.isSome] else z) w := by
    intro r z z0 hr hz
    rcases hu' with ⟨rfl, rfl⟩ | ⟨b, clock, rfl, hb⟩
    · cases r with
      | none => simp only at hz; simp [Instr.lookup, run_underlying hT, hck, hr, hz]
      | some p => obtain ⟨i, z1⟩ := p; simp only at hz; subst hz; simp [Instr.lookup, run_underlying hT, hck, hr]
    · cases r with
      | none => simp only at hz; simp [Instr.lookup, run_underlying hT, Go.Z.run_getObj_map hb, hck, hr, hz]
      | some p => obtain ⟨i, z1⟩ := p; simp only at hz; subst hz; simp [Instr.lookup, run_underlying hT, Go.Z.run_getObj_map hb, hck, hr]
  split at h
  · rename_i z hf hz
    cases h
    obtain ⟨f, g1, g2⟩ := findD_sound hΓ hD hv w hf hE hnd
    obtain ⟨zv, e1, e2⟩ := zeroD_sound (ρ := ρ) (θ := θ) (P := P) hz w
    have hr := run_find (P := P) (w := w) hD ms fun e he => g1 e (hp.mem_iff.1 he)
    rw [findF_none fun e he => g2 e (hp.mem_iff.1 he)] at hr
    exact ⟨_, okD_sound e1, fin (z0 := zv) hr e2⟩
  · rename_i j v' z hf
    cases h
    obtain ⟨f, g1, e, j', _, q1, q2, q3, q4⟩ := findD_sound hΓ hD hv w hf hE hnd
    have hr := run_find (P := P) (w := w) hD ms fun e he => g1 e (hp.mem_iff.1 he)
    obtain ⟨j2, t1, t2⟩ := findF_some (i := 0) (hp.mem_iff.2 (List.mem_of_getElem? q1)) q3 fun e' he' hb => q4 e' (hp.mem_iff.1 he') hb
    rw [t1] at hr
    exact ⟨_, okD_sound q2, fin (z0 := e.val) hr rfl⟩
  · exact (fail_ok h).elim

theorem lenD_sound (hΓ : CxOk Γ ρ) (hs : SatR ρ θ s w) {T : Option Nat} {x r : DV} {u : Value} (hu : W ρ θ x u) (h : lenD Γ P T x s = .ok r) (ts : Array Nat) (ty : Nat) (ht : ts[0]? = T) :
    ∃ z, W ρ θ r z ∧ (Builtin.len_ ts ty #[u]).run P w = .ok z w := by
  unfold lenD at h
  split at h
  · exact (fail_ok h).elim
  rename_i t
  split at h
  · rename_i l hT
    simp only [W] at hu; subst hu; cases h
    refine ⟨.int .i64 ((strOf ρ l).size : Int), by simp only [W, ← szS_ev hΓ, strOf_size], by simp [Builtin.len_, ht, run_underlying hT, goInt]⟩
  · rename_i hT
    simp only [W] at hu; subst hu; cases h
    exact ⟨_, W_int _ _, by simp [Builtin.len_, ht, run_underlying hT, goInt]⟩
  · rename_i e n es o len cp q hT
    simp only [W] at hu
    obtain ⟨L, _, _, _, hlen, _, C, _, _, rfl⟩ := hu; cases h
    refine ⟨.int .i64 (((len.ev ρ.a).toNat : Nat) : Int), by simp only [W]; rw [Int.toNat_of_nonneg hlen], by simp [Builtin.len_, ht, run_underlying hT, goInt]⟩
  · rename_i hT
    cases h
    exact ⟨_, W_int _ _, by simp [Builtin.len_, ht, run_underlying hT, goInt]⟩
  · rename_i hT
    split at h <;> try exact (fail_ok h).elim
    rename_i es hes
    cases h
    obtain ⟨ms, Vms, hp, hE, hnd, hu'⟩ := entriesOf_sound hs hu hes
    have hl : ms.length = es.length := by rw [hp.length_eq, EW_length hE]
    refine ⟨_, W_int _ _, ?_⟩
    rcases hu' with ⟨rfl, rfl⟩ | ⟨b, clock, rfl, hb⟩
    · simp at hl; simp [Builtin.len_, ht, run_underlying hT, goInt, ← hl]
    · simp [Builtin.len_, ht, run_underlying hT, Go.Z.run_getObj_map hb, goInt, hl]
  · exact (fail_ok h).elim

theorem csz_ev (hΓ : CxOk Γ ρ) : ∀ {cs : List Cl} {vs : List Value}, CW ρ θ cs vs → (vs.length : Int) = (csz Γ cs).ev ρ.a
  | [], vs, h => by rw [show vs = [] from h]; simp [csz, ev_lit]
  | .v x :: cs, vs, h => by
    obtain ⟨u, us, rfl, _, _, h3⟩ := h
    have := csz_ev hΓ h3
    simp only [csz, ev_add, ev_lit, List.length_cons, Int.natCast_add]; omega
  | .b i :: cs, vs, h => by
    obtain ⟨us, rfl, h3⟩ := h
    have := csz_ev hΓ h3
    have := hΓ.len i
    simp only [csz, ev_add, blobV, List.length_append, List.length_map, Int.natCast_add]; omega
theorem capL_sound (hΓ : CxOk Γ ρ) (hs : SatR ρ θ s w) {x : DV} {c : Lin} {a : Option Addr} {n C : Nat} (hu : W ρ θ x (.slice a n C)) (h : capL Γ s x = some c) : c.ev ρ.a = C := by
  unfold capL at h
  split at h <;> try (cases h; done)
  rename_i nm es o len cp q
  simp only [W] at hu
  obtain ⟨L, hL, hes, ho, _, _, C', hC, _, he⟩ := hu
  simp only [Value.slice.injEq] at he
  obtain ⟨_, _, rfl⟩ := he
  split at h
  · cases h; exact hC.1
  · simp only at hC
    split at h <;> try (cases h; done)
    rename_i T cs hr
    obtain ⟨L', hL', vs, sp, fz, h1, h2, h3, h4, h5⟩ := hs.res nm _ (rowAt_some hr)
    obtain rfl := Option.some.inj (hL.symm.trans hL')
    have hsp := h5 rfl
    subst hsp
    rw [List.append_nil] at h4
    have hc := csz_ev hΓ h3
    have hev : ((csz Γ cs).sub o).ev ρ.a = ((C * es : Nat) : Int) := by rw [ev_sub]; omega
    cases hb : Nat.beq es 1 with
    | true =>
      rw [hb] at h; cases h
      have := nbeq hb
      subst this
      rw [hev, Nat.mul_one]
    | false =>
      rw [hb] at h
      simp only [_root_.cond_false] at h
      split at h <;> try (cases h; done)
      rename_i k hk
      obtain ⟨_, h⟩ := condO h
      cases h
      have := natOf_some (ρ := ρ) hk
      rw [hev] at this
      have hk' : k = C * es := by omega
      rw [ev_lit, hk', Nat.mul_div_cancel _ hes]
      rfl

theorem minmax_sound {f : Int → Int → Int} {g : Value → Value → Sem Value} (hg : ∀ k k' a b (w : World), (g (.int k a) (.int k' b)).run P w = .ok (.int k (f a b)) w) (w : World) : ∀ {l : List DV} {x r : DV} {u : Value} {vs : List Value}, W ρ θ x u → WL ρ θ l vs → minmaxD f x l = .ok r →
    ∃ z, W ρ θ r z ∧ (vs.foldlM g u).run P w = .ok z w
  | [], x, r, u, vs, hu, hv, h => by
    rw [WL_nil_left hv]
    simp only [minmaxD] at h
    cases h
    exact ⟨u, hu, rfl⟩
  | y :: l, x, r, u, vs, hu, hv, h => by
    obtain ⟨v, vs, rfl, h1, h2⟩ := WL_cons_left hv
    unfold minmaxD at h
    split at h
    · rename_i heq; cases heq
    · rename_i k a k' b l' heq
      cases heq
      obtain ⟨hl, h⟩ := cond_fail h
      simp only [Bool.and_eq_true] at hl
      simp only [W] at hu h1
      rw [Lin.ev_of_lit hl.1] at hu
      rw [Lin.ev_of_lit hl.2] at h1
      subst hu h1
      obtain ⟨z, e1, e2⟩ := minmax_sound hg w (W_int k (f a.c b.c)) h2 h
      exact ⟨z, e1, by simp only [List.foldlM_cons, Sem.run_bind, hg, Result.andThen]; exact e2⟩
    · exact (fail_ok h).elim
end
end
end Go.Q

