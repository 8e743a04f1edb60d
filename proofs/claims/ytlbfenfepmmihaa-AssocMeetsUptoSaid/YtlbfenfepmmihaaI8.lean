/- Part 8 of what the closing text rests on. -/
import Derived.Test.YtlbfenfepmmihaaI7
namespace Go.Z
open Go.RowKit

section
variable {P : Program} {C : CE} {K : Ctx} {θ : Th} {h : List (Nat × R)} {nx : Nat} {w : World} {env : List (Nat × SV)} {a : Act} {ops : Array Oper}

def GM.ok (ops : Array Oper) (env : List (Nat × SV)) (o : Oper) (a : Act) : GM → Prop
  | .run => Region.wanted o (yielded ops a.tmps) = true
  | .skip => Region.wanted o (yielded ops a.tmps) = false
  | .under ctx => (allT ctx → Region.wanted o (yielded ops a.tmps) = true) ∧ (¬ allT ctx → Region.wanted o (yielded ops a.tmps) = false)
  | .split d t want => efind env d = some (.c (.bool t)) ∧ Region.wanted o (yielded ops a.tmps) = (t == want)

theorem guardM_sound (he : SatE K θ env a) {o : Oper} {m : GM} (hg : guardM ops env o.guard = some m) :
    m.ok ops env o a := by
  unfold guardM at hg
  unfold GM.ok
  split at hg
  · rename_i hgd
    cases hg
    simp [Region.wanted, hgd]
  · rename_i j want hgd
    split at hg <;> try (cases hg; done)
    rename_i oj hoj
    split at hg <;> try (cases hg; done)
    rename_i d hd
    have hoj' : ops[j]? = some oj := by simpa using hoj
    have hy : ∀ v, a.tmps[d]? = some v → Region.wanted o (yielded ops a.tmps) = (match v with | .bool b => b == want | _ => false) := by
      intro v hv
      simp only [Region.wanted, hgd, yielded, hoj', Option.bind_some, hd, hv]
      cases v <;> simp
    have hcons : ∀ (b : Bool) (ts : List Bool), allT (b :: ts) ↔ b = true ∧ allT ts := fun b ts =>
      ⟨fun h => ⟨h b (by simp), fun t ht => h t (by simp [ht])⟩, fun h t ht => by rcases List.mem_cons.1 ht with rfl | ht; exact h.1; exact h.2 t ht⟩
    split at hg <;> (try (cases hg; done)) <;> rename_i hef <;> obtain ⟨v, hv, hV⟩ := he.val _ _ hef <;> simp only [V] at hV
    · subst hV
      have := hy _ hv
      rename_i t
      cases ht : (t == want) with
      | true => rw [ht] at hg; cases hg; simpa [ht] using this
      | false => rw [ht] at hg; cases hg; simpa [ht] using this
    · subst hV
      have := hy _ hv
      cases hg
      exact ⟨hef, this⟩
    · subst hV
      cases hg
      exact hy _ hv
    · rename_i ts t
      cases ht : (t == want) with
      | true =>
        rw [ht] at hg; cases hg
        refine ⟨fun hc => ?_, fun hc => ?_⟩
        · rw [hy _ hv, hV.1 hc]; simpa using ht
        · rw [hy _ hv, hV.2 hc]; rfl
      | false =>
        rw [ht] at hg; cases hg
        by_cases hc : allT ts
        · rw [hy _ hv, hV.1 hc]; simpa using ht
        · rw [hy _ hv, hV.2 hc]; rfl
    · rename_i ts t
      cases hg
      simp only [hcons]
      refine ⟨fun hc => ?_, fun hc => ?_⟩
      · rw [hy _ hv, hV.1 hc.2]
        have := hc.1
        cases want <;> cases t <;> simp_all
      · by_cases hts : allT ts
        · rw [hy _ hv, hV.1 hts]
          have : ¬ (cond want t (!t) = true) := fun h1 => hc ⟨h1, hts⟩
          cases want <;> cases t <;> simp_all
        · rw [hy _ hv, hV.2 hts]; rfl

theorem guardX_sound (he : SatE K θ env a) {sp : Bool} {o : Oper} {m : GM} (hg : guardX P C sp ops env h nx o = some m) :
    m.ok ops env o a := by
  unfold guardX at hg
  split at hg
  · rename_i d t want hm
    have h1 := guardM_sound he hm
    simp only [GM.ok] at h1
    split at hg
    · cases hb : below nx _ with
      | true =>
        rw [hb] at hg; cases hg
        simp only [GM.ok]
        rw [h1.2]
        have key : allT [cond want t (!t)] ↔ (t == want) = true := by
          constructor
          · intro h
            have := h (cond want t (!t)) (by simp)
            cases want <;> cases t <;> simp_all
          · intro h u hu
            simp at hu; subst hu
            cases want <;> cases t <;> simp_all
        refine ⟨fun hc => key.1 hc, fun hc => ?_⟩
        cases hx : (t == want) with
        | false => rfl
        | true => exact absurd (key.2 hx) hc
      | false => rw [hb] at hg; cases hg; exact h1
    · cases hg; exact h1
  · exact guardM_sound he hg

theorem putS_sound (he : SatE K θ env a) {dst : Option Nat} {s : SV} {v : Value} (hv : V θ s v) {k : List (Nat × SV) → Prop} (hq : putS K.N dst s env k) : ∃ env', k env' ∧ SatE K θ env' (a.put dst v) := by
  unfold putS at hq
  split at hq
  · obtain ⟨h1, h2⟩ := cond_false hq
    exact ⟨_, h2, he.put (nblt h1) hv⟩
  · exact ⟨_, hq, ⟨by simp [Act.put, he.size], he.defers, he.val⟩⟩

theorem ne_not {t u : Bool} (h : ¬ t = u) : t = !u := by cases t <;> cases u <;> simp at h ⊢

theorem SatE.known (he : SatE K θ env a) {d : Nat} {t b : Bool} (hd : efind env d = some (.c (.bool t))) (ht : t = b) : SatE K θ ((d, .b b) :: env) a := by
  refine ⟨he.size, he.defers, fun u s hs => ?_⟩
  rw [efind_cons] at hs
  split at hs
  · rename_i e; subst e; cases hs; subst ht
    obtain ⟨v, h1, h2⟩ := he.val d _ hd
    exact ⟨v, h1, by simpa only [V] using h2⟩
  · exact he.val u s hs

theorem cond_cases {c : Bool} {p q : Prop} (h : cond c p q) : (c = true ∧ p) ∨ (c = false ∧ q) := by cases c; exact .inr ⟨rfl, h⟩; exact .inl ⟨rfl, h⟩

theorem execOps_sound (hC : COk P C) {sp : Bool} {θ0 : Th} {Q : Exit → Act → World → Prop} : ∀ (l : List Oper) {θ : Th} {env : List (Nat × SV)} {h : List (Nat × R)} {nx : Nat} {a : Act} {w : World}
    {k : List (Nat × SV) → List (Nat × R) → Nat → Prop}, θ0.ext θ → SatH K θ h nx w → SatE K θ env a → execOps P C K.N sp false ops l env h nx k →
    (∀ env' h' nx' θ' a' w', k env' h' nx' → θ0.ext θ' → SatH K θ' h' nx' w' → SatE K θ' env' a' → Q .normal a' w') → wpList P ops Q l a w
  | [], θ, env, h, nx, a, w, k, hx, hs, he, hq, hk => hk _ _ _ _ _ _ hq hx hs he
  | o :: rest, θ, env, h, nx, a, w, k, hx, hs, he, hq, hk => by
    -- the two ways through an operation that is carried out
    have quiet : ∀ {env : List (Nat × SV)} (_ : SatE K θ env a) {ctx : List Bool} {f : SV → SV} {k' : HK}, allT ctx → (∀ r v θ', V θ' r v → V θ' (f r) v) → stepOQ P C ctx o.op env h nx k' →
        (∀ r h' nx', k' r h' nx' → putS K.N o.dst (f r) env fun env' => execOps P C K.N sp false ops rest env' h' nx' k) → o.wp P a w (wpList P ops Q rest) Q := by
      intro env he ctx f k' hctx hf hstep hgo
      obtain ⟨r, h', nx', θ', v', h1, h2, h3, h4⟩ := stepOQ_sound hC hs he hctx hstep
      refine Oper.wp_of_quiet (C := Below w.heap.size w) (K := fun a' => ∃ env', execOps P C K.N sp false ops rest env' h' nx' k ∧ SatE K θ' env' a') (Below.refl _ _) ?_ ⟨v', h4, ?_⟩
      · rintro a' w' hb ⟨env', e1, e2⟩
        exact execOps_sound hC rest (Th.ext_trans hx h2.ext) (h2.sat.below hb) e2 e1 hk
      · exact putS_sound (he.mono h2.ext) (hf _ _ _ h3) (hgo r h' nx' h1)
    have loud : ∀ {env : List (Nat × SV)} (_ : SatE K θ env a) {ctx : List Bool} {f : SV → SV} {k' : HK}, allT ctx → (∀ r v θ', V θ' r v → V θ' (f r) v) → (resolveL env ctx o.op.operands.toList fun vs => stepL P C o.op vs h nx k') →
        (∀ r h' nx', k' r h' nx' → putS K.N o.dst (f r) env fun env' => execOps P C K.N sp false ops rest env' h' nx' k) → o.wp P a w (wpList P ops Q rest) Q := by
      intro env he ctx f k' hctx hf hstep hgo
      obtain ⟨vs, h1, h2⟩ := resolveL_sound he hctx hstep
      refine stepL_sound hC hs h2 h1 fun r h' nx' θ' v w' k1 k2 k3 k4 => ?_
      obtain ⟨env', e1, e2⟩ := putS_sound (he.mono k3) (hf _ _ _ k4) (hgo r h' nx' k1)
      exact execOps_sound hC rest (Th.ext_trans hx k3) k2 e2 e1 hk
    have skip : ∀ {env : List (Nat × SV)} (_ : SatE K θ env a), (putS K.N o.dst (.c undef) env fun env' => execOps P C K.N sp false ops rest env' h nx k) → wpList P ops Q rest (a.put o.dst undef) w := by
      intro env he hp
      obtain ⟨env', e1, e2⟩ := putS_sound he (V_c θ undef) hp
      exact execOps_sound hC rest hx hs e2 e1 hk
    unfold execOps at hq
    unfold wpList
    split at hq
    · exact hq.elim
    · rename_i hg
      have := guardX_sound he hg
      simp only [GM.ok] at this
      rw [this]
      exact skip he hq
    · rename_i hg
      have hw := guardX_sound he hg
      simp only [GM.ok] at hw
      rw [hw, if_pos rfl]
      left
      rcases cond_cases hq with ⟨_, h1⟩ | ⟨_, h1⟩
      · exact quiet he (ctx := []) (f := id) (fun t ht => by cases ht) (fun _ _ _ hv => hv) h1 (fun r h' nx' hk' => hk')
      · exact loud he (ctx := []) (f := id) (fun t ht => by cases ht) (fun _ _ _ hv => hv) h1 (fun r h' nx' hk' => hk')
    · rename_i d t want hg
      have hw := guardX_sound he hg
      simp only [GM.ok] at hw
      have hq := swc_spec hq
      by_cases ht : t = want
      · have hk' := he.known hw.1 ht
        rw [hw.2, show (t == want) = true by simp [ht], if_pos rfl]
        left
        rcases cond_cases (hq.1 ht) with ⟨_, h1⟩ | ⟨_, h1⟩
        · exact quiet hk' (ctx := []) (f := id) (fun t ht => by cases ht) (fun _ _ _ hv => hv) h1 (fun r h' nx' hk' => hk')
        · exact loud hk' (ctx := []) (f := id) (fun t ht => by cases ht) (fun _ _ _ hv => hv) h1 (fun r h' nx' hk' => hk')
      · have ht' : t = !want := ne_not ht
        rw [hw.2, show (t == want) = false by simp [ht], if_neg (by simp)]
        exact skip (he.known hw.1 ht') (hq.2 ht')
    · rename_i ctx hg
      have hw := guardX_sound he hg
      simp only [GM.ok] at hw
      have wrap : allT ctx → ∀ r v θ', V θ' r v → V θ' (.w ctx r) v := fun hc r v θ' hv => by simp only [V]; exact ⟨fun _ => hv, fun hn => absurd hc hn⟩
      split at hq
      · rename_i r hr
        obtain ⟨hb, h1, h2⟩ := cond_false hq
        have h1 := (swT_spec h1).1
        by_cases hc : allT ctx
        · rw [hw.1 hc, if_pos rfl]
          left
          obtain ⟨r', h', nx', θ', v', e1, e2, e3, e4⟩ := stepOQ_sound hC hs he hc (h1 hc)
          subst e1
          have hv : V θ r' v' := V_below e2.agree hb e3
          refine Oper.wp_of_quiet (C := Below w.heap.size w) (K := fun a' => ∃ env', execOps P C K.N sp false ops rest env' h nx k ∧ SatE K θ env' a') (Below.refl _ _) ?_ ⟨v', e4, ?_⟩
          · rintro a' w' hb ⟨env', c1, c2⟩
            exact execOps_sound hC rest hx (hs.below hb) c2 c1 hk
          · exact putS_sound he (wrap hc _ _ _ hv) h2
        · rw [hw.2 hc, if_neg (by simp)]
          obtain ⟨env', c1, c2⟩ := putS_sound he (v := undef) (by simp only [V]; exact ⟨fun h => absurd h hc, fun _ => by trivial⟩) h2
          exact execOps_sound hC rest hx hs c2 c1 hk
      · have hq := swT_spec hq
        by_cases hc : allT ctx
        · rw [hw.1 hc, if_pos rfl]
          left
          rcases cond_cases (hq.1 hc) with ⟨_, h1⟩ | ⟨_, h1⟩
          · exact quiet he (f := fun r => .w ctx r) hc (wrap hc) h1 (fun r h' nx' hk' => hk')
          · exact loud he (f := fun r => .w ctx r) hc (wrap hc) h1 (fun r h' nx' hk' => hk')
        · rw [hw.2 hc, if_neg (by simp)]
          exact skip he (hq.2 hc)

theorem execOps_quiet (hC : COk P C) {sp : Bool} {θ0 : Th} {Q : Act → Prop} : ∀ (l : List Oper) {θ : Th} {env : List (Nat × SV)} {h : List (Nat × R)} {nx : Nat} {a : Act} {w : World}
    {k : List (Nat × SV) → List (Nat × R) → Nat → Prop}, θ0.ext θ → SatH K θ h nx w → SatE K θ env a → execOps P C K.N sp true ops l env h nx k →
    (∀ env' h' nx' θ' a', k env' h' nx' → θ0.ext θ' → SatH K θ' h' nx' w → SatE K θ' env' a' → Q a') → wpQuiet P ops (Below w.heap.size w) Q l a
  | [], θ, env, h, nx, a, w, k, hx, hs, he, hq, hk => hk _ _ _ _ _ hq hx hs he
  | o :: rest, θ, env, h, nx, a, w, k, hx, hs, he, hq, hk => by
    have quiet : ∀ {env : List (Nat × SV)} (_ : SatE K θ env a) {ctx : List Bool} {f : SV → SV} {k' : HK}, allT ctx → (∀ r v θ', V θ' r v → V θ' (f r) v) → stepOQ P C ctx o.op env h nx k' →
        (∀ r h' nx', k' r h' nx' → putS K.N o.dst (f r) env fun env' => execOps P C K.N sp true ops rest env' h' nx' k) → o.quiet P a (Below w.heap.size w) (wpQuiet P ops (Below w.heap.size w) Q rest) := by
      intro env he ctx f k' hctx hf hstep hgo
      obtain ⟨r, h', nx', θ', v', h1, h2, h3, h4⟩ := stepOQ_sound hC hs he hctx hstep
      obtain ⟨env', e1, e2⟩ := putS_sound (he.mono h2.ext) (hf _ _ _ h3) (hgo r h' nx' h1)
      exact ⟨v', h4, execOps_quiet hC rest (Th.ext_trans hx h2.ext) h2.sat e2 e1 hk⟩
    have skip : ∀ {env : List (Nat × SV)} (_ : SatE K θ env a), (putS K.N o.dst (.c undef) env fun env' => execOps P C K.N sp true ops rest env' h nx k) → wpQuiet P ops (Below w.heap.size w) Q rest (a.put o.dst undef) := by
      intro env he hp
      obtain ⟨env', e1, e2⟩ := putS_sound he (V_c θ undef) hp
      exact execOps_quiet hC rest hx hs e2 e1 hk
    unfold execOps at hq
    unfold wpQuiet
    split at hq
    · exact hq.elim
    · rename_i hg
      have := guardX_sound he hg
      simp only [GM.ok] at this
      rw [this]
      exact skip he hq
    · rename_i hg
      have hw := guardX_sound he hg
      simp only [GM.ok] at hw
      rw [hw, if_pos rfl]
      rcases cond_cases hq with ⟨_, h1⟩ | ⟨_, h1⟩
      · exact quiet he (ctx := []) (f := id) (fun t ht => by cases ht) (fun _ _ _ hv => hv) h1 (fun r h' nx' hk' => hk')
      · exact h1.elim
    · rename_i d t want hg
      have hw := guardX_sound he hg
      simp only [GM.ok] at hw
      have hq := swc_spec hq
      by_cases ht : t = want
      · have hk' := he.known hw.1 ht
        rw [hw.2, show (t == want) = true by simp [ht], if_pos rfl]
        rcases cond_cases (hq.1 ht) with ⟨_, h1⟩ | ⟨_, h1⟩
        · exact quiet hk' (ctx := []) (f := id) (fun t ht => by cases ht) (fun _ _ _ hv => hv) h1 (fun r h' nx' hk' => hk')
        · exact h1.elim
      · have ht' : t = !want := ne_not ht
        rw [hw.2, show (t == want) = false by simp [ht], if_neg (by simp)]
        exact skip (he.known hw.1 ht') (hq.2 ht')
    · rename_i ctx hg
      have hw := guardX_sound he hg
      simp only [GM.ok] at hw
      have wrap : allT ctx → ∀ r v θ', V θ' r v → V θ' (.w ctx r) v := fun hc r v θ' hv => by simp only [V]; exact ⟨fun _ => hv, fun hn => absurd hc hn⟩
      split at hq
      · rename_i r hr
        obtain ⟨hb, h1, h2⟩ := cond_false hq
        have h1 := (swT_spec h1).1
        by_cases hc : allT ctx
        · rw [hw.1 hc, if_pos rfl]
          obtain ⟨r', h', nx', θ', v', e1, e2, e3, e4⟩ := stepOQ_sound hC hs he hc (h1 hc)
          subst e1
          have hv : V θ r' v' := V_below e2.agree hb e3
          obtain ⟨env', c1, c2⟩ := putS_sound he (wrap hc _ _ _ hv) h2
          exact ⟨v', e4, execOps_quiet hC rest hx hs c2 c1 hk⟩
        · rw [hw.2 hc, if_neg (by simp)]
          obtain ⟨env', c1, c2⟩ := putS_sound he (v := undef) (by simp only [V]; exact ⟨fun h => absurd h hc, fun _ => by trivial⟩) h2
          exact execOps_quiet hC rest hx hs c2 c1 hk
      · have hq := swT_spec hq
        by_cases hc : allT ctx
        · rw [hw.1 hc, if_pos rfl]
          rcases cond_cases (hq.1 hc) with ⟨_, h1⟩ | ⟨_, h1⟩
          · exact quiet he (f := fun r => .w ctx r) hc (wrap hc) h1 (fun r h' nx' hk' => hk')
          · exact h1.elim
        · rw [hw.2 hc, if_neg (by simp)]
          exact skip he (hq.2 hc)
end
end Go.Z

namespace Go.Z
open Go.RowKit

def Q0 : Exit → Act → World → Prop := fun _ _ _ => False

theorem Oper.wp_of_Q0 {P : Program} {o : Oper} {a : Act} {w : World} {K : Act → World → Prop} {Q : Exit → Act → World → Prop} (hh : o.wp P a w K Q0) : o.wp P a w K Q := by
  unfold Oper.wp at *
  generalize (execOp a.eval o).run P w = r at *
  cases r with
  | ok n w' =>
    cases n <;> simp only [Oper.upon] at hh ⊢ <;>
      first
        | exact hh
        | exact Calls.mono hh (fun e w'' he => by cases e <;> first | exact he | exact he.elim | (obtain ⟨_, _, h0⟩ := he; exact h0.elim))
        | exact Rows.mono hh (fun _ _ he => he)
  | halt x w' => cases x <;> simp only [Oper.upon] at hh ⊢ <;> exact hh.elim

theorem wpOp_of_Q0 {P : Program} {ops : Array Oper} {i : Nat} {a : Act} {w : World} {K : Act → World → Prop} {Q : Exit → Act → World → Prop} (hh : wpOp P ops Q0 i K a w) : wpOp P ops Q i K a w := by
  unfold wpOp at *
  split
  · simpa [*] using hh
  · rename_i o ho
    simp only [ho] at hh
    split
    · rename_i hw; simp only [hw, if_true] at hh
      rcases hh with hh | ⟨_, a', w', hh⟩
      · exact .inl (Oper.wp_of_Q0 hh)
      · exact hh.elim
    · rename_i hw; simp only [hw] at hh; exact hh

def KeepB (B : Nat → Prop) (w w' : World) : Prop := w.heap.size ≤ w'.heap.size ∧ ∀ b, b < w.heap.size → B b → w'.heap[b]? = w.heap[b]?
theorem KeepB.refl (B : Nat → Prop) (w : World) : KeepB B w w := ⟨Nat.le_refl _, fun _ _ _ => rfl⟩
theorem KeepB.trans {B : Nat → Prop} {w w' w'' : World} (h : KeepB B w w') (h' : KeepB B w' w'') : KeepB B w w'' :=
  ⟨Nat.le_trans h.1 h'.1, fun b hb hB => (h'.2 b (Nat.lt_of_lt_of_le hb h.1) hB).trans (h.2 b hb hB)⟩

def anc (ops : Array Oper) : Nat → Nat → Nat → Bool
  | 0, _, _ => false
  | f + 1, j, i => match ops[j]? with
    | some oj => oj.after.any fun e => Region.binds .any e && (Nat.beq e.on i || anc ops f e.on i)
    | none => false

section
variable {P : Program} {ops : Array Oper}

def ClosedL (ops : Array Oper) (listed : Array Bool) : Prop :=
  ∀ j oj, ops[j]? = some oj → listed.getD j false = true → ∀ e ∈ oj.after, Region.binds .any e = true → listed.getD e.on false = true

theorem getD_tf {listed : Array Bool} {i : Nat} (h : listed.getD i true = false) : listed.getD i false = false := by
  rcases Nat.lt_or_ge i listed.size with h' | h'
  · simp [h'] at h ⊢; exact h
  · simp [Array.getElem?_eq_none h'] at h

theorem ClosedL.set {listed : Array Bool} {i : Nat} (inv : ClosedL ops listed) (hi : i ∈ Region.ready .any ops listed) : ClosedL ops (listed.setIfInBounds i true) := by
  obtain ⟨_, oi, hoi, hall⟩ := mem_ready.1 hi
  intro j oj hj hl e he hb
  by_cases hij : i = j
  · subst hij
    have : oj = oi := Option.some.inj (hj.symm.trans hoi)
    subst this
    exact getD_set_true (hall e he hb)
  · rw [getD_set_ne false hij] at hl
    exact getD_set_true (inv j oj hj hl e he hb)

theorem anc_listed {listed : Array Bool} {i : Nat} (inv : ClosedL ops listed) (hi : listed.getD i false = false) : ∀ (f j : Nat), listed.getD j false = true → anc ops f j i = false
  | 0, _, _ => rfl
  | f + 1, j, hj => by
    unfold anc
    split
    · rename_i oj hoj
      rw [Array.any_eq_false']
      intro e he hc
      simp only [Bool.and_eq_true, Bool.or_eq_true] at hc
      have h1 := inv j oj hoj hj e he hc.1
      rcases hc.2 with h2 | h2
      · have := Nat.eq_of_beq_eq_true h2
        subst this
        rw [hi] at h1; cases h1
      · rw [anc_listed inv hi f e.on h1] at h2; cases h2
    · rfl

theorem anc_ready {listed : Array Bool} {i j : Nat} (inv : ClosedL ops listed) (hi : listed.getD i false = false) (hj : j ∈ Region.ready .any ops listed) (f : Nat) : anc ops f j i = false := by
  obtain ⟨_, oj, hoj, hall⟩ := mem_ready.1 hj
  cases f with
  | zero => rfl
  | succ f =>
    unfold anc
    rw [hoj]
    simp only
    rw [Array.any_eq_false']
    intro e he hc
    simp only [Bool.and_eq_true, Bool.or_eq_true] at hc
    have h1 := hall e he hc.1
    rcases hc.2 with h2 | h2
    · have := Nat.eq_of_beq_eq_true h2
      subst this
      rw [hi] at h1; cases h1
    · rw [anc_listed inv hi f e.on h1] at h2; cases h2

abbrev Prot := List (Nat × (Nat → Prop))

def wpAnyC (P : Program) (ops : Array Oper) (pr : Prot) (Q : Act → World → Prop) : Nat → Array Bool → Act → World → Prop
  | 0, listed, a, w => Region.ready .any ops listed = [] ∧ Q a w
  | f + 1, listed, a, w => Region.ready .any ops listed ≠ [] ∧
    ∀ j ∈ Region.ready .any ops listed, wpOp P ops Q0 j (fun a' w' => (∀ x ∈ pr, anc ops ops.size j x.1 = false → KeepB x.2 w w') ∧ wpAnyC P ops pr Q f (listed.setIfInBounds j true) a' w') a w

theorem wpAny_of_C {pr : Prot} {Q : Act → World → Prop} {Q' : Exit → Act → World → Prop} (hQ : ∀ a w, Q a w → Q' .normal a w) : ∀ (f : Nat) (listed : Array Bool) (a : Act) (w : World),
    wpAnyC P ops pr Q f listed a w → wpAny P .any ops Q' f listed a w
  | 0, _, _, _, h => ⟨h.1, hQ _ _ h.2⟩
  | f + 1, _, _, _, h => ⟨fun h0 => absurd h0 h.1, fun j hj => wpOp_of_Q0 (wpOp_mono (fun _ _ h' => wpAny_of_C hQ f _ _ _ h'.2) (h.2 j hj))⟩

theorem wpAnyC_sub {pr pr' : Prot} {Q : Act → World → Prop} (hs : ∀ x ∈ pr', x ∈ pr) : ∀ (f : Nat) (listed : Array Bool) (a : Act) (w : World),
    wpAnyC P ops pr Q f listed a w → wpAnyC P ops pr' Q f listed a w
  | 0, _, _, _, h => h
  | f + 1, _, _, _, h => ⟨h.1, fun j hj => wpOp_mono (fun _ _ h' => ⟨fun x hx => h'.1 x (hs x hx), wpAnyC_sub hs f _ _ _ h'.2⟩) (h.2 j hj)⟩

theorem wpOp_swap {j : Nat} {oi oj : Oper} {v : Value} (hj : ops[j]? = some oj) (hap : oi.apart ops oj = true)
    (hsi : ∀ cs b, oi.op ≠ .select cs b) (hsj : ∀ cs b, oj.op ≠ .select cs b) {K : Act → World → Prop} {a : Act} {w : World}
    (h : wpOp P ops Q0 j K (a.put oi.dst v) w) :
    wpOp P ops Q0 j (fun a' w' => execOp a'.eval oi = execOp a.eval oi ∧ Region.wanted oi (yielded ops a'.tmps) = Region.wanted oi (yielded ops a.tmps) ∧ K (a'.put oi.dst v) w') a w := by
  obtain ⟨h1, h2, h3⟩ := Oper.apart_spec hap
  have keep : ∀ u, execOp (a.put oj.dst u).eval oi = execOp a.eval oi := fun u => execOp_put oi hsi a oj.dst u h3
  have keepW : ∀ u, Region.wanted oi (yielded ops (a.put oj.dst u).tmps) = Region.wanted oi (yielded ops a.tmps) := fun u => wanted_put oi a oj.dst u h3
  unfold wpOp at *
  simp only [hj] at *
  rw [wanted_put oj a oi.dst v h1] at h
  split
  · rename_i hw
    simp only [hw, if_true] at h
    rcases h with h | ⟨_, _, _, h⟩
    case inr => exact h.elim
    refine .inl ?_
    unfold Oper.wp at *
    rw [execOp_put oj hsj a oi.dst v h1] at h
    generalize (execOp a.eval oj).run P w = r at *
    cases r with
    | ok n w' =>
      cases n <;> simp only [Oper.upon] at h ⊢
      case value u => exact ⟨keep u, keepW u, by rw [← Act.put_comm a v u h2]; exact h⟩
      case skip => exact ⟨keep _, keepW _, by rw [← Act.put_comm a v undef h2]; exact h⟩
      case defer d =>
        refine ⟨execOp_put oi hsi { a with defers := d :: a.defers } oj.dst undef h3, wanted_put oi { a with defers := d :: a.defers } oj.dst undef h3, ?_⟩
        rw [← Act.put_comm _ v undef h2, ← Act.put_defers]
        exact h
      case enter f args =>
        refine Calls.mono h fun e w'' he => ?_
        cases e with
        | returned u => exact ⟨keep u, keepW u, by rw [← Act.put_comm a v u h2]; exact he⟩
        | panicked c => exact he.elim
        | outgrown => obtain ⟨_, _, h0⟩ := he; exact h0.elim
      case row row args => exact Rows.mono h fun u w'' he => ⟨keep u, keepW u, by rw [← Act.put_comm a v u h2]; exact he⟩
    | halt x w' =>
      cases x <;> simp only [Oper.upon] at h ⊢
      case panic u => exact h.elim
  · rename_i hw
    simp only [hw] at h
    exact ⟨keep _, keepW _, by rw [← Act.put_comm a v undef h2]; exact h⟩

theorem wpOp_reads {i : Nat} {oi : Oper} {v : Value} {a : Act} {w : World} {K : Act → World → Prop} (hi : ops[i]? = some oi) (hw : Region.wanted oi (yielded ops a.tmps) = true)
    (hy : (execOp a.eval oi).run P w = .ok (.value v) w) (h : K (a.put oi.dst v) w) : wpOp P ops Q0 i K a w := by
  unfold wpOp
  simp only [hi, hw, if_true, Oper.wp, hy, Oper.upon]
  exact .inl h

theorem wpAnyC_first {pr : Prot} {Q : Act → World → Prop} {i : Nat} {oi : Oper} {v : Value} {B : Nat → Prop} (hi : ops[i]? = some oi)
    (hsel : ∀ (j : Nat) (o : Oper) cs b, ops[j]? = some o → o.op ≠ .select cs b) :
    ∀ (f : Nat) (listed : Array Bool) (a : Act) (w : World), ClosedL ops listed →
      (∀ j oj, ops[j]? = some oj → j ≠ i → listed.getD j true = false → (∀ e ∈ oj.after, Region.binds .any e = true → e.on ≠ i) → oi.apart ops oj = true) →
      i ∈ Region.ready .any ops listed → Region.wanted oi (yielded ops a.tmps) = true → (∀ w', KeepB B w w' → (execOp a.eval oi).run P w' = .ok (.value v) w') →
      wpAnyC P ops ((i, B) :: pr) Q f (listed.setIfInBounds i true) (a.put oi.dst v) w → wpAnyC P ops pr Q (f + 1) listed a w := by
  have now : ∀ (f : Nat) (listed : Array Bool) (a : Act) (w : World), Region.wanted oi (yielded ops a.tmps) = true → (∀ w', KeepB B w w' → (execOp a.eval oi).run P w' = .ok (.value v) w') →
      wpAnyC P ops ((i, B) :: pr) Q f (listed.setIfInBounds i true) (a.put oi.dst v) w →
      wpOp P ops Q0 i (fun a' w' => (∀ x ∈ pr, anc ops ops.size i x.1 = false → KeepB x.2 w w') ∧ wpAnyC P ops pr Q f (listed.setIfInBounds i true) a' w') a w := by
    intro f listed a w hw hy H
    exact wpOp_reads hi hw (hy w (KeepB.refl _ _)) ⟨fun x _ _ => KeepB.refl _ _, wpAnyC_sub (fun x hx => .tail _ hx) _ _ _ _ H⟩
  intro f
  induction f with
  | zero =>
    intro listed a w _ _ hr hw hy H
    refine ⟨fun h => (by rw [h] at hr; cases hr), fun j hj => ?_⟩
    by_cases hji : j = i
    · subst hji; exact now 0 listed a w hw hy H
    · have := ready_mono hj hji
      rw [H.1] at this
      cases this
  | succ f ih =>
    intro listed a w hcl hfree hr hw hy H
    refine ⟨fun h => (by rw [h] at hr; cases hr), fun j hj => ?_⟩
    by_cases hji : j = i
    · subst hji; exact now (f + 1) listed a w hw hy H
    · have h1 := H.2 j (ready_mono hj hji)
      obtain ⟨hjun, oj, hoj, hall⟩ := mem_ready.1 hj
      have hun := getD_tf (mem_ready.1 hr).1
      have hnot : ∀ e ∈ oj.after, Region.binds .any e = true → e.on ≠ i := fun e he hb heq => by
        have h1 := hall e he hb
        rw [heq, hun] at h1; cases h1
      have h2 := wpOp_swap hoj (hfree j oj hoj hji hjun hnot) (fun cs b => hsel i oi cs b hi) (fun cs b => hsel j oj cs b hoj) h1
      have hfree' : ∀ k ok, ops[k]? = some ok → k ≠ i → (listed.setIfInBounds j true).getD k true = false →
          (∀ e ∈ ok.after, Region.binds .any e = true → e.on ≠ i) → oi.apart ops ok = true := fun k ok hk hki hun hno => by
        refine hfree k ok hk hki ?_ hno
        by_cases hjk : j = k
        · subst hjk; exact hjun
        · rw [getD_set_ne true hjk] at hun; exact hun
      refine wpOp_mono (fun a' w' h3 => ?_) h2
      obtain ⟨e1, e0, e2, e3⟩ := h3
      have hk : KeepB B w w' := e2 (i, B) (.head _) (anc_ready hcl hun hj _)
      refine ⟨fun x hx => e2 x (.tail _ hx), ih (listed.setIfInBounds j true) a' w' (hcl.set hj) hfree' (ready_mono hr (Ne.symm hji)) (e0.trans hw) (fun w'' hw'' => by rw [e1]; exact hy w'' (hk.trans hw'')) ?_⟩
      rw [Array.setIfInBounds_comm _ _ hji]
      exact e3
end
end Go.Z

namespace Go.Z
open Go.RowKit

def hid (h : List (Nat × R)) : List SV → List (Nat × R)
  | [] => []
  | s :: l => match s with
    | .p n _ => match hfind h n with
      | some (.blk T c) => (n, .blk T c) :: hid h l
      | _ => hid h l
    | .m n => match hfind h n with
      | some (.map ks vs) => (n, .map ks vs) :: hid h l
      | _ => hid h l
    | .q n => match hfind h n with
      | some (.own T d) => (n, .own T d) :: hid h l
      | _ => hid h l
    | .e n _ _ _ => match hfind h n with
      | some (.own T d) => (n, .own T d) :: hid h l
      | _ => hid h l
    | .a n => match hfind h n with
      | some (.own T d) => (n, .own T d) :: hid h l
      | _ => hid h l
    | _ => hid h l
def deadOf : List (Nat × R) → List (Nat × R)
  | [] => []
  | (n, _) :: l => (n, .dead) :: deadOf l

def okSV (h : List (Nat × R)) : SV → Bool
  | .p n _ => match hfind h n with
    | some (.blk _ _) => true
    | some (.rblk _ _) => true
    | _ => false
  | .m n => match hfind h n with
    | some (.map _ _) => true
    | some (.rmap _ _) => true
    | _ => false
  | .q n => match hfind h n with
    | some (.own _ d) => Nat.blt 0 d.len
    | _ => false
  | .e n _ _ _ => match hfind h n with
    | some (.own _ _) => true
    | some (.ro _) => true
    | _ => false
  | .a n => match hfind h n with
    | some (.own _ _) => true
    | some (.ro _) => true
    | _ => false
  | _ => true
def okSVs (h : List (Nat × R)) : List SV → Bool
  | [] => true
  | s :: l => okSV h s && okSVs h l

def protOf (ops : Array Oper) (j : Nat) : List (Nat × List SV) → List SV
  | [] => []
  | (i, l) :: pr => cond (anc ops ops.size j i) (protOf ops j pr) (l ++ protOf ops j pr)

def stillK : Op → Bool
  | .pick .. => false
  | .call c => match c.callee with
    | .value _ => false
    | _ => true
  | _ => true

def runs (ops : Array Oper) (env : List (Nat × SV)) (g : Option (Nat × Bool)) : Bool := match guardM ops env g with
  | some .run => true
  | _ => false
def pickStill (P : Program) (C : CE) (ops : Array Oper) (listed : Array Bool) (env : List (Nat × SV)) : List Nat → Option (Nat × Oper)
  | [] => none
  | i :: is => match ops[i]? with
    | some o => cond (runs ops env o.guard && stillK o.op && isQuiet P C o.op env && Region.free .any ops listed i) (some (i, o)) (pickStill P C ops listed env is)
    | none => pickStill P C ops listed env is

def allL : List Nat → (Nat → Prop) → Prop
  | [], _ => True
  | j :: js, p => p j ∧ allL js p

def anyOp1 (P : Program) (C : CE) (N : Nat) (ops : Array Oper) (pr : List (Nat × List SV)) (j : Nat) (o : Oper) (env : List (Nat × SV)) (h : List (Nat × R)) (nx : Nat)
    (K : List (Nat × SV) → List (Nat × R) → Nat → Prop) : Prop :=
  cond (isQuiet P C o.op env)
    (stepOQ P C [] o.op env h nx fun r h' nx' => putS N o.dst r env fun env' => K env' h' nx')
    (cond (okSVs h (protOf ops j pr))
      (resolveL env [] o.op.operands.toList fun vs => stepL P C o.op vs (deadOf (hid h (protOf ops j pr)) ++ h) nx fun r h' nx' =>
        putS N o.dst r env fun env' => K env' (hid h (protOf ops j pr) ++ h') nx') False)

def stepAny (P : Program) (C : CE) (N : Nat) (ops : Array Oper) : Nat → Array Bool → List (Nat × List SV) → List (Nat × SV) → List (Nat × R) → Nat →
    (List (Nat × SV) → List (Nat × R) → Nat → Prop) → Prop
  | 0, listed, _, env, h, nx, k => cond (Region.ready .any ops listed).isEmpty (k env h nx) False
  | f + 1, listed, pr, env, h, nx, k =>
    match pickStill P C ops listed env (Region.ready .any ops listed) with
    | some (i, o) => resolveL env [] o.op.operands.toList fun vs => stepQ P o.op vs h nx fun r h' nx' =>
        putS N o.dst r env fun env' => stepAny P C N ops f (listed.setIfInBounds i true) ((i, readsOf o.op vs) :: pr) env' h' nx' k
    | none => cond (Region.ready .any ops listed).isEmpty False
        (allL (Region.ready .any ops listed) fun j => match ops[j]? with
          | none => False
          | some o => match guardM ops env o.guard with
            | some .run => anyOp1 P C N ops pr j o env h nx fun env' h' nx' => stepAny P C N ops f (listed.setIfInBounds j true) pr env' h' nx' k
            | some .skip => putS N o.dst (.c undef) env fun env' => stepAny P C N ops f (listed.setIfInBounds j true) pr env' h nx k
            | some (.split d t want) => swc want t (anyOp1 P C N ops pr j o ((d, .b want) :: env) h nx fun env' h' nx' => stepAny P C N ops f (listed.setIfInBounds j true) pr env' h' nx' k)
                (putS N o.dst (.c undef) ((d, .b (!want)) :: env) fun env' => stepAny P C N ops f (listed.setIfInBounds j true) pr env' h nx k)
            | _ => False)

section
variable {K : Ctx} {θ : Th} {h : List (Nat × R)} {nx : Nat} {w : World}

theorem hid_mem {n : Nat} {r : R} : ∀ {l : List SV}, (n, r) ∈ hid h l → hfind h n = some r
  | [], hm => by cases hm
  | s :: l, hm => by
    have go : (n, r) ∈ hid h l → hfind h n = some r := fun h' => hid_mem h'
    cases s <;> simp only [hid] at hm <;> first
      | exact go hm
      | (split at hm
         · rename_i hf
           rcases List.mem_cons.1 hm with e | hm
           · cases e; exact hf
           · exact go hm
         · exact go hm)

def isHid (h : List (Nat × R)) (l : List SV) (n : Nat) : Prop := ∃ r, (n, r) ∈ hid h l

theorem hfind_append {a b : List (Nat × R)} {n : Nat} : hfind (a ++ b) n = match hfind a n with | some r => some r | none => hfind b n := by
  induction a with
  | nil => rfl
  | cons x a ih =>
    obtain ⟨m, r⟩ := x
    simp only [List.cons_append, hfind_cons]
    split
    · rfl
    · exact ih

theorem hfind_hid {l : List SV} {n : Nat} {r : R} (hm : (n, r) ∈ hid h l) (h' : List (Nat × R)) : hfind (hid h l ++ h') n = some r := by
  rw [hfind_append]
  cases hc : hfind (hid h l) n with
  | some r' =>
    have := hid_mem (mem_of_hfind' hc)
    rw [hid_mem hm] at this
    exact this.symm
  | none => exact absurd hc (hfind_ne hm)
where
  mem_of_hfind' {t : Nat} {s : R} : ∀ {l : List (Nat × R)}, hfind l t = some s → (t, s) ∈ l
    | [], h => by simp [hfind] at h
    | (m, r) :: l, h => by
      rw [hfind_cons] at h
      split at h
      · rename_i e; subst e; cases h; exact .head _
      · exact .tail _ (mem_of_hfind' h)
  hfind_ne {t : Nat} {s : R} : ∀ {l : List (Nat × R)}, (t, s) ∈ l → hfind l t ≠ none
    | [], h => by cases h
    | (m, r) :: l, h => by
      rw [hfind_cons]
      split
      · simp
      · rename_i e
        rcases List.mem_cons.1 h with e' | h
        · cases e'; exact absurd rfl e
        · exact hfind_ne h

theorem hfind_not_hid {l : List SV} {n : Nat} (hn : ¬ isHid h l n) (h' : List (Nat × R)) : hfind (hid h l ++ h') n = hfind h' n := by
  rw [hfind_append]
  cases hc : hfind (hid h l) n with
  | some r' => exact absurd ⟨r', hfind_hid.mem_of_hfind' hc⟩ hn
  | none => rfl

theorem hfind_dead {a : List (Nat × R)} {b : List (Nat × R)} {n : Nat} : hfind (deadOf a ++ b) n = match hfind a n with | some _ => some .dead | none => hfind b n := by
  induction a with
  | nil => rfl
  | cons x a ih =>
    obtain ⟨m, r⟩ := x
    simp only [deadOf, List.cons_append, hfind_cons]
    by_cases e : m = n
    · rw [if_pos e, if_pos e]
    · rw [if_neg e, if_neg e]; exact ih

theorem owns_dead {l : List SV} {n b : Nat} : OwnsAt θ (deadOf (hid h l) ++ h) n b ↔ OwnsAt θ h n b ∧ ¬ isHid h l n := by
  constructor
  · rintro ⟨r, L, h1, h2, h3, h4⟩
    rw [hfind_dead] at h1
    cases hc : hfind (hid h l) n with
    | some r' => rw [hc] at h1; cases h1; exact h3.elim
    | none =>
      rw [hc] at h1
      refine ⟨⟨r, L, h1, h2, h3, h4⟩, ?_⟩
      rintro ⟨r', hr'⟩
      exact hfind_hid.hfind_ne hr' hc
  · rintro ⟨⟨r, L, h1, h2, h3, h4⟩, hn⟩
    refine ⟨r, L, ?_, h2, h3, h4⟩
    rw [hfind_dead]
    cases hc : hfind (hid h l) n with
    | some r' => exact absurd ⟨r', hfind_hid.mem_of_hfind' hc⟩ hn
    | none => exact h1

def Ctx.sub (K : Ctx) (θ : Th) (h hj : List (Nat × R)) (w : World) : Ctx where
  w0 := w
  M b := ∃ n, OwnsAt θ hj n b
  A b := Free K θ h b ∨ ∃ n, OwnsAt θ hj n b
  N := K.N
  ma _ hb := .inr hb

theorem SatH.hide (hs : SatH K θ h nx w) (l : List SV) : SatH (K.sub θ h (deadOf (hid h l) ++ h) w) θ (deadOf (hid h l) ++ h) nx w := by
  have hF : ∀ b, Free K θ h b → Free (K.sub θ h (deadOf (hid h l) ++ h) w) θ (deadOf (hid h l) ++ h) b := fun b hb => ⟨fun n hn => hb.1 n (owns_dead.1 hn).1, .inr (.inl hb)⟩
  refine ⟨hs.fresh, fun n r hr => ?_, fun n m b hn hm => hs.dis n m b (owns_dead.1 hn).1 (owns_dead.1 hm).1, fun n b hn => .inr ⟨n, hn⟩, .refl _ _⟩
  rw [hfind_dead] at hr
  cases hc : hfind (hid h l) n with
  | some r' =>
    rw [hc] at hr; cases hr
    obtain ⟨L, hL, _⟩ := hs.res n _ (hid_mem (hfind_hid.mem_of_hfind' hc))
    exact ⟨L, hL, trivial⟩
  | none =>
    rw [hc] at hr
    obtain ⟨L, hL, h1⟩ := hs.res n r hr
    exact ⟨L, hL, R.holds_mono (Th.ext_refl _) (fun b _ hb => ⟨hF b hb, rfl⟩) (fun _ => rfl) h1⟩

theorem SatH.unhide (hs : SatH K θ h nx w) {l : List SV} {θ' : Th} {h' : List (Nat × R)} {nx' : Nat} {w' : World}
    (hs' : SatH (K.sub θ h (deadOf (hid h l) ++ h) w) θ' h' nx' w') (hx : θ.ext θ') : SatH K θ' (hid h l ++ h') nx' w' ∧
      ∀ b, b < w.heap.size → (∀ n, OwnsAt θ h n b → isHid h l n) → w'.heap[b]? = w.heap[b]? := by
  have hfr := hs'.frame
  -- a block that is hidden, or that nobody owns, is as it was
  have keep : ∀ b, b < w.heap.size → (∀ n, OwnsAt θ h n b → isHid h l n) → w'.heap[b]? = w.heap[b]? := fun b hb hn =>
    hfr.block b hb fun ⟨n, ho⟩ => (owns_dead.1 ho).2 (hn n (owns_dead.1 ho).1)
  have src : ∀ {n b}, OwnsAt θ' (hid h l ++ h') n b → (isHid h l n ∧ OwnsAt θ h n b) ∨ (¬ isHid h l n ∧ OwnsAt θ' h' n b ∧ (w.heap.size ≤ b ∨ ∃ m, OwnsAt θ h m b ∧ ¬ isHid h l m)) := by
    rintro n b ⟨r, L, h1, h2, h3, h4⟩
    by_cases hn : isHid h l n
    · obtain ⟨r', hr'⟩ := hn
      rw [hfind_hid hr'] at h1; cases h1
      obtain ⟨L', hL', _⟩ := hs.res n _ (hid_mem hr')
      obtain rfl := Option.some.inj (h2.symm.trans (hx _ _ hL'))
      exact .inl ⟨⟨r, hr'⟩, r, L, hid_mem hr', hL', h3, h4⟩
    · rw [hfind_not_hid hn] at h1
      have ho : OwnsAt θ' h' n b := ⟨r, L, h1, h2, h3, h4⟩
      refine .inr ⟨hn, ho, (hs'.new n b ho).imp id ?_⟩
      rintro ⟨m, hm⟩
      exact ⟨m, owns_dead.1 hm⟩
  have clash : ∀ {n b}, isHid h l n → OwnsAt θ h n b → (w.heap.size ≤ b ∨ ∃ m, OwnsAt θ h m b ∧ ¬ isHid h l m) → False := by
    intro n b h1 h2 h3
    rcases h3 with h3 | ⟨m, h3, h4⟩
    · have := OwnsAt.lt hs h2; omega
    · exact h4 (hs.dis _ _ _ h2 h3 ▸ h1)
  have hF1 : ∀ b, b < w.heap.size → Free K θ h b → Free K θ' (hid h l ++ h') b := fun b hb hf => ⟨fun n hn => by
    rcases src hn with ⟨_, h1⟩ | ⟨_, _, h1 | ⟨m, h1, _⟩⟩
    · exact hf.1 _ h1
    · omega
    · exact hf.1 _ h1, hf.2⟩
  have hF2 : ∀ b, Free (K.sub θ h (deadOf (hid h l) ++ h) w) θ' h' b → Free K θ' (hid h l ++ h') b := fun b hf => by
    have hall : w.heap.size ≤ b ∨ Free K θ h b ∨ ∃ m, OwnsAt θ h m b ∧ ¬ isHid h l m := by
      rcases hf.2 with h1 | h1 | ⟨m, h1⟩
      · exact .inl h1
      · exact .inr (.inl h1)
      · exact .inr (.inr ⟨m, owns_dead.1 h1⟩)
    refine ⟨fun n hn => ?_, ?_⟩
    · rcases src hn with ⟨h1, h2⟩ | ⟨_, h1, _⟩
      · rcases hall with h3 | h3 | h3
        · have := OwnsAt.lt hs h2; omega
        · exact h3.1 _ h2
        · exact clash h1 h2 (.inr h3)
      · exact hf.1 _ h1
    · rcases hall with h3 | h3 | ⟨m, h3, _⟩
      · exact .inl (Nat.le_trans hs.frame.size h3)
      · exact h3.2
      · exact (hs.new m b h3).imp id (K.ma _)
  refine ⟨⟨hs'.fresh, fun n r hr => ?_, fun n m b hn hm => ?_, fun n b hn => ?_, ?_⟩, keep⟩
  · by_cases hn : isHid h l n
    · obtain ⟨r', hr'⟩ := hn
      rw [hfind_hid hr'] at hr; cases hr
      obtain ⟨L, hL, h1⟩ := hs.res n _ (hid_mem hr')
      refine ⟨L, hx _ _ hL, R.holds_mono hx (fun b hb hf => ⟨hF1 b hb hf, keep b hb fun n hn => absurd hn (hf.1 n)⟩) (fun ho => ?_) h1⟩
      have ow : OwnsAt θ h n L.b := ⟨r, L, hid_mem hr', hL, ho, rfl⟩
      exact keep L.b (OwnsAt.lt hs ow) fun m hm => hs.dis _ _ _ ow hm ▸ ⟨r, hr'⟩
    · rw [hfind_not_hid hn] at hr
      obtain ⟨L, hL, h1⟩ := hs'.res n r hr
      exact ⟨L, hL, R.holds_mono (Th.ext_refl _) (fun b _ hf => ⟨hF2 b hf, rfl⟩) (fun _ => rfl) h1⟩
  · rcases src hn with ⟨h1, h2⟩ | ⟨_, h2, h2'⟩ <;> rcases src hm with ⟨g1, g2⟩ | ⟨_, g2, g2'⟩
    · exact hs.dis _ _ _ h2 g2
    · exact (clash h1 h2 g2').elim
    · exact (clash g1 g2 h2').elim
    · exact hs'.dis _ _ _ h2 g2
  · rcases src hn with ⟨_, h2⟩ | ⟨_, _, h2 | ⟨m, h2, _⟩⟩
    · exact hs.new n b h2
    · exact .inl (Nat.le_trans hs.frame.size h2)
    · exact hs.new m b h2
  · refine ⟨hfr.os.trans hs.frame.os, hfr.tape.trans hs.frame.tape, hfr.output.trans hs.frame.output, Nat.le_trans hs.frame.size hfr.size, fun b hb hM => ?_⟩
    have hbw := Nat.lt_of_lt_of_le hb hs.frame.size
    rw [hfr.block b hbw ?_]
    · exact hs.frame.block b hb hM
    · rintro ⟨n, hn⟩
      rcases hs.new n b (owns_dead.1 hn).1 with h1 | h1
      · omega
      · exact hM h1
end
end Go.Z

namespace Go.Z
open Go.RowKit

section
variable {P : Program} {C : CE} {K : Ctx} {θ0 : Th} {ops : Array Oper}

def ProtOk (θ : Th) (pr : List (Nat × List SV)) (prB : Prot) : Prop := ∀ x ∈ prB, ∃ rds, (x.1, rds) ∈ pr ∧ ∀ b, x.2 b → ∃ s, s ∈ rds ∧ rdB θ s b

theorem rdB_mono {θ θ' : Th} (hx : θ.ext θ') {s : SV} {b : Nat} (h : rdB θ s b) : rdB θ' s b := by
  cases s <;> simp only [rdB] at h ⊢
  all_goals obtain ⟨L, h1, h2⟩ := h; exact ⟨L, hx _ _ h1, h2⟩

theorem ProtOk.mono {θ θ' : Th} (hx : θ.ext θ') {pr : List (Nat × List SV)} {prB : Prot} (h : ProtOk θ pr prB) : ProtOk θ' pr prB := fun x hm => by
  obtain ⟨rds, h1, h2⟩ := h x hm
  refine ⟨rds, h1, fun b hb => ?_⟩
  obtain ⟨s, h3, h4⟩ := h2 b hb
  exact ⟨s, h3, rdB_mono hx h4⟩

theorem mem_protOf {j i : Nat} {l : List SV} (ha : anc ops ops.size j i = false) : ∀ {pr : List (Nat × List SV)}, (i, l) ∈ pr → ∀ s, s ∈ l → s ∈ protOf ops j pr
  | [], h, _, _ => by cases h
  | (i', l') :: pr, h, s, hs => by
    unfold protOf
    rcases List.mem_cons.1 h with e | h
    · cases e
      rw [ha]
      exact List.mem_append.2 (.inl hs)
    · have := mem_protOf ha h s hs
      cases anc ops ops.size j i' with
      | true => exact this
      | false => exact List.mem_append.2 (.inr this)

theorem okSVs_mem {h : List (Nat × R)} {s : SV} : ∀ {l : List SV}, okSVs h l = true → s ∈ l → okSV h s = true
  | [], _, hm => by cases hm
  | t :: l, hk, hm => by
    simp only [okSVs, Bool.and_eq_true] at hk
    rcases List.mem_cons.1 hm with rfl | hm
    · exact hk.1
    · exact okSVs_mem hk.2 hm

theorem hid_blk {h : List (Nat × R)} {n T o : Nat} {c : List SV} (hf : hfind h n = some (.blk T c)) : ∀ {l : List SV}, SV.p n o ∈ l → isHid h l n
  | [], hm => by cases hm
  | t :: l, hm => by
    rcases List.mem_cons.1 hm with rfl | hm
    · refine ⟨.blk T c, ?_⟩
      simp only [hid, hf]
      exact .head _
    · obtain ⟨r, hr⟩ := hid_blk hf hm
      refine ⟨r, ?_⟩
      cases t <;> simp only [hid] <;> first | exact hr | (split <;> first | exact .tail _ hr | exact hr)
theorem hid_own {h : List (Nat × R)} {n T : Nat} {d : D} (hf : hfind h n = some (.own T d)) {s : SV} (hs : s = .a n ∨ s = .q n ∨ ∃ es i o, s = .e n es i o) : ∀ {l : List SV}, s ∈ l → isHid h l n
  | [], hm => by cases hm
  | t :: l, hm => by
    rcases List.mem_cons.1 hm with rfl | hm
    · refine ⟨.own T d, ?_⟩
      rcases hs with rfl | rfl | ⟨es, i, o, rfl⟩ <;> simp only [hid, hf] <;> exact .head _
    · obtain ⟨r, hr⟩ := hid_own hf hs hm
      refine ⟨r, ?_⟩
      cases t <;> simp only [hid] <;> first | exact hr | (split <;> first | exact .tail _ hr | exact hr)

theorem hid_map {h : List (Nat × R)} {n : Nat} {ks vs : Col} (hf : hfind h n = some (.map ks vs)) : ∀ {l : List SV}, SV.m n ∈ l → isHid h l n
  | [], hm => by cases hm
  | t :: l, hm => by
    rcases List.mem_cons.1 hm with rfl | hm
    · refine ⟨.map ks vs, ?_⟩
      simp only [hid, hf]
      exact .head _
    · obtain ⟨r, hr⟩ := hid_map hf hm
      refine ⟨r, ?_⟩
      cases t <;> simp only [hid] <;> first | exact hr | (split <;> first | exact .tail _ hr | exact hr)

theorem prot_block {θ : Th} {h : List (Nat × R)} {nx : Nat} {w : World} (hs : SatH K θ h nx w) {l : List SV} (hk : okSVs h l = true) {s : SV} (hm : s ∈ l) {b : Nat} (hb : rdB θ s b) :
    ∀ n, OwnsAt θ h n b → isHid h l n := by
  intro n hn
  have h1 := okSVs_mem hk hm
  have arr : ∀ {m : Nat}, (s = .a m ∨ s = .q m ∨ ∃ es i o, s = .e m es i o) → (∃ L, θ m = some L ∧ L.len ≠ 0 ∧ L.b = b) →
      (match hfind h m with | some (.own _ _) => true | some (.ro _) => true | _ => false) = true → isHid h l n := by
    rintro m hsm ⟨L, g1, g2, rfl⟩ hk'
    split at hk' <;> try (cases hk'; done)
    · rename_i T d hf
      obtain ⟨L', l1, l2, _⟩ := hs.res m _ hf
      obtain rfl := Option.some.inj (g1.symm.trans l1)
      have hcap : L.cap ≠ 0 := by have := D.at_len l2; omega
      obtain rfl := hs.dis n m _ hn ⟨_, L, hf, g1, hcap, rfl⟩
      exact hid_own hf hsm hm
    · rename_i d hf
      obtain ⟨L', l1, l2, l3, l4⟩ := hs.res m _ hf
      obtain rfl := Option.some.inj (g1.symm.trans l1)
      exact absurd hn ((l4 g2).1.1 n)
  cases s <;> simp only [rdB] at hb
  · rename_i m o
    obtain ⟨L, g1, rfl⟩ := hb
    simp only [okSV] at h1
    split at h1 <;> try (cases h1; done)
    · rename_i T c hf
      obtain rfl := hs.dis n m _ hn ⟨_, L, hf, g1, trivial, rfl⟩
      exact hid_blk hf hm
    · rename_i T c hf
      obtain ⟨L', l1, cs, l2, l3, _⟩ := hs.res m _ hf
      obtain rfl := Option.some.inj (g1.symm.trans l1)
      exact absurd hn (l3.1 n)
  · exact arr (.inr (.inr ⟨_, _, _, rfl⟩)) hb h1
  · exact arr (.inl rfl) hb h1
  · rename_i m
    obtain ⟨L, g1, rfl⟩ := hb
    simp only [okSV] at h1
    split at h1 <;> try (cases h1; done)
    rename_i T d hf
    have hlt := nblt h1
    obtain ⟨L', l1, l2, _⟩ := hs.res m _ hf
    obtain rfl := Option.some.inj (g1.symm.trans l1)
    have hcap : L.cap ≠ 0 := by have := D.at_len l2; omega
    obtain rfl := hs.dis n m _ hn ⟨_, L, hf, g1, hcap, rfl⟩
    exact hid_own hf (.inr (.inl rfl)) hm
  · rename_i m
    obtain ⟨L, g1, rfl⟩ := hb
    simp only [okSV] at h1
    split at h1 <;> try (cases h1; done)
    · rename_i ks vs hf
      obtain rfl := hs.dis n m _ hn ⟨_, L, hf, g1, trivial, rfl⟩
      exact hid_map hf hm
    · rename_i ks vs hf
      obtain ⟨L', l1, l2, l3, _⟩ := hs.res m _ hf
      obtain rfl := Option.some.inj (g1.symm.trans l1)
      exact absurd hn (l3.1 n)

theorem allL_mem {p : Nat → Prop} {j : Nat} : ∀ {l : List Nat}, allL l p → j ∈ l → p j
  | [], _, h => by cases h
  | _ :: _, hp, h => by
    rcases List.mem_cons.1 h with rfl | h
    · exact hp.1
    · exact allL_mem hp.2 h

theorem pickStill_spec {listed : Array Bool} {env : List (Nat × SV)} {i : Nat} {o : Oper} : ∀ {l : List Nat}, pickStill P C ops listed env l = some (i, o) →
    i ∈ l ∧ ops[i]? = some o ∧ runs ops env o.guard = true ∧ Region.free .any ops listed i = true
  | [], h => by simp [pickStill] at h
  | j :: js, h => by
    unfold pickStill at h
    split at h
    · rename_i oj hoj
      cases hc : (runs ops env oj.guard && stillK oj.op && isQuiet P C oj.op env && Region.free .any ops listed j) with
      | true =>
        rw [hc] at h
        cases h
        simp only [Bool.and_eq_true] at hc
        exact ⟨.head _, hoj, hc.1.1.1, hc.2⟩
      | false =>
        rw [hc] at h
        obtain ⟨h1, h2⟩ := pickStill_spec (l := js) h
        exact ⟨.tail _ h1, h2⟩
    · obtain ⟨h1, h2⟩ := pickStill_spec (l := js) h
      exact ⟨.tail _ h1, h2⟩

theorem runs_spec {θ : Th} {env : List (Nat × SV)} {a : Act} (he : SatE K θ env a) {o : Oper} (hr : runs ops env o.guard = true) : Region.wanted o (yielded ops a.tmps) = true := by
  unfold runs at hr
  split at hr
  · rename_i hg
    exact guardM_sound he hg
  · cases hr
theorem stepAny_sound (hC : COk P C) (hsel : Region.noSelect ops = true) {Q : Act → World → Prop} : ∀ (f : Nat) {listed : Array Bool} {pr : List (Nat × List SV)} {prB : Prot} {θ : Th}
    {env : List (Nat × SV)} {h : List (Nat × R)} {nx : Nat} {a : Act} {w : World} {k : List (Nat × SV) → List (Nat × R) → Nat → Prop},
    θ0.ext θ → SatH K θ h nx w → SatE K θ env a → ClosedL ops listed → ProtOk θ pr prB → stepAny P C K.N ops f listed pr env h nx k →
    (∀ env' h' nx' θ' a' w', k env' h' nx' → θ0.ext θ' → SatH K θ' h' nx' w' → SatE K θ' env' a' → Q a' w') → wpAnyC P ops prB Q f listed a w
  | 0, listed, pr, prB, θ, env, h, nx, a, w, k, hx, hs, he, hcl, hpr, hq, hk => by
    obtain ⟨h1, h2⟩ := cond_false hq
    exact ⟨by simpa using h1, hk _ _ _ _ _ _ h2 hx hs he⟩
  | f + 1, listed, pr, prB, θ, env, h, nx, a, w, k, hx, hs, he, hcl, hpr, hq, hk => by
    unfold stepAny at hq
    split at hq
    · rename_i i o hpick
      obtain ⟨p1, p2, p3, p4⟩ := pickStill_spec hpick
      obtain ⟨vs, h1, h2⟩ := resolveL_sound he (fun t ht => by cases ht) hq
      obtain ⟨r, h', nx', θ', v', e1, e2, e3, e4⟩ := stepQ_sound hs h2 h1
      obtain ⟨env', c1, c2⟩ := putS_sound (he.mono e2.ext) e3 e1
      refine wpAnyC_first (B := fun b => ∃ s, s ∈ readsOf o.op vs ∧ rdB θ s b) p2 (Region.noSelect_spec hsel) f listed a w hcl (Region.free_spec p2 p4) p1 (runs_spec he p3)
        (fun w' hw' => e4 w' fun s hsm b hb hr => hw'.2 b hb ⟨s, hsm, hr⟩) ?_
      refine stepAny_sound hC hsel f (Th.ext_trans hx e2.ext) e2.sat c2 (hcl.set p1) ?_ c1 hk
      intro x hxm
      rcases List.mem_cons.1 hxm with rfl | hxm
      · exact ⟨_, .head _, fun b hb => let ⟨s, g1, g2⟩ := hb; ⟨s, g1, rdB_mono e2.ext g2⟩⟩
      · obtain ⟨rds, g1, g2⟩ := hpr.mono e2.ext x hxm
        exact ⟨rds, .tail _ g1, g2⟩
    · obtain ⟨hne, hq⟩ := (cond_cases hq).elim (fun h => h.2.elim) id
      refine ⟨by simpa using hne, fun j hj => ?_⟩
      have hqj := allL_mem hq hj
      split at hqj <;> try exact hqj.elim
      rename_i o hoj
      have carry : ∀ {env : List (Nat × SV)}, SatE K θ env a → anyOp1 P C K.N ops pr j o env h nx (fun env' h' nx' => stepAny P C K.N ops f (listed.setIfInBounds j true) pr env' h' nx' k) →
          o.wp P a w (fun a' w' => (∀ x ∈ prB, anc ops ops.size j x.1 = false → KeepB x.2 w w') ∧ wpAnyC P ops prB Q f (listed.setIfInBounds j true) a' w') Q0 := by
        intro env he hqj
        rcases cond_cases hqj with ⟨_, hqj⟩ | ⟨_, hqj⟩
        · obtain ⟨r, h', nx', θ', v', e1, e2, e3, e4⟩ := stepOQ_sound hC hs he (fun t ht => by cases ht) hqj
          refine Oper.wp_of_quiet (C := Below w.heap.size w) (K := fun a' => ∃ env', stepAny P C K.N ops f (listed.setIfInBounds j true) pr env' h' nx' k ∧ SatE K θ' env' a') (Below.refl _ _) ?_
            ⟨v', e4, putS_sound (he.mono e2.ext) e3 e1⟩
          rintro a' w' hb ⟨env', c1, c2⟩
          exact ⟨fun x _ _ => ⟨hb.size, fun b hb' _ => hb.block b hb'⟩, stepAny_sound hC hsel f (Th.ext_trans hx e2.ext) (e2.sat.below hb) c2 (hcl.set hj) (hpr.mono e2.ext) c1 hk⟩
        · obtain ⟨hok, hqj⟩ := cond_false hqj
          obtain ⟨vs, h1, h2⟩ := resolveL_sound he (fun t ht => by cases ht) hqj
          refine stepL_sound hC (hs.hide (protOf ops j pr)) h2 h1 fun r h' nx' θ' v w' k1 k2 k3 k4 => ?_
          obtain ⟨env', e1, e2⟩ := putS_sound (he.mono k3) k4 k1
          obtain ⟨u1, u2⟩ := hs.unhide k2 k3
          refine ⟨fun x hxm hanc => ⟨k2.frame.size, fun b hb hB => u2 b hb ?_⟩, stepAny_sound hC hsel f (Th.ext_trans hx k3) u1 e2 (hcl.set hj) (hpr.mono k3) e1 hk⟩
          obtain ⟨rds, g1, g2⟩ := hpr x hxm
          obtain ⟨s, g3, g4⟩ := g2 b hB
          exact prot_block hs hok (mem_protOf hanc g1 s g3) g4
      have skip : ∀ {env : List (Nat × SV)}, SatE K θ env a → (putS K.N o.dst (.c undef) env fun env' => stepAny P C K.N ops f (listed.setIfInBounds j true) pr env' h nx k) →
          (∀ x ∈ prB, anc ops ops.size j x.1 = false → KeepB x.2 w w) ∧ wpAnyC P ops prB Q f (listed.setIfInBounds j true) (a.put o.dst undef) w := by
        intro env he hp
        obtain ⟨env', e1, e2⟩ := putS_sound he (V_c θ undef) hp
        exact ⟨fun x _ _ => .refl _ _, stepAny_sound hC hsel f hx hs e2 (hcl.set hj) hpr e1 hk⟩
      unfold wpOp
      simp only [hoj]
      split at hqj <;> try exact hqj.elim
      · rename_i hg
        have hw := guardM_sound he hg
        simp only [GM.ok] at hw
        rw [if_pos hw]
        exact .inl (carry he hqj)
      · rename_i hg
        have hw := guardM_sound he hg
        simp only [GM.ok] at hw
        rw [hw, if_neg (by simp)]
        exact skip he hqj
      · rename_i d t want hg
        have hw := guardM_sound he hg
        simp only [GM.ok] at hw
        by_cases ht : t = want
        · rw [hw.2, show (t == want) = true by simp [ht], if_pos rfl]
          exact .inl (carry (he.known hw.1 ht) ((swc_spec hqj).1 ht))
        · have ht' : t = !want := ne_not ht
          rw [hw.2, show (t == want) = false by simp [ht], if_neg (by simp)]
          exact skip (he.known hw.1 ht') ((swc_spec hqj).2 ht')

theorem wp_region_anyC (hP : P.follows .mixedOrders = true) (hC : COk P C) (hsel : Region.noSelect ops = true) {id : Nat} {Q : Exit → Act → World → Prop} {θ : Th} {env : List (Nat × SV)} {h : List (Nat × R)} {nx : Nat} {a : Act} {w : World}
    {k : List (Nat × SV) → List (Nat × R) → Nat → Prop} (hx : θ0.ext θ) (hs : SatH K θ h nx w) (he : SatE K θ env a)
    (hq : stepAny P C K.N ops ops.size (Array.replicate ops.size false) [] env h nx k)
    (hk : ∀ env' h' nx' θ' a' w', k env' h' nx' → θ0.ext θ' → SatH K θ' h' nx' w' → SatE K θ' env' a' → Q .normal a' w') : (Code.region id ops true).wp P Q a w := by
  have hb : Below w.heap.size w { w with drawn := w.drawn + 1 } := ⟨rfl, rfl, rfl, Nat.le_refl _, fun _ _ => rfl⟩
  refine wp_region_any hP (wpAny_of_C (Q := fun a w => Q .normal a w) (pr := []) (fun a w h => h) _ _ _ _ ?_)
  refine stepAny_sound hC hsel _ hx (hs.below hb) he ?_ (fun x hx => by cases hx) hq fun env' h' nx' θ' a' w' g1 g2 g3 g4 => hk _ _ _ _ _ _ g1 g2 g3 g4
  intro j oj _ hl
  rcases Nat.lt_or_ge j ops.size with h' | h'
  · simp [h'] at hl
  · simp [h'] at hl
end
end Go.Z
