/- Regions: the guards; a region in the order of the text; a region that draws its order and only reads. -/
import Derived.Test.YtonfaeenoifomaaZ19
namespace Go.Z
open Go.RowKit

section
variable {P : Program} {C : CE} {K : Ctx} {θ : Th} {h : List (Nat × R)} {nx : Nat} {w : World} {env : List (Nat × SV)} {a : Act} {ops : Array Oper}

def GM.ok (ops : Array Oper) (env : List (Nat × SV)) (o : Oper) (a : Act) : GM → Prop
  | .run => Region.wanted o (yielded ops a.tmps) = true
  | .skip => Region.wanted o (yielded ops a.tmps) = false
  | .under ctx => (allT ctx → Region.wanted o (yielded ops a.tmps) = true) ∧ (¬ allT ctx → Region.wanted o (yielded ops a.tmps) = false)
  | .split d t want => efind env d = some (.c (.bool t)) ∧ Region.wanted o (yielded ops a.tmps) = (t == want)

theorem guardM_sound (he : SatE K θ env a) {o : Oper} {m : GM} (hg : guardM ops env o.guard = some m) :
    m.ok ops env o a := by
  unfold guardM at hg
  unfold GM.ok
  split at hg
  · rename_i hgd
    cases hg
    simp [Region.wanted, hgd]
  · rename_i j want hgd
    split at hg <;> try (cases hg; done)
    rename_i oj hoj
    split at hg <;> try (cases hg; done)
    rename_i d hd
    have hoj' : ops[j]? = some oj := by simpa using hoj
    have hy : ∀ v, a.tmps[d]? = some v → Region.wanted o (yielded ops a.tmps) = (match v with | .bool b => b == want | _ => false) := by
      intro v hv
      simp only [Region.wanted, hgd, yielded, hoj', Option.bind_some, hd, hv]
      cases v <;> simp
    have hcons : ∀ (b : Bool) (ts : List Bool), allT (b :: ts) ↔ b = true ∧ allT ts := fun b ts =>
      ⟨fun h => ⟨h b (by simp), fun t ht => h t (by simp [ht])⟩, fun h t ht => by rcases List.mem_cons.1 ht with rfl | ht; exact h.1; exact h.2 t ht⟩
    split at hg <;> (try (cases hg; done)) <;> rename_i hef <;> obtain ⟨v, hv, hV⟩ := he.val _ _ hef <;> simp only [V] at hV
    · subst hV
      have := hy _ hv
      rename_i t
      cases ht : (t == want) with
      | true => rw [ht] at hg; cases hg; simpa [ht] using this
      | false => rw [ht] at hg; cases hg; simpa [ht] using this
    · subst hV
      have := hy _ hv
      cases hg
      exact ⟨hef, this⟩
    · subst hV
      cases hg
      exact hy _ hv
    · rename_i ts t
      cases ht : (t == want) with
      | true =>
        rw [ht] at hg; cases hg
        refine ⟨fun hc => ?_, fun hc => ?_⟩
        · rw [hy _ hv, hV.1 hc]; simpa using ht
        · rw [hy _ hv, hV.2 hc]; rfl
      | false =>
        rw [ht] at hg; cases hg
        by_cases hc : allT ts
        · rw [hy _ hv, hV.1 hc]; simpa using ht
        · rw [hy _ hv, hV.2 hc]; rfl
    · rename_i ts t
      cases hg
      simp only [hcons]
      refine ⟨fun hc => ?_, fun hc => ?_⟩
      · rw [hy _ hv, hV.1 hc.2]
        have := hc.1
        cases want <;> cases t <;> simp_all
      · by_cases hts : allT ts
        · rw [hy _ hv, hV.1 hts]
          have : ¬ (cond want t (!t) = true) := fun h1 => hc ⟨h1, hts⟩
          cases want <;> cases t <;> simp_all
        · rw [hy _ hv, hV.2 hts]; rfl

theorem guardX_sound (he : SatE K θ env a) {sp : Bool} {o : Oper} {m : GM} (hg : guardX P C sp ops env h nx o = some m) :
    m.ok ops env o a := by
  unfold guardX at hg
  split at hg
  · rename_i d t want hm
    have h1 := guardM_sound he hm
    simp only [GM.ok] at h1
    split at hg
    · cases hb : below nx _ with
      | true =>
        rw [hb] at hg; cases hg
        simp only [GM.ok]
        rw [h1.2]
        have key : allT [cond want t (!t)] ↔ (t == want) = true := by
          constructor
          · intro h
            have := h (cond want t (!t)) (by simp)
            cases want <;> cases t <;> simp_all
          · intro h u hu
            simp at hu; subst hu
            cases want <;> cases t <;> simp_all
        refine ⟨fun hc => key.1 hc, fun hc => ?_⟩
        cases hx : (t == want) with
        | false => rfl
        | true => exact absurd (key.2 hx) hc
      | false => rw [hb] at hg; cases hg; exact h1
    · cases hg; exact h1
  · exact guardM_sound he hg

theorem putS_sound (he : SatE K θ env a) {dst : Option Nat} {s : SV} {v : Value} (hv : V θ s v) {k : List (Nat × SV) → Prop} (hq : putS K.N dst s env k) : ∃ env', k env' ∧ SatE K θ env' (a.put dst v) := by
  unfold putS at hq
  split at hq
  · obtain ⟨h1, h2⟩ := cond_false hq
    exact ⟨_, h2, he.put (nblt h1) hv⟩
  · exact ⟨_, hq, ⟨by simp [Act.put, he.size], he.defers, he.val⟩⟩

theorem ne_not {t u : Bool} (h : ¬ t = u) : t = !u := by cases t <;> cases u <;> simp at h ⊢

/-- A slot whose truth value is known by now. -/
theorem SatE.known (he : SatE K θ env a) {d : Nat} {t b : Bool} (hd : efind env d = some (.c (.bool t))) (ht : t = b) : SatE K θ ((d, .b b) :: env) a := by
  refine ⟨he.size, he.defers, fun u s hs => ?_⟩
  rw [efind_cons] at hs
  split at hs
  · rename_i e; subst e; cases hs; subst ht
    obtain ⟨v, h1, h2⟩ := he.val d _ hd
    exact ⟨v, h1, by simpa only [V] using h2⟩
  · exact he.val u s hs

theorem cond_cases {c : Bool} {p q : Prop} (h : cond c p q) : (c = true ∧ p) ∨ (c = false ∧ q) := by cases c; exact .inr ⟨rfl, h⟩; exact .inl ⟨rfl, h⟩

/-- A region in the order of the text. -/
theorem execOps_sound (hC : COk P C) {sp : Bool} {θ0 : Th} {Q : Exit → Act → World → Prop} : ∀ (l : List Oper) {θ : Th} {env : List (Nat × SV)} {h : List (Nat × R)} {nx : Nat} {a : Act} {w : World}
    {k : List (Nat × SV) → List (Nat × R) → Nat → Prop}, θ0.ext θ → SatH K θ h nx w → SatE K θ env a → execOps P C K.N sp false ops l env h nx k →
    (∀ env' h' nx' θ' a' w', k env' h' nx' → θ0.ext θ' → SatH K θ' h' nx' w' → SatE K θ' env' a' → Q .normal a' w') → wpList P ops Q l a w
  | [], θ, env, h, nx, a, w, k, hx, hs, he, hq, hk => hk _ _ _ _ _ _ hq hx hs he
  | o :: rest, θ, env, h, nx, a, w, k, hx, hs, he, hq, hk => by
    -- the two ways through an operation that is carried out
    have quiet : ∀ {env : List (Nat × SV)} (_ : SatE K θ env a) {ctx : List Bool} {f : SV → SV} {k' : HK}, allT ctx → (∀ r v θ', V θ' r v → V θ' (f r) v) → stepOQ P C ctx o.op env h nx k' →
        (∀ r h' nx', k' r h' nx' → putS K.N o.dst (f r) env fun env' => execOps P C K.N sp false ops rest env' h' nx' k) → o.wp P a w (wpList P ops Q rest) Q := by
      intro env he ctx f k' hctx hf hstep hgo
      obtain ⟨r, h', nx', θ', v', h1, h2, h3, h4⟩ := stepOQ_sound hC hs he hctx hstep
      refine Oper.wp_of_quiet (C := Below w.heap.size w) (K := fun a' => ∃ env', execOps P C K.N sp false ops rest env' h' nx' k ∧ SatE K θ' env' a') (Below.refl _ _) ?_ ⟨v', h4, ?_⟩
      · rintro a' w' hb ⟨env', e1, e2⟩
        exact execOps_sound hC rest (Th.ext_trans hx h2.ext) (h2.sat.below hb) e2 e1 hk
      · exact putS_sound (he.mono h2.ext) (hf _ _ _ h3) (hgo r h' nx' h1)
    have loud : ∀ {env : List (Nat × SV)} (_ : SatE K θ env a) {ctx : List Bool} {f : SV → SV} {k' : HK}, allT ctx → (∀ r v θ', V θ' r v → V θ' (f r) v) → (resolveL env ctx o.op.operands.toList fun vs => stepL P C o.op vs h nx k') →
        (∀ r h' nx', k' r h' nx' → putS K.N o.dst (f r) env fun env' => execOps P C K.N sp false ops rest env' h' nx' k) → o.wp P a w (wpList P ops Q rest) Q := by
      intro env he ctx f k' hctx hf hstep hgo
      obtain ⟨vs, h1, h2⟩ := resolveL_sound he hctx hstep
      refine stepL_sound hC hs h2 h1 fun r h' nx' θ' v w' k1 k2 k3 k4 => ?_
      obtain ⟨env', e1, e2⟩ := putS_sound (he.mono k3) (hf _ _ _ k4) (hgo r h' nx' k1)
      exact execOps_sound hC rest (Th.ext_trans hx k3) k2 e2 e1 hk
    have skip : ∀ {env : List (Nat × SV)} (_ : SatE K θ env a), (putS K.N o.dst (.c undef) env fun env' => execOps P C K.N sp false ops rest env' h nx k) → wpList P ops Q rest (a.put o.dst undef) w := by
      intro env he hp
      obtain ⟨env', e1, e2⟩ := putS_sound he (V_c θ undef) hp
      exact execOps_sound hC rest hx hs e2 e1 hk
    unfold execOps at hq
    unfold wpList
    split at hq
    · exact hq.elim
    · rename_i hg
      have := guardX_sound he hg
      simp only [GM.ok] at this
      rw [this]
      exact skip he hq
    · rename_i hg
      have hw := guardX_sound he hg
      simp only [GM.ok] at hw
      rw [hw, if_pos rfl]
      left
      rcases cond_cases hq with ⟨_, h1⟩ | ⟨_, h1⟩
      · exact quiet he (ctx := []) (f := id) (fun t ht => by cases ht) (fun _ _ _ hv => hv) h1 (fun r h' nx' hk' => hk')
      · exact loud he (ctx := []) (f := id) (fun t ht => by cases ht) (fun _ _ _ hv => hv) h1 (fun r h' nx' hk' => hk')
    · rename_i d t want hg
      have hw := guardX_sound he hg
      simp only [GM.ok] at hw
      have hq := swc_spec hq
      by_cases ht : t = want
      · have hk' := he.known hw.1 ht
        rw [hw.2, show (t == want) = true by simp [ht], if_pos rfl]
        left
        rcases cond_cases (hq.1 ht) with ⟨_, h1⟩ | ⟨_, h1⟩
        · exact quiet hk' (ctx := []) (f := id) (fun t ht => by cases ht) (fun _ _ _ hv => hv) h1 (fun r h' nx' hk' => hk')
        · exact loud hk' (ctx := []) (f := id) (fun t ht => by cases ht) (fun _ _ _ hv => hv) h1 (fun r h' nx' hk' => hk')
      · have ht' : t = !want := ne_not ht
        rw [hw.2, show (t == want) = false by simp [ht], if_neg (by simp)]
        exact skip (he.known hw.1 ht') (hq.2 ht')
    · rename_i ctx hg
      have hw := guardX_sound he hg
      simp only [GM.ok] at hw
      have wrap : allT ctx → ∀ r v θ', V θ' r v → V θ' (.w ctx r) v := fun hc r v θ' hv => by simp only [V]; exact ⟨fun _ => hv, fun hn => absurd hc hn⟩
      split at hq
      · rename_i r hr
        obtain ⟨hb, h1, h2⟩ := cond_false hq
        have h1 := (swT_spec h1).1
        by_cases hc : allT ctx
        · rw [hw.1 hc, if_pos rfl]
          left
          obtain ⟨r', h', nx', θ', v', e1, e2, e3, e4⟩ := stepOQ_sound hC hs he hc (h1 hc)
          subst e1
          have hv : V θ r' v' := V_below e2.agree hb e3
          refine Oper.wp_of_quiet (C := Below w.heap.size w) (K := fun a' => ∃ env', execOps P C K.N sp false ops rest env' h nx k ∧ SatE K θ env' a') (Below.refl _ _) ?_ ⟨v', e4, ?_⟩
          · rintro a' w' hb ⟨env', c1, c2⟩
            exact execOps_sound hC rest hx (hs.below hb) c2 c1 hk
          · exact putS_sound he (wrap hc _ _ _ hv) h2
        · rw [hw.2 hc, if_neg (by simp)]
          obtain ⟨env', c1, c2⟩ := putS_sound he (v := undef) (by simp only [V]; exact ⟨fun h => absurd h hc, fun _ => by trivial⟩) h2
          exact execOps_sound hC rest hx hs c2 c1 hk
      · have hq := swT_spec hq
        by_cases hc : allT ctx
        · rw [hw.1 hc, if_pos rfl]
          left
          rcases cond_cases (hq.1 hc) with ⟨_, h1⟩ | ⟨_, h1⟩
          · exact quiet he (f := fun r => .w ctx r) hc (wrap hc) h1 (fun r h' nx' hk' => hk')
          · exact loud he (f := fun r => .w ctx r) hc (wrap hc) h1 (fun r h' nx' hk' => hk')
        · rw [hw.2 hc, if_neg (by simp)]
          exact skip he (hq.2 hc)

/-- A region whose operations only read: what it says of the class of worlds that have grown of this one. -/
theorem execOps_quiet (hC : COk P C) {sp : Bool} {θ0 : Th} {Q : Act → Prop} : ∀ (l : List Oper) {θ : Th} {env : List (Nat × SV)} {h : List (Nat × R)} {nx : Nat} {a : Act} {w : World}
    {k : List (Nat × SV) → List (Nat × R) → Nat → Prop}, θ0.ext θ → SatH K θ h nx w → SatE K θ env a → execOps P C K.N sp true ops l env h nx k →
    (∀ env' h' nx' θ' a', k env' h' nx' → θ0.ext θ' → SatH K θ' h' nx' w → SatE K θ' env' a' → Q a') → wpQuiet P ops (Below w.heap.size w) Q l a
  | [], θ, env, h, nx, a, w, k, hx, hs, he, hq, hk => hk _ _ _ _ _ hq hx hs he
  | o :: rest, θ, env, h, nx, a, w, k, hx, hs, he, hq, hk => by
    have quiet : ∀ {env : List (Nat × SV)} (_ : SatE K θ env a) {ctx : List Bool} {f : SV → SV} {k' : HK}, allT ctx → (∀ r v θ', V θ' r v → V θ' (f r) v) → stepOQ P C ctx o.op env h nx k' →
        (∀ r h' nx', k' r h' nx' → putS K.N o.dst (f r) env fun env' => execOps P C K.N sp true ops rest env' h' nx' k) → o.quiet P a (Below w.heap.size w) (wpQuiet P ops (Below w.heap.size w) Q rest) := by
      intro env he ctx f k' hctx hf hstep hgo
      obtain ⟨r, h', nx', θ', v', h1, h2, h3, h4⟩ := stepOQ_sound hC hs he hctx hstep
      obtain ⟨env', e1, e2⟩ := putS_sound (he.mono h2.ext) (hf _ _ _ h3) (hgo r h' nx' h1)
      exact ⟨v', h4, execOps_quiet hC rest (Th.ext_trans hx h2.ext) h2.sat e2 e1 hk⟩
    have skip : ∀ {env : List (Nat × SV)} (_ : SatE K θ env a), (putS K.N o.dst (.c undef) env fun env' => execOps P C K.N sp true ops rest env' h nx k) → wpQuiet P ops (Below w.heap.size w) Q rest (a.put o.dst undef) := by
      intro env he hp
      obtain ⟨env', e1, e2⟩ := putS_sound he (V_c θ undef) hp
      exact execOps_quiet hC rest hx hs e2 e1 hk
    unfold execOps at hq
    unfold wpQuiet
    split at hq
    · exact hq.elim
    · rename_i hg
      have := guardX_sound he hg
      simp only [GM.ok] at this
      rw [this]
      exact skip he hq
    · rename_i hg
      have hw := guardX_sound he hg
      simp only [GM.ok] at hw
      rw [hw, if_pos rfl]
      rcases cond_cases hq with ⟨_, h1⟩ | ⟨_, h1⟩
      · exact quiet he (ctx := []) (f := id) (fun t ht => by cases ht) (fun _ _ _ hv => hv) h1 (fun r h' nx' hk' => hk')
      · exact h1.elim
    · rename_i d t want hg
      have hw := guardX_sound he hg
      simp only [GM.ok] at hw
      have hq := swc_spec hq
      by_cases ht : t = want
      · have hk' := he.known hw.1 ht
        rw [hw.2, show (t == want) = true by simp [ht], if_pos rfl]
        rcases cond_cases (hq.1 ht) with ⟨_, h1⟩ | ⟨_, h1⟩
        · exact quiet hk' (ctx := []) (f := id) (fun t ht => by cases ht) (fun _ _ _ hv => hv) h1 (fun r h' nx' hk' => hk')
        · exact h1.elim
      · have ht' : t = !want := ne_not ht
        rw [hw.2, show (t == want) = false by simp [ht], if_neg (by simp)]
        exact skip (he.known hw.1 ht') (hq.2 ht')
    · rename_i ctx hg
      have hw := guardX_sound he hg
      simp only [GM.ok] at hw
      have wrap : allT ctx → ∀ r v θ', V θ' r v → V θ' (.w ctx r) v := fun hc r v θ' hv => by simp only [V]; exact ⟨fun _ => hv, fun hn => absurd hc hn⟩
      split at hq
      · rename_i r hr
        obtain ⟨hb, h1, h2⟩ := cond_false hq
        have h1 := (swT_spec h1).1
        by_cases hc : allT ctx
        · rw [hw.1 hc, if_pos rfl]
          obtain ⟨r', h', nx', θ', v', e1, e2, e3, e4⟩ := stepOQ_sound hC hs he hc (h1 hc)
          subst e1
          have hv : V θ r' v' := V_below e2.agree hb e3
          obtain ⟨env', c1, c2⟩ := putS_sound he (wrap hc _ _ _ hv) h2
          exact ⟨v', e4, execOps_quiet hC rest hx hs c2 c1 hk⟩
        · rw [hw.2 hc, if_neg (by simp)]
          obtain ⟨env', c1, c2⟩ := putS_sound he (v := undef) (by simp only [V]; exact ⟨fun h => absurd h hc, fun _ => by trivial⟩) h2
          exact execOps_quiet hC rest hx hs c2 c1 hk
      · have hq := swT_spec hq
        by_cases hc : allT ctx
        · rw [hw.1 hc, if_pos rfl]
          rcases cond_cases (hq.1 hc) with ⟨_, h1⟩ | ⟨_, h1⟩
          · exact quiet he (f := fun r => .w ctx r) hc (wrap hc) h1 (fun r h' nx' hk' => hk')
          · exact h1.elim
        · rw [hw.2 hc, if_neg (by simp)]
          exact skip he (hq.2 hc)
end
end Go.Z
