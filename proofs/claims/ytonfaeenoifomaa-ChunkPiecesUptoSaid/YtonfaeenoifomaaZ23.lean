/- Code, symbolically: sound. -/
import Derived.Test.YtonfaeenoifomaaZ22
import Derived.Deep.LoopGhost
namespace Go.Z
open Go.RowKit

def Ex.exit' : Ex → Exit
  | .normal => .normal
  | .exit i => .exit i
  | .ret => .ret

section
variable {P : Program} {C : CE} {K : Ctx} {ann : Ann}

theorem loop_sound {c : Code} {body : List (Nat × SV) → List (Nat × R) → Nat → EK → Prop}
    (ih : ∀ {θ0 θ : Th} {env : List (Nat × SV)} {h : List (Nat × R)} {nx : Nat} {a : Act} {w : World} {k : EK} {Q : Exit → Act → World → Prop}, θ0.ext θ → SatH K θ h nx w → SatE K θ env a → body env h nx k →
      (∀ e env' h' nx' θ' a' w', k e env' h' nx' → θ0.ext θ' → SatH K θ' h' nx' w' → SatE K θ' env' a' → Q e.exit' a' w') → c.wp P Q a w)
    {θ0 θ : Th} {env : List (Nat × SV)} {h : List (Nat × R)} {nx : Nat} {a : Act} {w : World} {k : EK} {Q : Exit → Act → World → Prop} (hx : θ0.ext θ) (hs : SatH K θ h nx w) (he : SatE K θ env a) {A : LoopAnn}
    (hq : loopX P body A (dsts c) env h nx k) (hk : ∀ e env' h' nx' θ' a' w', k e env' h' nx' → θ0.ext θ' → SatH K θ' h' nx' w' → SatE K θ' env' a' → Q e.exit' a' w') : (Code.loop c).wp P Q a w := by
  obtain ⟨g0, hp, hi⟩ := hq
  obtain ⟨on, rn, fp0, ⟨hnd, hb⟩, hN, hrn, hall⟩ := matchIt_sound (θ := θ) hs (Th.ext_refl _) hs he (A.items g0) hi
  simp only [Bool.and_eq_true] at hnd
  have hrnD : ∀ n ∈ on ++ rn, ∃ L, θ n = some L := fun n hn => by
    rcases List.mem_append.1 hn with hn | hn
    · exact hN.2.2 n hn
    · exact hrn n hn
  have key : ∀ (g : A.γ) {θ3 : Th} {env3 : List (Nat × SV)} {h3 : List (Nat × R)} {nx3 : Nat} {a3 : Act} {w3 : World}, θ.ext θ3 → SatH K θ3 h3 nx3 w3 → SatE K θ3 env3 a3 →
      (matchIt env h env3 h3 (A.items g) fun on' rn' => (nodupB on' && disjB rn' on' && okMs nx (on ++ rn) (on' ++ rn')) = true) →
      keptE env3 (filterEnv (slotsI (A.items g) ++ dsts c) env) → keptH h3 (filterH (on ++ rn) h) →
      ∃ X fp, SatX K X θ (deads (on ++ rn) h) nx w3 ∧ FpOk K X θ (deads (on ++ rn) h) fp ∧ ItH X w3 θ env h a3 (A.items g) fp ∧ SatE K θ (filterEnv (slotsI (A.items g) ++ dsts c) env) a3 := by
    intro g θ3 env3 h3 nx3 a3 w3 k1 k2 k3 k4 k5 k6
    obtain ⟨on', rn', fp', hk', m1, _, m2⟩ := matchIt_sound hs k1 k2 k3 (A.items g) k4
    simp only [Bool.and_eq_true] at hk'
    obtain ⟨X, x1, x2, x3, x4⟩ := headInv hs he k1 k2 k3 hrnD m1 m2 (nodupB_sound hk'.1.1) (disjB_sound hk'.1.2) (fun m hm => okMs_mem hk'.2 hm) k6 k5
    exact ⟨X, fp', x1, x2, x3, x4⟩
  refine wp_loop_ghost (fun n a' w' => ∃ g : A.γ, A.pre g ∧ A.μ g = n ∧ ∃ X fp, SatX K X θ (deads (on ++ rn) h) nx w' ∧ FpOk K X θ (deads (on ++ rn) h) fp ∧ ItH X w' θ env h a' (A.items g) fp ∧
    SatE K θ (filterEnv (slotsI (A.items g) ++ dsts c) env) a') (A.μ g0) ?_ ?_
  · refine ⟨g0, hp, rfl, ?_⟩
    obtain ⟨X, x1, x2, x3, x4⟩ := headInv hs he (Th.ext_refl _) hs he (D := on ++ rn) (W := slotsI (A.items g0) ++ dsts c) hrnD hN hall (nodupB_sound hnd.1) (disjB_sound hnd.2) (fun m hm => .inr hm) (keptH_of fun t s hm => (mem_filterH hm).1) (keptE_of fun t s hm => (mem_filterEnv hm).1)
    exact ⟨X, fp0, x1, x2, x3, x4⟩
  · rintro n a' w' ⟨g, hpg, rfl, X, fp, q1, q2, q3, q4⟩
    obtain ⟨es, h2, nx2, θ2, e1, e2, e3, e4⟩ := headState q1 q2 q3 q4 (hb g hpg)
    refine ih e3 e2 e4 e1 ?_
    intro e env' h' nx' θ' a'' w'' g1 g2 g3 g4
    cases e with
    | normal =>
      obtain ⟨g', k1, k2, k3, k4, k5⟩ := g1
      exact ⟨_, k2, g', k1, rfl, key g' g2 g3 g4 k3 k4 k5⟩
    | exit i => exact hk (.exit i) _ _ _ _ _ _ g1 (Th.ext_trans hx g2) g3 g4
    | ret => exact hk .ret _ _ _ _ _ _ g1 (Th.ext_trans hx g2) g3 g4

theorem exec_sound (hP : P.follows .mixedOrders = true) (hC : COk P C) : ∀ (c : Code) {θ0 θ : Th} {env : List (Nat × SV)} {h : List (Nat × R)} {nx : Nat} {a : Act} {w : World}
    {k : Ex → List (Nat × SV) → List (Nat × R) → Nat → Prop} {Q : Exit → Act → World → Prop}, θ0.ext θ → SatH K θ h nx w → SatE K θ env a → exec P C K.N ann c env h nx k →
    (∀ e env' h' nx' θ' a' w', k e env' h' nx' → θ0.ext θ' → SatH K θ' h' nx' w' → SatE K θ' env' a' → Q e.exit' a' w') → c.wp P Q a w
  | .skip, θ0, θ, env, h, nx, a, w, k, Q, hx, hs, he, hq, hk => wp_skip (hk _ _ _ _ _ _ _ hq hx hs he)
  | .label _, θ0, θ, env, h, nx, a, w, k, Q, hx, hs, he, hq, hk => wp_label (hk _ _ _ _ _ _ _ hq hx hs he)
  | .ret, θ0, θ, env, h, nx, a, w, k, Q, hx, hs, he, hq, hk => wp_ret (hk _ _ _ _ _ _ _ hq hx hs he)
  | .exit _, θ0, θ, env, h, nx, a, w, k, Q, hx, hs, he, hq, hk => wp_exit (hk _ _ _ _ _ _ _ hq hx hs he)
  | .region id ops draw, θ0, θ, env, h, nx, a, w, k, Q, hx, hs, he, hq, hk => by
    unfold exec at hq
    cases draw with
    | false => exact wp_region_list (execOps_sound hC _ hx hs he hq fun env' h' nx' θ' a' w' g1 g2 g3 g4 => hk _ _ _ _ _ _ _ (doneK_iff.1 g1) g2 g3 g4)
    | true =>
      rcases cond_cases (cond_cases hq |>.elim And.right (fun h => by cases h.1)) with ⟨_, hq⟩ | ⟨_, hq⟩
      case inr =>
        obtain ⟨hsel, hq⟩ := cond_false hq
        exact wp_region_anyC hP hC hsel hx hs he hq fun env' h' nx' θ' a' w' g1 g2 g3 g4 => hk _ _ _ _ _ _ _ (doneK_iff.1 g1) g2 g3 g4
      obtain ⟨hB, hq⟩ := cond_false hq
      refine wp_region_quiet (C := Below w.heap.size w) hP hB ⟨rfl, rfl, rfl, Nat.le_refl _, fun _ _ => rfl⟩ ?_
      exact execOps_quiet hC _ hx hs he hq fun env' h' nx' θ' a' g1 g2 g3 g4 w' hw' => hk _ _ _ _ _ _ _ (doneK_iff.1 g1) g2 (g3.below hw') g4
  | .seq x y, θ0, θ, env, h, nx, a, w, k, Q, hx, hs, he, hq, hk => by
    unfold exec at hq
    refine wp_seq (exec_sound hP hC x hx hs he hq ?_)
    intro e env' h' nx' θ' a' w' g1 g2 g3 g4
    cases e with
    | normal => exact exec_sound hP hC y g2 g3 g4 g1 hk
    | exit i => exact hk (.exit i) _ _ _ _ _ _ g1 g2 g3 g4
    | ret => exact hk .ret _ _ _ _ _ _ g1 g2 g3 g4
  | .cond c x y, θ0, θ, env, h, nx, a, w, k, Q, hx, hs, he, hq, hk => by
    unfold exec at hq
    split at hq <;> try exact hq.elim
    · rename_i hg
      have hv := V_get he c _ hg
      simp only [V] at hv
      exact wp_cond_true hv (exec_sound hP hC x hx hs he hq hk)
    · rename_i hg
      have hv := V_get he c _ hg
      simp only [V] at hv
      exact wp_cond_false hv (exec_sound hP hC y hx hs he hq hk)
    · rename_i t hg
      have hv := V_get he c _ hg
      simp only [V] at hv
      have hq := sw_iff.1 hq
      exact wp_cond_split hv (fun ht => exec_sound hP hC x hx hs he (hq.1 ht) hk) (fun ht => exec_sound hP hC (Q := Q) y hx hs he (hq.2 ht) hk)
  | .block id x, θ0, θ, env, h, nx, a, w, k, Q, hx, hs, he, hq, hk => by
    unfold exec at hq
    refine wp_block (exec_sound hP hC x hx hs he hq ?_)
    intro e env' h' nx' θ' a' w' g1 g2 g3 g4
    cases e with
    | normal => exact hk .normal _ _ _ _ _ _ g1 g2 g3 g4
    | exit i =>
      show if i = id then Q .normal a' w' else Q (.exit i) a' w'
      rcases cond_cases g1 with ⟨e, g1⟩ | ⟨e, g1⟩
      · rw [if_pos (Nat.eq_of_beq_eq_true e)]; exact hk .normal _ _ _ _ _ _ g1 g2 g3 g4
      · rw [if_neg (fun h => by subst h; rw [Nat.beq_refl] at e; cases e)]; exact hk (.exit i) _ _ _ _ _ _ g1 g2 g3 g4
    | ret => exact hk .ret _ _ _ _ _ _ g1 g2 g3 g4
  | .loop c, θ0, θ, env, h, nx, a, w, k, Q, hx, hs, he, hq, hk => by
    unfold exec at hq
    split at hq <;> try exact hq.elim
    rename_i r _
    split at hq
    · refine wp_loop_ghost (fun n a' w' => ∃ env' h' nx' θ', rounds (exec P C K.N ann c) n env' h' nx' k ∧ θ0.ext θ' ∧ SatH K θ' h' nx' w' ∧ SatE K θ' env' a') (ann.unroll r) ⟨_, _, _, _, hq, hx, hs, he⟩ ?_
      rintro n a' w' ⟨env', h', nx', θ', q1, q2, q3, q4⟩
      cases n with
      | zero => exact q1.elim
      | succ n =>
        refine exec_sound hP hC c q2 q3 q4 q1 ?_
        intro e env'' h'' nx'' θ'' a'' w'' g1 g2 g3 g4
        cases e with
        | normal => exact ⟨n, Nat.lt_succ_self n, _, _, _, _, g1, g2, g3, g4⟩
        | exit i => exact hk (.exit i) _ _ _ _ _ _ g1 g2 g3 g4
        | ret => exact hk .ret _ _ _ _ _ _ g1 g2 g3 g4
    all_goals
      have hq : ∃ A, loopX P (exec P C K.N ann c) A (dsts c) env h nx k := by first | exact ⟨_, hq⟩ | exact hq.elim fun p hp => ⟨_, hp⟩
      obtain ⟨A, hq⟩ := hq
      exact loop_sound (fun hx hs he hq hk => exec_sound hP hC c hx hs he hq hk) hx hs he hq hk
  | .rangeFunc _ _ _ _, θ0, θ, env, h, nx, a, w, k, Q, hx, hs, he, hq, hk => by exact (show False from hq).elim
  | .scope _, θ0, θ, env, h, nx, a, w, k, Q, hx, hs, he, hq, hk => by exact (show False from hq).elim
  | .goto _, θ0, θ, env, h, nx, a, w, k, Q, hx, hs, he, hq, hk => by exact (show False from hq).elim
  | .refuse _, θ0, θ, env, h, nx, a, w, k, Q, hx, hs, he, hq, hk => by exact (show False from hq).elim
end
end Go.Z
