/- Part 12 of what the closing text rests on. -/
import Derived.Test.YtlbfenfepmmihaaQ11
import Derived.Deep.LoopGhost
import Derived.KernelRfl
import Derived.Lib.EndianBits
import Derived.ProofKit
namespace Go.Z
open Go.RowKit

def Ex.exit' : Ex → Exit
  | .normal => .normal
  | .exit i => .exit i
  | .ret => .ret

section
variable {P : Program} {C : CE} {K : Ctx} {ann : Ann}

theorem loop_sound {c : Code} {D : List Nat} {body : List (Nat × SV) → List (Nat × R) → Nat → EK → Prop}
    (ih : ∀ {θ0 θ : Th} {env : List (Nat × SV)} {h : List (Nat × R)} {nx : Nat} {a : Act} {w : World} {k : EK} {Q : Exit → Act → World → Prop}, θ0.ext θ → SatH K θ h nx w → SatE K θ env a → body env h nx k →
      (∀ e env' h' nx' θ' a' w', k e env' h' nx' → θ0.ext θ' → SatH K θ' h' nx' w' → SatE K θ' env' a' → Q e.exit' a' w') → c.wp P Q a w)
    {θ0 θ : Th} {env : List (Nat × SV)} {h : List (Nat × R)} {nx : Nat} {a : Act} {w : World} {k : EK} {Q : Exit → Act → World → Prop} (hx : θ0.ext θ) (hs : SatH K θ h nx w) (he : SatE K θ env a) {A : LoopAnn}
    (hq : loopX P body A (D) env h nx k) (hk : ∀ e env' h' nx' θ' a' w', k e env' h' nx' → θ0.ext θ' → SatH K θ' h' nx' w' → SatE K θ' env' a' → Q e.exit' a' w') : (Code.loop c).wp P Q a w := by
  obtain ⟨g0, hp, hi⟩ := hq
  obtain ⟨on, rn, fp0, ⟨hnd, hb⟩, hN, hrn, hall⟩ := matchIt_sound (θ := θ) hs (Th.ext_refl _) hs he (A.items g0) hi
  simp only [Bool.and_eq_true] at hnd
  have hrnD : ∀ n ∈ on ++ rn, ∃ L, θ n = some L := fun n hn => by
    rcases List.mem_append.1 hn with hn | hn
    · exact hN.2.2 n hn
    · exact hrn n hn
  have key : ∀ (g : A.γ) {θ3 : Th} {env3 : List (Nat × SV)} {h3 : List (Nat × R)} {nx3 : Nat} {a3 : Act} {w3 : World}, θ.ext θ3 → SatH K θ3 h3 nx3 w3 → SatE K θ3 env3 a3 →
      (matchIt env h env3 h3 (A.items g) fun on' rn' => (nodupB on' && disjB rn' on' && okMs nx (on ++ rn) (on' ++ rn')) = true) →
      keptE env3 (filterEnv (slotsI (A.items g) ++ D) env) → keptH h3 (filterH (on ++ rn) h) →
      ∃ X fp, SatX K X θ (deads (on ++ rn) h) nx w3 ∧ FpOk K X θ (deads (on ++ rn) h) fp ∧ ItH X w3 θ env h a3 (A.items g) fp ∧ SatE K θ (filterEnv (slotsI (A.items g) ++ D) env) a3 := by
    intro g θ3 env3 h3 nx3 a3 w3 k1 k2 k3 k4 k5 k6
    obtain ⟨on', rn', fp', hk', m1, _, m2⟩ := matchIt_sound hs k1 k2 k3 (A.items g) k4
    simp only [Bool.and_eq_true] at hk'
    obtain ⟨X, x1, x2, x3, x4⟩ := headInv hs he k1 k2 k3 hrnD m1 m2 (nodupB_sound hk'.1.1) (disjB_sound hk'.1.2) (fun m hm => okMs_mem hk'.2 hm) k6 k5
    exact ⟨X, fp', x1, x2, x3, x4⟩
  refine wp_loop_ghost (fun n a' w' => ∃ g : A.γ, A.pre g ∧ A.μ g = n ∧ ∃ X fp, SatX K X θ (deads (on ++ rn) h) nx w' ∧ FpOk K X θ (deads (on ++ rn) h) fp ∧ ItH X w' θ env h a' (A.items g) fp ∧
    SatE K θ (filterEnv (slotsI (A.items g) ++ D) env) a') (A.μ g0) ?_ ?_
  · refine ⟨g0, hp, rfl, ?_⟩
    obtain ⟨X, x1, x2, x3, x4⟩ := headInv hs he (Th.ext_refl _) hs he (D := on ++ rn) (W := slotsI (A.items g0) ++ D) hrnD hN hall (nodupB_sound hnd.1) (disjB_sound hnd.2) (fun m hm => .inr hm) (keptH_of fun t s hm => (mem_filterH hm).1) (keptE_of fun t s hm => (mem_filterEnv hm).1)
    exact ⟨X, fp0, x1, x2, x3, x4⟩
  · rintro n a' w' ⟨g, hpg, rfl, X, fp, q1, q2, q3, q4⟩
    obtain ⟨es, h2, nx2, θ2, e1, e2, e3, e4⟩ := headState q1 q2 q3 q4 (hb g hpg)
    refine ih e3 e2 e4 e1 ?_
    intro e env' h' nx' θ' a'' w'' g1 g2 g3 g4
    cases e with
    | normal =>
      obtain ⟨g', k1, k2, k3, k4, k5⟩ := g1
      exact ⟨_, k2, g', k1, rfl, key g' g2 g3 g4 k3 k4 k5⟩
    | exit i => exact hk (.exit i) _ _ _ _ _ _ g1 (Th.ext_trans hx g2) g3 g4
    | ret => exact hk .ret _ _ _ _ _ _ g1 (Th.ext_trans hx g2) g3 g4

theorem exec_sound (hP : P.follows .mixedOrders = true) (hC : COk P C) : ∀ (c : Code) {θ0 θ : Th} {env : List (Nat × SV)} {h : List (Nat × R)} {nx : Nat} {a : Act} {w : World}
    {k : Ex → List (Nat × SV) → List (Nat × R) → Nat → Prop} {Q : Exit → Act → World → Prop}, θ0.ext θ → SatH K θ h nx w → SatE K θ env a → exec P C K.N ann c env h nx k →
    (∀ e env' h' nx' θ' a' w', k e env' h' nx' → θ0.ext θ' → SatH K θ' h' nx' w' → SatE K θ' env' a' → Q e.exit' a' w') → c.wp P Q a w
  | .skip, θ0, θ, env, h, nx, a, w, k, Q, hx, hs, he, hq, hk => wp_skip (hk _ _ _ _ _ _ _ hq hx hs he)
  | .label _, θ0, θ, env, h, nx, a, w, k, Q, hx, hs, he, hq, hk => wp_label (hk _ _ _ _ _ _ _ hq hx hs he)
  | .ret, θ0, θ, env, h, nx, a, w, k, Q, hx, hs, he, hq, hk => wp_ret (hk _ _ _ _ _ _ _ hq hx hs he)
  | .exit _, θ0, θ, env, h, nx, a, w, k, Q, hx, hs, he, hq, hk => wp_exit (hk _ _ _ _ _ _ _ hq hx hs he)
  | .region id ops draw, θ0, θ, env, h, nx, a, w, k, Q, hx, hs, he, hq, hk => by
    unfold exec at hq
    cases draw with
    | false => exact wp_region_list (execOps_sound hC _ hx hs he hq fun env' h' nx' θ' a' w' g1 g2 g3 g4 => hk _ _ _ _ _ _ _ (doneK_iff.1 g1) g2 g3 g4)
    | true =>
      rcases cond_cases (cond_cases hq |>.elim And.right (fun h => by cases h.1)) with ⟨_, hq⟩ | ⟨_, hq⟩
      case inr =>
        obtain ⟨hsel, hq⟩ := cond_false hq
        exact wp_region_anyC hP hC hsel hx hs he hq fun env' h' nx' θ' a' w' g1 g2 g3 g4 => hk _ _ _ _ _ _ _ (doneK_iff.1 g1) g2 g3 g4
      obtain ⟨hB, hq⟩ := cond_false hq
      refine wp_region_quiet (C := Below w.heap.size w) hP hB ⟨rfl, rfl, rfl, Nat.le_refl _, fun _ _ => rfl⟩ ?_
      exact execOps_quiet hC _ hx hs he hq fun env' h' nx' θ' a' g1 g2 g3 g4 w' hw' => hk _ _ _ _ _ _ _ (doneK_iff.1 g1) g2 (g3.below hw') g4
  | .seq x y, θ0, θ, env, h, nx, a, w, k, Q, hx, hs, he, hq, hk => by
    unfold exec at hq
    refine wp_seq (exec_sound hP hC x hx hs he hq ?_)
    intro e env' h' nx' θ' a' w' g1 g2 g3 g4
    cases e with
    | normal => exact exec_sound hP hC y g2 g3 g4 g1 hk
    | exit i => exact hk (.exit i) _ _ _ _ _ _ g1 g2 g3 g4
    | ret => exact hk .ret _ _ _ _ _ _ g1 g2 g3 g4
  | .cond c x y, θ0, θ, env, h, nx, a, w, k, Q, hx, hs, he, hq, hk => by
    unfold exec at hq
    split at hq <;> try exact hq.elim
    · rename_i hg
      have hv := V_get he c _ hg
      simp only [V] at hv
      exact wp_cond_true hv (exec_sound hP hC x hx hs he hq hk)
    · rename_i hg
      have hv := V_get he c _ hg
      simp only [V] at hv
      exact wp_cond_false hv (exec_sound hP hC y hx hs he hq hk)
    · rename_i t hg
      have hv := V_get he c _ hg
      simp only [V] at hv
      have hq := sw_iff.1 hq
      exact wp_cond_split hv (fun ht => exec_sound hP hC x hx hs he (hq.1 ht) hk) (fun ht => exec_sound hP hC (Q := Q) y hx hs he (hq.2 ht) hk)
  | .block id x, θ0, θ, env, h, nx, a, w, k, Q, hx, hs, he, hq, hk => by
    unfold exec at hq
    refine wp_block (exec_sound hP hC x hx hs he hq ?_)
    intro e env' h' nx' θ' a' w' g1 g2 g3 g4
    cases e with
    | normal => exact hk .normal _ _ _ _ _ _ g1 g2 g3 g4
    | exit i =>
      show if i = id then Q .normal a' w' else Q (.exit i) a' w'
      rcases cond_cases g1 with ⟨e, g1⟩ | ⟨e, g1⟩
      · rw [if_pos (Nat.eq_of_beq_eq_true e)]; exact hk .normal _ _ _ _ _ _ g1 g2 g3 g4
      · rw [if_neg (fun h => by subst h; rw [Nat.beq_refl] at e; cases e)]; exact hk (.exit i) _ _ _ _ _ _ g1 g2 g3 g4
    | ret => exact hk .ret _ _ _ _ _ _ g1 g2 g3 g4
  | .loop c, θ0, θ, env, h, nx, a, w, k, Q, hx, hs, he, hq, hk => by
    unfold exec at hq
    split at hq <;> try exact hq.elim
    rename_i r _
    split at hq
    · refine wp_loop_ghost (fun n a' w' => ∃ env' h' nx' θ', rounds (exec P C K.N ann c) n env' h' nx' k ∧ θ0.ext θ' ∧ SatH K θ' h' nx' w' ∧ SatE K θ' env' a') (ann.unroll r) ⟨_, _, _, _, hq, hx, hs, he⟩ ?_
      rintro n a' w' ⟨env', h', nx', θ', q1, q2, q3, q4⟩
      cases n with
      | zero => exact q1.elim
      | succ n =>
        refine exec_sound hP hC c q2 q3 q4 q1 ?_
        intro e env'' h'' nx'' θ'' a'' w'' g1 g2 g3 g4
        cases e with
        | normal => exact ⟨n, Nat.lt_succ_self n, _, _, _, _, g1, g2, g3, g4⟩
        | exit i => exact hk (.exit i) _ _ _ _ _ _ g1 g2 g3 g4
        | ret => exact hk .ret _ _ _ _ _ _ g1 g2 g3 g4
    all_goals
      have hq : ∃ A, loopX P (exec P C K.N ann c) A (dsts c ++ ann.drop r) env h nx k := by first | exact ⟨_, hq⟩ | exact hq.elim fun p hp => ⟨_, hp⟩
      obtain ⟨A, hq⟩ := hq
      exact loop_sound (fun hx hs he hq hk => exec_sound hP hC c hx hs he hq hk) hx hs he hq hk
  | .rangeFunc _ _ _ _, θ0, θ, env, h, nx, a, w, k, Q, hx, hs, he, hq, hk => by exact (show False from hq).elim
  | .scope _, θ0, θ, env, h, nx, a, w, k, Q, hx, hs, he, hq, hk => by exact (show False from hq).elim
  | .goto _, θ0, θ, env, h, nx, a, w, k, Q, hx, hs, he, hq, hk => by exact (show False from hq).elim
  | .refuse _, θ0, θ, env, h, nx, a, w, k, Q, hx, hs, he, hq, hk => by exact (show False from hq).elim
end
end Go.Z

namespace Go.Z
open Go.RowKit

def slotsOf : List SV → Nat → List (Nat × SV)
  | [], _ => []
  | s :: ss, t => (t, s) :: slotsOf ss (t + 1)

def resultS (P : Program) (env : List (Nat × SV)) (h : List (Nat × R)) : List ResultVar → (List SV → Prop) → Prop
  | [], k => k []
  | .tmp t :: l, k => match efind env t with
    | some s => resultS P env h l fun ss => k (s :: ss)
    | none => False
  | .cell t T :: l, k => match efind env t with
    | some (.p n o) => match hfind h n with
      | some (.blk _ cs) => match ldBlk P T cs o with
        | some s => resultS P env h l fun ss => k (s :: ss)
        | none => False
      | _ => False
    | some (.q n) => match hfind h n, kindT P T with
      | some (.own _ (.ints kk xs)), some (true, s) => s = xs.length ∧ resultS P env h l fun ss => k (.arr kk xs :: ss)
      | _, _ => False
    | _ => False

def retOk (P : Program) (rv : List ResultVar) (env : List (Nat × SV)) (h : List (Nat × R)) (ss : List SV) (res upd : List O) : Prop :=
  resultS P env h rv fun rs => matchOs h upd ss fun on rn => matchOs h res rs fun on' rn' => (nodupB (on ++ on') && disjB (rn ++ rn') (on ++ on')) = true

def instG : List (Nat × Nat × IntKind × List Int) → List (Nat × R) → Nat → (List (Nat × R) → Nat → Prop) → Prop
  | [], h, nx, k => k h nx
  | (b, T, kk, xs) :: l, h, nx, k => instG l ((nx, .gl b T kk xs) :: h) (nx + 1) k

def execF (P : Program) (C : CE) (N : Nat) (ann : Ann) (rv : List ResultVar) (code : Code) (c : Ctr) (as : List O) : Prop :=
  instG c.gl [] 0 fun h0 nx0 => instOs as h0 nx0 fun ss h nx => cond (Nat.ble ss.length N)
    (exec P C N ann code (slotsOf ss 0) h nx fun e env h' _ => match e with
      | .exit _ => False
      | _ => retOk P rv env h' ss (c.res as) (c.upd as)) False

section
variable {P : Program} {K : Ctx} {θ : Th} {h : List (Nat × R)} {nx : Nat} {w : World}

theorem efind_slots {v : SV} : ∀ {ss : List SV} {t u : Nat}, efind (slotsOf ss t) u = some v → ∃ i, u = t + i ∧ ss[i]? = some v
  | [], _, _, h => by simp [slotsOf, efind] at h
  | s :: ss, t, u, h => by
    unfold slotsOf at h
    rw [efind_cons] at h
    split at h
    · rename_i e; subst e; cases h; exact ⟨0, rfl, rfl⟩
    · obtain ⟨i, e, hi⟩ := efind_slots h
      exact ⟨i + 1, by omega, by simpa using hi⟩

def resF (tmps : Array Value) : ResultVar → Sem Value
  | .tmp t => pure (tmps.getD t undef)
  | .cell a t => do loadVar t (← asAddr (tmps.getD a undef))
theorem results_eq (fn : Func) (tmps : Array Value) : results fn tmps = (do let vs ← fn.results.mapM (resF tmps); pure (if h : vs.size = 1 then vs[0] else .tuple vs)) := rfl

theorem run_results (hs : SatH K θ h nx w) {fn : Func} {tmps : Array Value} {env : List (Nat × SV)} (hv : ∀ t s, efind env t = some s → ∃ v, tmps[t]? = some v ∧ V θ s v) {k : List SV → Prop} (hr : resultS P env h fn.results.toList k) :
    ∃ (ss : List SV) (us : List Value), k ss ∧ VL θ ss us ∧ (results fn tmps).run P w = .ok (retVal us) w := by
  have key : ∀ (l : List ResultVar) (k : List SV → Prop), resultS P env h l k → ∃ (ss : List SV) (us : List Value), k ss ∧ VL θ ss us ∧ (l.mapM (resF tmps)).run P w = .ok us w := by
    intro l
    induction l with
    | nil => intro k h; exact ⟨[], [], h, by simp [VL], by simp⟩
    | cons x l ih =>
      intro k hh
      have one : ∀ {s : SV} {v' : Value}, V θ s v' → (resF tmps x).run P w = .ok v' w → (resultS P env h l fun ss => k (s :: ss)) → ∃ (ss : List SV) (us : List Value), k ss ∧ VL θ ss us ∧ ((x :: l).mapM (resF tmps)).run P w = .ok us w := by
        intro s v' hV hrun hk
        obtain ⟨ss, us, k1, k2, k3⟩ := ih _ hk
        refine ⟨s :: ss, v' :: us, k1, by simp only [VL]; exact ⟨hV, k2⟩, ?_⟩
        rw [List.mapM_cons]
        simp [hrun, k3, Result.andThen]
      cases x with
      | cell a T =>
        simp only [resultS] at hh
        split at hh <;> try exact hh.elim
        · rename_i n o h1
          split at hh <;> try exact hh.elim
          rename_i T' cs hf
          split at hh <;> try exact hh.elim
          rename_i s h2
          obtain ⟨v, e1, e2⟩ := hv a _ h1
          simp only [V] at e2
          obtain ⟨L, hL, rfl⟩ := e2
          obtain ⟨L', hL', us0, c1, c2, c3⟩ := hs.res n _ hf
          obtain rfl := Option.some.inj (hL.symm.trans hL')
          obtain ⟨v', g1, g2⟩ := ldBlk_sound c3 h2
          have ho : L.o = 0 := by unfold Loc.o; rw [c1]
          have e3 : tmps.getD a undef = .pointer (some ⟨L.b, o, none⟩) := by simp [Array.getD_eq_getD_getElem?, e1, ho]
          refine one g1 ?_ hh
          simp only [resF, e3, asAddr]
          exact g2 w L.b fun j v hj => by rw [cell_of_cells c2]; exact hj
        · rename_i n h1
          split at hh <;> try exact hh.elim
          rename_i T' kk xs s hf hT
          obtain ⟨hlen, hk⟩ := hh
          obtain ⟨v, e1, e2⟩ := hv a _ h1
          simp only [V] at e2
          obtain ⟨L, hL, hLL, rfl⟩ := e2
          have ho : L.o = 0 := by rw [hLL]; rfl
          obtain ⟨L', hL', hat, hw, _⟩ := hs.res n _ hf
          obtain rfl := Option.some.inj (hL.symm.trans hL')
          obtain ⟨c1, c2, c3⟩ := hat
          have e3 : tmps.getD a undef = .pointer (some ⟨L.b, 0, none⟩) := by simp [Array.getD_eq_getD_getElem?, e1]
          refine one (s := .arr kk xs) (v' := .agg (xs.map (Value.int kk)).toArray) (by simp only [V]) ?_ hk
          simp only [resF, e3, asAddr]
          refine run_loadVar_agg (P := P) hT w L.b 0 (xs.map (Value.int kk)) (by simp [hlen]) (fun j v hj => ?_)
          rw [List.getElem?_map] at hj
          cases hx : xs[j]? with
          | none => rw [hx] at hj; simp at hj
          | some z =>
            rw [hx] at hj; simp at hj; subst hj
            have h3 := c3 j z hx
            rw [ho] at h3
            exact h3
      | tmp t =>
        simp only [resultS] at hh
        split at hh <;> try exact hh.elim
        rename_i s h1
        obtain ⟨v, e1, e2⟩ := hv t s h1
        have e3 : tmps.getD t undef = v := by simp [Array.getD_eq_getD_getElem?, e1]
        refine one e2 ?_ hh
        simp [resF, e3]
  obtain ⟨ss, us, k1, k2, k3⟩ := key _ _ hr
  refine ⟨ss, us, k1, k2, ?_⟩
  have e : fn.results = fn.results.toList.toArray := by simp
  rw [results_eq, e, List.mapM_toArray]
  simp only [bind_map_left, Sem.run_bind, k3, Result.andThen]
  match us with
  | [] => rfl
  | [_] => rfl
  | _ :: _ :: _ => simp [retVal]
end

theorem instG_sound {K : Ctx} {X : Nat → Prop} {w : World} {fp : List Nat} : ∀ (gl : List (Nat × Nat × IntKind × List Int)) {θ : Th} {h : List (Nat × R)} {nx : Nat} {k : List (Nat × R) → Nat → Prop},
    SatX K X θ h nx w → FpOk K X θ h fp → (∀ x ∈ gl, X x.1 ∧ GCell w x.1 x.2.2.1 x.2.2.2) → instG gl h nx k →
    ∃ h' nx' θ', k h' nx' ∧ SatX K X θ' h' nx' w ∧ FpOk K X θ' h' fp
  | [], θ, h, nx, k, hs, hf, _, hk => ⟨h, nx, θ, hk, hs, hf⟩
  | (b, T, kk, xs) :: l, θ, h, nx, k, hs, hf, hg, hk => by
    obtain ⟨g1, g2⟩ := hg (b, T, kk, xs) (by simp)
    have a := hs.add_ref (r := .gl b T kk xs) (L := ⟨some ⟨b, 0, none⟩, xs.length, xs.length⟩) (fun _ ho => ho) ⟨rfl, g1, g2⟩
    exact instG_sound l a.sat ⟨hf.1, fun c hc => ⟨(hf.2 c hc).1, fun n hn => (hf.2 c hc).2.1 n (a.own n c hn), (hf.2 c hc).2.2⟩⟩ (fun x hx => hg x (by simp [hx])) hk

theorem fnOk {P : Program} {C : CE} (hP : P.follows .mixedOrders = true) (hC : COk P C) {f : Nat} {fn : Func} {code : Code} {c : Ctr}
    (hf : P.funcs[f]? = some fn) (hb : fn.body = some code) (h : ∀ as, c.pre as → ∃ ann, execF P C fn.ntmps ann fn.results.toList code c as) : FnOk P f c := by
  intro w A as vs fp hA hnd hlt hpre hgl
  let K : Ctx := { w0 := w, M := (· ∈ fp), A := fun b => A b ∨ b ∈ fp, N := fn.ntmps, ma := fun b hb => .inr hb }
  let X0 : Nat → Prop := fun b => A b ∧ b ∉ fp
  have no : ∀ n b, ¬ OwnsAt (fun _ => none) [] n b := by
    rintro n b ⟨r, L, h1, _⟩
    simp [hfind] at h1
  have hs0 : SatX K X0 (fun _ => none) [] 0 w := ⟨fun _ _ => rfl, fun n r hr => by simp [hfind] at hr, fun n m b hn => absurd hn (no n b), fun n b hn => absurd hn (no n b), .refl _ _, fun b hb => ⟨fun n => no n b, .inr (.inl hb.1)⟩⟩
  have hf0 : FpOk K X0 (fun _ => none) [] fp := ⟨hnd, fun b hb => ⟨fun hx => hx.2 hb, fun n => no n b, .inr hb⟩⟩
  obtain ⟨ann, h⟩ := h as hpre
  obtain ⟨hG, nxG, θG, h, hs0, hf0⟩ := instG_sound c.gl hs0 hf0 (fun x hx => ⟨⟨(hgl x hx).1, (hgl x hx).2.1⟩, (hgl x hx).2.2⟩) h
  obtain ⟨ss, h1, nx1, θ1, g1, g2, g3⟩ := instOs_sound as hs0 hA hf0 h
  obtain ⟨b1, b2⟩ := cond_false g1
  have hN : ss.length ≤ fn.ntmps := nble b1
  have hlen := VL_length g3
  have hE : SatE K θ1 (slotsOf ss 0) { tmps := vs.toArray ++ Array.replicate (fn.ntmps - vs.toArray.size) undef, defers := [] } := by
    refine ⟨by simp [K]; omega, rfl, fun t s hts => ?_⟩
    obtain ⟨i, rfl, hi⟩ := efind_slots hts
    obtain ⟨v, hv, hV⟩ := VL_get g3 hi
    have hilt := (List.getElem?_eq_some_iff.1 hv).1
    refine ⟨v, ?_, hV⟩
    rw [Nat.zero_add, Array.getElem?_append_left (by simpa using hilt)]
    simpa using hv
  refine calls_of_wp hf hb (exec_sound hP hC code (θ0 := θ1) (Th.ext_refl _) g2.sat.toH hE b2 ?_)
  intro e env' h' nx' θ' a' w' k1 k2 k3 k4
  have fin : retOk P fn.results.toList env' h' ss (c.res as) (c.upd as) → a'.defers = [] ∧ ∃ v, (results fn a'.tmps).run P w' = .ok v w' ∧
      ∃ (rs : List Value) (fu fr : List Nat), Ending.returned v = .returned (retVal rs) ∧ Fr (· ∈ fp) w w' ∧ (fu ++ fr).Nodup ∧ (∀ b ∈ fu ++ fr, b ∈ fp ∨ w.heap.size ≤ b) ∧
      OL.holds (After w A fp (fu ++ fr)) w' (c.upd as) vs fu ∧ OL.holds (After w A fp (fu ++ fr)) w' (c.res as) rs fr := by
    intro hr
    unfold retOk at hr
    obtain ⟨rs, us, q1, r1, r2⟩ := run_results (P := P) k3 k4.val hr
    obtain ⟨on, rn, fu, p1, p2, _, p3⟩ := matchOs_sound k3 (c.upd as) q1 (VL_mono k2 _ _ g3)
    obtain ⟨on', rn', fr, p4, p5, _, p6⟩ := matchOs_sound k3 (c.res as) p1 r1
    simp only [Bool.and_eq_true] at p4
    have hnd := nodupB_sound p4.1
    have hdj := disjB_sound p4.2
    have hN := p2.append k3 p5
    have hX : Takes K θ' h' (rn ++ rn') (After w A fp (fu ++ fr)) := by
      refine ⟨fun b hb => ⟨hb.2, fun hm => ?_⟩, fun n hn b ho => ⟨(k3.new n b ho).imp id .inr, fun hm => ?_⟩⟩
      · obtain ⟨n, _, hn⟩ := hN.1 b hm
        exact hb.1 n hn
      · obtain ⟨m, hm1, hm2⟩ := hN.1 b hm
        obtain rfl := k3.dis _ _ _ hm2 ho
        exact hdj _ hn hm1
    refine ⟨k4.defers, _, r2, us, fu, fr, rfl, k3.frame, hN.2.1 hnd, fun b hb => ?_, p3 _ hX.left, p6 _ hX.right⟩
    obtain ⟨n, _, hn⟩ := hN.1 b hb
    exact (k3.new n b hn).symm
  cases e with
  | normal => exact fin k1
  | ret => exact fin k1
  | exit i => exact k1.elim
end Go.Z

namespace Go.Z
open Go.RowKit

def ctrsL : List (Nat × Ctr) → Nat → Option Ctr
  | [], _ => none
  | (g, c) :: l, f => cond (Nat.beq g f) (some c) (ctrsL l f)
def ctrs (l : List (Nat × Ctr)) : CE := ⟨ctrsL l, fun _ _ _ _ _ => False⟩

def loopsL : List (Nat × LoopF) → Nat → Option LoopF
  | [], _ => none
  | (g, c) :: l, f => cond (Nat.beq g f) (some c) (loopsL l f)
def unrollL : List (Nat × Nat) → Nat → Nat
  | [], _ => 0
  | (g, n) :: l, f => cond (Nat.beq g f) n (unrollL l f)
def dropL : List (Nat × List Nat) → Nat → List Nat
  | [], _ => []
  | (g, n) :: l, f => cond (Nat.beq g f) n (dropL l f)
def anns (ls : List (Nat × LoopF)) (sp : List Nat := []) (un : List (Nat × Nat) := []) (dr : List (Nat × List Nat) := []) : Ann := ⟨loopsL ls, fun r => memB r sp, unrollL un, dropL dr⟩

def FnIs (P : Program) (f : Nat) (c : Ctr) : Prop := FnOk P f c ∧ EntersOk P f

theorem cok_nil {P : Program} : COk P (ctrs []) := ⟨fun f c h => by simp [ctrs, ctrsL] at h, fun _ _ _ _ _ _ _ _ _ _ _ h => h.elim⟩
theorem cok_cons {P : Program} {f : Nat} {c : Ctr} {l : List (Nat × Ctr)} (h : FnIs P f c) (t : COk P (ctrs l)) : COk P (ctrs ((f, c) :: l)) := ⟨fun g c' hg => by
  simp only [ctrs, ctrsL] at hg
  cases hb : Nat.beq f g with
  | true =>
    rw [hb] at hg; cases hg
    rw [← Nat.eq_of_beq_eq_true hb]
    exact h
  | false => rw [hb] at hg; exact t.c g c' hg, fun _ _ _ _ _ _ _ _ _ _ _ h => h.elim⟩

structure InlF where
  code : Code
  N : Nat
  rv : List ResultVar
  ann : Ann

def inlL : List (Nat × InlF) → Nat → Option InlF
  | [], _ => none
  | (g, c) :: l, f => cond (Nat.beq g f) (some c) (inlL l f)

def jOf (P : Program) (C : Nat → Option Ctr) (I : Nat → Option InlF) : Nat → Nat → List SV → List (Nat × R) → Nat → HK → Prop
  | 0, _, _, _, _, _ => False
  | d + 1, f, args, h, nx, k =>
    match I f with
    | none => False
    | some F => cond (Nat.ble args.length F.N)
      (exec P ⟨C, jOf P C I d⟩ F.N F.ann F.code (slotsOf args 0) h nx fun e env h' nx' => match e with
        | .exit _ => False
        | _ => resultS P env h' F.rv fun rs => k (retS rs) h' nx') False

def InlOk (P : Program) (f : Nat) (F : InlF) : Prop :=
  ∃ fn : Func, P.funcs[f]? = some fn ∧ fn.body = some F.code ∧ fn.ntmps = F.N ∧ fn.results.toList = F.rv ∧ (fn.name == "runtime.NumGoroutine") = false
theorem inlOk {P : Program} {f : Nat} {fn : Func} {code : Code} {ann : Ann} (hf : P.funcs[f]? = some fn) (hb : fn.body = some code) (hn : (fn.name == "runtime.NumGoroutine") = false) :
    InlOk P f ⟨code, fn.ntmps, fn.results.toList, ann⟩ := ⟨fn, hf, hb, rfl, rfl, hn⟩

theorem SatH.withN {K : Ctx} {θ : Th} {h : List (Nat × R)} {nx : Nat} {w : World} (hs : SatH K θ h nx w) (n : Nat) : SatH { K with N := n } θ h nx w := ⟨hs.fresh, hs.res, hs.dis, hs.new, hs.frame⟩
theorem SatH.without {K : Ctx} {n : Nat} {θ : Th} {h : List (Nat × R)} {nx : Nat} {w : World} (hs : SatH { K with N := n } θ h nx w) : SatH K θ h nx w := ⟨hs.fresh, hs.res, hs.dis, hs.new, hs.frame⟩

theorem jOf_sound {P : Program} {C : Nat → Option Ctr} {I : Nat → Option InlF} (hP : P.follows .mixedOrders = true) (hC : ∀ f c, C f = some c → FnOk P f c ∧ EntersOk P f) (hI : ∀ f F, I f = some F → InlOk P f F) :
    ∀ d, JOk P (jOf P C I d)
  | 0 => fun _ _ _ _ _ _ _ _ _ _ _ h => h.elim
  | d + 1 => fun f args h nx k K θ w us hs hv hq => by
    unfold jOf at hq
    split at hq
    · exact hq.elim
    rename_i F hF
    obtain ⟨fn, hf, hb, hNt, hrv, hn⟩ := hI f F hF
    obtain ⟨b1, b2⟩ := cond_false hq
    have hN : args.length ≤ fn.ntmps := by rw [hNt]; exact nble b1
    have hlen := VL_length hv
    refine ⟨entersOk hf (by rw [hb]; rfl) hn, ?_⟩
    have hE : SatE { K with N := F.N } θ (slotsOf args 0) { tmps := us.toArray ++ Array.replicate (fn.ntmps - us.toArray.size) undef, defers := [] } := by
      refine ⟨by simp [← hNt]; omega, rfl, fun t s hts => ?_⟩
      obtain ⟨i, rfl, hi⟩ := efind_slots hts
      obtain ⟨v, hv, hV⟩ := VL_get hv hi
      have hilt := (List.getElem?_eq_some_iff.1 hv).1
      refine ⟨v, ?_, hV⟩
      rw [Nat.zero_add, Array.getElem?_append_left (by simpa using hilt)]
      simpa using hv
    refine calls_of_wp hf hb (exec_sound (K := { K with N := F.N }) (C := ⟨C, jOf P C I d⟩) hP ⟨hC, jOf_sound hP hC hI d⟩ F.code (θ0 := θ) (Th.ext_refl _) (hs.withN _) hE b2 ?_)
    intro e env' h' nx' θ' a' w' k1 k2 k3 k4
    have fin : (resultS P env' h' F.rv fun rs => k (retS rs) h' nx') → a'.defers = [] ∧ ∃ v, (results fn a'.tmps).run P w' = .ok v w' ∧
        ∃ r h' nx' θ' v', Ending.returned v = .returned v' ∧ k r h' nx' ∧ SatH K θ' h' nx' w' ∧ θ.ext θ' ∧ V θ' r v' := by
      intro hr
      rw [← hrv] at hr
      obtain ⟨rs, us', q1, r1, r2⟩ := run_results (P := P) k3 k4.val hr
      exact ⟨k4.defers, _, r2, _, _, _, θ', _, rfl, q1, k3.without, k2, V_ret r1⟩
    cases e with
    | normal => exact fin k1
    | ret => exact fin k1
    | exit i => exact k1.elim

def ctrsJ (P : Program) (l : List (Nat × Ctr)) (I : List (Nat × InlF)) (d : Nat) : CE := ⟨ctrsL l, jOf P (ctrsL l) (inlL I) d⟩
def InlsOk (P : Program) : List (Nat × InlF) → Prop
  | [] => True
  | (f, F) :: l => InlOk P f F ∧ InlsOk P l
theorem inls_get {P : Program} : ∀ {I : List (Nat × InlF)}, InlsOk P I → ∀ f F, inlL I f = some F → InlOk P f F
  | [], _, f, F, h => by simp [inlL] at h
  | (g, G) :: l, hI, f, F, h => by
    simp only [inlL] at h
    cases hb : Nat.beq g f with
    | true => rw [hb] at h; cases h; rw [← Nat.eq_of_beq_eq_true hb]; exact hI.1
    | false => rw [hb] at h; exact inls_get hI.2 f F h
theorem cokJ {P : Program} {l : List (Nat × Ctr)} {I : List (Nat × InlF)} {d : Nat} (hP : P.follows .mixedOrders = true) (h : COk P (ctrs l)) (hI : InlsOk P I) : COk P (ctrsJ P l I d) :=
  ⟨h.c, jOf_sound hP h.c (inls_get hI) d⟩

theorem kcast {p q : Prop} (h : p) (e : p = q) : q := e ▸ h

theorem fnIs {P : Program} {C : CE} (hP : P.follows .mixedOrders = true) (hC : COk P C) {f : Nat} {fn : Func} {code : Code} {c : Ctr}
    (hf : P.funcs[f]? = some fn) (hb : fn.body = some code) (hn : (fn.name == "runtime.NumGoroutine") = false)
    (h : ∀ as, c.pre as → ∃ ann, execF P C fn.ntmps ann fn.results.toList code c as) : FnIs P f c :=
  ⟨fnOk hP hC hf hb h, entersOk hf (by rw [hb]; rfl) hn⟩
end Go.Z

namespace Go.ZM
open Go.Z

def be (n : Int) : Nat → List Int
  | 0 => []
  | k + 1 => (n / 256 ^ k) % 256 :: be n k
def valF (l : List Int) : Int := l.foldl (fun a x => a * 256 + x) 0
def padN (n : Nat) : Nat := (4 - n % 4) % 4
def padF (v : List Int) : List Int := v ++ List.replicate (padN v.length) 0
def okB (l : List Int) : Prop := ∀ x, x ∈ l → 0 ≤ x ∧ x ≤ 255

end Go.ZM
namespace Go.ZR
open Go.Z Go.ZM

theorem wrap_i64_id {n : Int} (h0 : -9223372036854775808 ≤ n) (h1 : n ≤ 9223372036854775807) : IntKind.i64.wrap n = n := by
  rw [IntKind.wrap_i64]; omega
end Go.ZR

namespace Go.Z
open Go.ChangeShapes Go.WideShapes Go.ChangeAt Go.RowKit

section
variable {H : Type} {enc : TypeId × Value → H} {P : Program}

def readables (P : Program) (ts : List TypeId) : Bool := ts.all fun t => P.readableRec t && decide (t < P.types.size)

theorem trodAll_below (hl : laidOutB P = true) {W W' : World} (hb : Below W.heap.size W W') {sp : Nat → Bool} : ∀ {ts : List TypeId} {vs : List Value} {ds : List (DataW H)} {ps : List MemPlace},
    readables P ts = true → DataW.TrodAll enc P W 0 (fun _ => true) true ts vs ds ps → (∀ x ∈ ps, x.block < W.heap.size) → (∀ x ∈ ps, sp x.block = true) → DataW.TrodAll enc P W' 0 sp true ts vs ds ps
  | [], [], [], _, _, h, _, _ => h
  | [], [], _ :: _, _, _, h, _, _ => h.elim
  | [], _ :: _, _, _, _, h, _, _ => h.elim
  | _ :: _, [], _, _, _, h, _, _ => h.elim
  | _ :: _, _ :: _, [], _, _, h, _, _ => h.elim
  | t :: ts, v :: vs, d :: ds, ps, hr, h, hlt, hsp => by
    obtain ⟨p, q, h1, h2, rfl⟩ := h
    simp only [readables, List.all_cons, Bool.and_eq_true, decide_eq_true_eq] at hr
    refine ⟨p, q, WideElems.Trod_stays hl hr.1.1 hr.1.2 h1 (fun x hx => hb.same (hlt x (List.mem_append.2 (.inl hx)))) (fun x hx => hsp x (List.mem_append.2 (.inl hx))),
      trodAll_below hl hb (by simpa [readables] using hr.2) h2 (fun x hx => hlt x (List.mem_append.2 (.inr hx))) (fun x hx => hsp x (List.mem_append.2 (.inr hx))), rfl⟩

theorem post_true {f : Func} {s : ChangeSpec} {apart fresh handsOn again : Bool} {W W' : World} {args : Array Value} {ds gs : List (DataW H)} {before : List MemPlace} {t : TypeId}
    (hl : laidOutB P = true) (hrd : readables P f.params.toList = true) (hvs : s.vars = []) (hrt : f.resultTypes = #[t]) (ht : P.underlying t = some .bool)
    (hW : DataW.Whole enc P f.params.toList s.vars apart W args.toList ds gs before)
    (hfn : (s.fn H (ds ++ gs)).results = [.lit (.bool true)] ∧ (s.fn H (ds ++ gs)).args = ds ∧ (s.fn H (ds ++ gs)).vars = [])
    (hb : Below W.heap.size W W') : s.post enc P f apart fresh handsOn again W args (.bool true) W' := by
  have hlt := hW.lt
  have hW' := hW
  obtain ⟨p, q, hA, hV, rfl, hz, hn⟩ := hW
  rw [hvs] at hV
  have hq : q = [] := by
    cases gs with
    | nil => exact hV
    | cons _ _ => exact hV.elim
  subst hq
  have hargs : ∀ sp : Nat → Bool, (∀ x ∈ p ++ [], sp x.block = true) → DataW.TrodAll enc P W' 0 sp true f.params.toList args.toList (s.fn H (ds ++ gs)).args p := fun sp hsp => by
    rw [hfn.2.1]
    exact trodAll_below hl hb hrd hA (fun x hx => hlt x (by simpa using hx)) (fun x hx => hsp x (by simpa using hx))
  have hvars : ∀ sp : Nat → Bool, DataW.TrodVars enc P W' sp s.vars (s.fn H (ds ++ gs)).vars [] := fun sp => by rw [hvs, hfn.2.2]; rfl
  have hres : ∀ (b : Nat) (sp : Nat → Bool) (hd : Bool), DataW.TrodAll enc P W' b sp hd f.resultTypes.toList ((Value.bool true).resultList f.resultTypes.size) (s.fn H (ds ++ gs)).results [] := fun b sp hd => by
    rw [hrt, hfn.1]
    exact trodAll_mk1 (shut_bool ht true)
  have hold : ∀ x ∈ p ++ [], (fun b => decide (b < W.heap.size)) x.block = true := fun x hx => by simpa using hlt x hx
  refine ⟨ds, gs, p ++ [], [], p, [], hW', hres _ _ _, hargs _ hold, hvars _, hb.frame _, fun _ => ?_⟩
  refine ⟨ok_one hrt rfl (okWide_bool_mk ht true), _, _, ([] ++ p) ++ [], ⟨[] ++ p, [], trodAll_append (hargs _ (fun _ _ => rfl)) (hres _ _ _), hvars _, rfl, ?_, ?_⟩, ?_⟩
  · intro b off hp
    have hp' : MemPlace.cell b off ∈ p ++ [] := by simpa using hp
    rw [hb.frozen (p := ⟨b, off, none⟩) (hlt _ hp')]
    exact hz b off hp'
  · intro ha
    have := hn ha
    simpa using this
  · intro x hx _
    simpa using hx

theorem ol_nil {X : Nat → Prop} {w : World} : OL.holds X w [] [] [] := by simp only [OL.holds]
theorem FnIs.law {f : Nat} {c : Ctr} (h : FnIs P f c) {ads : List O} {vs : List Value} {W : World} {A : Nat → Prop} (hA : OL.holds A W ads vs []) (hp : c.pre ads) (hr : c.res ads = [.d (.v (.bool true))]) (hg : GOK c.gl A W [] := by intro x hx; cases hx) :
    Calls P f vs.toArray W fun e W' => e = .returned (.bool true) ∧ Below W.heap.size W W' := by
  have hA' : OL.holds (fun b => A b ∧ b ∉ ([] : List Nat)) W ads vs [] := by simpa using hA
  refine (h.1 W A ads vs [] hA' List.nodup_nil (fun b hb => by cases hb) hp hg).mono ?_
  rintro e W' ⟨rs, fu, fr, rfl, hfr, _, _, _, hres⟩
  refine ⟨?_, hfr.os, hfr.tape, hfr.output, hfr.size, fun b hb => hfr.block b hb (by simp)⟩
  rw [hr] at hres
  have := scalars_holds (rs := [.d (.v (.bool true))]) rfl hres
  subst this
  rfl
end
end Go.Z

namespace Go.Z
open Go.ChangeShapes Go.WideShapes Go.ChangeAt Go.RowKit

section
variable {H : Type} {enc : TypeId × Value → H} {P : Program}

theorem spot_none {w : World} {a : Addr} {v : Value} (h : w.cell? a = some v) : a = ⟨a.block, a.off, none⟩ := by
  obtain ⟨b, o, s⟩ := a
  cases s with
  | none => rfl
  | some s =>
    unfold World.cell? at h
    split at h
    · simp at h
    · cases h

theorem add_spot (b o i : Nat) : Addr.add ⟨b, o, none⟩ i = ⟨b, o + i, none⟩ := by
  unfold Addr.add
  split
  · rename_i h; subst h; rfl
  · rfl

end
end Go.Z

namespace Go.Z
open Go.RowKit

end Go.Z
