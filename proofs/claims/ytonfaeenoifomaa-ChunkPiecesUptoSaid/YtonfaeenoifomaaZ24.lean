/- Functions: from the body's symbolic run to the contract. -/
import Derived.Test.YtonfaeenoifomaaZ23
namespace Go.Z
open Go.RowKit

def slotsOf : List SV → Nat → List (Nat × SV)
  | [], _ => []
  | s :: ss, t => (t, s) :: slotsOf ss (t + 1)

def resultS (P : Program) (env : List (Nat × SV)) (h : List (Nat × R)) : List ResultVar → (List SV → Prop) → Prop
  | [], k => k []
  | .tmp t :: l, k => match efind env t with
    | some s => resultS P env h l fun ss => k (s :: ss)
    | none => False
  | .cell t T :: l, k => match efind env t with
    | some (.p n o) => match hfind h n with
      | some (.blk _ cs) => match ldBlk P T cs o with
        | some s => resultS P env h l fun ss => k (s :: ss)
        | none => False
      | _ => False
    | some (.q n) => match hfind h n, kindT P T with
      | some (.own _ (.ints kk xs)), some (true, s) => s = xs.length ∧ resultS P env h l fun ss => k (.arr kk xs :: ss)
      | _, _ => False
    | _ => False

/-- The results and what was handed over are as the contract says. -/
def retOk (P : Program) (rv : List ResultVar) (env : List (Nat × SV)) (h : List (Nat × R)) (ss : List SV) (res upd : List O) : Prop :=
  resultS P env h rv fun rs => matchOs h upd ss fun on rn => matchOs h res rs fun on' rn' => (nodupB (on ++ on') && disjB (rn ++ rn') (on ++ on')) = true

def execF (P : Program) (C : CE) (N : Nat) (ann : Ann) (rv : List ResultVar) (code : Code) (c : Ctr) (as : List O) : Prop :=
  instOs as [] 0 fun ss h nx => cond (Nat.ble ss.length N)
    (exec P C N ann code (slotsOf ss 0) h nx fun e env h' _ => match e with
      | .exit _ => False
      | _ => retOk P rv env h' ss (c.res as) (c.upd as)) False

section
variable {P : Program} {K : Ctx} {θ : Th} {h : List (Nat × R)} {nx : Nat} {w : World}

theorem efind_slots {v : SV} : ∀ {ss : List SV} {t u : Nat}, efind (slotsOf ss t) u = some v → ∃ i, u = t + i ∧ ss[i]? = some v
  | [], _, _, h => by simp [slotsOf, efind] at h
  | s :: ss, t, u, h => by
    unfold slotsOf at h
    rw [efind_cons] at h
    split at h
    · rename_i e; subst e; cases h; exact ⟨0, rfl, rfl⟩
    · obtain ⟨i, e, hi⟩ := efind_slots h
      exact ⟨i + 1, by omega, by simpa using hi⟩

def resF (tmps : Array Value) : ResultVar → Sem Value
  | .tmp t => pure (tmps.getD t undef)
  | .cell a t => do loadVar t (← asAddr (tmps.getD a undef))
theorem results_eq (fn : Func) (tmps : Array Value) : results fn tmps = (do let vs ← fn.results.mapM (resF tmps); pure (if h : vs.size = 1 then vs[0] else .tuple vs)) := rfl

theorem run_results (hs : SatH K θ h nx w) {fn : Func} {tmps : Array Value} {env : List (Nat × SV)} (hv : ∀ t s, efind env t = some s → ∃ v, tmps[t]? = some v ∧ V θ s v) {k : List SV → Prop} (hr : resultS P env h fn.results.toList k) :
    ∃ (ss : List SV) (us : List Value), k ss ∧ VL θ ss us ∧ (results fn tmps).run P w = .ok (retVal us) w := by
  have key : ∀ (l : List ResultVar) (k : List SV → Prop), resultS P env h l k → ∃ (ss : List SV) (us : List Value), k ss ∧ VL θ ss us ∧ (l.mapM (resF tmps)).run P w = .ok us w := by
    intro l
    induction l with
    | nil => intro k h; exact ⟨[], [], h, by simp [VL], by simp⟩
    | cons x l ih =>
      intro k hh
      have one : ∀ {s : SV} {v' : Value}, V θ s v' → (resF tmps x).run P w = .ok v' w → (resultS P env h l fun ss => k (s :: ss)) → ∃ (ss : List SV) (us : List Value), k ss ∧ VL θ ss us ∧ ((x :: l).mapM (resF tmps)).run P w = .ok us w := by
        intro s v' hV hrun hk
        obtain ⟨ss, us, k1, k2, k3⟩ := ih _ hk
        refine ⟨s :: ss, v' :: us, k1, by simp only [VL]; exact ⟨hV, k2⟩, ?_⟩
        rw [List.mapM_cons]
        simp [hrun, k3, Result.andThen]
      cases x with
      | cell a T =>
        simp only [resultS] at hh
        split at hh <;> try exact hh.elim
        · rename_i n o h1
          split at hh <;> try exact hh.elim
          rename_i T' cs hf
          split at hh <;> try exact hh.elim
          rename_i s h2
          obtain ⟨v, e1, e2⟩ := hv a _ h1
          simp only [V] at e2
          obtain ⟨L, hL, rfl⟩ := e2
          obtain ⟨L', hL', us0, c1, c2, c3⟩ := hs.res n _ hf
          obtain rfl := Option.some.inj (hL.symm.trans hL')
          obtain ⟨v', g1, g2⟩ := ldBlk_sound c3 h2
          have ho : L.o = 0 := by unfold Loc.o; rw [c1]
          have e3 : tmps.getD a undef = .pointer (some ⟨L.b, o, none⟩) := by simp [Array.getD_eq_getD_getElem?, e1, ho]
          refine one g1 ?_ hh
          simp only [resF, e3, asAddr]
          exact g2 w L.b fun j v hj => by rw [cell_of_cells c2]; exact hj
        · rename_i n h1
          split at hh <;> try exact hh.elim
          rename_i T' kk xs s hf hT
          obtain ⟨hlen, hk⟩ := hh
          obtain ⟨v, e1, e2⟩ := hv a _ h1
          simp only [V] at e2
          obtain ⟨L, hL, hLL, rfl⟩ := e2
          have ho : L.o = 0 := by rw [hLL]; rfl
          obtain ⟨L', hL', hat, hw, _⟩ := hs.res n _ hf
          obtain rfl := Option.some.inj (hL.symm.trans hL')
          obtain ⟨c1, c2, c3⟩ := hat
          have e3 : tmps.getD a undef = .pointer (some ⟨L.b, 0, none⟩) := by simp [Array.getD_eq_getD_getElem?, e1]
          refine one (s := .arr kk xs) (v' := .agg (xs.map (Value.int kk)).toArray) (by simp only [V]) ?_ hk
          simp only [resF, e3, asAddr]
          refine run_loadVar_agg (P := P) hT w L.b 0 (xs.map (Value.int kk)) (by simp [hlen]) (fun j v hj => ?_)
          rw [List.getElem?_map] at hj
          cases hx : xs[j]? with
          | none => rw [hx] at hj; simp at hj
          | some z =>
            rw [hx] at hj; simp at hj; subst hj
            have h3 := c3 j z hx
            rw [ho] at h3
            exact h3
      | tmp t =>
        simp only [resultS] at hh
        split at hh <;> try exact hh.elim
        rename_i s h1
        obtain ⟨v, e1, e2⟩ := hv t s h1
        have e3 : tmps.getD t undef = v := by simp [Array.getD_eq_getD_getElem?, e1]
        refine one e2 ?_ hh
        simp [resF, e3]
  obtain ⟨ss, us, k1, k2, k3⟩ := key _ _ hr
  refine ⟨ss, us, k1, k2, ?_⟩
  have e : fn.results = fn.results.toList.toArray := by simp
  rw [results_eq, e, List.mapM_toArray]
  simp only [bind_map_left, Sem.run_bind, k3, Result.andThen]
  match us with
  | [] => rfl
  | [_] => rfl
  | _ :: _ :: _ => simp [retVal]
end

theorem fnOk {P : Program} {C : CE} (hP : P.follows .mixedOrders = true) (hC : COk P C) {f : Nat} {fn : Func} {code : Code} {c : Ctr}
    (hf : P.funcs[f]? = some fn) (hb : fn.body = some code) (h : ∀ as, c.pre as → ∃ ann, execF P C fn.ntmps ann fn.results.toList code c as) : FnOk P f c := by
  intro w A as vs fp hA hnd hlt hpre
  let K : Ctx := { w0 := w, M := (· ∈ fp), A := fun b => A b ∨ b ∈ fp, N := fn.ntmps, ma := fun b hb => .inr hb }
  let X0 : Nat → Prop := fun b => A b ∧ b ∉ fp
  have no : ∀ n b, ¬ OwnsAt (fun _ => none) [] n b := by
    rintro n b ⟨r, L, h1, _⟩
    simp [hfind] at h1
  have hs0 : SatX K X0 (fun _ => none) [] 0 w := ⟨fun _ _ => rfl, fun n r hr => by simp [hfind] at hr, fun n m b hn => absurd hn (no n b), fun n b hn => absurd hn (no n b), .refl _ _, fun b hb => ⟨fun n => no n b, .inr (.inl hb.1)⟩⟩
  have hf0 : FpOk K X0 (fun _ => none) [] fp := ⟨hnd, fun b hb => ⟨fun hx => hx.2 hb, fun n => no n b, .inr hb⟩⟩
  obtain ⟨ann, h⟩ := h as hpre
  obtain ⟨ss, h1, nx1, θ1, g1, g2, g3⟩ := instOs_sound as hs0 hA hf0 h
  obtain ⟨b1, b2⟩ := cond_false g1
  have hN : ss.length ≤ fn.ntmps := nble b1
  have hlen := VL_length g3
  have hE : SatE K θ1 (slotsOf ss 0) { tmps := vs.toArray ++ Array.replicate (fn.ntmps - vs.toArray.size) undef, defers := [] } := by
    refine ⟨by simp [K]; omega, rfl, fun t s hts => ?_⟩
    obtain ⟨i, rfl, hi⟩ := efind_slots hts
    obtain ⟨v, hv, hV⟩ := VL_get g3 hi
    have hilt := (List.getElem?_eq_some_iff.1 hv).1
    refine ⟨v, ?_, hV⟩
    rw [Nat.zero_add, Array.getElem?_append_left (by simpa using hilt)]
    simpa using hv
  refine calls_of_wp hf hb (exec_sound hP hC code (θ0 := θ1) (Th.ext_refl _) g2.sat.toH hE b2 ?_)
  intro e env' h' nx' θ' a' w' k1 k2 k3 k4
  have fin : retOk P fn.results.toList env' h' ss (c.res as) (c.upd as) → a'.defers = [] ∧ ∃ v, (results fn a'.tmps).run P w' = .ok v w' ∧
      ∃ (rs : List Value) (fu fr : List Nat), Ending.returned v = .returned (retVal rs) ∧ Fr (· ∈ fp) w w' ∧ (fu ++ fr).Nodup ∧ (∀ b ∈ fu ++ fr, b ∈ fp ∨ w.heap.size ≤ b) ∧
      OL.holds (After w A fp (fu ++ fr)) w' (c.upd as) vs fu ∧ OL.holds (After w A fp (fu ++ fr)) w' (c.res as) rs fr := by
    intro hr
    unfold retOk at hr
    obtain ⟨rs, us, q1, r1, r2⟩ := run_results (P := P) k3 k4.val hr
    obtain ⟨on, rn, fu, p1, p2, _, p3⟩ := matchOs_sound k3 (c.upd as) q1 (VL_mono k2 _ _ g3)
    obtain ⟨on', rn', fr, p4, p5, _, p6⟩ := matchOs_sound k3 (c.res as) p1 r1
    simp only [Bool.and_eq_true] at p4
    have hnd := nodupB_sound p4.1
    have hdj := disjB_sound p4.2
    have hN := p2.append k3 p5
    have hX : Takes K θ' h' (rn ++ rn') (After w A fp (fu ++ fr)) := by
      refine ⟨fun b hb => ⟨hb.2, fun hm => ?_⟩, fun n hn b ho => ⟨(k3.new n b ho).imp id .inr, fun hm => ?_⟩⟩
      · obtain ⟨n, _, hn⟩ := hN.1 b hm
        exact hb.1 n hn
      · obtain ⟨m, hm1, hm2⟩ := hN.1 b hm
        obtain rfl := k3.dis _ _ _ hm2 ho
        exact hdj _ hn hm1
    refine ⟨k4.defers, _, r2, us, fu, fr, rfl, k3.frame, hN.2.1 hnd, fun b hb => ?_, p3 _ hX.left, p6 _ hX.right⟩
    obtain ⟨n, _, hn⟩ := hN.1 b hb
    exact (k3.new n b hn).symm
  cases e with
  | normal => exact fin k1
  | ret => exact fin k1
  | exit i => exact k1.elim
end Go.Z
