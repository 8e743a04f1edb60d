/- A function keeps its contract if its body's symbolic run goes through. -/
import Derived.Test.YtgnfpcjndhnglaaX24
namespace Go.X
open Go.RowKit

section
variable {P : Program} {K : Ctx} {θ : Th} {h : List (Nat × R)} {nx : Nat} {w : World}

def ptrLoc (b : Nat) : Loc := ⟨some ⟨b, 0, none⟩, 0, 0⟩
def th0 (Bs : List Nat) : Th := fun n => Bs[n]?.map ptrLoc

theorem lents_at {X : Nat → Prop} : ∀ {as : List AD} {vs : List Value} {Bs : List Nat} (i : Nat), ADL X w as vs Bs →
    (lentsA as i).length = Bs.length ∧ (lentsA as i).map (·.2.1) = ptrTs as ∧ (ptrDs as).length = Bs.length ∧
    (∀ (j n T len : Nat), (lentsA as i)[j]? = some (n, T, len) → n = i + j ∧ ∃ b l, Bs[j]? = some b ∧ (ptrDs as)[j]? = some l ∧ l.length = len ∧ isCells w X b T l)
  | [], [], [], i, _ => ⟨rfl, rfl, rfl, fun j n T len h => by simp [lentsA] at h⟩
  | [], [], _ :: _, _, h => h.elim
  | [], _ :: _, _, _, h => h.elim
  | _ :: _, [], _, _, h => h.elim
  | a :: as, v :: vs, Bs, i, hA => by
    cases a with
    | ptr T l =>
      cases Bs with
      | nil => exact hA.elim
      | cons b bs =>
        obtain ⟨⟨_, h1⟩, h2⟩ := hA
        obtain ⟨g1, g2, g3, g4⟩ := lents_at (i + 1) h2
        refine ⟨by simp [lentsA, g1], by simp [lentsA, ptrTs, g2], by simp [ptrDs, g3], fun j n T' len hj => ?_⟩
        cases j with
        | zero =>
          simp [lentsA] at hj
          obtain ⟨rfl, rfl, rfl⟩ := hj
          exact ⟨rfl, b, l, rfl, rfl, rfl, h1⟩
        | succ j =>
          simp [lentsA] at hj
          obtain ⟨e, b', l', k1, k2, k3⟩ := g4 j n T' len hj
          exact ⟨by omega, b', l', by simpa using k1, by simpa [ptrDs] using k2, k3⟩
    | _ => exact lents_at (as := as) i hA.2

theorem hfind_lentH {T : Nat} {len : Nat} : ∀ {as : List AD} {i j n : Nat}, (lentsA as i)[j]? = some (n, T, len) → i ≤ n ∧ hfind (lentH (lentsA as i)) n = some (.blk T (List.replicate len .unk))
  | [], i, j, n, h => by simp [lentsA] at h
  | a :: as, i, j, n, h => by
    cases a with
    | ptr T' l =>
      cases j with
      | zero =>
        simp [lentsA] at h
        obtain ⟨rfl, rfl, rfl⟩ := h
        exact ⟨Nat.le_refl _, by simp only [lentsA, lentH, hfind_cons, if_true]⟩
      | succ j =>
        simp [lentsA] at h
        obtain ⟨h1, h2⟩ := hfind_lentH (as := as) h
        exact ⟨by omega, by simp only [lentsA, lentH, hfind_cons]; rw [if_neg (by omega)]; exact h2⟩
    | _ => exact hfind_lentH (as := as) h

theorem lentH_find : ∀ {ls : List Lent} {n : Nat} {r : R}, hfind (lentH ls) n = some r → ∃ (j : Nat) (T len : Nat), ls[j]? = some (n, T, len) ∧ r = .blk T (List.replicate len .unk)
  | [], n, r, h => by simp [lentH, hfind] at h
  | (m, T, len) :: ls, n, r, h => by
    simp only [lentH, hfind_cons] at h
    split at h
    · rename_i e; subst e; cases h; exact ⟨0, T, len, rfl, rfl⟩
    · obtain ⟨j, T', len', h1, h2⟩ := lentH_find h
      exact ⟨j + 1, T', len', by simpa using h1, h2⟩

theorem lentOk_of {Bs : List Nat} : ∀ {ls : List Lent}, ls.length = Bs.length →
    (∀ (j n T len b : Nat), ls[j]? = some (n, T, len) → Bs[j]? = some b → ∃ L cs, θ n = some L ∧ L.b = b ∧ hfind h n = some (.blk T cs) ∧ cs.length = len) → LentOk θ h ls Bs := by
  induction Bs with
  | nil => intro ls hl _; cases ls with
    | nil => trivial
    | cons _ _ => simp at hl
  | cons b bs ih => intro ls hl hh; cases ls with
    | nil => simp at hl
    | cons x ls =>
      obtain ⟨n, T, len⟩ := x
      exact ⟨hh 0 n T len b rfl rfl, ih (by simpa using hl) fun j n T len b h1 h2 => hh (j + 1) n T len b (by simpa using h1) (by simpa using h2)⟩
theorem lentNames_of {Bs : List Nat} : ∀ {ls : List Lent}, LentOk θ h ls Bs → LentNames θ ls Bs := by
  induction Bs with
  | nil => intro ls hl; cases ls with
    | nil => trivial
    | cons _ _ => exact hl.elim
  | cons b bs ih => intro ls hl; cases ls with
    | nil => exact hl.elim
    | cons x ls =>
      obtain ⟨n, T, len⟩ := x
      obtain ⟨⟨L, cs, h1, h2, _⟩, h3⟩ := hl
      exact ⟨⟨L, h1, h2⟩, ih h3⟩
theorem lentAfterOf {X : Nat → Prop} {Bs : List Nat} : ∀ {ls : List Lent} {ds : List (List D)}, ls.length = Bs.length → ds.length = Bs.length →
    (∀ (j n T len : Nat), ls[j]? = some (n, T, len) → ∃ b l, Bs[j]? = some b ∧ ds[j]? = some l ∧ l.length = len ∧ isCells w X b T l) → LentAfter X w ls Bs ds := by
  induction Bs with
  | nil => intro ls ds hl hd _; cases ls with
    | nil => cases ds with
      | nil => trivial
      | cons _ _ => simp at hd
    | cons _ _ => simp at hl
  | cons b bs ih => intro ls ds hl hd hh; cases ls with
    | nil => simp at hl
    | cons x ls => cases ds with
      | nil => simp at hd
      | cons d ds =>
        obtain ⟨n, T, len⟩ := x
        obtain ⟨b', l, h1, h2, h3, h4⟩ := hh 0 n T len rfl
        simp at h1 h2; subst h1; subst h2
        refine ⟨⟨h4, h3⟩, ih (by simpa using hl) (by simpa using hd) fun j n T len hj => ?_⟩
        obtain ⟨b', l, k1, k2, k3⟩ := hh (j + 1) n T len (by simpa using hj)
        exact ⟨b', l, by simpa using k1, by simpa using k2, k3⟩

theorem entryA_sound {X : Nat → Prop} : ∀ {as : List AD} {vs : List Value} {Bs : List Nat} {i : Nat} {θ : Th} {h : List (Nat × R)} {nx : Nat} {k : List SV → List (Nat × R) → Nat → Prop},
    SatH K θ h nx w → (∀ b, b < w.heap.size → X b → Free K θ h b) → ADL X w as vs Bs → (∀ j b, Bs[j]? = some b → θ (i + j) = some (ptrLoc b)) → entryA as i h nx k →
    ∃ ss h' nx' θ', k ss h' nx' ∧ Grows K θ θ' nx nx' h' w ∧ VL θ' ss vs
  | [], [], [], i, θ, h, nx, k, hs, _, _, _, hk => ⟨[], h, nx, θ, hk, .refl hs, by simp [VL]⟩
  | [], [], _ :: _, _, _, _, _, _, _, _, hA, _, _ => hA.elim
  | [], _ :: _, _, _, _, _, _, _, _, _, hA, _, _ => hA.elim
  | _ :: _, [], _, _, _, _, _, _, _, _, hA, _, _ => hA.elim
  | a :: as, v :: vs, Bs, i, θ, h, nx, k, hs, hX, hA, hp, hk => by
    have hkeep : Keeps X (Free K θ h) w w := fun b hb hx => ⟨hX b hb hx, rfl⟩
    cases a with
    | v x =>
      obtain ⟨hA1, hA2⟩ := hA
      obtain ⟨ss, h', nx', θ', a1, a2, a3⟩ := entryA_sound hs hX hA2 hp (show entryA as i h nx (fun ss h' nx' => k (.c x :: ss) h' nx') from hk)
      have e : v = x := hA1
      subst e
      exact ⟨_, h', nx', θ', a1, a2, by simp only [VL]; exact ⟨by simp only [V], a3⟩⟩
    | d x =>
      obtain ⟨hA1, hA2⟩ := hA
      obtain ⟨s, h1, nx1, θ1, b1, b2, b3, b4⟩ := instD_sound' hs (D.holds_mono hkeep x v hA1) (show instD x h nx (fun s h' nx' => entryA as i h' nx' fun ss h'' nx'' => k (s :: ss) h'' nx'') from hk)
      obtain ⟨ss, h', nx', θ', a1, a2, a3⟩ := entryA_sound b2.sat (fun b hb hx => b4 b (hX b hb hx)) hA2 (fun j b hj => b2.ext _ _ (hp j b hj)) b1
      exact ⟨_, h', nx', θ', a1, b2.trans a2, by simp only [VL]; exact ⟨V_mono a2.ext _ _ b3, a3⟩⟩
    | agg l =>
      obtain ⟨hA1, hA2⟩ := hA
      obtain ⟨cs, rfl, hcs⟩ := hA1
      obtain ⟨s, h1, nx1, θ1, b1, b2, b3, b4⟩ := instL_sound hs (DL.holds_mono hkeep hcs) (show instL l h nx (fun cs h' nx' => entryA as i h' nx' fun ss h'' nx'' => k (.agg cs :: ss) h'' nx'') from hk)
      obtain ⟨ss, h', nx', θ', a1, a2, a3⟩ := entryA_sound b2.sat (fun b hb hx => b4 b (hX b hb hx)) hA2 (fun j b hj => b2.ext _ _ (hp j b hj)) b1
      exact ⟨_, h', nx', θ', a1, b2.trans a2, by simp only [VL]; exact ⟨by simp only [V]; exact ⟨cs, rfl, VL_mono a2.ext _ _ b3⟩, a3⟩⟩
    | ptr T l =>
      cases Bs with
      | nil => exact hA.elim
      | cons b bs =>
        obtain ⟨⟨rfl, _⟩, hA2⟩ := hA
        obtain ⟨ss, h', nx', θ', a1, a2, a3⟩ := entryA_sound (i := i + 1) hs hX hA2 (fun j b' hj => by rw [show i + 1 + j = i + (j + 1) by omega]; exact hp (j + 1) b' (by simpa using hj))
          (show entryA as (i + 1) h nx (fun ss h' nx' => k (.p i 0 :: ss) h' nx') from hk)
        refine ⟨_, h', nx', θ', a1, a2, ?_⟩
        simp only [VL]
        exact ⟨by simp only [V]; exact ⟨_, a2.ext _ _ (hp 0 b rfl), rfl⟩, a3⟩

def resF (tmps : Array Value) : ResultVar → Sem Value
  | .tmp t => pure (tmps.getD t undef)
  | .cell a t => do loadVar t (← asAddr (tmps.getD a undef))
theorem results_eq (fn : Func) (tmps : Array Value) : results fn tmps = (do let vs ← fn.results.mapM (resF tmps); pure (if h : vs.size = 1 then vs[0] else .tuple vs)) := rfl

theorem run_results (hs : SatH K θ h nx w) {fn : Func} {tmps : Array Value} {env : List (Nat × SV)} (hv : ∀ t s, efind env t = some s → ∃ v, tmps[t]? = some v ∧ V θ s v) {ss : List SV} (hr : resultS P env h fn.results.toList = some ss) :
    ∃ us : List Value, VL θ ss us ∧ (results fn tmps).run P w = .ok (retVal us) w := by
  have key : ∀ (l : List ResultVar) (ss : List SV), resultS P env h l = some ss → ∃ us : List Value, VL θ ss us ∧ (l.mapM (resF tmps)).run P w = .ok us w := by
    intro l
    induction l with
    | nil => intro ss h; simp [resultS] at h; subst h; exact ⟨[], by simp [VL], by simp⟩
    | cons x l ih =>
      intro ss hh
      cases x with
      | cell a T =>
        simp only [resultS] at hh
        split at hh <;> try (cases hh; done)
        rename_i n o h1
        split at hh <;> try (cases hh; done)
        rename_i T' cs hf
        split at hh <;> try (cases hh; done)
        rename_i s ss' h2 h3
        cases hh
        obtain ⟨v, e1, e2⟩ := hv a _ h1
        simp only [V] at e2
        obtain ⟨L, hL, rfl⟩ := e2
        obtain ⟨L', hL', us0, c1, c2, c3⟩ := hs.res n _ hf
        obtain rfl := Option.some.inj (hL.symm.trans hL')
        obtain ⟨v', g1, g2⟩ := ldBlk_sound c3 h2
        obtain ⟨us, k1, k2⟩ := ih ss' h3
        refine ⟨v' :: us, by simp only [VL]; exact ⟨g1, k1⟩, ?_⟩
        have ho : L.o = 0 := by unfold Loc.o; rw [c1]
        have e3 : tmps.getD a undef = .pointer (some ⟨L.b, o, none⟩) := by simp [Array.getD_eq_getD_getElem?, e1, ho]
        have e4 : (resF tmps (.cell a T)).run P w = .ok v' w := by
          simp only [resF, e3, asAddr]
          exact g2 w L.b fun j v hj => by rw [cell_of_cells c2]; exact hj
        rw [List.mapM_cons]
        simp [e4, k2, Result.andThen]
      | tmp t =>
        simp only [resultS] at hh
        split at hh <;> try (cases hh; done)
        rename_i s ss' h1 h2
        cases hh
        obtain ⟨v, e1, e2⟩ := hv t s h1
        obtain ⟨us, k1, k2⟩ := ih ss' h2
        refine ⟨v :: us, by simp only [VL]; exact ⟨e2, k1⟩, ?_⟩
        have e3 : tmps.getD t undef = v := by simp [Array.getD_eq_getD_getElem?, e1]
        rw [List.mapM_cons]
        simp [resF, e3, k2, Result.andThen]
  obtain ⟨us, k1, k2⟩ := key _ _ hr
  refine ⟨us, k1, ?_⟩
  have e : fn.results = fn.results.toList.toArray := by simp
  rw [results_eq, e, List.mapM_toArray]
  simp only [bind_map_left, Sem.run_bind, k2, Result.andThen]
  match us with
  | [] => rfl
  | [_] => rfl
  | _ :: _ :: _ => simp [retVal]
end
end Go.X
