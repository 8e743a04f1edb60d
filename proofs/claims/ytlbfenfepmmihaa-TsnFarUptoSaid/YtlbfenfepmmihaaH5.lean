/- Part 5 of what the closing text rests on. -/
import Derived.Test.YtlbfenfepmmihaaH4
import Derived.KernelRfl
/- Contracts in a list; a function with its contract. -/
namespace Go.Z
open Go.RowKit

def ctrsL : List (Nat × Ctr) → Nat → Option Ctr
  | [], _ => none
  | (g, c) :: l, f => cond (Nat.beq g f) (some c) (ctrsL l f)
/-- Contracts alone. -/
def ctrs (l : List (Nat × Ctr)) : CE := ⟨ctrsL l, fun _ _ _ _ _ => False⟩

def loopsL : List (Nat × LoopF) → Nat → Option LoopF
  | [], _ => none
  | (g, c) :: l, f => cond (Nat.beq g f) (some c) (loopsL l f)
def unrollL : List (Nat × Nat) → Nat → Nat
  | [], _ => 0
  | (g, n) :: l, f => cond (Nat.beq g f) n (unrollL l f)
def dropL : List (Nat × List Nat) → Nat → List Nat
  | [], _ => []
  | (g, n) :: l, f => cond (Nat.beq g f) n (dropL l f)
/-- Annotations: of loops; regions that part their ways; loops that are carried out so often. -/
def anns (ls : List (Nat × LoopF)) (sp : List Nat := []) (un : List (Nat × Nat) := []) (dr : List (Nat × List Nat) := []) : Ann := ⟨loopsL ls, fun r => memB r sp, unrollL un, dropL dr⟩

/-- The function keeps its contract, and a call of it enters it. -/
def FnIs (P : Program) (f : Nat) (c : Ctr) : Prop := FnOk P f c ∧ EntersOk P f

theorem cok_nil {P : Program} : COk P (ctrs []) := ⟨fun f c h => by simp [ctrs, ctrsL] at h, fun _ _ _ _ _ _ _ _ _ _ _ h => h.elim⟩
theorem cok_cons {P : Program} {f : Nat} {c : Ctr} {l : List (Nat × Ctr)} (h : FnIs P f c) (t : COk P (ctrs l)) : COk P (ctrs ((f, c) :: l)) := ⟨fun g c' hg => by
  simp only [ctrs, ctrsL] at hg
  cases hb : Nat.beq f g with
  | true =>
    rw [hb] at hg; cases hg
    rw [← Nat.eq_of_beq_eq_true hb]
    exact h
  | false => rw [hb] at hg; exact t.c g c' hg, fun _ _ _ _ _ _ _ _ _ _ _ h => h.elim⟩

/-! Functions that are walked in place -/
structure InlF where
  code : Code
  N : Nat
  rv : List ResultVar
  ann : Ann

def inlL : List (Nat × InlF) → Nat → Option InlF
  | [], _ => none
  | (g, c) :: l, f => cond (Nat.beq g f) (some c) (inlL l f)

def jOf (P : Program) (C : Nat → Option Ctr) (I : Nat → Option InlF) : Nat → Nat → List SV → List (Nat × R) → Nat → HK → Prop
  | 0, _, _, _, _, _ => False
  | d + 1, f, args, h, nx, k =>
    match I f with
    | none => False
    | some F => cond (Nat.ble args.length F.N)
      (exec P ⟨C, jOf P C I d⟩ F.N F.ann F.code (slotsOf args 0) h nx fun e env h' nx' => match e with
        | .exit _ => False
        | _ => resultS P env h' F.rv fun rs => k (retS rs) h' nx') False

def InlOk (P : Program) (f : Nat) (F : InlF) : Prop :=
  ∃ fn : Func, P.funcs[f]? = some fn ∧ fn.body = some F.code ∧ fn.ntmps = F.N ∧ fn.results.toList = F.rv ∧ (fn.name == "runtime.NumGoroutine") = false
theorem inlOk {P : Program} {f : Nat} {fn : Func} {code : Code} {ann : Ann} (hf : P.funcs[f]? = some fn) (hb : fn.body = some code) (hn : (fn.name == "runtime.NumGoroutine") = false) :
    InlOk P f ⟨code, fn.ntmps, fn.results.toList, ann⟩ := ⟨fn, hf, hb, rfl, rfl, hn⟩

theorem SatH.withN {K : Ctx} {θ : Th} {h : List (Nat × R)} {nx : Nat} {w : World} (hs : SatH K θ h nx w) (n : Nat) : SatH { K with N := n } θ h nx w := ⟨hs.fresh, hs.res, hs.dis, hs.new, hs.frame⟩
theorem SatH.without {K : Ctx} {n : Nat} {θ : Th} {h : List (Nat × R)} {nx : Nat} {w : World} (hs : SatH { K with N := n } θ h nx w) : SatH K θ h nx w := ⟨hs.fresh, hs.res, hs.dis, hs.new, hs.frame⟩

theorem jOf_sound {P : Program} {C : Nat → Option Ctr} {I : Nat → Option InlF} (hP : P.follows .mixedOrders = true) (hC : ∀ f c, C f = some c → FnOk P f c ∧ EntersOk P f) (hI : ∀ f F, I f = some F → InlOk P f F) :
    ∀ d, JOk P (jOf P C I d)
  | 0 => fun _ _ _ _ _ _ _ _ _ _ _ h => h.elim
  | d + 1 => fun f args h nx k K θ w us hs hv hq => by
    unfold jOf at hq
    split at hq
    · exact hq.elim
    rename_i F hF
    obtain ⟨fn, hf, hb, hNt, hrv, hn⟩ := hI f F hF
    obtain ⟨b1, b2⟩ := cond_false hq
    have hN : args.length ≤ fn.ntmps := by rw [hNt]; exact nble b1
    have hlen := VL_length hv
    refine ⟨entersOk hf (by rw [hb]; rfl) hn, ?_⟩
    have hE : SatE { K with N := F.N } θ (slotsOf args 0) { tmps := us.toArray ++ Array.replicate (fn.ntmps - us.toArray.size) undef, defers := [] } := by
      refine ⟨by simp [← hNt]; omega, rfl, fun t s hts => ?_⟩
      obtain ⟨i, rfl, hi⟩ := efind_slots hts
      obtain ⟨v, hv, hV⟩ := VL_get hv hi
      have hilt := (List.getElem?_eq_some_iff.1 hv).1
      refine ⟨v, ?_, hV⟩
      rw [Nat.zero_add, Array.getElem?_append_left (by simpa using hilt)]
      simpa using hv
    refine calls_of_wp hf hb (exec_sound (K := { K with N := F.N }) (C := ⟨C, jOf P C I d⟩) hP ⟨hC, jOf_sound hP hC hI d⟩ F.code (θ0 := θ) (Th.ext_refl _) (hs.withN _) hE b2 ?_)
    intro e env' h' nx' θ' a' w' k1 k2 k3 k4
    have fin : (resultS P env' h' F.rv fun rs => k (retS rs) h' nx') → a'.defers = [] ∧ ∃ v, (results fn a'.tmps).run P w' = .ok v w' ∧
        ∃ r h' nx' θ' v', Ending.returned v = .returned v' ∧ k r h' nx' ∧ SatH K θ' h' nx' w' ∧ θ.ext θ' ∧ V θ' r v' := by
      intro hr
      rw [← hrv] at hr
      obtain ⟨rs, us', q1, r1, r2⟩ := run_results (P := P) k3 k4.val hr
      exact ⟨k4.defers, _, r2, _, _, _, θ', _, rfl, q1, k3.without, k2, V_ret r1⟩
    cases e with
    | normal => exact fin k1
    | ret => exact fin k1
    | exit i => exact k1.elim

/-- Contracts, and functions that are walked in place, so deep. -/
def ctrsJ (P : Program) (l : List (Nat × Ctr)) (I : List (Nat × InlF)) (d : Nat) : CE := ⟨ctrsL l, jOf P (ctrsL l) (inlL I) d⟩
def InlsOk (P : Program) : List (Nat × InlF) → Prop
  | [] => True
  | (f, F) :: l => InlOk P f F ∧ InlsOk P l
theorem inls_get {P : Program} : ∀ {I : List (Nat × InlF)}, InlsOk P I → ∀ f F, inlL I f = some F → InlOk P f F
  | [], _, f, F, h => by simp [inlL] at h
  | (g, G) :: l, hI, f, F, h => by
    simp only [inlL] at h
    cases hb : Nat.beq g f with
    | true => rw [hb] at h; cases h; rw [← Nat.eq_of_beq_eq_true hb]; exact hI.1
    | false => rw [hb] at h; exact inls_get hI.2 f F h
theorem cokJ {P : Program} {l : List (Nat × Ctr)} {I : List (Nat × InlF)} {d : Nat} (hP : P.follows .mixedOrders = true) (h : COk P (ctrs l)) (hI : InlsOk P I) : COk P (ctrsJ P l I d) :=
  ⟨h.c, jOf_sound hP h.c (inls_get hI) d⟩

theorem kcast {p q : Prop} (h : p) (e : p = q) : q := e ▸ h

theorem fnIs {P : Program} {C : CE} (hP : P.follows .mixedOrders = true) (hC : COk P C) {f : Nat} {fn : Func} {code : Code} {c : Ctr}
    (hf : P.funcs[f]? = some fn) (hb : fn.body = some code) (hn : (fn.name == "runtime.NumGoroutine") = false)
    (h : ∀ as, c.pre as → ∃ ann, execF P C fn.ntmps ann fn.results.toList code c as) : FnIs P f c :=
  ⟨fnOk hP hC hf hb h, entersOk hf (by rw [hb]; rfl) hn⟩
end Go.Z
