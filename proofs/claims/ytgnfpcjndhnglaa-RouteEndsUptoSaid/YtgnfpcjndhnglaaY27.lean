/- Contracts in a list; a function with its contract. -/
import Derived.Test.YtgnfpcjndhnglaaY24
import Derived.KernelRfl
namespace Go.Y
open Go.RowKit

def ctrs : List (Nat × Ctr) → Nat → Option Ctr
  | [], _ => none
  | (g, c) :: l, f => cond (Nat.beq g f) (some c) (ctrs l f)

def loopsL : List (Nat × LoopF) → Nat → Option LoopF
  | [], _ => none
  | (g, c) :: l, f => cond (Nat.beq g f) (some c) (loopsL l f)
def unrollL : List (Nat × Nat) → Nat → Nat
  | [], _ => 0
  | (g, n) :: l, f => cond (Nat.beq g f) n (unrollL l f)
/-- Annotations: of loops; regions that part their ways; loops that are carried out so often. -/
def anns (ls : List (Nat × LoopF)) (sp : List Nat := []) (un : List (Nat × Nat) := []) : Ann := ⟨loopsL ls, fun r => memB r sp, unrollL un⟩

/-- The function keeps its contract, and a call of it enters it. -/
def FnIs (P : Program) (f : Nat) (c : Ctr) : Prop := FnOk P f c ∧ EntersOk P f

theorem cok_nil {P : Program} : COk P (ctrs []) := fun f c h => by cases h
theorem cok_cons {P : Program} {f : Nat} {c : Ctr} {l : List (Nat × Ctr)} (h : FnIs P f c) (t : COk P (ctrs l)) : COk P (ctrs ((f, c) :: l)) := fun g c' hg => by
  simp only [ctrs] at hg
  cases hb : Nat.beq f g with
  | true =>
    rw [hb] at hg; cases hg
    rw [← Nat.eq_of_beq_eq_true hb]
    exact h
  | false => rw [hb] at hg; exact t g c' hg

theorem kcast {p q : Prop} (h : p) (e : p = q) : q := e ▸ h

theorem fnIs {P : Program} {C : Nat → Option Ctr} (hP : P.follows .mixedOrders = true) (hC : COk P C) {f : Nat} {fn : Func} {code : Code} {c : Ctr}
    (hf : P.funcs[f]? = some fn) (hb : fn.body = some code) (hn : (fn.name == "runtime.NumGoroutine") = false)
    (h : ∀ as, c.pre as → ∃ ann, execF P C fn.ntmps ann fn.results.toList code c as) : FnIs P f c :=
  ⟨fnOk hP hC hf hb h, entersOk hf (by rw [hb]; rfl) hn⟩
end Go.Y
