/- Part 9 of what the closing text rests on. -/
import Derived.Test.YtdamnoleoakehaaGreatDoorKX8
namespace Go.Z
open Go.RowKit

section
variable {P : Program} {K : Ctx} {θ : Th} {h : List (Nat × R)} {nx : Nat} {w : World}

theorem DL.get {X : Nat → Prop} {w' : World} : ∀ {l : List D} {vs : List Value} {p : Nat}, DL.holds X w' l vs → (hp : p < l.length) → ∃ c, vs[p]? = some c ∧ l[p].holds X w' c
  | [], _, _, _, hp => by simp at hp
  | _ :: _, [], _, h, _ => h.elim
  | _ :: _, v :: _, 0, h, _ => ⟨v, rfl, h.1⟩
  | _ :: l, _ :: vs, p + 1, h, hp => by simpa using DL.get (l := l) (vs := vs) h.2 (by simpa using hp)

end
end Go.Z

namespace Go.Z
open Go.RowKit

def allT (ts : List Bool) : Prop := ∀ t, t ∈ ts → t = true

mutual
def below (nx : Nat) : SV → Bool
  | .b _ | .c _ | .nil | .arr _ _ => true
  | .p n _ | .e n _ _ _ | .a n | .q n | .m n | .sl n _ | .vw n _ | .hv n _ => Nat.blt n nx
  | .g _ | .px _ _ _ _ => true
  | .i _ s => below nx s
  | .agg l => belowL nx l
  | .tup l => belowL nx l
  | .f _ _ l => belowL nx l
  | _ => false
def belowL (nx : Nat) : List SV → Bool
  | [] => true
  | s :: l => below nx s && belowL nx l
end

inductive GM where
  | run
  | skip
  | under (ctx : List Bool)
  | split (d : Nat) (t want : Bool)

end Go.Z

namespace Go.Z
open Go.RowKit

def EntersOk (P : Program) (f : Nat) : Prop := ∀ (args : Array Value) (w : World), (callFunc f args).run P w = .ok (.enter f args) w
def JOk (P : Program) (j : Nat → List SV → List (Nat × R) → Nat → HK → Prop) : Prop :=
  ∀ (f : Nat) (args : List SV) (h : List (Nat × R)) (nx : Nat) (k : HK) (K : Ctx) (θ : Th) (w : World) (us : List Value), SatH K θ h nx w → VL θ args us → j f args h nx k →
    EntersOk P f ∧ Calls P f us.toArray w fun e w' => ∃ r h' nx' θ' v, e = .returned v ∧ k r h' nx' ∧ SatH K θ' h' nx' w' ∧ θ.ext θ' ∧ V θ' r v
structure COk (P : Program) (C : CE) : Prop where
  c : ∀ f c, C.c f = some c → FnOk P f c ∧ EntersOk P f
  j : JOk P C.j

theorem entersOk {P : Program} {f : Nat} {fn : Func} (hf : P.funcs[f]? = some fn) (hb : fn.body.isSome = true) (hn : (fn.name == "runtime.NumGoroutine") = false) : EntersOk P f := by
  intro args w
  have hb' : fn.body.isNone = false := by simpa using hb
  simp only [callFunc, Sem.run_bind, run_program, Result.andThen, hf, hn, hb', Bool.false_eq_true, if_false]
  rfl

section
variable {P : Program} {C : CE} {K : Ctx} {θ : Th} {h : List (Nat × R)} {nx : Nat} {w : World} {env : List (Nat × SV)} {a : Act}


theorem run_pick (ρ : Operand → Value) (o : Oper) {c x y : Operand} (ho : o.op = .pick c x y) {t : Bool} (hc : ρ c = .bool t) (w' : World) :
    (execOp ρ o).run P w' = .ok (.value (if t then ρ x else ρ y)) w' := by
  unfold execOp
  rw [ho]
  simp [hc, asBool]

theorem exec_call {ρ : Operand → Value} {o : Oper} {c : Call} {x : Operand} (ho : o.op = .call c) (hcal : c.callee = .value x) {f : Nat} {first caps : Array Value} (hx : ρ x = .func (.func f) first caps) (hf : EntersOk P f) (w' : World) :
    (execOp ρ o).run P w' = .ok (.enter f (first ++ c.args.map ρ ++ caps)) w' := by
  unfold execOp
  rw [ho]
  simp [resolve, hcal, hx, Deferred.ofValue, invoke]
  exact hf _ w'

theorem methF_run {T : Nat} {m : String} {f : Nat} (h : methF P T m = some f) (fuel : Nat) (v : Value) (w' : World) : (method (fuel + 1) T v m).run P w' = .ok (f, v) w' := by
  unfold methF at h
  split at h <;> try (cases h; done)
  rename_i i hi
  split at h <;> try (cases h; done)
  rename_i r e hr hT
  split at h <;> try (cases h; done)
  rename_i f' hp hf
  cases h
  unfold method
  simp [run_typeInfo hi, hr, hp, follow, hf, receiverAt, run_underlying hT, Place.get]
theorem exec_invoke {ρ : Operand → Value} {o : Oper} {c : Call} {x : Operand} {m : String} (ho : o.op = .call c) (hcal : c.callee = .invoke x m) {T f : Nat} {u : Value} (hx : ρ x = .iface T u) (hm : methF P T m = some f) (hf : EntersOk P f) (w' : World) :
    (execOp ρ o).run P w' = .ok (.enter f (#[u] ++ c.args.map ρ)) w' := by
  unfold execOp
  rw [ho]
  have e : ∀ fuel, (method (fuel + Made.depth) T u m).run P w' = .ok (f, u) w' := fun fuel => methF_run hm (fuel + (Made.depth - 1)) u w'
  have h0 : (#[Value.iface T u] ++ c.args.map ρ)[0]? = some (Value.iface T u) := by
    rw [Array.getElem?_append_left (by simp)]
    rfl
  have hx2 : (c.args.map ρ).extract 0 c.args.size = c.args.map ρ := Array.extract_eq_self_of_le (by simp)
  simp [resolve, hcal, hx, invoke, h0, callMethod, e, hx2]
  exact hf _ w'

end
end Go.Z

namespace Go.Z
open Go.RowKit

section
variable {P : Program} {C : CE} {K : Ctx} {θ : Th} {h : List (Nat × R)} {nx : Nat} {w : World} {env : List (Nat × SV)} {a : Act} {ops : Array Oper}

def GM.ok (ops : Array Oper) (env : List (Nat × SV)) (o : Oper) (a : Act) : GM → Prop
  | .run => Region.wanted o (yielded ops a.tmps) = true
  | .skip => Region.wanted o (yielded ops a.tmps) = false
  | .under ctx => (allT ctx → Region.wanted o (yielded ops a.tmps) = true) ∧ (¬ allT ctx → Region.wanted o (yielded ops a.tmps) = false)
  | .split d t want => efind env d = some (.c (.bool t)) ∧ Region.wanted o (yielded ops a.tmps) = (t == want)

theorem SatE.known (he : SatE K θ env a) {d : Nat} {t b : Bool} (hd : efind env d = some (.c (.bool t))) (ht : t = b) : SatE K θ ((d, .b b) :: env) a := by
  refine ⟨he.size, he.defers, fun u s hs => ?_⟩
  rw [efind_cons] at hs
  split at hs
  · rename_i e; subst e; cases hs; subst ht
    obtain ⟨v, h1, h2⟩ := he.val d _ hd
    exact ⟨v, h1, by simpa only [V] using h2⟩
  · exact he.val u s hs

end
end Go.Z

namespace Go.Z
open Go.RowKit

def KeepB (B : Nat → Prop) (w w' : World) : Prop := w.heap.size ≤ w'.heap.size ∧ ∀ b, b < w.heap.size → B b → w'.heap[b]? = w.heap[b]?
theorem KeepB.refl (B : Nat → Prop) (w : World) : KeepB B w w := ⟨Nat.le_refl _, fun _ _ _ => rfl⟩
theorem KeepB.trans {B : Nat → Prop} {w w' w'' : World} (h : KeepB B w w') (h' : KeepB B w' w'') : KeepB B w w'' :=
  ⟨Nat.le_trans h.1 h'.1, fun b hb hB => (h'.2 b (Nat.lt_of_lt_of_le hb h.1) hB).trans (h.2 b hb hB)⟩

def predsO (ops : Array Oper) (j : Nat) : List Nat :=
  match ops[j]? with
  | some oj => (oj.after.toList.filter (Region.binds .any)).map (·.on)
  | none => []
def reach (ops : Array Oper) : Nat → List Nat → List Nat → List Nat
  | 0, _, seen => seen
  | _ + 1, [], seen => seen
  | f + 1, j :: rest, seen => cond (seenB seen j) (reach ops f rest seen) (reach ops f (predsO ops j ++ rest) (j :: seen))
def anc (ops : Array Oper) (f j i : Nat) : Bool := seenB (reach ops (f * f) (predsO ops j) []) i

section
variable {P : Program} {ops : Array Oper}

def ClosedL (ops : Array Oper) (listed : Array Bool) : Prop :=
  ∀ j oj, ops[j]? = some oj → listed.getD j false = true → ∀ e ∈ oj.after, Region.binds .any e = true → listed.getD e.on false = true

theorem getD_tf {listed : Array Bool} {i : Nat} (h : listed.getD i true = false) : listed.getD i false = false := by
  rcases Nat.lt_or_ge i listed.size with h' | h'
  · simp [h'] at h ⊢; exact h
  · simp [Array.getElem?_eq_none h'] at h

theorem ClosedL.set {listed : Array Bool} {i : Nat} (inv : ClosedL ops listed) (hi : i ∈ Region.ready .any ops listed) : ClosedL ops (listed.setIfInBounds i true) := by
  obtain ⟨_, oi, hoi, hall⟩ := mem_ready.1 hi
  intro j oj hj hl e he hb
  by_cases hij : i = j
  · subst hij
    have : oj = oi := Option.some.inj (hj.symm.trans hoi)
    subst this
    exact getD_set_true (hall e he hb)
  · rw [getD_set_ne false hij] at hl
    exact getD_set_true (inv j oj hj hl e he hb)

theorem seenB_mem {l : List Nat} {i : Nat} : seenB l i = true → i ∈ l := by
  unfold seenB
  rw [List.any_eq_true]
  rintro ⟨x, hx, he⟩
  rw [Nat.eq_of_beq_eq_true he]; exact hx
theorem reach_in {p : Nat → Prop} (hp : ∀ j, p j → ∀ x ∈ predsO ops j, p x) : ∀ (f : Nat) (todo seen : List Nat), (∀ x ∈ todo, p x) → (∀ x ∈ seen, p x) → ∀ x ∈ reach ops f todo seen, p x
  | 0, _, _, _, h2 => h2
  | _ + 1, [], _, _, h2 => h2
  | f + 1, j :: rest, seen, h1, h2 => by
    unfold reach
    cases seenB seen j with
    | true => exact reach_in hp f rest seen (fun x hx => h1 x (List.mem_cons_of_mem _ hx)) h2
    | false =>
      refine reach_in hp f (predsO ops j ++ rest) (j :: seen) (fun x hx => ?_) (fun x hx => ?_)
      · rcases List.mem_append.1 hx with hx | hx
        · exact hp j (h1 j (List.mem_cons_self ..)) x hx
        · exact h1 x (List.mem_cons_of_mem _ hx)
      · rcases List.mem_cons.1 hx with rfl | hx
        · exact h1 x (List.mem_cons_self ..)
        · exact h2 x hx
theorem predsO_mem {j x : Nat} {oj : Oper} (hj : ops[j]? = some oj) (hx : x ∈ predsO ops j) : ∃ e ∈ oj.after, Region.binds .any e = true ∧ e.on = x := by
  unfold predsO at hx
  rw [hj] at hx
  obtain ⟨e, he, rfl⟩ := List.mem_map.1 hx
  obtain ⟨h1, h2⟩ := List.mem_filter.1 he
  exact ⟨e, Array.mem_toList_iff.1 h1, h2, rfl⟩
theorem anc_ready {listed : Array Bool} {i j : Nat} (inv : ClosedL ops listed) (hi : listed.getD i false = false) (hj : j ∈ Region.ready .any ops listed) (f : Nat) : anc ops f j i = false := by
  obtain ⟨_, oj, hoj, hall⟩ := mem_ready.1 hj
  cases h : anc ops f j i with
  | false => rfl
  | true =>
    have := reach_in (ops := ops) (p := fun x => listed.getD x false = true) (fun k hk x hx => by
        cases ho : ops[k]? with
        | none =>
          unfold predsO at hx
          rw [ho] at hx
          simp at hx
        | some ok =>
          obtain ⟨e, h1, h2, rfl⟩ := predsO_mem ho hx
          exact inv k ok ho hk e h1 h2) (f * f) (predsO ops j) [] (fun x hx => by
        obtain ⟨e, h1, h2, rfl⟩ := predsO_mem hoj hx
        exact hall e h1 h2) (fun x hx => by cases hx) i (seenB_mem h)
    rw [hi] at this
    cases this

abbrev Prot := List (Nat × (Nat → Prop))

end
end Go.Z

