/- Regions that draw their order: an operation that only reads may be taken first, whatever the others write, if they leave alone what it reads. -/
import Derived.Test.YtonfaeenoifomaaZ20
namespace Go.Z
open Go.RowKit

def Q0 : Exit → Act → World → Prop := fun _ _ _ => False

theorem Oper.wp_of_Q0 {P : Program} {o : Oper} {a : Act} {w : World} {K : Act → World → Prop} {Q : Exit → Act → World → Prop} (hh : o.wp P a w K Q0) : o.wp P a w K Q := by
  unfold Oper.wp at *
  generalize (execOp a.eval o).run P w = r at *
  cases r with
  | ok n w' =>
    cases n <;> simp only [Oper.upon] at hh ⊢ <;>
      first
        | exact hh
        | exact Calls.mono hh (fun e w'' he => by cases e <;> first | exact he | exact he.elim | (obtain ⟨_, _, h0⟩ := he; exact h0.elim))
        | exact Rows.mono hh (fun _ _ he => he)
  | halt x w' => cases x <;> simp only [Oper.upon] at hh ⊢ <;> exact hh.elim

theorem wpOp_of_Q0 {P : Program} {ops : Array Oper} {i : Nat} {a : Act} {w : World} {K : Act → World → Prop} {Q : Exit → Act → World → Prop} (hh : wpOp P ops Q0 i K a w) : wpOp P ops Q i K a w := by
  unfold wpOp at *
  split
  · simpa [*] using hh
  · rename_i o ho
    simp only [ho] at hh
    split
    · rename_i hw; simp only [hw, if_true] at hh
      rcases hh with hh | ⟨_, a', w', hh⟩
      · exact .inl (Oper.wp_of_Q0 hh)
      · exact hh.elim
    · rename_i hw; simp only [hw] at hh; exact hh

/-- Blocks of B that were there are as they were. -/
def KeepB (B : Nat → Prop) (w w' : World) : Prop := w.heap.size ≤ w'.heap.size ∧ ∀ b, b < w.heap.size → B b → w'.heap[b]? = w.heap[b]?
theorem KeepB.refl (B : Nat → Prop) (w : World) : KeepB B w w := ⟨Nat.le_refl _, fun _ _ _ => rfl⟩
theorem KeepB.trans {B : Nat → Prop} {w w' w'' : World} (h : KeepB B w w') (h' : KeepB B w' w'') : KeepB B w w'' :=
  ⟨Nat.le_trans h.1 h'.1, fun b hb hB => (h'.2 b (Nat.lt_of_lt_of_le hb h.1) hB).trans (h.2 b hb hB)⟩

/-- Does j wait for i, directly or through others? -/
def anc (ops : Array Oper) : Nat → Nat → Nat → Bool
  | 0, _, _ => false
  | f + 1, j, i => match ops[j]? with
    | some oj => oj.after.any fun e => Region.binds .any e && (Nat.beq e.on i || anc ops f e.on i)
    | none => false

section
variable {P : Program} {ops : Array Oper}

def ClosedL (ops : Array Oper) (listed : Array Bool) : Prop :=
  ∀ j oj, ops[j]? = some oj → listed.getD j false = true → ∀ e ∈ oj.after, Region.binds .any e = true → listed.getD e.on false = true

theorem getD_tf {listed : Array Bool} {i : Nat} (h : listed.getD i true = false) : listed.getD i false = false := by
  rcases Nat.lt_or_ge i listed.size with h' | h'
  · simp [h'] at h ⊢; exact h
  · simp [Array.getElem?_eq_none h'] at h

theorem ClosedL.set {listed : Array Bool} {i : Nat} (inv : ClosedL ops listed) (hi : i ∈ Region.ready .any ops listed) : ClosedL ops (listed.setIfInBounds i true) := by
  obtain ⟨_, oi, hoi, hall⟩ := mem_ready.1 hi
  intro j oj hj hl e he hb
  by_cases hij : i = j
  · subst hij
    have : oj = oi := Option.some.inj (hj.symm.trans hoi)
    subst this
    exact getD_set_true (hall e he hb)
  · rw [getD_set_ne false hij] at hl
    exact getD_set_true (inv j oj hj hl e he hb)

theorem anc_listed {listed : Array Bool} {i : Nat} (inv : ClosedL ops listed) (hi : listed.getD i false = false) : ∀ (f j : Nat), listed.getD j false = true → anc ops f j i = false
  | 0, _, _ => rfl
  | f + 1, j, hj => by
    unfold anc
    split
    · rename_i oj hoj
      rw [Array.any_eq_false']
      intro e he hc
      simp only [Bool.and_eq_true, Bool.or_eq_true] at hc
      have h1 := inv j oj hoj hj e he hc.1
      rcases hc.2 with h2 | h2
      · have := Nat.eq_of_beq_eq_true h2
        subst this
        rw [hi] at h1; cases h1
      · rw [anc_listed inv hi f e.on h1] at h2; cases h2
    · rfl

theorem anc_ready {listed : Array Bool} {i j : Nat} (inv : ClosedL ops listed) (hi : listed.getD i false = false) (hj : j ∈ Region.ready .any ops listed) (f : Nat) : anc ops f j i = false := by
  obtain ⟨_, oj, hoj, hall⟩ := mem_ready.1 hj
  cases f with
  | zero => rfl
  | succ f =>
    unfold anc
    rw [hoj]
    simp only
    rw [Array.any_eq_false']
    intro e he hc
    simp only [Bool.and_eq_true, Bool.or_eq_true] at hc
    have h1 := hall e he hc.1
    rcases hc.2 with h2 | h2
    · have := Nat.eq_of_beq_eq_true h2
      subst this
      rw [hi] at h1; cases h1
    · rw [anc_listed inv hi f e.on h1] at h2; cases h2

abbrev Prot := List (Nat × (Nat → Prop))

/-- Whatever order is drawn, Q holds at the end; and no operation turns the blocks that one is to read that may come later. -/
def wpAnyC (P : Program) (ops : Array Oper) (pr : Prot) (Q : Act → World → Prop) : Nat → Array Bool → Act → World → Prop
  | 0, listed, a, w => Region.ready .any ops listed = [] ∧ Q a w
  | f + 1, listed, a, w => Region.ready .any ops listed ≠ [] ∧
    ∀ j ∈ Region.ready .any ops listed, wpOp P ops Q0 j (fun a' w' => (∀ x ∈ pr, anc ops ops.size j x.1 = false → KeepB x.2 w w') ∧ wpAnyC P ops pr Q f (listed.setIfInBounds j true) a' w') a w

theorem wpAny_of_C {pr : Prot} {Q : Act → World → Prop} {Q' : Exit → Act → World → Prop} (hQ : ∀ a w, Q a w → Q' .normal a w) : ∀ (f : Nat) (listed : Array Bool) (a : Act) (w : World),
    wpAnyC P ops pr Q f listed a w → wpAny P .any ops Q' f listed a w
  | 0, _, _, _, h => ⟨h.1, hQ _ _ h.2⟩
  | f + 1, _, _, _, h => ⟨fun h0 => absurd h0 h.1, fun j hj => wpOp_of_Q0 (wpOp_mono (fun _ _ h' => wpAny_of_C hQ f _ _ _ h'.2) (h.2 j hj))⟩

theorem wpAnyC_sub {pr pr' : Prot} {Q : Act → World → Prop} (hs : ∀ x ∈ pr', x ∈ pr) : ∀ (f : Nat) (listed : Array Bool) (a : Act) (w : World),
    wpAnyC P ops pr Q f listed a w → wpAnyC P ops pr' Q f listed a w
  | 0, _, _, _, h => h
  | f + 1, _, _, _, h => ⟨h.1, fun j hj => wpOp_mono (fun _ _ h' => ⟨fun x hx => h'.1 x (hs x hx), wpAnyC_sub hs f _ _ _ h'.2⟩) (h.2 j hj)⟩

/-- An operation that is apart from another one's slots: before or behind that one's result, all the same. -/
theorem wpOp_swap {j : Nat} {oi oj : Oper} {v : Value} (hj : ops[j]? = some oj) (hap : oi.apart ops oj = true)
    (hsi : ∀ cs b, oi.op ≠ .select cs b) (hsj : ∀ cs b, oj.op ≠ .select cs b) {K : Act → World → Prop} {a : Act} {w : World}
    (h : wpOp P ops Q0 j K (a.put oi.dst v) w) :
    wpOp P ops Q0 j (fun a' w' => execOp a'.eval oi = execOp a.eval oi ∧ K (a'.put oi.dst v) w') a w := by
  obtain ⟨h1, h2, h3⟩ := Oper.apart_spec hap
  have keep : ∀ u, execOp (a.put oj.dst u).eval oi = execOp a.eval oi := fun u => execOp_put oi hsi a oj.dst u h3
  unfold wpOp at *
  simp only [hj] at *
  rw [wanted_put oj a oi.dst v h1] at h
  split
  · rename_i hw
    simp only [hw, if_true] at h
    rcases h with h | ⟨_, _, _, h⟩
    case inr => exact h.elim
    refine .inl ?_
    unfold Oper.wp at *
    rw [execOp_put oj hsj a oi.dst v h1] at h
    generalize (execOp a.eval oj).run P w = r at *
    cases r with
    | ok n w' =>
      cases n <;> simp only [Oper.upon] at h ⊢
      case value u => exact ⟨keep u, by rw [← Act.put_comm a v u h2]; exact h⟩
      case skip => exact ⟨keep _, by rw [← Act.put_comm a v undef h2]; exact h⟩
      case defer d =>
        refine ⟨execOp_put oi hsi { a with defers := d :: a.defers } oj.dst undef h3, ?_⟩
        rw [← Act.put_comm _ v undef h2, ← Act.put_defers]
        exact h
      case enter f args =>
        refine Calls.mono h fun e w'' he => ?_
        cases e with
        | returned u => exact ⟨keep u, by rw [← Act.put_comm a v u h2]; exact he⟩
        | panicked c => exact he.elim
        | outgrown => obtain ⟨_, _, h0⟩ := he; exact h0.elim
      case row row args => exact Rows.mono h fun u w'' he => ⟨keep u, by rw [← Act.put_comm a v u h2]; exact he⟩
    | halt x w' =>
      cases x <;> simp only [Oper.upon] at h ⊢
      case panic u => exact h.elim
  · rename_i hw
    simp only [hw] at h
    exact ⟨keep _, by rw [← Act.put_comm a v undef h2]; exact h⟩

theorem wpOp_reads {i : Nat} {oi : Oper} {v : Value} {a : Act} {w : World} {K : Act → World → Prop} (hi : ops[i]? = some oi) (hg : oi.guard = none)
    (hy : (execOp a.eval oi).run P w = .ok (.value v) w) (h : K (a.put oi.dst v) w) : wpOp P ops Q0 i K a w := by
  unfold wpOp
  have hw : Region.wanted oi (yielded ops a.tmps) = true := by simp [Region.wanted, hg]
  simp only [hi, hw, if_true, Oper.wp, hy, Oper.upon]
  exact .inl h

theorem wpAnyC_first {pr : Prot} {Q : Act → World → Prop} {i : Nat} {oi : Oper} {v : Value} {B : Nat → Prop} (hi : ops[i]? = some oi) (hg : oi.guard = none)
    (hsel : ∀ (j : Nat) (o : Oper) cs b, ops[j]? = some o → o.op ≠ .select cs b) :
    ∀ (f : Nat) (listed : Array Bool) (a : Act) (w : World), ClosedL ops listed →
      (∀ j oj, ops[j]? = some oj → j ≠ i → listed.getD j true = false → (∀ e ∈ oj.after, Region.binds .any e = true → e.on ≠ i) → oi.apart ops oj = true) →
      i ∈ Region.ready .any ops listed → (∀ w', KeepB B w w' → (execOp a.eval oi).run P w' = .ok (.value v) w') →
      wpAnyC P ops ((i, B) :: pr) Q f (listed.setIfInBounds i true) (a.put oi.dst v) w → wpAnyC P ops pr Q (f + 1) listed a w := by
  have now : ∀ (f : Nat) (listed : Array Bool) (a : Act) (w : World), (∀ w', KeepB B w w' → (execOp a.eval oi).run P w' = .ok (.value v) w') →
      wpAnyC P ops ((i, B) :: pr) Q f (listed.setIfInBounds i true) (a.put oi.dst v) w →
      wpOp P ops Q0 i (fun a' w' => (∀ x ∈ pr, anc ops ops.size i x.1 = false → KeepB x.2 w w') ∧ wpAnyC P ops pr Q f (listed.setIfInBounds i true) a' w') a w := by
    intro f listed a w hy H
    exact wpOp_reads hi hg (hy w (KeepB.refl _ _)) ⟨fun x _ _ => KeepB.refl _ _, wpAnyC_sub (fun x hx => .tail _ hx) _ _ _ _ H⟩
  intro f
  induction f with
  | zero =>
    intro listed a w _ _ hr hy H
    refine ⟨fun h => (by rw [h] at hr; cases hr), fun j hj => ?_⟩
    by_cases hji : j = i
    · subst hji; exact now 0 listed a w hy H
    · have := ready_mono hj hji
      rw [H.1] at this
      cases this
  | succ f ih =>
    intro listed a w hcl hfree hr hy H
    refine ⟨fun h => (by rw [h] at hr; cases hr), fun j hj => ?_⟩
    by_cases hji : j = i
    · subst hji; exact now (f + 1) listed a w hy H
    · have h1 := H.2 j (ready_mono hj hji)
      obtain ⟨hjun, oj, hoj, hall⟩ := mem_ready.1 hj
      have hun := getD_tf (mem_ready.1 hr).1
      have hnot : ∀ e ∈ oj.after, Region.binds .any e = true → e.on ≠ i := fun e he hb heq => by
        have h1 := hall e he hb
        rw [heq, hun] at h1; cases h1
      have h2 := wpOp_swap hoj (hfree j oj hoj hji hjun hnot) (fun cs b => hsel i oi cs b hi) (fun cs b => hsel j oj cs b hoj) h1
      have hfree' : ∀ k ok, ops[k]? = some ok → k ≠ i → (listed.setIfInBounds j true).getD k true = false →
          (∀ e ∈ ok.after, Region.binds .any e = true → e.on ≠ i) → oi.apart ops ok = true := fun k ok hk hki hun hno => by
        refine hfree k ok hk hki ?_ hno
        by_cases hjk : j = k
        · subst hjk; exact hjun
        · rw [getD_set_ne true hjk] at hun; exact hun
      refine wpOp_mono (fun a' w' h3 => ?_) h2
      obtain ⟨e1, e2, e3⟩ := h3
      have hk : KeepB B w w' := e2 (i, B) (.head _) (anc_ready hcl hun hj _)
      refine ⟨fun x hx => e2 x (.tail _ hx), ih (listed.setIfInBounds j true) a' w' (hcl.set hj) hfree' (ready_mono hr (Ne.symm hji)) (fun w'' hw'' => by rw [e1]; exact hy w'' (hk.trans hw'')) ?_⟩
      rw [Array.setIfInBounds_comm _ _ hji]
      exact e3
end
end Go.Z
