/- Regions: sound. -/
import Derived.Test.YtonfaeenoifomaaZ18
namespace Go.Z
open Go.RowKit

/-- The contracts hold, and the functions have bodies. -/
def EntersOk (P : Program) (f : Nat) : Prop := ∀ (args : Array Value) (w : World), (callFunc f args).run P w = .ok (.enter f args) w
/-- What is walked in place is carried out so. -/
def JOk (P : Program) (j : Nat → List SV → List (Nat × R) → Nat → HK → Prop) : Prop :=
  ∀ (f : Nat) (args : List SV) (h : List (Nat × R)) (nx : Nat) (k : HK) (K : Ctx) (θ : Th) (w : World) (us : List Value), SatH K θ h nx w → VL θ args us → j f args h nx k →
    EntersOk P f ∧ Calls P f us.toArray w fun e w' => ∃ r h' nx' θ' v, e = .returned v ∧ k r h' nx' ∧ SatH K θ' h' nx' w' ∧ θ.ext θ' ∧ V θ' r v
structure COk (P : Program) (C : CE) : Prop where
  c : ∀ f c, C.c f = some c → FnOk P f c ∧ EntersOk P f
  j : JOk P C.j

theorem entersOk {P : Program} {f : Nat} {fn : Func} (hf : P.funcs[f]? = some fn) (hb : fn.body.isSome = true) (hn : (fn.name == "runtime.NumGoroutine") = false) : EntersOk P f := by
  intro args w
  have hb' : fn.body.isNone = false := by simpa using hb
  simp only [callFunc, Sem.run_bind, run_program, Result.andThen, hf, hn, hb', Bool.false_eq_true, if_false]
  rfl

section
variable {P : Program} {C : CE} {K : Ctx} {θ : Th} {h : List (Nat × R)} {nx : Nat} {w : World} {env : List (Nat × SV)} {a : Act}

theorem allT_drop {ctx ts : List Bool} (hc : allT ctx) (he : ts = ctx.drop (ctx.length - ts.length)) : allT ts := by
  intro t ht
  rw [he] at ht
  exact hc t (List.mem_of_mem_drop ht)

theorem resolve1_sound {ctx : List Bool} {s : SV} {v : Value} {k : SV → Prop} (hc : allT ctx) (hv : V θ s v) (hq : resolve1 ctx s k) : ∃ s', k s' ∧ V θ s' v := by
  unfold resolve1 at hq
  split at hq
  · simp only [V] at hv
    exact ⟨_, hq.2, hv.1 (allT_drop hc hq.1)⟩
  · exact ⟨_, hq, hv⟩

theorem resolveL_sound (he : SatE K θ env a) {ctx : List Bool} (hc : allT ctx) : ∀ {xs : List Operand} {k : List SV → Prop}, resolveL env ctx xs k → ∃ ss, k ss ∧ VL θ ss (xs.map a.eval)
  | [], k, hq => ⟨[], hq, by simp [VL]⟩
  | x :: xs, k, hq => by
    unfold resolveL at hq
    split at hq <;> try exact hq.elim
    rename_i s hs
    obtain ⟨s', h1, h2⟩ := resolve1_sound hc (V_get he x s hs) hq
    obtain ⟨ss, h3, h4⟩ := resolveL_sound he hc h1
    exact ⟨_, h3, by simp only [List.map_cons, VL]; exact ⟨h2, h4⟩⟩

mutual
theorem V_below {θ' : Th} (hag : ∀ n, n < nx → θ' n = θ n) : ∀ {s : SV} {v : Value}, below nx s = true → V θ' s v → V θ s v
  | .b _, _, _, hv => by simpa only [V] using hv
  | .c _, _, _, hv => by simpa only [V] using hv
  | .nil, _, _, hv => by simpa only [V] using hv
  | .arr _ _, _, _, hv => by simpa only [V] using hv
  | .p n o, v, hb, hv => by simp only [below] at hb; simp only [V] at hv ⊢; obtain ⟨L, h1, h2⟩ := hv; exact ⟨L, by rw [← hag _ (nblt hb)]; exact h1, h2⟩
  | .e n es i o, v, hb, hv => by simp only [below] at hb; simp only [V] at hv ⊢; obtain ⟨L, h1, h2⟩ := hv; exact ⟨L, by rw [← hag _ (nblt hb)]; exact h1, h2⟩
  | .a n, v, hb, hv => by simp only [below] at hb; simp only [V] at hv ⊢; obtain ⟨L, h1, h2⟩ := hv; exact ⟨L, by rw [← hag _ (nblt hb)]; exact h1, h2⟩
  | .agg l, v, hb, hv => by simp only [below] at hb; simp only [V] at hv ⊢; obtain ⟨cs, h1, h2⟩ := hv; exact ⟨cs, h1, VL_below hag hb h2⟩
  | .tup l, v, hb, hv => by simp only [below] at hb; simp only [V] at hv ⊢; obtain ⟨cs, h1, h2⟩ := hv; exact ⟨cs, h1, VL_below hag hb h2⟩
  | .unk, _, hb, _ => by simp [below] at hb
  | .f _ _ l, v, hb, hv => by simp only [below] at hb; simp only [V] at hv ⊢; obtain ⟨cs, h1, h2⟩ := hv; exact ⟨cs, h1, VL_below hag hb h2⟩
  | .m n, v, hb, hv => by simp only [below] at hb; simp only [V] at hv ⊢; obtain ⟨L, h1, h2⟩ := hv; exact ⟨L, by rw [← hag _ (nblt hb)]; exact h1, h2⟩
  | .q n, v, hb, hv => by simp only [below] at hb; simp only [V] at hv ⊢; obtain ⟨L, h1, h2⟩ := hv; exact ⟨L, by rw [← hag _ (nblt hb)]; exact h1, h2⟩
  | .w _ _, _, hb, _ => by simp [below] at hb
theorem VL_below {θ' : Th} (hag : ∀ n, n < nx → θ' n = θ n) : ∀ {l : List SV} {vs : List Value}, belowL nx l = true → VL θ' l vs → VL θ l vs
  | [], [], _, _ => by simp [VL]
  | [], _ :: _, _, hv => by simp [VL] at hv
  | _ :: _, [], _, hv => by simp [VL] at hv
  | s :: l, v :: vs, hb, hv => by
    simp only [belowL, Bool.and_eq_true] at hb
    simp only [VL] at hv ⊢
    exact ⟨V_below hag hb.1 hv.1, VL_below hag hb.2 hv.2⟩
end

/-- What a quiet operation gives, calls too. -/
def QRes (P : Program) (K : Ctx) (θ : Th) (nx : Nat) (w : World) (k : HK) (o : Oper) (a : Act) : Prop :=
  ∃ r h' nx' θ' v', k r h' nx' ∧ Grows K θ θ' nx nx' h' w ∧ V θ' r v' ∧ ∀ w', Below w.heap.size w w' → o.quietAt P a (Below w.heap.size w) w' v'

theorem QRes.of_out {rd : List SV} {k : HK} {o : Oper} (hq : QOut P K θ nx w rd k o a.eval) : QRes P K θ nx w k o a := by
  obtain ⟨r, h', nx', θ', v', h1, h2, h3, h4⟩ := hq
  refine ⟨r, h', nx', θ', v', h1, h2, h3, fun w' hw' => ?_⟩
  unfold Oper.quietAt
  rw [h4 w' fun s _ => Rd.of_below hw' s]
  exact ⟨rfl, rfl⟩

theorem joinS_sound {t : Bool} {x y r : SV} {u v : Value} (hr : joinS t x y = some r) (hx : t = true → V θ x u) (hy : t = false → V θ y v) : V θ r (if t then u else v) := by
  unfold joinS at hr
  split at hr <;> (try (cases hr; done))
  all_goals cases t <;> simp only [V] at hx hy
  all_goals first
    | (cases hr; simp only [V]; simp [hx, hy]; done)
    | (split at hr <;> cases hr; rename_i hk; subst hk; simp only [V]; simp [hx, hy])

theorem run_pick (ρ : Operand → Value) (o : Oper) {c x y : Operand} (ho : o.op = .pick c x y) {t : Bool} (hc : ρ c = .bool t) (w' : World) :
    (execOp ρ o).run P w' = .ok (.value (if t then ρ x else ρ y)) w' := by
  unfold execOp
  rw [ho]
  simp [hc, asBool]

theorem pickQ_sound (hs : SatH K θ h nx w) {ctx : List Bool} (hctx : allT ctx) {o : Oper} {c x y : Operand} (ho : o.op = .pick c x y) {sc sx sy : SV} (hc : V θ sc (a.eval c)) (hx : V θ sx (a.eval x)) (hy : V θ sy (a.eval y)) {k : HK}
    (hq : pickQ ctx sc sx sy fun r => k r h nx) : QRes P K θ nx w k o a := by
  unfold pickQ at hq
  obtain ⟨c', h1, h2⟩ := resolve1_sound hctx hc hq
  split at h1
  · simp only [V] at h2
    obtain ⟨x', h3, h4⟩ := resolve1_sound hctx hx h1
    exact .of_out (rd := []) (.pure hs h3 h4 fun w' _ => by rw [run_pick a.eval o ho h2 w']; rfl)
  · simp only [V] at h2
    obtain ⟨y', h3, h4⟩ := resolve1_sound hctx hy h1
    exact .of_out (rd := []) (.pure hs h3 h4 fun w' _ => by rw [run_pick a.eval o ho h2 w']; rfl)
  · rename_i t
    simp only [V] at h2
    -- the two values, each where the test says so
    have key : ∀ {ctx : List Bool} {s : SV} {v : Value} {k : SV → Prop}, V θ s v → resolve1 ctx s k → ∃ s', k s' ∧ (allT ctx → V θ s' v) := by
      intro ctx s v k hv hq
      unfold resolve1 at hq
      split at hq
      · simp only [V] at hv
        exact ⟨_, hq.2, fun hc => hv.1 (allT_drop hc hq.1)⟩
      · exact ⟨_, hq, fun _ => hv⟩
    obtain ⟨x', h3, h4⟩ := key hx h1
    obtain ⟨y', h5, h6⟩ := key hy h3
    split at h5 <;> try exact h5.elim
    rename_i r hr
    refine .of_out (rd := []) (.pure hs h5 (joinS_sound hr (fun ht => h4 ?_) (fun ht => h6 ?_)) fun w' _ => run_pick a.eval o ho h2 w')
    · intro u hu
      rcases List.mem_cons.1 hu with rfl | hu
      · exact ht
      · exact hctx u hu
    · intro u hu
      rcases List.mem_cons.1 hu with rfl | hu
      · simp [ht]
      · exact hctx u hu
  · exact h1.elim

theorem exec_call {ρ : Operand → Value} {o : Oper} {c : Call} {x : Operand} (ho : o.op = .call c) (hcal : c.callee = .value x) {f : Nat} {first caps : Array Value} (hx : ρ x = .func (.func f) first caps) (hf : EntersOk P f) (w' : World) :
    (execOp ρ o).run P w' = .ok (.enter f (first ++ c.args.map ρ ++ caps)) w' := by
  unfold execOp
  rw [ho]
  simp [resolve, hcal, hx, Deferred.ofValue, invoke]
  exact hf _ w'

theorem stepOQ_sound (hC : COk P C) (hs : SatH K θ h nx w) (he : SatE K θ env a) {ctx : List Bool} (hctx : allT ctx) {o : Oper} {k : HK} (hq : stepOQ P C ctx o.op env h nx k) : QRes P K θ nx w k o a := by
  unfold stepOQ at hq
  split at hq
  · rename_i c x y ho
    split at hq <;> try exact hq.elim
    rename_i c' x' y' e1 e2 e3
    exact pickQ_sound hs hctx ho (V_get he _ _ e1) (V_get he _ _ e2) (V_get he _ _ e3) hq
  · rename_i cl ho
    split at hq
    · rename_i x hcal
      obtain ⟨vs, h1, h2⟩ := resolveL_sound he hctx hq
      split at h1 <;> try exact h1.elim
      rename_i f nf caps args
      split at h1 <;> try exact h1.elim
      rename_i ct hct
      obtain ⟨hfn, hent⟩ := hC.c f ct hct
      rw [ho] at h2
      simp only [Op.operands, Call.operands, hcal] at h2
      have hops : (#[x] ++ cl.args : Array Operand).toList.map a.eval = a.eval x :: cl.args.toList.map a.eval := by simp
      rw [hops] at h2
      simp only [VL] at h2
      obtain ⟨h3, h4⟩ := h2
      simp only [V] at h3
      obtain ⟨cs, h5, h6⟩ := h3
      obtain ⟨s, v, c1, c2, c3⟩ := callQ_sound hfn hs (VL_append (VL_take nf h6) (VL_append h4 (VL_drop nf h6))) h1
      refine ⟨s, h, nx, θ, v, c1, .refl hs, c2, fun w' hw' => ?_⟩
      unfold Oper.quietAt
      rw [exec_call ho hcal h5 hent w']
      refine ⟨rfl, ?_⟩
      have := c3 w' hw'
      have hargs : ((cs.take nf).toArray ++ cl.args.map a.eval ++ (cs.drop nf).toArray) = (cs.take nf ++ (cl.args.toList.map a.eval ++ cs.drop nf)).toArray := by
        apply Array.ext'; simp
      rw [hargs]
      exact this
    · obtain ⟨vs, h1, h2⟩ := resolveL_sound he hctx hq
      exact .of_out (stepQ_sound hs h2 h1)
  · obtain ⟨vs, h1, h2⟩ := resolveL_sound he hctx hq
    exact .of_out (stepQ_sound hs h2 h1)

theorem q3_spec {vs : List SV} {k : SV → SV → SV → Prop} (hq : q3 vs k) : ∃ s t u, vs = [s, t, u] ∧ k s t u := by
  unfold q3 at hq; split at hq
  · exact ⟨_, _, _, rfl, hq⟩
  · exact hq.elim

theorem stepL_sound (hC : COk P C) (hs : SatH K θ h nx w) {o : Oper} {vs : List SV} (hvs : VL θ vs (o.op.operands.toList.map a.eval)) {k : HK} (hq : stepL P C o.op vs h nx k)
    {Kt : Act → World → Prop} {Q : Exit → Act → World → Prop}
    (hk : ∀ r h' nx' θ' v w', k r h' nx' → SatH K θ' h' nx' w' → θ.ext θ' → V θ' r v → Kt (a.put o.dst v) w') : o.wp P a w Kt Q := by
  have fin : ∀ {s : Sem Value}, LOK K θ nx k (s.run P w) → (∀ w', (execOp a.eval o).run P w' = (do pure (Next.value (← s)) : Sem Next).run P w') → o.wp P a w Kt Q := by
    rintro s ⟨r, h', nx', θ', v, w', h1, h2, h3, h4, h5, _⟩ hrun
    unfold Oper.wp
    rw [hrun]
    simp only [Sem.run_bind, h5, Result.andThen]
    exact hk r h' nx' θ' v w' h1 h2 h3 h4
  obtain ⟨dst, op, type, pos, after, guard⟩ := o
  simp only at hvs hq
  unfold stepL at hq
  split at hq
  · exact fin (allocL_sound hs hq) fun w' => rfl
  · obtain ⟨s, rfl, hk'⟩ := q1_spec hq
    simp [Op.operands, VL] at hvs
    exact fin (boxL_sound hs hvs hk') fun w' => rfl
  · rename_i T x y
    obtain ⟨s, t, rfl, hk'⟩ := q2_spec hq
    simp [Op.operands, VL] at hvs
    obtain ⟨h', w', h1, h2, h3⟩ := storeL_sound hs hvs.1 hvs.2 hk'
    have hrun : (execOp a.eval { dst := dst, op := .store T x y, type := type, pos := pos, after := after, guard := guard }).run P w = .ok .skip w' := by
      simp [execOp, h3]
    unfold Oper.wp
    rw [hrun]
    exact hk .unk h' nx θ undef w' h1 h2 (Th.ext_refl _) (by simp [V])
  · rename_i T len parts
    refine fin (s := Instr.buildSlice T len (parts.map fun (x : Nat × Operand) => (x.1, a.eval x.2))) ?_ fun w' => rfl
    have e : parts.map (fun (x : Nat × Operand) => (x.1, a.eval x.2)) = (parts.toList.map fun (x : Nat × Operand) => (x.1, a.eval x.2)).toArray := by apply Array.ext'; simp
    rw [e]
    exact buildSliceL_sound hs (by simp [Function.comp_def]) (by simpa [Op.operands, Function.comp_def] using hvs) hq
  · obtain ⟨s, t, rfl, hk'⟩ := q2_spec hq
    simp [Op.operands, VL] at hvs
    exact fin (makeSliceL_sound hs hvs.1 hvs.2 hk') fun w' => rfl
  · obtain ⟨s, rfl, hk'⟩ := q1_spec hq
    simp [Op.operands, VL] at hvs
    exact fin (bytesL_sound hs hvs hk') fun w' => rfl
  · rename_i T r
    exact fin (makeMapL_sound (r := r.map a.eval) hs (by cases r <;> simpa [Op.operands] using hvs) hq) fun w' => rfl
  · rename_i T x y z
    obtain ⟨s, t, u, rfl, hk'⟩ := q3_spec hq
    simp [Op.operands, VL] at hvs
    obtain ⟨h', w', h1, h2, h3⟩ := mapUpdateL_sound hs hvs.1 hvs.2.1 hvs.2.2 hk'
    have hrun : (execOp a.eval { dst := dst, op := .mapUpdate T x y z, type := type, pos := pos, after := after, guard := guard }).run P w = .ok .skip w' := by
      simp [execOp, h3]
    unfold Oper.wp
    rw [hrun]
    exact hk .unk h' nx θ undef w' h1 h2 (Th.ext_refl _) (by simp [V])
  · rename_i c
    obtain ⟨callee, args, ts⟩ := c
    simp only at hq
    have two : ∀ {s t : SV}, VL θ [s, t] (args.toList.map a.eval) → ∃ y z, args = #[y, z] ∧ V θ s (a.eval y) ∧ V θ t (a.eval z) := by
      intro s t hvs
      cases hl : args.toList with
      | nil => rw [hl] at hvs; simp [VL] at hvs
      | cons y ys =>
        rw [hl] at hvs
        simp only [List.map_cons, VL] at hvs
        cases ys with
        | nil => simp [VL] at hvs
        | cons z zs =>
          simp only [List.map_cons, VL] at hvs
          have := VL_nil_left hvs.2.2
          have hz : zs = [] := by simpa using this
          subst hz
          exact ⟨y, z, Array.ext' hl, hvs.1, hvs.2.1⟩
    split at hq
    · split at hq <;> try exact hq.elim
      rename_i T rest hts
      obtain ⟨s, t, rfl, hk'⟩ := q2_spec hq
      obtain ⟨y, z, rfl, hy, hz⟩ := two (by simpa [Op.operands, Call.operands] using hvs)
      obtain ⟨r, h', w', v', h1, h2, h3, h4⟩ := deleteL_sound (ts := ts) (ty := type) hs (by rw [← Array.getElem?_toList, hts]; rfl) hy hz hk'
      exact fin (s := Builtin.delete_ ts type #[a.eval y, a.eval z]) ⟨r, h', nx, θ, v', w', h1, h2, Th.ext_refl _, h3, h4, Nat.le_refl _⟩ fun w' => by simp [execOp, resolve, invoke, builtin]
    · split at hq <;> try exact hq.elim
      rename_i sT xT hts
      obtain ⟨s, t, rfl, hk'⟩ := q2_spec hq
      have hts' : ts = #[sT, xT] := Array.ext' hts
      subst hts'
      have ha := two (s := s) (t := t) (by simpa [Op.operands, Call.operands] using hvs)
      obtain ⟨y, z, rfl, hy, hz⟩ := ha
      exact fin (appendL_sound (ty := type) hs hy hz hk') fun w' => by simp [execOp, resolve, invoke, builtin]
    · rename_i x f nf caps cargs
      simp only [Op.operands, Call.operands] at hvs
      have hops : (#[x] ++ args : Array Operand).toList.map a.eval = a.eval x :: args.toList.map a.eval := by simp
      rw [hops] at hvs
      simp only [VL] at hvs
      obtain ⟨h3, h4⟩ := hvs
      simp only [V] at h3
      obtain ⟨cs, h5, h6⟩ := h3
      have hvl := VL_append (VL_take nf h6) (VL_append h4 (VL_drop nf h6))
      have hargs : ((cs.take nf).toArray ++ args.map a.eval ++ (cs.drop nf).toArray) = (cs.take nf ++ (args.toList.map a.eval ++ cs.drop nf)).toArray := by
        apply Array.ext'; simp
      have go : EntersOk P f → (Calls P f (cs.take nf ++ (args.toList.map a.eval ++ cs.drop nf)).toArray w fun e w' => ∃ r h' nx' θ' v, e = .returned v ∧ k r h' nx' ∧ SatH K θ' h' nx' w' ∧ θ.ext θ' ∧ V θ' r v) →
          Oper.wp P { dst := dst, op := .call { callee := .value x, args := args, argTypes := ts }, type := type, pos := pos, after := after, guard := guard } a w Kt Q := by
        intro hent hcall
        unfold Oper.wp
        rw [exec_call rfl rfl h5 hent w]
        simp only [Oper.upon]
        rw [hargs]
        refine hcall.mono ?_
        rintro e w' ⟨r, h', nx', θ', v, rfl, k1, k2, k3, k4⟩
        exact hk r h' nx' θ' v w' k1 k2 k3 k4
      split at hq
      · rename_i ct hct
        obtain ⟨hfn, hent⟩ := hC.c f ct hct
        refine go hent ((callX_sound hfn hs hvl hq).mono ?_)
        rintro e w' ⟨r, h', nx', θ', v, e1, k1, k2, k3, k4, _⟩
        exact ⟨r, h', nx', θ', v, e1, k1, k2, k3, k4⟩
      · obtain ⟨hent, hcall⟩ := hC.j f _ h nx k K θ w _ hs hvl hq
        exact go hent hcall
    · exact hq.elim
  · exact hq.elim
end
end Go.Z
