/- Part 12 of what the closing text rests on. -/
import Derived.Test.YtdamnoleoakehaaGreatDoorH11
namespace Go.Z
open Go.RowKit

def EntersOk (P : Program) (f : Nat) : Prop := ∀ (args : Array Value) (w : World), (callFunc f args).run P w = .ok (.enter f args) w
def JOk (P : Program) (j : Nat → List SV → List (Nat × R) → Nat → HK → Prop) : Prop :=
  ∀ (f : Nat) (args : List SV) (h : List (Nat × R)) (nx : Nat) (k : HK) (K : Ctx) (θ : Th) (w : World) (us : List Value), SatH K θ h nx w → VL θ args us → j f args h nx k →
    EntersOk P f ∧ Calls P f us.toArray w fun e w' => ∃ r h' nx' θ' v, e = .returned v ∧ k r h' nx' ∧ SatH K θ' h' nx' w' ∧ θ.ext θ' ∧ V θ' r v
structure COk (P : Program) (C : CE) : Prop where
  c : ∀ f c, C.c f = some c → FnOk P f c ∧ EntersOk P f
  j : JOk P C.j

theorem entersOk {P : Program} {f : Nat} {fn : Func} (hf : P.funcs[f]? = some fn) (hb : fn.body.isSome = true) (hn : (fn.name == "runtime.NumGoroutine") = false) : EntersOk P f := by
  intro args w
  have hb' : fn.body.isNone = false := by simpa using hb
  simp only [callFunc, Sem.run_bind, run_program, Result.andThen, hf, hn, hb', Bool.false_eq_true, if_false]
  rfl

section
variable {P : Program} {C : CE} {K : Ctx} {θ : Th} {h : List (Nat × R)} {nx : Nat} {w : World} {env : List (Nat × SV)} {a : Act}

theorem allT_drop {ctx ts : List Bool} (hc : allT ctx) (he : ts = ctx.drop (ctx.length - ts.length)) : allT ts := by
  intro t ht
  rw [he] at ht
  exact hc t (List.mem_of_mem_drop ht)

theorem resolve1_sound {ctx : List Bool} {s : SV} {v : Value} {k : SV → Prop} (hc : allT ctx) (hv : V θ s v) (hq : resolve1 ctx s k) : ∃ s', k s' ∧ V θ s' v := by
  unfold resolve1 at hq
  split at hq
  · simp only [V] at hv
    exact ⟨_, hq.2, hv.1 (allT_drop hc hq.1)⟩
  · exact ⟨_, hq, hv⟩

theorem resolveL_sound (he : SatE K θ env a) {ctx : List Bool} (hc : allT ctx) : ∀ {xs : List Operand} {k : List SV → Prop}, resolveL env ctx xs k → ∃ ss, k ss ∧ VL θ ss (xs.map a.eval)
  | [], k, hq => ⟨[], hq, by simp [VL]⟩
  | x :: xs, k, hq => by
    unfold resolveL at hq
    split at hq <;> try exact hq.elim
    rename_i s hs
    obtain ⟨s', h1, h2⟩ := resolve1_sound hc (V_get he x s hs) hq
    obtain ⟨ss, h3, h4⟩ := resolveL_sound he hc h1
    exact ⟨_, h3, by simp only [List.map_cons, VL]; exact ⟨h2, h4⟩⟩

mutual
theorem V_below {θ' : Th} (hag : ∀ n, n < nx → θ' n = θ n) : ∀ {s : SV} {v : Value}, below nx s = true → V θ' s v → V θ s v
  | .b _, _, _, hv => by simpa only [V] using hv
  | .c _, _, _, hv => by simpa only [V] using hv
  | .nil, _, _, hv => by simpa only [V] using hv
  | .arr _ _, _, _, hv => by simpa only [V] using hv
  | .g _, _, _, hv => by simpa only [V] using hv
  | .p n o, v, hb, hv => by simp only [below] at hb; simp only [V] at hv ⊢; obtain ⟨L, h1, h2⟩ := hv; exact ⟨L, by rw [← hag _ (nblt hb)]; exact h1, h2⟩
  | .e n es i o, v, hb, hv => by simp only [below] at hb; simp only [V] at hv ⊢; obtain ⟨L, h1, h2⟩ := hv; exact ⟨L, by rw [← hag _ (nblt hb)]; exact h1, h2⟩
  | .a n, v, hb, hv => by simp only [below] at hb; simp only [V] at hv ⊢; obtain ⟨L, h1, h2⟩ := hv; exact ⟨L, by rw [← hag _ (nblt hb)]; exact h1, h2⟩
  | .agg l, v, hb, hv => by simp only [below] at hb; simp only [V] at hv ⊢; obtain ⟨cs, h1, h2⟩ := hv; exact ⟨cs, h1, VL_below hag hb h2⟩
  | .tup l, v, hb, hv => by simp only [below] at hb; simp only [V] at hv ⊢; obtain ⟨cs, h1, h2⟩ := hv; exact ⟨cs, h1, VL_below hag hb h2⟩
  | .unk, _, hb, _ => by simp [below] at hb
  | .f _ _ l, v, hb, hv => by simp only [below] at hb; simp only [V] at hv ⊢; obtain ⟨cs, h1, h2⟩ := hv; exact ⟨cs, h1, VL_below hag hb h2⟩
  | .m n, v, hb, hv => by simp only [below] at hb; simp only [V] at hv ⊢; obtain ⟨L, h1, h2⟩ := hv; exact ⟨L, by rw [← hag _ (nblt hb)]; exact h1, h2⟩
  | .sl n _, v, hb, hv => by simp only [below] at hb; simp only [V] at hv ⊢; obtain ⟨L, h1, h2⟩ := hv; exact ⟨L, by rw [← hag _ (nblt hb)]; exact h1, h2⟩
  | .vw n _, v, hb, hv => by simp only [below] at hb; simp only [V] at hv ⊢; obtain ⟨L, h1, h2⟩ := hv; exact ⟨L, by rw [← hag _ (nblt hb)]; exact h1, h2⟩
  | .q n, v, hb, hv => by simp only [below] at hb; simp only [V] at hv ⊢; obtain ⟨L, h1, h2⟩ := hv; exact ⟨L, by rw [← hag _ (nblt hb)]; exact h1, h2⟩
  | .hv n _, v, hb, hv => by simp only [below] at hb; simp only [V] at hv ⊢; obtain ⟨L, h1, h2⟩ := hv; exact ⟨L, by rw [← hag _ (nblt hb)]; exact h1, h2⟩
  | .px _ _ _ _, v, _, hv => by simpa only [V] using hv
  | .i _ s, v, hb, hv => by simp only [below] at hb; simp only [V] at hv ⊢; obtain ⟨u, h1, h2⟩ := hv; exact ⟨u, h1, V_below hag hb h2⟩
  | .w _ _, _, hb, _ => by simp [below] at hb
theorem VL_below {θ' : Th} (hag : ∀ n, n < nx → θ' n = θ n) : ∀ {l : List SV} {vs : List Value}, belowL nx l = true → VL θ' l vs → VL θ l vs
  | [], [], _, _ => by simp [VL]
  | [], _ :: _, _, hv => by simp [VL] at hv
  | _ :: _, [], _, hv => by simp [VL] at hv
  | s :: l, v :: vs, hb, hv => by
    simp only [belowL, Bool.and_eq_true] at hb
    simp only [VL] at hv ⊢
    exact ⟨V_below hag hb.1 hv.1, VL_below hag hb.2 hv.2⟩
end

def QRes (P : Program) (K : Ctx) (θ : Th) (nx : Nat) (w : World) (k : HK) (o : Oper) (a : Act) : Prop :=
  ∃ r h' nx' θ' v', k r h' nx' ∧ Grows K θ θ' nx nx' h' w ∧ V θ' r v' ∧ ∀ w', Below w.heap.size w w' → o.quietAt P a (Below w.heap.size w) w' v'

theorem QRes.of_out {rd : List SV} {k : HK} {o : Oper} (hq : QOut P K θ nx w rd k o a.eval) : QRes P K θ nx w k o a := by
  obtain ⟨r, h', nx', θ', v', h1, h2, h3, h4⟩ := hq
  refine ⟨r, h', nx', θ', v', h1, h2, h3, fun w' hw' => ?_⟩
  unfold Oper.quietAt
  rw [h4 w' fun s _ => Rd.of_below hw' s]
  exact ⟨rfl, rfl⟩

theorem joinS_sound {t : Bool} {x y r : SV} {u v : Value} (hr : joinS t x y = some r) (hx : t = true → V θ x u) (hy : t = false → V θ y v) : V θ r (if t then u else v) := by
  unfold joinS at hr
  split at hr <;> (try (cases hr; done))
  all_goals cases t <;> simp only [V] at hx hy
  all_goals first
    | (cases hr; simp only [V]; simp [hx, hy]; done)
    | (split at hr <;> cases hr; rename_i hk; subst hk; simp only [V]; simp [hx, hy])

theorem run_pick (ρ : Operand → Value) (o : Oper) {c x y : Operand} (ho : o.op = .pick c x y) {t : Bool} (hc : ρ c = .bool t) (w' : World) :
    (execOp ρ o).run P w' = .ok (.value (if t then ρ x else ρ y)) w' := by
  unfold execOp
  rw [ho]
  simp [hc, asBool]

theorem pickQ_sound (hs : SatH K θ h nx w) {ctx : List Bool} (hctx : allT ctx) {o : Oper} {c x y : Operand} (ho : o.op = .pick c x y) {sc sx sy : SV} (hc : V θ sc (a.eval c)) (hx : V θ sx (a.eval x)) (hy : V θ sy (a.eval y)) {k : HK}
    (hq : pickQ ctx sc sx sy fun r => k r h nx) : QRes P K θ nx w k o a := by
  unfold pickQ at hq
  obtain ⟨c', h1, h2⟩ := resolve1_sound hctx hc hq
  split at h1
  · simp only [V] at h2
    obtain ⟨x', h3, h4⟩ := resolve1_sound hctx hx h1
    exact .of_out (rd := []) (.pure hs h3 h4 fun w' _ => by rw [run_pick a.eval o ho h2 w']; rfl)
  · simp only [V] at h2
    obtain ⟨y', h3, h4⟩ := resolve1_sound hctx hy h1
    exact .of_out (rd := []) (.pure hs h3 h4 fun w' _ => by rw [run_pick a.eval o ho h2 w']; rfl)
  · rename_i t
    simp only [V] at h2
    -- the two values, each where the test says so
    have key : ∀ {ctx : List Bool} {s : SV} {v : Value} {k : SV → Prop}, V θ s v → resolve1 ctx s k → ∃ s', k s' ∧ (allT ctx → V θ s' v) := by
      intro ctx s v k hv hq
      unfold resolve1 at hq
      split at hq
      · simp only [V] at hv
        exact ⟨_, hq.2, fun hc => hv.1 (allT_drop hc hq.1)⟩
      · exact ⟨_, hq, fun _ => hv⟩
    obtain ⟨x', h3, h4⟩ := key hx h1
    obtain ⟨y', h5, h6⟩ := key hy h3
    split at h5 <;> try exact h5.elim
    rename_i r hr
    refine .of_out (rd := []) (.pure hs h5 (joinS_sound hr (fun ht => h4 ?_) (fun ht => h6 ?_)) fun w' _ => run_pick a.eval o ho h2 w')
    · intro u hu
      rcases List.mem_cons.1 hu with rfl | hu
      · exact ht
      · exact hctx u hu
    · intro u hu
      rcases List.mem_cons.1 hu with rfl | hu
      · simp [ht]
      · exact hctx u hu
  · exact h1.elim

theorem exec_call {ρ : Operand → Value} {o : Oper} {c : Call} {x : Operand} (ho : o.op = .call c) (hcal : c.callee = .value x) {f : Nat} {first caps : Array Value} (hx : ρ x = .func (.func f) first caps) (hf : EntersOk P f) (w' : World) :
    (execOp ρ o).run P w' = .ok (.enter f (first ++ c.args.map ρ ++ caps)) w' := by
  unfold execOp
  rw [ho]
  simp [resolve, hcal, hx, Deferred.ofValue, invoke]
  exact hf _ w'

theorem methF_run {T : Nat} {m : String} {f : Nat} (h : methF P T m = some f) (fuel : Nat) (v : Value) (w' : World) : (method (fuel + 1) T v m).run P w' = .ok (f, v) w' := by
  unfold methF at h
  split at h <;> try (cases h; done)
  rename_i i hi
  split at h <;> try (cases h; done)
  rename_i r e hr hT
  split at h <;> try (cases h; done)
  rename_i f' hp hf
  cases h
  unfold method
  simp [run_typeInfo hi, hr, hp, follow, hf, receiverAt, run_underlying hT, Place.get]
theorem exec_invoke {ρ : Operand → Value} {o : Oper} {c : Call} {x : Operand} {m : String} (ho : o.op = .call c) (hcal : c.callee = .invoke x m) {T f : Nat} {u : Value} (hx : ρ x = .iface T u) (hm : methF P T m = some f) (hf : EntersOk P f) (w' : World) :
    (execOp ρ o).run P w' = .ok (.enter f (#[u] ++ c.args.map ρ)) w' := by
  unfold execOp
  rw [ho]
  have e : ∀ fuel, (method (fuel + Made.depth) T u m).run P w' = .ok (f, u) w' := fun fuel => methF_run hm (fuel + (Made.depth - 1)) u w'
  have h0 : (#[Value.iface T u] ++ c.args.map ρ)[0]? = some (Value.iface T u) := by
    rw [Array.getElem?_append_left (by simp)]
    rfl
  have hx2 : (c.args.map ρ).extract 0 c.args.size = c.args.map ρ := Array.extract_eq_self_of_le (by simp)
  simp [resolve, hcal, hx, invoke, h0, callMethod, e, hx2]
  exact hf _ w'

theorem stepOQ_sound (hC : COk P C) (hs : SatH K θ h nx w) (he : SatE K θ env a) {ctx : List Bool} (hctx : allT ctx) {o : Oper} {k : HK} (hq : stepOQ P C ctx o.op env h nx k) : QRes P K θ nx w k o a := by
  unfold stepOQ at hq
  split at hq
  · rename_i c x y ho
    split at hq <;> try exact hq.elim
    rename_i c' x' y' e1 e2 e3
    exact pickQ_sound hs hctx ho (V_get he _ _ e1) (V_get he _ _ e2) (V_get he _ _ e3) hq
  · rename_i cl ho
    split at hq
    · rename_i x hcal
      obtain ⟨vs, h1, h2⟩ := resolveL_sound he hctx hq
      split at h1 <;> try exact h1.elim
      rename_i f nf caps args
      split at h1 <;> try exact h1.elim
      rename_i ct hct
      obtain ⟨hfn, hent⟩ := hC.c f ct hct
      rw [ho] at h2
      simp only [Op.operands, Call.operands, hcal] at h2
      have hops : (#[x] ++ cl.args : Array Operand).toList.map a.eval = a.eval x :: cl.args.toList.map a.eval := by simp
      rw [hops] at h2
      simp only [VL] at h2
      obtain ⟨h3, h4⟩ := h2
      simp only [V] at h3
      obtain ⟨cs, h5, h6⟩ := h3
      obtain ⟨s, v, c1, c2, c3⟩ := callQ_sound hfn hs (VL_append (VL_take nf h6) (VL_append h4 (VL_drop nf h6))) h1
      refine ⟨s, h, nx, θ, v, c1, .refl hs, c2, fun w' hw' => ?_⟩
      unfold Oper.quietAt
      rw [exec_call ho hcal h5 hent w']
      refine ⟨rfl, ?_⟩
      have := c3 w' hw'
      have hargs : ((cs.take nf).toArray ++ cl.args.map a.eval ++ (cs.drop nf).toArray) = (cs.take nf ++ (cl.args.toList.map a.eval ++ cs.drop nf)).toArray := by
        apply Array.ext'; simp
      rw [hargs]
      exact this
    · obtain ⟨vs, h1, h2⟩ := resolveL_sound he hctx hq
      exact .of_out (stepQ_sound hs h2 h1)
  · obtain ⟨vs, h1, h2⟩ := resolveL_sound he hctx hq
    exact .of_out (stepQ_sound hs h2 h1)

theorem q3_spec {vs : List SV} {k : SV → SV → SV → Prop} (hq : q3 vs k) : ∃ s t u, vs = [s, t, u] ∧ k s t u := by
  unfold q3 at hq; split at hq
  · exact ⟨_, _, _, rfl, hq⟩
  · exact hq.elim

theorem cond_true_false {b : Bool} {A : Prop} (h : cond b False A) : b = false ∧ A := by
  cases b with
  | false => exact ⟨rfl, h⟩
  | true => exact h.elim

theorem stepL_sound (hC : COk P C) (hs : SatH K θ h nx w) {o : Oper} {vs : List SV} (hvs : VL θ vs (o.op.operands.toList.map a.eval)) {k : HK} (hq : stepL P C o.op vs h nx k)
    {Kt : Act → World → Prop} {Q : Exit → Act → World → Prop}
    (hk : ∀ r h' nx' θ' v w', k r h' nx' → SatH K θ' h' nx' w' → θ.ext θ' → V θ' r v → Kt (a.put o.dst v) w') : o.wp P a w Kt Q := by
  have fin : ∀ {s : Sem Value}, LOK K θ nx k (s.run P w) → (∀ w', (execOp a.eval o).run P w' = (do pure (Next.value (← s)) : Sem Next).run P w') → o.wp P a w Kt Q := by
    rintro s ⟨r, h', nx', θ', v, w', h1, h2, h3, h4, h5, _⟩ hrun
    unfold Oper.wp
    rw [hrun]
    simp only [Sem.run_bind, h5, Result.andThen]
    exact hk r h' nx' θ' v w' h1 h2 h3 h4
  obtain ⟨dst, op, type, pos, after, guard⟩ := o
  simp only at hvs hq
  unfold stepL at hq
  split at hq
  · exact fin (allocL_sound hs hq) fun w' => rfl
  · obtain ⟨s, rfl, hk'⟩ := q1_spec hq
    simp [Op.operands, VL] at hvs
    exact fin (boxL_sound hs hvs hk') fun w' => rfl
  · rename_i T x y
    obtain ⟨s, t, rfl, hk'⟩ := q2_spec hq
    simp [Op.operands, VL] at hvs
    obtain ⟨h', w', h1, h2, h3⟩ := storeL_sound hs hvs.1 hvs.2 hk'
    have hrun : (execOp a.eval { dst := dst, op := .store T x y, type := type, pos := pos, after := after, guard := guard }).run P w = .ok .skip w' := by
      simp [execOp, h3]
    unfold Oper.wp
    rw [hrun]
    exact hk .unk h' nx θ undef w' h1 h2 (Th.ext_refl _) (by simp [V])
  · rename_i T len parts
    refine fin (s := Instr.buildSlice T len (parts.map fun (x : Nat × Operand) => (x.1, a.eval x.2))) ?_ fun w' => rfl
    have e : parts.map (fun (x : Nat × Operand) => (x.1, a.eval x.2)) = (parts.toList.map fun (x : Nat × Operand) => (x.1, a.eval x.2)).toArray := by apply Array.ext'; simp
    rw [e]
    exact buildSliceL_sound hs (by simp [Function.comp_def]) (by simpa [Op.operands, Function.comp_def] using hvs) hq
  · obtain ⟨s, t, rfl, hk'⟩ := q2_spec hq
    simp [Op.operands, VL] at hvs
    exact fin (makeSliceL_sound hs hvs.1 hvs.2 hk') fun w' => rfl
  · obtain ⟨s, rfl, hk'⟩ := q1_spec hq
    simp [Op.operands, VL] at hvs
    exact fin (convX_sound hs hvs hk') fun w' => rfl
  · rename_i T r
    exact fin (makeMapL_sound (r := r.map a.eval) hs (by cases r <;> simpa [Op.operands] using hvs) hq) fun w' => rfl
  · rename_i T x y z
    obtain ⟨s, t, u, rfl, hk'⟩ := q3_spec hq
    simp [Op.operands, VL] at hvs
    obtain ⟨h', w', h1, h2, h3⟩ := mapUpdateY_sound hs hvs.1 hvs.2.1 hvs.2.2 hk'
    have hrun : (execOp a.eval { dst := dst, op := .mapUpdate T x y z, type := type, pos := pos, after := after, guard := guard }).run P w = .ok .skip w' := by
      simp [execOp, h3]
    unfold Oper.wp
    rw [hrun]
    exact hk .unk h' nx θ undef w' h1 h2 (Th.ext_refl _) (by simp [V])
  · rename_i T x y z
    obtain ⟨s, t, u, rfl, hk'⟩ := q3_spec hq
    simp [Op.operands, VL] at hvs
    obtain ⟨h', w', h1, h2, h3⟩ := mapUpdateY_sound hs hvs.1 hvs.2.1 hvs.2.2 hk'
    have hrun : (execOp a.eval { dst := dst, op := .insert T x y z, type := type, pos := pos, after := after, guard := guard }).run P w = .ok .skip w' := by
      simp [execOp, h3]
    unfold Oper.wp
    rw [hrun]
    exact hk .unk h' nx θ undef w' h1 h2 (Th.ext_refl _) (by simp [V])
  · rename_i T x y
    obtain ⟨s, t, rfl, hk'⟩ := q2_spec hq
    simp [Op.operands, VL] at hvs
    obtain ⟨r, h', v', h1, h2, h3, h4⟩ := mapEntryL_sound (T := T) hs hvs.1 hvs.2 hk'
    exact fin ⟨r, h', nx, θ, v', w, h1, h2, Th.ext_refl _, h3, h4, Nat.le_refl _⟩ fun w' => rfl
  · rename_i T x
    obtain ⟨s, rfl, hk'⟩ := q1_spec hq
    simp [Op.operands, VL] at hvs
    exact fin (rangeL_sound (T := T) hs hvs hk') fun w' => rfl
  · rename_i x s
    obtain ⟨s, rfl, hk'⟩ := q1_spec hq
    simp [Op.operands, VL] at hvs
    obtain ⟨hsf, hk'⟩ := cond_true_false hk'
    subst hsf
    obtain ⟨r, h', v', w', h1, h2, h3, h4⟩ := nextL_sound (P := P) hs hvs hk'
    exact fin ⟨r, h', nx, θ, v', w', h1, h2, Th.ext_refl _, h3, h4 type, Nat.le_refl _⟩ fun w' => rfl
  · rename_i x
    obtain ⟨s, rfl, hk'⟩ := q1_spec hq
    simp [Op.operands, VL] at hvs
    obtain ⟨r, v', h1, h3, h4⟩ := entryL_sound (P := P) hs hvs hk'
    exact fin ⟨r, h, nx, θ, v', w, h1, hs, Th.ext_refl _, h3, h4, Nat.le_refl _⟩ fun w' => rfl
  · rename_i T x y z
    obtain ⟨s, t, u, rfl, hk'⟩ := q3_spec hq
    simp [Op.operands, VL] at hvs
    obtain ⟨h', w', h1, h2, h3⟩ := entryStoreL_sound (P := P) (T := T) hs hvs.1 hvs.2.1 hvs.2.2 hk'
    have hrun : (execOp a.eval { dst := dst, op := .entryStore T x y z, type := type, pos := pos, after := after, guard := guard }).run P w = .ok .skip w' := by
      simp [execOp, h3]
    unfold Oper.wp
    rw [hrun]
    exact hk .unk h' nx θ undef w' h1 h2 (Th.ext_refl _) (by simp [V])
  · rename_i c
    obtain ⟨callee, args, ts⟩ := c
    simp only at hq
    have two : ∀ {s t : SV}, VL θ [s, t] (args.toList.map a.eval) → ∃ y z, args = #[y, z] ∧ V θ s (a.eval y) ∧ V θ t (a.eval z) := by
      intro s t hvs
      cases hl : args.toList with
      | nil => rw [hl] at hvs; simp [VL] at hvs
      | cons y ys =>
        rw [hl] at hvs
        simp only [List.map_cons, VL] at hvs
        cases ys with
        | nil => simp [VL] at hvs
        | cons z zs =>
          simp only [List.map_cons, VL] at hvs
          have := VL_nil_left hvs.2.2
          have hz : zs = [] := by simpa using this
          subst hz
          exact ⟨y, z, Array.ext' hl, hvs.1, hvs.2.1⟩
    split at hq
    · split at hq <;> try exact hq.elim
      rename_i T rest hts
      obtain ⟨s, t, rfl, hk'⟩ := q2_spec hq
      obtain ⟨y, z, rfl, hy, hz⟩ := two (by simpa [Op.operands, Call.operands] using hvs)
      obtain ⟨r, h', w', v', h1, h2, h3, h4⟩ := deleteX_sound (ts := ts) (ty := type) hs (by rw [← Array.getElem?_toList, hts]; rfl) hy hz hk'
      exact fin (s := Builtin.delete_ ts type #[a.eval y, a.eval z]) ⟨r, h', nx, θ, v', w', h1, h2, Th.ext_refl _, h3, h4, Nat.le_refl _⟩ fun w' => by simp [execOp, resolve, invoke, builtin]
    · split at hq <;> try exact hq.elim
      rename_i T rest hts
      obtain ⟨s, t, rfl, hk'⟩ := q2_spec hq
      obtain ⟨y, z, rfl, hy, hz⟩ := two (by simpa [Op.operands, Call.operands] using hvs)
      exact fin (copyL_sound (ts := ts) (ty := type) hs (by rw [← Array.getElem?_toList, hts]; rfl) hy hz hk') fun w' => by simp [execOp, resolve, invoke, builtin]
    · split at hq <;> try exact hq.elim
      rename_i sT xT hts
      obtain ⟨s, t, rfl, hk'⟩ := q2_spec hq
      have hts' : ts = #[sT, xT] := Array.ext' hts
      subst hts'
      have ha := two (s := s) (t := t) (by simpa [Op.operands, Call.operands] using hvs)
      obtain ⟨y, z, rfl, hy, hz⟩ := ha
      exact fin (appendX_sound (ty := type) hs hy hz hk') fun w' => by simp [execOp, resolve, invoke, builtin]
    · rename_i x f nf caps cargs
      simp only [Op.operands, Call.operands] at hvs
      have hops : (#[x] ++ args : Array Operand).toList.map a.eval = a.eval x :: args.toList.map a.eval := by simp
      rw [hops] at hvs
      simp only [VL] at hvs
      obtain ⟨h3, h4⟩ := hvs
      simp only [V] at h3
      obtain ⟨cs, h5, h6⟩ := h3
      have hvl := VL_append (VL_take nf h6) (VL_append h4 (VL_drop nf h6))
      have hargs : ((cs.take nf).toArray ++ args.map a.eval ++ (cs.drop nf).toArray) = (cs.take nf ++ (args.toList.map a.eval ++ cs.drop nf)).toArray := by
        apply Array.ext'; simp
      have go : EntersOk P f → (Calls P f (cs.take nf ++ (args.toList.map a.eval ++ cs.drop nf)).toArray w fun e w' => ∃ r h' nx' θ' v, e = .returned v ∧ k r h' nx' ∧ SatH K θ' h' nx' w' ∧ θ.ext θ' ∧ V θ' r v) →
          Oper.wp P { dst := dst, op := .call { callee := .value x, args := args, argTypes := ts }, type := type, pos := pos, after := after, guard := guard } a w Kt Q := by
        intro hent hcall
        unfold Oper.wp
        rw [exec_call rfl rfl h5 hent w]
        simp only [Oper.upon]
        rw [hargs]
        refine hcall.mono ?_
        rintro e w' ⟨r, h', nx', θ', v, rfl, k1, k2, k3, k4⟩
        exact hk r h' nx' θ' v w' k1 k2 k3 k4
      split at hq
      · rename_i ct hct
        obtain ⟨hfn, hent⟩ := hC.c f ct hct
        refine go hent ((callX_sound hfn hs hvl hq).mono ?_)
        rintro e w' ⟨r, h', nx', θ', v, e1, k1, k2, k3, k4, _⟩
        exact ⟨r, h', nx', θ', v, e1, k1, k2, k3, k4⟩
      · obtain ⟨hent, hcall⟩ := hC.j f _ h nx k K θ w _ hs hvl hq
        exact go hent hcall
    · rename_i x m T s cargs
      split at hq <;> try exact hq.elim
      rename_i f hmf
      simp only [Op.operands, Call.operands] at hvs
      have hops : (#[x] ++ args : Array Operand).toList.map a.eval = a.eval x :: args.toList.map a.eval := by simp
      rw [hops] at hvs
      simp only [VL] at hvs
      obtain ⟨h3, h4⟩ := hvs
      simp only [V] at h3
      obtain ⟨u, h5, h6⟩ := h3
      have hvl : VL θ (s :: cargs) (u :: args.toList.map a.eval) := by simp only [VL]; exact ⟨h6, h4⟩
      have hargs : (#[u] ++ args.map a.eval) = (u :: args.toList.map a.eval).toArray := by
        apply Array.ext'; simp
      have go : EntersOk P f → (Calls P f (u :: args.toList.map a.eval).toArray w fun e w' => ∃ r h' nx' θ' v, e = .returned v ∧ k r h' nx' ∧ SatH K θ' h' nx' w' ∧ θ.ext θ' ∧ V θ' r v) →
          Oper.wp P { dst := dst, op := .call { callee := .invoke x m, args := args, argTypes := ts }, type := type, pos := pos, after := after, guard := guard } a w Kt Q := by
        intro hent hcall
        unfold Oper.wp
        rw [exec_invoke rfl rfl h5 hmf hent w]
        simp only [Oper.upon]
        rw [hargs]
        refine hcall.mono ?_
        rintro e w' ⟨r, h', nx', θ', v, rfl, k1, k2, k3, k4⟩
        exact hk r h' nx' θ' v w' k1 k2 k3 k4
      split at hq
      · rename_i ct hct
        obtain ⟨hfn, hent⟩ := hC.c f ct hct
        refine go hent ((callX_sound hfn hs hvl hq).mono ?_)
        rintro e w' ⟨r, h', nx', θ', v, e1, k1, k2, k3, k4, _⟩
        exact ⟨r, h', nx', θ', v, e1, k1, k2, k3, k4⟩
      · obtain ⟨hent, hcall⟩ := hC.j f _ h nx k K θ w _ hs hvl hq
        exact go hent hcall
    · exact hq.elim
  · exact hq.elim
end
end Go.Z

namespace Go.Z
open Go.RowKit

section
variable {P : Program} {C : CE} {K : Ctx} {θ : Th} {h : List (Nat × R)} {nx : Nat} {w : World} {env : List (Nat × SV)} {a : Act} {ops : Array Oper}

def GM.ok (ops : Array Oper) (env : List (Nat × SV)) (o : Oper) (a : Act) : GM → Prop
  | .run => Region.wanted o (yielded ops a.tmps) = true
  | .skip => Region.wanted o (yielded ops a.tmps) = false
  | .under ctx => (allT ctx → Region.wanted o (yielded ops a.tmps) = true) ∧ (¬ allT ctx → Region.wanted o (yielded ops a.tmps) = false)
  | .split d t want => efind env d = some (.c (.bool t)) ∧ Region.wanted o (yielded ops a.tmps) = (t == want)

theorem guardM_sound (he : SatE K θ env a) {o : Oper} {m : GM} (hg : guardM ops env o.guard = some m) :
    m.ok ops env o a := by
  unfold guardM at hg
  unfold GM.ok
  split at hg
  · rename_i hgd
    cases hg
    simp [Region.wanted, hgd]
  · rename_i j want hgd
    split at hg <;> try (cases hg; done)
    rename_i oj hoj
    split at hg <;> try (cases hg; done)
    rename_i d hd
    have hoj' : ops[j]? = some oj := by simpa using hoj
    have hy : ∀ v, a.tmps[d]? = some v → Region.wanted o (yielded ops a.tmps) = (match v with | .bool b => b == want | _ => false) := by
      intro v hv
      simp only [Region.wanted, hgd, yielded, hoj', Option.bind_some, hd, hv]
      cases v <;> simp
    have hcons : ∀ (b : Bool) (ts : List Bool), allT (b :: ts) ↔ b = true ∧ allT ts := fun b ts =>
      ⟨fun h => ⟨h b (by simp), fun t ht => h t (by simp [ht])⟩, fun h t ht => by rcases List.mem_cons.1 ht with rfl | ht; exact h.1; exact h.2 t ht⟩
    split at hg <;> (try (cases hg; done)) <;> rename_i hef <;> obtain ⟨v, hv, hV⟩ := he.val _ _ hef <;> simp only [V] at hV
    · subst hV
      have := hy _ hv
      rename_i t
      cases ht : (t == want) with
      | true => rw [ht] at hg; cases hg; simpa [ht] using this
      | false => rw [ht] at hg; cases hg; simpa [ht] using this
    · subst hV
      have := hy _ hv
      cases hg
      exact ⟨hef, this⟩
    · subst hV
      cases hg
      exact hy _ hv
    · rename_i ts t
      cases ht : (t == want) with
      | true =>
        rw [ht] at hg; cases hg
        refine ⟨fun hc => ?_, fun hc => ?_⟩
        · rw [hy _ hv, hV.1 hc]; simpa using ht
        · rw [hy _ hv, hV.2 hc]; rfl
      | false =>
        rw [ht] at hg; cases hg
        by_cases hc : allT ts
        · rw [hy _ hv, hV.1 hc]; simpa using ht
        · rw [hy _ hv, hV.2 hc]; rfl
    · rename_i ts t
      cases hg
      simp only [hcons]
      refine ⟨fun hc => ?_, fun hc => ?_⟩
      · rw [hy _ hv, hV.1 hc.2]
        have := hc.1
        cases want <;> cases t <;> simp_all
      · by_cases hts : allT ts
        · rw [hy _ hv, hV.1 hts]
          have : ¬ (cond want t (!t) = true) := fun h1 => hc ⟨h1, hts⟩
          cases want <;> cases t <;> simp_all
        · rw [hy _ hv, hV.2 hts]; rfl

theorem guardX_sound (he : SatE K θ env a) {sp : Bool} {o : Oper} {m : GM} (hg : guardX P C sp ops env h nx o = some m) :
    m.ok ops env o a := by
  unfold guardX at hg
  split at hg
  · rename_i d t want hm
    have h1 := guardM_sound he hm
    simp only [GM.ok] at h1
    split at hg
    · cases hb : below nx _ with
      | true =>
        rw [hb] at hg; cases hg
        simp only [GM.ok]
        rw [h1.2]
        have key : allT [cond want t (!t)] ↔ (t == want) = true := by
          constructor
          · intro h
            have := h (cond want t (!t)) (by simp)
            cases want <;> cases t <;> simp_all
          · intro h u hu
            simp at hu; subst hu
            cases want <;> cases t <;> simp_all
        refine ⟨fun hc => key.1 hc, fun hc => ?_⟩
        cases hx : (t == want) with
        | false => rfl
        | true => exact absurd (key.2 hx) hc
      | false => rw [hb] at hg; cases hg; exact h1
    · cases hg; exact h1
  · exact guardM_sound he hg

theorem putS_sound (he : SatE K θ env a) {dst : Option Nat} {s : SV} {v : Value} (hv : V θ s v) {k : List (Nat × SV) → Prop} (hq : putS K.N dst s env k) : ∃ env', k env' ∧ SatE K θ env' (a.put dst v) := by
  unfold putS at hq
  split at hq
  · obtain ⟨h1, h2⟩ := cond_false hq
    exact ⟨_, h2, he.put (nblt h1) hv⟩
  · exact ⟨_, hq, ⟨by simp [Act.put, he.size], he.defers, he.val⟩⟩

theorem ne_not {t u : Bool} (h : ¬ t = u) : t = !u := by cases t <;> cases u <;> simp at h ⊢

theorem SatE.known (he : SatE K θ env a) {d : Nat} {t b : Bool} (hd : efind env d = some (.c (.bool t))) (ht : t = b) : SatE K θ ((d, .b b) :: env) a := by
  refine ⟨he.size, he.defers, fun u s hs => ?_⟩
  rw [efind_cons] at hs
  split at hs
  · rename_i e; subst e; cases hs; subst ht
    obtain ⟨v, h1, h2⟩ := he.val d _ hd
    exact ⟨v, h1, by simpa only [V] using h2⟩
  · exact he.val u s hs

theorem cond_cases {c : Bool} {p q : Prop} (h : cond c p q) : (c = true ∧ p) ∨ (c = false ∧ q) := by cases c; exact .inr ⟨rfl, h⟩; exact .inl ⟨rfl, h⟩

theorem execOps_sound (hC : COk P C) {sp : Bool} {θ0 : Th} {Q : Exit → Act → World → Prop} : ∀ (l : List Oper) {θ : Th} {env : List (Nat × SV)} {h : List (Nat × R)} {nx : Nat} {a : Act} {w : World}
    {k : List (Nat × SV) → List (Nat × R) → Nat → Prop}, θ0.ext θ → SatH K θ h nx w → SatE K θ env a → execOps P C K.N sp false ops l env h nx k →
    (∀ env' h' nx' θ' a' w', k env' h' nx' → θ0.ext θ' → SatH K θ' h' nx' w' → SatE K θ' env' a' → Q .normal a' w') → wpList P ops Q l a w
  | [], θ, env, h, nx, a, w, k, hx, hs, he, hq, hk => hk _ _ _ _ _ _ hq hx hs he
  | o :: rest, θ, env, h, nx, a, w, k, hx, hs, he, hq, hk => by
    -- the two ways through an operation that is carried out
    have quiet : ∀ {env : List (Nat × SV)} (_ : SatE K θ env a) {ctx : List Bool} {f : SV → SV} {k' : HK}, allT ctx → (∀ r v θ', V θ' r v → V θ' (f r) v) → stepOQ P C ctx o.op env h nx k' →
        (∀ r h' nx', k' r h' nx' → putS K.N o.dst (f r) env fun env' => execOps P C K.N sp false ops rest env' h' nx' k) → o.wp P a w (wpList P ops Q rest) Q := by
      intro env he ctx f k' hctx hf hstep hgo
      obtain ⟨r, h', nx', θ', v', h1, h2, h3, h4⟩ := stepOQ_sound hC hs he hctx hstep
      refine Oper.wp_of_quiet (C := Below w.heap.size w) (K := fun a' => ∃ env', execOps P C K.N sp false ops rest env' h' nx' k ∧ SatE K θ' env' a') (Below.refl _ _) ?_ ⟨v', h4, ?_⟩
      · rintro a' w' hb ⟨env', e1, e2⟩
        exact execOps_sound hC rest (Th.ext_trans hx h2.ext) (h2.sat.below hb) e2 e1 hk
      · exact putS_sound (he.mono h2.ext) (hf _ _ _ h3) (hgo r h' nx' h1)
    have loud : ∀ {env : List (Nat × SV)} (_ : SatE K θ env a) {ctx : List Bool} {f : SV → SV} {k' : HK}, allT ctx → (∀ r v θ', V θ' r v → V θ' (f r) v) → (resolveL env ctx o.op.operands.toList fun vs => stepL P C o.op vs h nx k') →
        (∀ r h' nx', k' r h' nx' → putS K.N o.dst (f r) env fun env' => execOps P C K.N sp false ops rest env' h' nx' k) → o.wp P a w (wpList P ops Q rest) Q := by
      intro env he ctx f k' hctx hf hstep hgo
      obtain ⟨vs, h1, h2⟩ := resolveL_sound he hctx hstep
      refine stepL_sound hC hs h2 h1 fun r h' nx' θ' v w' k1 k2 k3 k4 => ?_
      obtain ⟨env', e1, e2⟩ := putS_sound (he.mono k3) (hf _ _ _ k4) (hgo r h' nx' k1)
      exact execOps_sound hC rest (Th.ext_trans hx k3) k2 e2 e1 hk
    have skip : ∀ {env : List (Nat × SV)} (_ : SatE K θ env a), (putS K.N o.dst (.c undef) env fun env' => execOps P C K.N sp false ops rest env' h nx k) → wpList P ops Q rest (a.put o.dst undef) w := by
      intro env he hp
      obtain ⟨env', e1, e2⟩ := putS_sound he (V_c θ undef) hp
      exact execOps_sound hC rest hx hs e2 e1 hk
    unfold execOps at hq
    unfold wpList
    split at hq
    · exact hq.elim
    · rename_i hg
      have := guardX_sound he hg
      simp only [GM.ok] at this
      rw [this]
      exact skip he hq
    · rename_i hg
      have hw := guardX_sound he hg
      simp only [GM.ok] at hw
      rw [hw, if_pos rfl]
      left
      rcases cond_cases hq with ⟨_, h1⟩ | ⟨_, h1⟩
      · exact quiet he (ctx := []) (f := id) (fun t ht => by cases ht) (fun _ _ _ hv => hv) h1 (fun r h' nx' hk' => hk')
      · exact loud he (ctx := []) (f := id) (fun t ht => by cases ht) (fun _ _ _ hv => hv) h1 (fun r h' nx' hk' => hk')
    · rename_i d t want hg
      have hw := guardX_sound he hg
      simp only [GM.ok] at hw
      have hq := swc_spec hq
      by_cases ht : t = want
      · have hk' := he.known hw.1 ht
        rw [hw.2, show (t == want) = true by simp [ht], if_pos rfl]
        left
        rcases cond_cases (hq.1 ht) with ⟨_, h1⟩ | ⟨_, h1⟩
        · exact quiet hk' (ctx := []) (f := id) (fun t ht => by cases ht) (fun _ _ _ hv => hv) h1 (fun r h' nx' hk' => hk')
        · exact loud hk' (ctx := []) (f := id) (fun t ht => by cases ht) (fun _ _ _ hv => hv) h1 (fun r h' nx' hk' => hk')
      · have ht' : t = !want := ne_not ht
        rw [hw.2, show (t == want) = false by simp [ht], if_neg (by simp)]
        exact skip (he.known hw.1 ht') (hq.2 ht')
    · rename_i ctx hg
      have hw := guardX_sound he hg
      simp only [GM.ok] at hw
      have wrap : allT ctx → ∀ r v θ', V θ' r v → V θ' (.w ctx r) v := fun hc r v θ' hv => by simp only [V]; exact ⟨fun _ => hv, fun hn => absurd hc hn⟩
      split at hq
      · rename_i r hr
        obtain ⟨hb, h1, h2⟩ := cond_false hq
        have h1 := (swT_spec h1).1
        by_cases hc : allT ctx
        · rw [hw.1 hc, if_pos rfl]
          left
          obtain ⟨r', h', nx', θ', v', e1, e2, e3, e4⟩ := stepOQ_sound hC hs he hc (h1 hc)
          subst e1
          have hv : V θ r' v' := V_below e2.agree hb e3
          refine Oper.wp_of_quiet (C := Below w.heap.size w) (K := fun a' => ∃ env', execOps P C K.N sp false ops rest env' h nx k ∧ SatE K θ env' a') (Below.refl _ _) ?_ ⟨v', e4, ?_⟩
          · rintro a' w' hb ⟨env', c1, c2⟩
            exact execOps_sound hC rest hx (hs.below hb) c2 c1 hk
          · exact putS_sound he (wrap hc _ _ _ hv) h2
        · rw [hw.2 hc, if_neg (by simp)]
          obtain ⟨env', c1, c2⟩ := putS_sound he (v := undef) (by simp only [V]; exact ⟨fun h => absurd h hc, fun _ => by trivial⟩) h2
          exact execOps_sound hC rest hx hs c2 c1 hk
      · have hq := swT_spec hq
        by_cases hc : allT ctx
        · rw [hw.1 hc, if_pos rfl]
          left
          rcases cond_cases (hq.1 hc) with ⟨_, h1⟩ | ⟨_, h1⟩
          · exact quiet he (f := fun r => .w ctx r) hc (wrap hc) h1 (fun r h' nx' hk' => hk')
          · exact loud he (f := fun r => .w ctx r) hc (wrap hc) h1 (fun r h' nx' hk' => hk')
        · rw [hw.2 hc, if_neg (by simp)]
          exact skip he (hq.2 hc)

theorem execOps_quiet (hC : COk P C) {sp : Bool} {θ0 : Th} {Q : Act → Prop} : ∀ (l : List Oper) {θ : Th} {env : List (Nat × SV)} {h : List (Nat × R)} {nx : Nat} {a : Act} {w : World}
    {k : List (Nat × SV) → List (Nat × R) → Nat → Prop}, θ0.ext θ → SatH K θ h nx w → SatE K θ env a → execOps P C K.N sp true ops l env h nx k →
    (∀ env' h' nx' θ' a', k env' h' nx' → θ0.ext θ' → SatH K θ' h' nx' w → SatE K θ' env' a' → Q a') → wpQuiet P ops (Below w.heap.size w) Q l a
  | [], θ, env, h, nx, a, w, k, hx, hs, he, hq, hk => hk _ _ _ _ _ hq hx hs he
  | o :: rest, θ, env, h, nx, a, w, k, hx, hs, he, hq, hk => by
    have quiet : ∀ {env : List (Nat × SV)} (_ : SatE K θ env a) {ctx : List Bool} {f : SV → SV} {k' : HK}, allT ctx → (∀ r v θ', V θ' r v → V θ' (f r) v) → stepOQ P C ctx o.op env h nx k' →
        (∀ r h' nx', k' r h' nx' → putS K.N o.dst (f r) env fun env' => execOps P C K.N sp true ops rest env' h' nx' k) → o.quiet P a (Below w.heap.size w) (wpQuiet P ops (Below w.heap.size w) Q rest) := by
      intro env he ctx f k' hctx hf hstep hgo
      obtain ⟨r, h', nx', θ', v', h1, h2, h3, h4⟩ := stepOQ_sound hC hs he hctx hstep
      obtain ⟨env', e1, e2⟩ := putS_sound (he.mono h2.ext) (hf _ _ _ h3) (hgo r h' nx' h1)
      exact ⟨v', h4, execOps_quiet hC rest (Th.ext_trans hx h2.ext) h2.sat e2 e1 hk⟩
    have skip : ∀ {env : List (Nat × SV)} (_ : SatE K θ env a), (putS K.N o.dst (.c undef) env fun env' => execOps P C K.N sp true ops rest env' h nx k) → wpQuiet P ops (Below w.heap.size w) Q rest (a.put o.dst undef) := by
      intro env he hp
      obtain ⟨env', e1, e2⟩ := putS_sound he (V_c θ undef) hp
      exact execOps_quiet hC rest hx hs e2 e1 hk
    unfold execOps at hq
    unfold wpQuiet
    split at hq
    · exact hq.elim
    · rename_i hg
      have := guardX_sound he hg
      simp only [GM.ok] at this
      rw [this]
      exact skip he hq
    · rename_i hg
      have hw := guardX_sound he hg
      simp only [GM.ok] at hw
      rw [hw, if_pos rfl]
      rcases cond_cases hq with ⟨_, h1⟩ | ⟨_, h1⟩
      · exact quiet he (ctx := []) (f := id) (fun t ht => by cases ht) (fun _ _ _ hv => hv) h1 (fun r h' nx' hk' => hk')
      · exact h1.elim
    · rename_i d t want hg
      have hw := guardX_sound he hg
      simp only [GM.ok] at hw
      have hq := swc_spec hq
      by_cases ht : t = want
      · have hk' := he.known hw.1 ht
        rw [hw.2, show (t == want) = true by simp [ht], if_pos rfl]
        rcases cond_cases (hq.1 ht) with ⟨_, h1⟩ | ⟨_, h1⟩
        · exact quiet hk' (ctx := []) (f := id) (fun t ht => by cases ht) (fun _ _ _ hv => hv) h1 (fun r h' nx' hk' => hk')
        · exact h1.elim
      · have ht' : t = !want := ne_not ht
        rw [hw.2, show (t == want) = false by simp [ht], if_neg (by simp)]
        exact skip (he.known hw.1 ht') (hq.2 ht')
    · rename_i ctx hg
      have hw := guardX_sound he hg
      simp only [GM.ok] at hw
      have wrap : allT ctx → ∀ r v θ', V θ' r v → V θ' (.w ctx r) v := fun hc r v θ' hv => by simp only [V]; exact ⟨fun _ => hv, fun hn => absurd hc hn⟩
      split at hq
      · rename_i r hr
        obtain ⟨hb, h1, h2⟩ := cond_false hq
        have h1 := (swT_spec h1).1
        by_cases hc : allT ctx
        · rw [hw.1 hc, if_pos rfl]
          obtain ⟨r', h', nx', θ', v', e1, e2, e3, e4⟩ := stepOQ_sound hC hs he hc (h1 hc)
          subst e1
          have hv : V θ r' v' := V_below e2.agree hb e3
          obtain ⟨env', c1, c2⟩ := putS_sound he (wrap hc _ _ _ hv) h2
          exact ⟨v', e4, execOps_quiet hC rest hx hs c2 c1 hk⟩
        · rw [hw.2 hc, if_neg (by simp)]
          obtain ⟨env', c1, c2⟩ := putS_sound he (v := undef) (by simp only [V]; exact ⟨fun h => absurd h hc, fun _ => by trivial⟩) h2
          exact execOps_quiet hC rest hx hs c2 c1 hk
      · have hq := swT_spec hq
        by_cases hc : allT ctx
        · rw [hw.1 hc, if_pos rfl]
          rcases cond_cases (hq.1 hc) with ⟨_, h1⟩ | ⟨_, h1⟩
          · exact quiet he (f := fun r => .w ctx r) hc (wrap hc) h1 (fun r h' nx' hk' => hk')
          · exact h1.elim
        · rw [hw.2 hc, if_neg (by simp)]
          exact skip he (hq.2 hc)
end
end Go.Z

namespace Go.Z
open Go.RowKit

def Q0 : Exit → Act → World → Prop := fun _ _ _ => False

theorem Oper.wp_of_Q0 {P : Program} {o : Oper} {a : Act} {w : World} {K : Act → World → Prop} {Q : Exit → Act → World → Prop} (hh : o.wp P a w K Q0) : o.wp P a w K Q := by
  unfold Oper.wp at *
  generalize (execOp a.eval o).run P w = r at *
  cases r with
  | ok n w' =>
    cases n <;> simp only [Oper.upon] at hh ⊢ <;>
      first
        | exact hh
        | exact Calls.mono hh (fun e w'' he => by cases e <;> first | exact he | exact he.elim | (obtain ⟨_, _, h0⟩ := he; exact h0.elim))
        | exact Rows.mono hh (fun _ _ he => he)
  | halt x w' => cases x <;> simp only [Oper.upon] at hh ⊢ <;> exact hh.elim

theorem wpOp_of_Q0 {P : Program} {ops : Array Oper} {i : Nat} {a : Act} {w : World} {K : Act → World → Prop} {Q : Exit → Act → World → Prop} (hh : wpOp P ops Q0 i K a w) : wpOp P ops Q i K a w := by
  unfold wpOp at *
  split
  · simpa [*] using hh
  · rename_i o ho
    simp only [ho] at hh
    split
    · rename_i hw; simp only [hw, if_true] at hh
      rcases hh with hh | ⟨_, a', w', hh⟩
      · exact .inl (Oper.wp_of_Q0 hh)
      · exact hh.elim
    · rename_i hw; simp only [hw] at hh; exact hh

def KeepB (B : Nat → Prop) (w w' : World) : Prop := w.heap.size ≤ w'.heap.size ∧ ∀ b, b < w.heap.size → B b → w'.heap[b]? = w.heap[b]?
theorem KeepB.refl (B : Nat → Prop) (w : World) : KeepB B w w := ⟨Nat.le_refl _, fun _ _ _ => rfl⟩
theorem KeepB.trans {B : Nat → Prop} {w w' w'' : World} (h : KeepB B w w') (h' : KeepB B w' w'') : KeepB B w w'' :=
  ⟨Nat.le_trans h.1 h'.1, fun b hb hB => (h'.2 b (Nat.lt_of_lt_of_le hb h.1) hB).trans (h.2 b hb hB)⟩

def predsO (ops : Array Oper) (j : Nat) : List Nat :=
  match ops[j]? with
  | some oj => (oj.after.toList.filter (Region.binds .any)).map (·.on)
  | none => []
def reach (ops : Array Oper) : Nat → List Nat → List Nat → List Nat
  | 0, _, seen => seen
  | _ + 1, [], seen => seen
  | f + 1, j :: rest, seen => cond (seenB seen j) (reach ops f rest seen) (reach ops f (predsO ops j ++ rest) (j :: seen))
def anc (ops : Array Oper) (f j i : Nat) : Bool := seenB (reach ops (f * f) (predsO ops j) []) i

section
variable {P : Program} {ops : Array Oper}

def ClosedL (ops : Array Oper) (listed : Array Bool) : Prop :=
  ∀ j oj, ops[j]? = some oj → listed.getD j false = true → ∀ e ∈ oj.after, Region.binds .any e = true → listed.getD e.on false = true

theorem getD_tf {listed : Array Bool} {i : Nat} (h : listed.getD i true = false) : listed.getD i false = false := by
  rcases Nat.lt_or_ge i listed.size with h' | h'
  · simp [h'] at h ⊢; exact h
  · simp [Array.getElem?_eq_none h'] at h

theorem ClosedL.set {listed : Array Bool} {i : Nat} (inv : ClosedL ops listed) (hi : i ∈ Region.ready .any ops listed) : ClosedL ops (listed.setIfInBounds i true) := by
  obtain ⟨_, oi, hoi, hall⟩ := mem_ready.1 hi
  intro j oj hj hl e he hb
  by_cases hij : i = j
  · subst hij
    have : oj = oi := Option.some.inj (hj.symm.trans hoi)
    subst this
    exact getD_set_true (hall e he hb)
  · rw [getD_set_ne false hij] at hl
    exact getD_set_true (inv j oj hj hl e he hb)

theorem seenB_mem {l : List Nat} {i : Nat} : seenB l i = true → i ∈ l := by
  unfold seenB
  rw [List.any_eq_true]
  rintro ⟨x, hx, he⟩
  rw [Nat.eq_of_beq_eq_true he]; exact hx
theorem reach_in {p : Nat → Prop} (hp : ∀ j, p j → ∀ x ∈ predsO ops j, p x) : ∀ (f : Nat) (todo seen : List Nat), (∀ x ∈ todo, p x) → (∀ x ∈ seen, p x) → ∀ x ∈ reach ops f todo seen, p x
  | 0, _, _, _, h2 => h2
  | _ + 1, [], _, _, h2 => h2
  | f + 1, j :: rest, seen, h1, h2 => by
    unfold reach
    cases seenB seen j with
    | true => exact reach_in hp f rest seen (fun x hx => h1 x (List.mem_cons_of_mem _ hx)) h2
    | false =>
      refine reach_in hp f (predsO ops j ++ rest) (j :: seen) (fun x hx => ?_) (fun x hx => ?_)
      · rcases List.mem_append.1 hx with hx | hx
        · exact hp j (h1 j (List.mem_cons_self ..)) x hx
        · exact h1 x (List.mem_cons_of_mem _ hx)
      · rcases List.mem_cons.1 hx with rfl | hx
        · exact h1 x (List.mem_cons_self ..)
        · exact h2 x hx
theorem predsO_mem {j x : Nat} {oj : Oper} (hj : ops[j]? = some oj) (hx : x ∈ predsO ops j) : ∃ e ∈ oj.after, Region.binds .any e = true ∧ e.on = x := by
  unfold predsO at hx
  rw [hj] at hx
  obtain ⟨e, he, rfl⟩ := List.mem_map.1 hx
  obtain ⟨h1, h2⟩ := List.mem_filter.1 he
  exact ⟨e, Array.mem_toList_iff.1 h1, h2, rfl⟩
theorem anc_ready {listed : Array Bool} {i j : Nat} (inv : ClosedL ops listed) (hi : listed.getD i false = false) (hj : j ∈ Region.ready .any ops listed) (f : Nat) : anc ops f j i = false := by
  obtain ⟨_, oj, hoj, hall⟩ := mem_ready.1 hj
  cases h : anc ops f j i with
  | false => rfl
  | true =>
    have := reach_in (ops := ops) (p := fun x => listed.getD x false = true) (fun k hk x hx => by
        cases ho : ops[k]? with
        | none =>
          unfold predsO at hx
          rw [ho] at hx
          simp at hx
        | some ok =>
          obtain ⟨e, h1, h2, rfl⟩ := predsO_mem ho hx
          exact inv k ok ho hk e h1 h2) (f * f) (predsO ops j) [] (fun x hx => by
        obtain ⟨e, h1, h2, rfl⟩ := predsO_mem hoj hx
        exact hall e h1 h2) (fun x hx => by cases hx) i (seenB_mem h)
    rw [hi] at this
    cases this

abbrev Prot := List (Nat × (Nat → Prop))

def wpAnyC (P : Program) (ops : Array Oper) (pr : Prot) (Q : Act → World → Prop) : Nat → Array Bool → Act → World → Prop
  | 0, listed, a, w => Region.ready .any ops listed = [] ∧ Q a w
  | f + 1, listed, a, w => Region.ready .any ops listed ≠ [] ∧
    ∀ j ∈ Region.ready .any ops listed, wpOp P ops Q0 j (fun a' w' => (∀ x ∈ pr, anc ops ops.size j x.1 = false → KeepB x.2 w w') ∧ wpAnyC P ops pr Q f (listed.setIfInBounds j true) a' w') a w

theorem wpAny_of_C {pr : Prot} {Q : Act → World → Prop} {Q' : Exit → Act → World → Prop} (hQ : ∀ a w, Q a w → Q' .normal a w) : ∀ (f : Nat) (listed : Array Bool) (a : Act) (w : World),
    wpAnyC P ops pr Q f listed a w → wpAny P .any ops Q' f listed a w
  | 0, _, _, _, h => ⟨h.1, hQ _ _ h.2⟩
  | f + 1, _, _, _, h => ⟨fun h0 => absurd h0 h.1, fun j hj => wpOp_of_Q0 (wpOp_mono (fun _ _ h' => wpAny_of_C hQ f _ _ _ h'.2) (h.2 j hj))⟩

theorem wpAnyC_sub {pr pr' : Prot} {Q : Act → World → Prop} (hs : ∀ x ∈ pr', x ∈ pr) : ∀ (f : Nat) (listed : Array Bool) (a : Act) (w : World),
    wpAnyC P ops pr Q f listed a w → wpAnyC P ops pr' Q f listed a w
  | 0, _, _, _, h => h
  | f + 1, _, _, _, h => ⟨h.1, fun j hj => wpOp_mono (fun _ _ h' => ⟨fun x hx => h'.1 x (hs x hx), wpAnyC_sub hs f _ _ _ h'.2⟩) (h.2 j hj)⟩

theorem wpOp_swap {j : Nat} {oi oj : Oper} {v : Value} (hj : ops[j]? = some oj) (hap : oi.apart ops oj = true)
    (hsi : ∀ cs b, oi.op ≠ .select cs b) (hsj : ∀ cs b, oj.op ≠ .select cs b) {K : Act → World → Prop} {a : Act} {w : World}
    (h : wpOp P ops Q0 j K (a.put oi.dst v) w) :
    wpOp P ops Q0 j (fun a' w' => execOp a'.eval oi = execOp a.eval oi ∧ Region.wanted oi (yielded ops a'.tmps) = Region.wanted oi (yielded ops a.tmps) ∧ K (a'.put oi.dst v) w') a w := by
  obtain ⟨h1, h2, h3⟩ := Oper.apart_spec hap
  have keep : ∀ u, execOp (a.put oj.dst u).eval oi = execOp a.eval oi := fun u => execOp_put oi hsi a oj.dst u h3
  have keepW : ∀ u, Region.wanted oi (yielded ops (a.put oj.dst u).tmps) = Region.wanted oi (yielded ops a.tmps) := fun u => wanted_put oi a oj.dst u h3
  unfold wpOp at *
  simp only [hj] at *
  rw [wanted_put oj a oi.dst v h1] at h
  split
  · rename_i hw
    simp only [hw, if_true] at h
    rcases h with h | ⟨_, _, _, h⟩
    case inr => exact h.elim
    refine .inl ?_
    unfold Oper.wp at *
    rw [execOp_put oj hsj a oi.dst v h1] at h
    generalize (execOp a.eval oj).run P w = r at *
    cases r with
    | ok n w' =>
      cases n <;> simp only [Oper.upon] at h ⊢
      case value u => exact ⟨keep u, keepW u, by rw [← Act.put_comm a v u h2]; exact h⟩
      case skip => exact ⟨keep _, keepW _, by rw [← Act.put_comm a v undef h2]; exact h⟩
      case defer d =>
        refine ⟨execOp_put oi hsi { a with defers := d :: a.defers } oj.dst undef h3, wanted_put oi { a with defers := d :: a.defers } oj.dst undef h3, ?_⟩
        rw [← Act.put_comm _ v undef h2, ← Act.put_defers]
        exact h
      case enter f args =>
        refine Calls.mono h fun e w'' he => ?_
        cases e with
        | returned u => exact ⟨keep u, keepW u, by rw [← Act.put_comm a v u h2]; exact he⟩
        | panicked c => exact he.elim
        | outgrown => obtain ⟨_, _, h0⟩ := he; exact h0.elim
      case row row args => exact Rows.mono h fun u w'' he => ⟨keep u, keepW u, by rw [← Act.put_comm a v u h2]; exact he⟩
    | halt x w' =>
      cases x <;> simp only [Oper.upon] at h ⊢
      case panic u => exact h.elim
  · rename_i hw
    simp only [hw] at h
    exact ⟨keep _, keepW _, by rw [← Act.put_comm a v undef h2]; exact h⟩

theorem wpOp_reads {i : Nat} {oi : Oper} {v : Value} {a : Act} {w : World} {K : Act → World → Prop} (hi : ops[i]? = some oi) (hw : Region.wanted oi (yielded ops a.tmps) = true)
    (hy : (execOp a.eval oi).run P w = .ok (.value v) w) (h : K (a.put oi.dst v) w) : wpOp P ops Q0 i K a w := by
  unfold wpOp
  simp only [hi, hw, if_true, Oper.wp, hy, Oper.upon]
  exact .inl h

theorem wpAnyC_first {pr : Prot} {Q : Act → World → Prop} {i : Nat} {oi : Oper} {v : Value} {B : Nat → Prop} (hi : ops[i]? = some oi)
    (hsel : ∀ (j : Nat) (o : Oper) cs b, ops[j]? = some o → o.op ≠ .select cs b) :
    ∀ (f : Nat) (listed : Array Bool) (a : Act) (w : World), ClosedL ops listed →
      (∀ j oj, ops[j]? = some oj → j ≠ i → listed.getD j true = false → (∀ e ∈ oj.after, Region.binds .any e = true → e.on ≠ i) → oi.apart ops oj = true) →
      i ∈ Region.ready .any ops listed → Region.wanted oi (yielded ops a.tmps) = true → (∀ w', KeepB B w w' → (execOp a.eval oi).run P w' = .ok (.value v) w') →
      wpAnyC P ops ((i, B) :: pr) Q f (listed.setIfInBounds i true) (a.put oi.dst v) w → wpAnyC P ops pr Q (f + 1) listed a w := by
  have now : ∀ (f : Nat) (listed : Array Bool) (a : Act) (w : World), Region.wanted oi (yielded ops a.tmps) = true → (∀ w', KeepB B w w' → (execOp a.eval oi).run P w' = .ok (.value v) w') →
      wpAnyC P ops ((i, B) :: pr) Q f (listed.setIfInBounds i true) (a.put oi.dst v) w →
      wpOp P ops Q0 i (fun a' w' => (∀ x ∈ pr, anc ops ops.size i x.1 = false → KeepB x.2 w w') ∧ wpAnyC P ops pr Q f (listed.setIfInBounds i true) a' w') a w := by
    intro f listed a w hw hy H
    exact wpOp_reads hi hw (hy w (KeepB.refl _ _)) ⟨fun x _ _ => KeepB.refl _ _, wpAnyC_sub (fun x hx => .tail _ hx) _ _ _ _ H⟩
  intro f
  induction f with
  | zero =>
    intro listed a w _ _ hr hw hy H
    refine ⟨fun h => (by rw [h] at hr; cases hr), fun j hj => ?_⟩
    by_cases hji : j = i
    · subst hji; exact now 0 listed a w hw hy H
    · have := ready_mono hj hji
      rw [H.1] at this
      cases this
  | succ f ih =>
    intro listed a w hcl hfree hr hw hy H
    refine ⟨fun h => (by rw [h] at hr; cases hr), fun j hj => ?_⟩
    by_cases hji : j = i
    · subst hji; exact now (f + 1) listed a w hw hy H
    · have h1 := H.2 j (ready_mono hj hji)
      obtain ⟨hjun, oj, hoj, hall⟩ := mem_ready.1 hj
      have hun := getD_tf (mem_ready.1 hr).1
      have hnot : ∀ e ∈ oj.after, Region.binds .any e = true → e.on ≠ i := fun e he hb heq => by
        have h1 := hall e he hb
        rw [heq, hun] at h1; cases h1
      have h2 := wpOp_swap hoj (hfree j oj hoj hji hjun hnot) (fun cs b => hsel i oi cs b hi) (fun cs b => hsel j oj cs b hoj) h1
      have hfree' : ∀ k ok, ops[k]? = some ok → k ≠ i → (listed.setIfInBounds j true).getD k true = false →
          (∀ e ∈ ok.after, Region.binds .any e = true → e.on ≠ i) → oi.apart ops ok = true := fun k ok hk hki hun hno => by
        refine hfree k ok hk hki ?_ hno
        by_cases hjk : j = k
        · subst hjk; exact hjun
        · rw [getD_set_ne true hjk] at hun; exact hun
      refine wpOp_mono (fun a' w' h3 => ?_) h2
      obtain ⟨e1, e0, e2, e3⟩ := h3
      have hk : KeepB B w w' := e2 (i, B) (.head _) (anc_ready hcl hun hj _)
      refine ⟨fun x hx => e2 x (.tail _ hx), ih (listed.setIfInBounds j true) a' w' (hcl.set hj) hfree' (ready_mono hr (Ne.symm hji)) (e0.trans hw) (fun w'' hw'' => by rw [e1]; exact hy w'' (hk.trans hw'')) ?_⟩
      rw [Array.setIfInBounds_comm _ _ hji]
      exact e3
end
end Go.Z
