/- Structs built; every operation that only reads: 'stepQ' is sound. -/
import Derived.Test.YtonfaeenoifomaaZ7
namespace Go.Z
open Go.RowKit

section
variable {P : Program} {K : Ctx} {θ : Th} {h : List (Nat × R)} {nx : Nat} {w : World}

theorem splice_zip (cs : List Value) (off : Nat) : ∀ (n : Nat) (arr : Array Value), (cs.zipIdx n).foldl (fun a (x : Value × Nat) => a.setIfInBounds (off + x.2) x.1) arr = (cs.zipIdx (off + n)).foldl (fun a (x : Value × Nat) => a.setIfInBounds x.2 x.1) arr := by
  induction cs with
  | nil => intro n arr; rfl
  | cons c cs ih =>
    intro n arr
    simp only [List.zipIdx_cons, List.foldl_cons]
    rw [ih (n + 1)]
    rfl

theorem fill_step (cells : Array Value) (off : Nat) (cs : Array Value) (hle : off + cs.size ≤ cells.size) :
    (cs.zipIdx.foldl (fun a (x : Value × Nat) => a.setIfInBounds (off + x.2) x.1) cells).toList = cells.toList.take off ++ (cs.toList ++ cells.toList.drop (off + cs.size)) := by
  rw [← Array.foldl_toList, Array.toList_zipIdx, splice_zip cs.toList off 0]
  simpa using splice_foldl cs.toList off cells (by simpa using hle)

def PV (θ : Th) : List (Nat × SV) → List (Nat × Value) → Prop
  | [], [] => True
  | x :: l, y :: m => (x.1 = y.1 ∧ V θ x.2 y.2) ∧ PV θ l m
  | _, _ => False

theorem fillS_sound {placeV placeS : Nat → Option (Nat × Nat)} (hp : ∀ i r, placeS i = some r → placeV i = some r) :
    ∀ (parts : List (Nat × SV)) (vparts : List (Nat × Value)) (cells : List SV) (vcells : Array Value) (r : List SV),
      PV θ parts vparts → VL θ cells vcells.toList → fillS placeS cells parts = some r →
      ∃ out : Array Value, Instr.fill placeV vcells vparts = some out ∧ VL θ r out.toList
  | [], _ :: _, _, _, _, hf, _, _ => hf.elim
  | _ :: _, [], _, _, _, hf, _, _ => hf.elim
  | [], [], cells, vcells, r, hf, hv, hr => by
    simp [fillS] at hr; subst hr
    exact ⟨vcells, rfl, hv⟩
  | (i, s) :: rest, (j, v) :: ys, cells, vcells, r, hf, hv, hr => by
      obtain ⟨⟨hj, hvv⟩, ht⟩ := hf
      simp only at hj hvv
      subst hj
      unfold fillS at hr
      split at hr <;> try (cases hr; done)
      rename_i off size cs hpl hcs
      cases hc : (Nat.beq cs.length size && Nat.ble (off + size) cells.length) with
      | false => rw [hc] at hr; cases hr
      | true =>
        rw [hc] at hr
        simp only [cond_true] at hr
        simp only [Bool.and_eq_true] at hc
        have e1 := nbeq hc.1
        have e2 := nble hc.2
        have hcv := V_cellsS hcs hvv
        have l1 := VL_length hcv
        have l2 := VL_length hv
        have hsz : v.cells.size = size := by have : v.cells.toList.length = v.cells.size := by simp
                                             omega
        have hsz2 : vcells.toList.length = vcells.size := by simp
        have hst := fill_step vcells off v.cells (by omega)
        have hvl : VL θ (cells.take off ++ (cs ++ cells.drop (off + size))) (v.cells.zipIdx.foldl (fun a (x : Value × Nat) => a.setIfInBounds (off + x.2) x.1) vcells).toList := by
          rw [hst, hsz]
          exact VL_append (VL_take off hv) (VL_append hcv (VL_drop _ hv))
        obtain ⟨out, h1, h2⟩ := fillS_sound hp rest ys _ _ r ht hvl hr
        refine ⟨out, ?_, h2⟩
        unfold Instr.fill
        rw [hp i _ hpl]
        simp only
        rw [if_neg (by simp only [Bool.or_eq_true, decide_eq_true_eq, not_or]; exact ⟨fun hne => hne hsz, by omega⟩)]
        exact h1

theorem run_mapM_list {α β : Type} (f : α → Sem β) (g : α → β) (w' : World) : ∀ (l : List α), (∀ a ∈ l, (f a).run P w' = .ok (g a) w') → (l.mapM f).run P w' = .ok (l.map g) w'
  | [], _ => by simp
  | a :: l, hl => by
    have h1 := hl a (by simp)
    have h2 := run_mapM_list f g w' l (fun b hb => hl b (by simp [hb]))
    simp [List.mapM_cons, h1, h2]

theorem run_mapM_array {α β : Type} (f : α → Sem β) (g : α → β) (w' : World) (xs : Array α) (hl : ∀ a ∈ xs.toList, (f a).run P w' = .ok (g a) w') : (xs.mapM f).run P w' = .ok (xs.map g) w' := by
  rw [Array.mapM_eq_mapM_toList]
  simp only [Sem.run_map, run_mapM_list f g w' xs.toList hl, Result.andThen]
  congr 1
  apply Array.ext'
  simp

theorem run_zero {T : Nat} {i : TypeInfo} {z : Value} (hi : P.info? T = some i) (hz : i.zero = some z) (w' : World) : (zeroValue T).run P w' = .ok z w' := by
  simp [zeroValue, run_typeInfo hi, hz]

theorem buildQ_sound {T : Nat} {parts : List (Nat × Value)} {ixs : List Nat} {vs : List SV} {k : SV → Prop}
    (hix : parts.map (·.1) = ixs) (hvs : VL θ vs (parts.map (·.2))) (hq : buildQ P T ixs vs k) :
    ∃ r v', k r ∧ V θ r v' ∧ ∀ w', (Instr.build T parts.toArray).run P w' = .ok v' w' := by
  unfold buildQ at hq
  split at hq <;> try exact hq.elim
  rename_i z pl hz hpl hall
  split at hq <;> try exact hq.elim
  rename_i cs hcs
  unfold zeroS at hz
  split at hz <;> try (cases hz; done)
  rename_i ti hti
  split at hz <;> cases hz
  rename_i zv hzv
  have hf2 : PV θ (ixs.zip vs) parts := by
    subst hix
    clear hcs hq
    induction parts generalizing vs with
    | nil => simp [PV]
    | cons p ps ih =>
      cases vs with
      | nil => simp [VL] at hvs
      | cons s ss =>
        simp only [List.map_cons, VL] at hvs
        simp only [List.map_cons, List.zip_cons_cons]
        exact ⟨⟨rfl, hvs.1⟩, ih hvs.2⟩
  have hz0 : VL θ (zv.cells.toList.map liftK1) zv.cells.toList := VL_liftK1 θ _
  unfold placesT at hpl
  split at hpl
  · rename_i fs hu
    cases hpl
    obtain ⟨out, h1, h2⟩ := fillS_sound (θ := θ) (placeV := fun i => (fs.map fun f => (f.offset, P.cellsOf f.type))[i]?) (fun i r hr => by
      cases hfi : fs[i]? with
      | none => rw [hfi] at hr; cases hr
      | some f =>
        rw [hfi] at hr
        simp only at hr
        cases hti' : P.info? f.type with
        | none => rw [hti'] at hr; cases hr
        | some t =>
          rw [hti'] at hr; cases hr
          simp [hfi, Program.cellsOf, hti']) _ _ _ _ _ hf2 hz0 hcs
    refine ⟨.agg cs, .agg out, hq, by simp only [V]; exact ⟨out.toList, by simp, h2⟩, fun w' => ?_⟩
    have hm : (fs.mapM fun f => (do pure (f.offset, ← sizeOf f.type) : Sem (Nat × Nat))).run P w' = .ok (fs.map fun f => (f.offset, P.cellsOf f.type)) w' := by
      refine run_mapM_array _ _ w' fs (fun f hf => ?_)
      unfold allInfo at hall
      rw [hu] at hall
      have := List.all_eq_true.1 hall f hf
      obtain ⟨t, ht⟩ := Option.isSome_iff_exists.1 this
      simp [run_sizeOf ht, Program.cellsOf, ht]
    simp only [Instr.build, Sem.run_bind, run_zero hti hzv, Result.andThen, run_underlying hu, hm]
    rw [h1]
    rfl
  · rename_i n e hu
    split at hpl <;> cases hpl
    rename_i t ht
    obtain ⟨out, h1, h2⟩ := fillS_sound (θ := θ) (placeV := fun i => some (i * t.size, t.size)) (fun i r hr => hr) _ _ _ _ _ hf2 hz0 hcs
    refine ⟨.agg cs, .agg out, hq, by simp only [V]; exact ⟨out.toList, by simp, h2⟩, fun w' => ?_⟩
    simp only [Instr.build, Sem.run_bind, run_zero hti hzv, Result.andThen, run_underlying hu, run_sizeOf ht]
    rw [h1]
    rfl
  · cases hpl

theorem q1_spec {vs : List SV} {k : SV → Prop} (hq : q1 vs k) : ∃ s, vs = [s] ∧ k s := by
  unfold q1 at hq; split at hq
  · exact ⟨_, rfl, hq⟩
  · exact hq.elim
theorem q2_spec {vs : List SV} {k : SV → SV → Prop} (hq : q2 vs k) : ∃ s t, vs = [s, t] ∧ k s t := by
  unfold q2 at hq; split at hq
  · exact ⟨_, _, rfl, hq⟩
  · exact hq.elim

/-- Of which values does an operation read the memory? -/
def readsOf : Op → List SV → List SV
  | .load .., vs => vs
  | .convert .., vs => vs
  | .lookup .., vs => vs
  | .call _, vs => vs.filter isMapS
  | _, _ => []
where
  isMapS : SV → Bool
    | .m _ => true
    | _ => false

/-- What a quiet step gives. -/
def QOut (P : Program) (K : Ctx) (θ : Th) (nx : Nat) (w : World) (rd : List SV) (k : HK) (o : Oper) (ρ : Operand → Value) : Prop :=
  ∃ r h' nx' θ' v', k r h' nx' ∧ Grows K θ θ' nx nx' h' w ∧ V θ' r v' ∧ ∀ w', (∀ s, s ∈ rd → Rd θ s w w') → (execOp ρ o).run P w' = .ok (.value v') w'

theorem QOut.pure {rd : List SV} {k : HK} {o : Oper} {ρ : Operand → Value} {r : SV} {v : Value} (hs : SatH K θ h nx w) (hk : k r h nx) (hv : V θ r v) (hrun : ∀ w', (∀ s, s ∈ rd → Rd θ s w w') → (execOp ρ o).run P w' = .ok (.value v) w') :
    QOut P K θ nx w rd k o ρ := ⟨r, h, nx, θ, v, hk, .refl hs, hv, hrun⟩

theorem run_v {s : Sem Value} {v : Value} {w' : World} (hrun : s.run P w' = .ok v w') : (do pure (Next.value (← s)) : Sem Next).run P w' = .ok (.value v) w' := by
  simp [hrun]

theorem sliceOpQ_sound (hs : SatH K θ h nx w) {T : Nat} {ρ : Operand → Value} {x : Operand} {lo hi mx : Option Operand} {vs : List SV} {k : HK}
    (hvs : VL θ vs ((#[x] ++ lo.toArray ++ hi.toArray ++ mx.toArray).toList.map ρ)) (hq : sliceOpQ P T lo.isSome hi.isSome mx.isSome vs h nx k) :
    ∃ r h' nx' θ' v', k r h' nx' ∧ Grows K θ θ' nx nx' h' w ∧ V θ' r v' ∧ ∀ w', (Instr.sliceAt T (ρ x) (lo.map ρ) (hi.map ρ) (mx.map ρ)).run P w' = .ok v' w' := by
  unfold sliceOpQ at hq
  split at hq <;> rename_i e1 e2 e3 <;> (try exact hq.elim) <;> cases lo <;> cases hi <;> cases mx <;> (try simp at e1) <;> (try simp at e2) <;> (try simp at e3) <;> simp [VL] at hvs
  · exact sliceQ_sound (vlo := none) (vhi := none) hs hvs trivial trivial hq
  · exact sliceQ_sound (vlo := some _) (vhi := none) hs hvs.1 hvs.2 trivial hq
  · exact sliceQ_sound (vlo := none) (vhi := some _) hs hvs.1 trivial hvs.2 hq
  · exact sliceQ_sound (vlo := some _) (vhi := some _) hs hvs.1 hvs.2.1 hvs.2.2 hq
  · exact slice0Q_sound hs hvs.1 hvs.2.1 hvs.2.2 hq

theorem stepQ_sound (hs : SatH K θ h nx w) {o : Oper} {ρ : Operand → Value} {vs : List SV} {k : HK} (hvs : VL θ vs (o.op.operands.toList.map ρ))
    (hq : stepQ P o.op vs h nx k) : QOut P K θ nx w (readsOf o.op vs) k o ρ := by
  obtain ⟨dst, op, type, pos, after, guard⟩ := o
  simp only at hvs hq
  unfold stepQ at hq
  split at hq
  · obtain ⟨s, rfl, hk⟩ := q1_spec hq
    simp [Op.operands, VL] at hvs
    exact .pure hs hk hvs fun w' _ => rfl
  · obtain ⟨s, rfl, hk⟩ := q1_spec hq
    simp [Op.operands, VL] at hvs
    exact .pure hs hk hvs fun w' _ => rfl
  · obtain ⟨s, rfl, hk⟩ := q1_spec hq
    simp [Op.operands, VL] at hvs
    obtain ⟨r, v', h1, h2, h3⟩ := fieldAddrQ_sound hvs hk
    exact .pure hs h1 h2 fun w' _ => run_v (h3 w')
  · obtain ⟨s, rfl, hk⟩ := q1_spec hq
    simp [Op.operands, VL] at hvs
    obtain ⟨r, h', nx', θ', v', h1, h2, h3, h4⟩ := loadQ_sound hs hvs hk
    exact ⟨r, h', nx', θ', v', h1, h2, h3, fun w' hw' => run_v (h4 w' (hw' s (by simp [readsOf])))⟩
  · obtain ⟨s, rfl, hk⟩ := q1_spec hq
    simp [Op.operands, VL] at hvs
    unfold nilCheckQ at hk
    rename_i x
    split at hk
    · refine .pure hs hk hvs fun w' _ => ?_
      simp only [V] at hvs
      obtain ⟨L, _, hv⟩ := hvs
      simp [execOp, hv]
    · refine .pure hs hk hvs fun w' _ => ?_
      simp only [V] at hvs
      obtain ⟨L, _, _, hv⟩ := hvs
      simp [execOp, hv]
    · refine .pure hs hk hvs fun w' _ => ?_
      simp only [V] at hvs
      obtain ⟨L, hv, _⟩ := hvs
      simp [execOp, hv]
    · refine .pure hs hk hvs fun w' _ => ?_
      simp only [V] at hvs
      obtain ⟨L, _, _, hv⟩ := hvs
      simp [execOp, hv]
    · exact hk.elim
  · obtain ⟨s, t, rfl, hk⟩ := q2_spec hq
    simp [Op.operands, VL] at hvs
    split at hk
    · rename_i p hp
      obtain ⟨r, v', h1, h2, h3⟩ := nilQ_sound hs hvs.1 hvs.2 hp hk
      exact .pure hs h1 h2 fun w' _ => run_v (h3 _ _ w')
    · obtain ⟨r, v', h1, h2, h3⟩ := binQ_sound hvs.1 hvs.2 hk
      exact .pure hs h1 h2 fun w' _ => run_v (h3 _ _ w')
  · obtain ⟨s, rfl, hk⟩ := q1_spec hq
    simp [Op.operands, VL] at hvs
    obtain ⟨r, v', h1, h2, h3⟩ := unQ_sound (P := P) hvs hk
    exact .pure hs h1 h2 fun w' _ => run_v (h3 w')
  · obtain ⟨s, rfl, hk⟩ := q1_spec hq
    simp [Op.operands, VL] at hvs
    obtain ⟨r, v', h1, h2, h3⟩ := convQ_sound hs hvs hk
    exact .pure hs h1 h2 fun w' hw' => run_v (h3 w' (hw' s (by simp [readsOf])))
  · obtain ⟨s, rfl, hk⟩ := q1_spec hq
    simp [Op.operands, VL] at hvs
    obtain ⟨r, v', h1, h2, h3⟩ := extractQ_sound (P := P) hvs hk
    exact .pure hs h1 h2 fun w' _ => run_v (h3 w')
  · obtain ⟨s, rfl, hk⟩ := q1_spec hq
    simp [Op.operands, VL] at hvs
    obtain ⟨r, v', h1, h2, h3⟩ := fieldQ_sound hvs hk
    exact .pure hs h1 h2 fun w' _ => run_v (h3 w')
  · obtain ⟨s, t, rfl, hk⟩ := q2_spec hq
    simp [Op.operands, VL] at hvs
    obtain ⟨r, v', h1, h2, h3⟩ := indexAddrQ_sound hs hvs.1 hvs.2 hk
    exact .pure hs h1 h2 fun w' _ => run_v (h3 w')
  · obtain ⟨s, t, rfl, hk⟩ := q2_spec hq
    simp [Op.operands, VL] at hvs
    obtain ⟨r, v', h1, h2, h3⟩ := indexQ_sound hvs.1 hvs.2 hk
    exact .pure hs h1 h2 fun w' _ => run_v (h3 w')
  · rename_i T x lo hi mx
    obtain ⟨r, h', nx', θ', v', h1, h2, h3, h4⟩ := sliceOpQ_sound (ρ := ρ) hs (by simpa [Op.operands] using hvs) hq
    exact ⟨r, h', nx', θ', v', h1, h2, h3, fun w' _ => run_v (h4 w')⟩
  · rename_i fn first captured
    split at hq <;> try exact hq.elim
    rename_i f
    refine .pure hs hq (v := .func (.func f) (first.map ρ) (captured.map ρ)) ?_ fun w' _ => by simp [execOp, Instr.makeFunc]
    simp only [V]
    refine ⟨(first ++ captured).toList.map ρ, ?_, hvs⟩
    have e1 : ((first ++ captured).toList.map ρ).take first.toList.length = first.toList.map ρ := by
      simp
    have e2 : ((first ++ captured).toList.map ρ).drop first.toList.length = captured.toList.map ρ := by
      simp
    rw [e1, e2, ← Array.toList_map, ← Array.toList_map]
  · obtain ⟨s, t, rfl, hk⟩ := q2_spec hq
    simp [Op.operands, VL] at hvs
    obtain ⟨r, v', h1, h2, h3⟩ := lookupQ_sound hs hvs.1 hvs.2 hk
    exact .pure hs h1 h2 fun w' hw' => run_v (h3 w' (hw' s (by simp [readsOf])))
  · rename_i T parts
    obtain ⟨r, v', h1, h2, h3⟩ := buildQ_sound (θ := θ) (parts := parts.toList.map fun (i, x) => (i, ρ x)) (by simp [Function.comp_def]) (by simpa [Op.operands, Function.comp_def] using hvs) hq
    have e : parts.map (fun (x : Nat × Operand) => (x.1, ρ x.2)) = (parts.toList.map fun (x : Nat × Operand) => (x.1, ρ x.2)).toArray := by apply Array.ext'; simp
    exact .pure hs h1 h2 fun w' _ => run_v (by
      show (Instr.build T (parts.map (fun (x : Nat × Operand) => (x.1, ρ x.2)))).run P w' = _
      rw [e]; exact h3 w')
  · rename_i c
    split at hq <;> try exact hq.elim
    rename_i hcal
    obtain ⟨callee, args, ts⟩ := c
    simp only at hcal
    subst hcal
    obtain ⟨s, rfl, hk⟩ := q1_spec hq
    obtain ⟨r, v', h1, h2, h3⟩ := lenQ_sound (u := ρ (args.toList.headD (.const undef))) hs (by
      simp [Op.operands, Call.operands] at hvs
      cases hl : args.toList with
      | nil => rw [hl] at hvs; simp [VL] at hvs
      | cons y ys => rw [hl] at hvs; simp only [List.map_cons, VL] at hvs; exact hvs.1) hk
    refine .pure hs h1 h2 fun w' hw' => ?_
    have ha : args.map ρ = #[ρ (args.toList.headD (.const undef))] := by
      simp [Op.operands, Call.operands] at hvs
      apply Array.ext'
      cases hl : args.toList with
      | nil => rw [hl] at hvs; simp [VL] at hvs
      | cons y ys =>
        rw [hl] at hvs; simp only [List.map_cons, VL] at hvs
        have := VL_nil_left hvs.2
        have hys : ys = [] := by simpa using this
        subst hys
        simp [hl]
    have := h3 ts type w' (by
      cases s with
      | m n => exact .inl (hw' _ (by simp [readsOf, readsOf.isMapS]))
      | _ => exact .inr (fun n h => by cases h)) rfl
    generalize ρ (args.toList.headD (.const undef)) = u at ha this
    simp [execOp, resolve, invoke, builtin, ha, this]
  · exact hq.elim
end
end Go.Z
