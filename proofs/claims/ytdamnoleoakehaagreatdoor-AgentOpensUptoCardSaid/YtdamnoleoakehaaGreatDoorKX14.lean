/- Part 14 of what the closing text rests on. -/
import Derived.Test.YtdamnoleoakehaaGreatDoorKX13
namespace Go.Q
noncomputable section
open Go.RowKit
open Go.Z hiding cond_false get

section
variable {Γ : Cx} {ρ : Rh} {θ : Tz} {P : Program} {s : St} {w : World}

theorem r1_ok {vs : List DV} {k : DV → R DV} {r : DV} (h : r1 vs k = .ok r) : ∃ x, vs = [x] ∧ k x = .ok r := by
  unfold r1 at h; split at h
  · exact ⟨_, rfl, h⟩
  · exact (fail_ok h).elim
theorem r2_ok {vs : List DV} {k : DV → DV → R DV} {r : DV} (h : r2 vs k = .ok r) : ∃ x y, vs = [x, y] ∧ k x y = .ok r := by
  unfold r2 at h; split at h
  · exact ⟨_, _, rfl, h⟩
  · exact (fail_ok h).elim
theorem args_map {l : List DV} {args : Array Operand} {ev : Operand → Value} (h : WL ρ θ l (args.toList.map ev)) : ∃ us : List Value, args.map ev = us.toArray ∧ WL ρ θ l us := ⟨args.toList.map ev, by apply Array.ext'; simp, h⟩
theorem min_run (k k' : IntKind) (a b : Int) (w : World) : (Builtin.min2 (.int k a) (.int k' b)).run P w = .ok (.int k (minI a b)) w := by
  have : minI a b = if b < a then b else a := by
    unfold minI
    rw [intLe_dec, intB_dec]
    by_cases h : b < a
    · have h1 : decide (b ≤ a) = true := by simp; omega
      have h2 : decide (a = b) = false := by simp; omega
      simp [h, h1, h2]
    · have h1 : (decide (b ≤ a) && !decide (a = b)) = false := by
        by_cases h3 : b ≤ a
        · have : a = b := by omega
          simp [this]
        · simp [h3]
      rw [h1]; simp [h]
  simp [Builtin.min2, this]
theorem max_run (k k' : IntKind) (a b : Int) (w : World) : (Builtin.max2 (.int k a) (.int k' b)).run P w = .ok (.int k (maxI a b)) w := by
  have : maxI a b = if a < b then b else a := by
    unfold maxI
    rw [intLe_dec, intB_dec]
    by_cases h : a < b
    · have h1 : decide (a ≤ b) = true := by simp; omega
      have h2 : decide (a = b) = false := by simp; omega
      simp [h, h1, h2]
    · have h1 : (decide (a ≤ b) && !decide (a = b)) = false := by
        by_cases h3 : a ≤ b
        · have : a = b := by omega
          simp [this]
        · simp [h3]
      rw [h1]; simp [h]
  simp [Builtin.max2, this]

theorem capL_shape {x : DV} {c : Lin} {u : Value} (hu : W ρ θ x u) (h : capL Γ s x = some c) : ∃ a n C, u = .slice a n C := by
  unfold capL at h
  split at h <;> try (cases h; done)
  simp only [W] at hu
  obtain ⟨L, _, _, _, _, _, C, _, _, rfl⟩ := hu
  exact ⟨_, _, _, rfl⟩
theorem capD_sound (hΓ : CxOk Γ ρ) (hs : SatR ρ θ s w) {T : Option Nat} {x r : DV} {u : Value} (hu : W ρ θ x u) (h : capD Γ P T x s = .ok r) (ts : Array Nat) (ty : Nat) (ht : ts[0]? = T) :
    ∃ z, W ρ θ r z ∧ (Builtin.cap_ ts ty #[u]).run P w = .ok z w := by
  unfold capD at h
  split at h
  · exact (fail_ok h).elim
  rename_i t
  split at h <;> try exact (fail_ok h).elim
  rename_i e hT
  split at h
  · cases h
    simp only [W] at hu
    subst hu
    exact ⟨_, W_int _ _, by simp [Builtin.cap_, ht, run_underlying hT, goInt]⟩
  · split at h <;> try exact (fail_ok h).elim
    rename_i c hc
    cases h
    obtain ⟨a, n, C, rfl⟩ := capL_shape hu hc
    have := capL_sound hΓ hs hu hc
    refine ⟨.int .i64 (C : Int), by simp only [W, this], by simp [Builtin.cap_, ht, run_underlying hT, goInt]⟩
theorem quietD_sound (hΓ : CxOk Γ ρ) (hs : SatR ρ θ s w) {o : Oper} {ev : Operand → Value} {vs : List DV} {r : DV} (hv : WL ρ θ vs (o.op.operands.toList.map ev)) (h : quietD Γ P o.op vs s = some (.ok r)) :
    ∃ z, W ρ θ r z ∧ (execOp ev o).run P w = .ok (.value z) w := by
  have fin : ∀ {S : Sem Value}, (∃ z, W ρ θ r z ∧ S.run P w = .ok z w) → (execOp ev o).run P w = (do pure (Next.value (← S)) : Sem Next).run P w → ∃ z, W ρ θ r z ∧ (execOp ev o).run P w = .ok (.value z) w := by
    rintro S ⟨z, h1, h2⟩ h3
    exact ⟨z, h1, by rw [h3]; exact run_v h2⟩
  obtain ⟨dst, op, type, pos, after, guard⟩ := o
  simp only at hv h
  unfold quietD at h
  split at h
  · obtain ⟨x, rfl, hk⟩ := r1_ok (Option.some.inj h)
    simp [Op.operands, WL] at hv
    cases hk
    exact ⟨_, hv, rfl⟩
  · obtain ⟨x, rfl, hk⟩ := r1_ok (Option.some.inj h)
    simp [Op.operands, WL] at hv
    cases hk
    exact ⟨_, hv, rfl⟩
  · rename_i S xo f
    obtain ⟨x, rfl, hk⟩ := r1_ok (Option.some.inj h)
    simp [Op.operands, WL] at hv
    split at hk <;> try exact (fail_ok hk).elim
    rename_i k n o hf
    cases hk
    simp only [W] at hv
    obtain ⟨L, hL, ho, hv⟩ := hv
    refine fin (S := Instr.fieldAt S (ev xo) f) ⟨.pointer (some ⟨L.b, (o.ev ρ.a).toNat + k, none⟩), ?_, by rw [hv, run_fieldAt hf]⟩ rfl
    simp only [W, ev_add, ev_lit]
    refine ⟨L, hL, by omega, ?_⟩
    congr 3
    omega
  · rename_i T xo
    obtain ⟨x, rfl, hk⟩ := r1_ok (Option.some.inj h)
    simp [Op.operands, WL] at hv
    exact fin (S := Instr.loadAt T (ev xo)) (loadD_sound hΓ hs hv hk) rfl
  · obtain ⟨x, rfl, hk⟩ := r1_ok (Option.some.inj h)
    simp [Op.operands, WL] at hv
    split at hk <;> try exact (fail_ok hk).elim
    · cases hk
      refine ⟨_, hv, ?_⟩
      simp only [W] at hv
      obtain ⟨L, _, _, hv⟩ := hv
      simp [execOp, hv]
    · cases hk
      refine ⟨_, hv, ?_⟩
      simp only [W] at hv
      obtain ⟨cs, ds, hv, _⟩ := hv
      simp [execOp, hv]
  · rename_i op T xo yo yT
    obtain ⟨x, y, rfl, hk⟩ := r2_ok (Option.some.inj h)
    simp [Op.operands, WL] at hv
    exact fin (S := do eqGuard op T xo yo (ev xo) (ev yo); binOp op T (ev xo) (ev yo)) (binD_sound hΓ hv.1 hv.2 hk xo yo w) rfl
  · rename_i op T xo
    obtain ⟨x, rfl, hk⟩ := r1_ok (Option.some.inj h)
    simp [Op.operands, WL] at hv
    exact fin (S := Op.unary op (ev xo)) (unD_sound hΓ hv hk w) rfl
  · rename_i src dst' xo
    split at h
    · cases h
    obtain ⟨x, rfl, hk⟩ := r1_ok (Option.some.inj h)
    simp [Op.operands, WL] at hv
    exact fin (S := convert src dst' (ev xo)) (convD_sound hΓ hs hv hk) rfl
  · rename_i xo i
    obtain ⟨x, rfl, hk⟩ := r1_ok (Option.some.inj h)
    simp [Op.operands, WL] at hv
    split at hk <;> try exact (fail_ok hk).elim
    rename_i l
    simp only [W] at hv
    obtain ⟨cs, hv, hl⟩ := hv
    obtain ⟨v, h1, h2⟩ := WL_get hl (optR_ok hk)
    exact fin (S := Instr.extract (ev xo) i) ⟨v, h2, by rw [hv]; simp [Instr.extract, h1]⟩ rfl
  · rename_i T xo f
    obtain ⟨x, rfl, hk⟩ := r1_ok (Option.some.inj h)
    simp [Op.operands, WL] at hv
    exact fin (S := Instr.field T (ev xo) f) (fieldD_sound hv hk w) rfl
  · rename_i T xo io
    obtain ⟨x, y, rfl, hk⟩ := r2_ok (Option.some.inj h)
    simp [Op.operands, WL] at hv
    exact fin (S := Instr.indexAt T (ev xo) (ev io)) (indexAddrD_sound hΓ hv.1 hv.2 hk w) rfl
  · rename_i T xo io
    obtain ⟨x, y, rfl, hk⟩ := r2_ok (Option.some.inj h)
    simp [Op.operands, WL] at hv
    exact fin (S := Instr.index T (ev xo) (ev io)) (indexD_sound hΓ hv.1 hv.2 hk w) rfl
  · rename_i T xo lo hi mx
    exact fin (S := Instr.sliceAt T (ev xo) (lo.map ev) (hi.map ev) (mx.map ev)) (sliceOp_sound (ev := ev) hΓ (by simpa [Op.operands] using hv) (Option.some.inj h) w) rfl
  · rename_i fn first captured
    cases h
    refine ⟨.func fn (first.map ev) (captured.map ev), ?_, by simp [execOp, Instr.makeFunc]⟩
    simp only [W]
    simp only [Op.operands, Array.toList_append, List.map_append] at hv
    refine ⟨first.toList.map ev, captured.toList.map ev, by congr 1 <;> (apply Array.ext'; simp), ?_, ?_⟩
    · have := WL_take first.toList.length hv
      simpa using this
    · have := WL_drop first.toList.length hv
      simpa using this
  · rename_i T xo yo ok
    obtain ⟨x, y, rfl, hk⟩ := r2_ok (Option.some.inj h)
    simp [Op.operands, WL] at hv
    exact fin (S := Instr.lookup T (ev xo) (ev yo) ok) (lookupD_sound hΓ hs hv.1 hv.2 hk) rfl
  · rename_i T parts
    have e : parts.map (fun (x : Nat × Operand) => (x.1, ev x.2)) = (parts.toList.map fun (x : Nat × Operand) => (x.1, ev x.2)).toArray := by apply Array.ext'; simp
    refine fin (S := Instr.build T (parts.map (fun (x : Nat × Operand) => (x.1, ev x.2)))) ?_ rfl
    rw [e]
    exact buildD_sound (by simp [Function.comp_def]) (by simpa [Op.operands, Function.comp_def] using hv) (Option.some.inj h) w
  · rename_i T xo
    obtain ⟨x, rfl, hk⟩ := r1_ok (Option.some.inj h)
    simp [Op.operands, WL] at hv
    split at hk <;> try exact (fail_ok hk).elim
    rename_i d hn hd
    cases hk
    refine fin (S := Instr.makeInterface T (ev xo)) ⟨.iface T (ev xo), by simp only [W]; exact ⟨_, rfl, hv⟩, ?_⟩ rfl
    simp only [Instr.makeInterface, Sem.run_bind, run_underlying hd, Result.andThen]
    cases d <;> first | (exfalso; exact hn _ hd) | rfl
  · rename_i xo xT T ok
    obtain ⟨x, rfl, hk⟩ := r1_ok (Option.some.inj h)
    simp [Op.operands, WL] at hv
    split at hk <;> try exact (fail_ok hk).elim
    rename_i d t x' hn hd
    cases hb : Nat.beq t T with
    | false => rw [hb] at hk; exact (fail_ok hk).elim
    | true =>
    rw [hb] at hk
    have hb := nbeq hb
    subst hb
    cases hk
    simp only [W] at hv
    obtain ⟨u, hu, hv⟩ := hv
    refine fin (S := Instr.typeAssert (ev xo) xT t false) ⟨u, hv, ?_⟩ rfl
    rw [hu]
    simp only [Instr.typeAssert, Sem.run_bind, run_underlying hd, Result.andThen]
    cases d <;> first | (exfalso; exact hn _ hd) | simp
  · rename_i c
    obtain ⟨callee, args, ts⟩ := c
    split at h <;> try (cases h; done)
    all_goals rename_i hcal; simp only at hcal; subst hcal
    all_goals
      simp only [Op.operands, Call.operands, Array.empty_append] at hv
      obtain ⟨us, hus, hv⟩ := args_map hv
    · obtain ⟨x, rfl, hk⟩ := r1_ok (Option.some.inj h)
      obtain ⟨u, us', rfl, hu, hn⟩ := WL_cons_left hv
      rw [WL_nil_left hn] at hus
      refine fin (S := Builtin.len_ ts type #[u]) (lenD_sound hΓ hs hu hk ts type rfl) ?_
      simp [execOp, resolve, invoke, builtin, hus]
    · obtain ⟨x, rfl, hk⟩ := r1_ok (Option.some.inj h)
      obtain ⟨u, us', rfl, hu, hn⟩ := WL_cons_left hv
      rw [WL_nil_left hn] at hus
      refine fin (S := Builtin.cap_ ts type #[u]) (capD_sound hΓ hs hu hk ts type rfl) ?_
      simp [execOp, resolve, invoke, builtin, hus]
    · split at h <;> try exact (fail_ok (Option.some.inj h)).elim
      rename_i x l
      obtain ⟨u, us', rfl, hu, hn⟩ := WL_cons_left hv
      refine fin (S := Builtin.min_ ts type (u :: us').toArray) ?_ (by simp [execOp, resolve, invoke, builtin, hus])
      exact minmax_sound (f := minI) (g := Builtin.min2) min_run w hu hn (Option.some.inj h)
    · split at h <;> try exact (fail_ok (Option.some.inj h)).elim
      rename_i x l
      obtain ⟨u, us', rfl, hu, hn⟩ := WL_cons_left hv
      refine fin (S := Builtin.max_ ts type (u :: us').toArray) ?_ (by simp [execOp, resolve, invoke, builtin, hus])
      exact minmax_sound (f := maxI) (g := Builtin.max2) max_run w hu hn (Option.some.inj h)
  · cases h
end
end
end Go.Q

namespace Go.Q
noncomputable section
open Go.RowKit
open Go.Z hiding cond_false get

section
variable {Γ : Cx} {ρ : Rh} {θ : Tz} {P : Program} {s : St} {w : World}

def LOk (ρ : Rh) (θ : Tz) (s : St) (w : World) (l : List (DV × St)) (res : Result Value) : Prop :=
  ∃ d s' θ' v w', (d, s') ∈ l ∧ Gon ρ θ s w θ' s' w' ∧ W ρ θ' d v ∧ res = .ok v w'

theorem newOb_ok {o : Ob} {k : Nat → DV} {l : List (DV × St)} (h : newOb s o k = .ok l) : ∃ n s', s.new o = .ok (n, s') ∧ l = [(k n, s')] := by
  unfold newOb at h
  split at h <;> cases h
  exact ⟨_, _, ‹_›, rfl⟩
theorem setOb_ok {n : Nat} {o : Ob} {d : DV} {l : List (DV × St)} (h : setOb s n o d = .ok l) : ∃ s', s.set n o = .ok s' ∧ l = [(d, s')] := by
  unfold setOb at h
  split at h <;> cases h
  exact ⟨_, ‹_›, rfl⟩

theorem heap_alloc (w : World) (o : Obj) : (w.alloc o).heap[w.heap.size]? = some o := by
  show (w.heap.push _)[w.heap.size]? = _
  simp

theorem newRow_sound (hs : Sat ρ θ s w) {T : Nat} {cs : List Cl} {ex : Bool} {k : Nat → DV} {l : List (DV × St)} (h : newOb s (.cells T cs ex) k = .ok l) {vs sp : List Value} (hc : CW ρ θ cs vs) (hex : ex = true → sp = []) {fz : Nat × Nat} (hfz : fz = (0, 0) ∨ fz = ((vs ++ sp).length, (vs ++ sp).length + 1))
    {w1 : World} (hb : Below w.heap.size w w1) (hw : w1.heap[w.heap.size]? = some (.cells (vs ++ sp).toArray T fz)) {v : Value} (hv : ∀ θ' n, θ' n = some ⟨w.heap.size, (vs ++ sp).length, []⟩ → W ρ θ' (k n) v) {res : Result Value} (hr : res = .ok v w1) : LOk ρ θ s w l res := by
  obtain ⟨n, s', h1, rfl⟩ := newOb_ok h
  obtain ⟨g1, rfl, g3⟩ := hs.add h1 (sz := (vs ++ sp).length) (fun θ' w' hx hw' => ⟨vs, sp, fz, hw', hfz, CW_mono hx hc, rfl, hex⟩) hb hw
  exact ⟨_, _, _, v, w1, .head _, g1, hv _ _ g3, hr⟩

theorem W_p0 {θ : Tz} {n b sz : Nat} {ms : List MapEntry} (h : θ n = some ⟨b, sz, ms⟩) : W ρ θ (.p n (lit 0)) (.pointer (some ⟨b, 0, none⟩)) := by
  simp only [W, ev_lit]
  exact ⟨_, h, Int.le_refl _, rfl⟩
theorem W_l0 {θ : Tz} {n b sz es k C : Nat} {len : Lin} (h : θ n = some ⟨b, sz, []⟩) (hes : 0 < es) (hlen : len.ev ρ.a = k) (hk : k ≤ C) (hsz : sz = C * es) : W ρ θ (.l n es (lit 0) len none (lit 0)) (.slice (some ⟨b, 0, none⟩) k C) := by
  simp only [W, ev_lit]
  refine ⟨_, h, hes, Int.le_refl _, by omega, Int.le_refl _, C, by simpa using hsz, by omega, ?_⟩
  rw [hlen]
  simp

theorem allocD_sound (hs : Sat ρ θ s w) {T : Nat} {l : List (DV × St)} (h : allocD P T s = .ok l) : LOk ρ θ s w l ((Instr.alloc T true (.tuple #[])).run P w) := by
  unfold allocD at h
  split at h <;> try exact (fail_ok h).elim
  rename_i z hz
  obtain ⟨h1, h⟩ := cond_fail h
  obtain ⟨i, zv, hi, hzv, rfl⟩ := zeroL_some hz
  refine newRow_sound hs h (vs := zv.cells.toList) (sp := []) (fz := (0, 0)) (rowOf_sound h1 (WL_lift1 _)) (fun _ => rfl) (.inl rfl) (below_alloc w (.cells zv.cells T)) ?_ (fun θ' n hn => W_p0 hn) ?_
  · simpa using heap_alloc w (.cells zv.cells T)
  · simp [Instr.alloc, run_zero hi hzv, newVar, newRow]
theorem boxD_sound (hs : Sat ρ θ s w) {T : Nat} {x : DV} {u : Value} (hu : W ρ θ x u) {l : List (DV × St)} (h : boxD T x s = .ok l) : LOk ρ θ s w l ((Instr.box T u).run P w) := by
  unfold boxD at h
  split at h <;> try exact (fail_ok h).elim
  rename_i cs hc
  obtain ⟨h1, h2⟩ := cellsD_sound hc hu
  refine newRow_sound hs h (vs := u.cells.toList) (sp := []) (fz := (0, 0)) (rowOf_sound h2 h1) (fun _ => rfl) (.inl rfl) (below_alloc w (.cells u.cells T)) ?_ (fun θ' n hn => W_p0 hn) ?_
  · simpa using heap_alloc w (.cells u.cells T)
  · simp [Instr.box, newVar, newRow]

def FzOk (fz : Nat × Nat) (n : Nat) : Prop := fz = (0, 0) ∨ fz = (n, n + 1)
theorem run_storeCells (g o : Nat) (t : TypeId) {fz : Nat × Nat} {n : Nat} (hfz : FzOk fz n) : ∀ (vs : List Value) (i : Nat) (cur : Array Value) (w : World), w.heap[g]? = some (.cells cur t fz) → cur.size = n → o + i + vs.length ≤ cur.size → (∀ v ∈ vs, v.oneCell' = true) →
    (storeCells ⟨g, o, none⟩ vs i).run P w = .ok () (w.setRow g (cur.toList.take (o + i) ++ vs ++ cur.toList.drop (o + i + vs.length)).toArray)
  | [], i, cur, w, hg, _, _, _ => by
    simp only [storeCells, List.append_nil, List.length_nil, Nat.add_zero, List.take_append_drop, Array.toArray_toList]
    rw [setRow_self w g cur t fz hg]
    rfl
  | v :: rest, i, cur, w, hg, hn, hl, h1 => by
    have hi : o + i < cur.size := by simp at hl; omega
    have hadd : (⟨g, o, none⟩ : Addr).add i = ⟨g, o + i, none⟩ := by unfold Addr.add; split <;> simp_all
    have hcell : w.cell? ⟨g, o + i, none⟩ = some cur[o + i] := by simp [World.cell?, hg, hi]
    have hfro : w.frozen? ⟨g, o + i, none⟩ = false := by
      rcases hfz with rfl | rfl
      · simp [World.frozen?, hg]
      · simp [World.frozen?, hg]; omega
    have hst : (store ((⟨g, o, none⟩ : Addr).add i) v).run P w = .ok () (w.setRow g (cur.setIfInBounds (o + i) v)) := by
      rw [hadd, run_store P w _ v _ (h1 v (by simp)), hcell]
      simp [hfro, setCell_eq_setRow w g (o + i) cur t fz v hg]
    have ih := run_storeCells g o t hfz rest (i + 1) (cur.setIfInBounds (o + i) v) (w.setRow g (cur.setIfInBounds (o + i) v)) (setRow_heap w g cur _ t _ hg) (by simpa using hn) (by simp at hl ⊢; omega) (fun x hx => h1 x (by simp [hx]))
    simp only [storeCells, Sem.run_bind, hst, Result.andThen_ok, ih, setRow_setRow]
    congr 3
    have e := list_seg_step cur.toList (o + i) v rest (by simp at hl ⊢; omega)
    simpa [Array.toList_setIfInBounds, Nat.add_assoc] using e
theorem run_storeRow {g o : Nat} {t : TypeId} {fz : Nat × Nat} {as ms rest news : List Value} (hg : w.heap[g]? = some (.cells (as ++ (ms ++ rest)).toArray t fz)) (hfz : FzOk fz (as ++ (ms ++ rest)).length) (ho : as.length = o) (hl : news.length = ms.length) (h1 : ∀ v ∈ news, v.oneCell' = true) :
    (storeCells ⟨g, o, none⟩ news).run P w = .ok () (w.setRow g (as ++ (news ++ rest)).toArray) := by
  have := run_storeCells (P := P) g o t hfz news 0 _ w hg (by simp) (by simp; omega) h1
  simp only [Nat.add_zero] at this
  rw [this]
  congr 3
  have e1 : (as ++ (ms ++ rest)).take o = as := by rw [← ho]; simp
  have e2 : (as ++ (ms ++ rest)).drop (o + news.length) = rest := by
    rw [hl, ← ho, ← List.append_assoc, ← List.length_append, List.drop_left]
  rw [e1, e2, List.append_assoc]
theorem setRow_sat (hs : Sat ρ θ s w) {n T : Nat} {cs cs' : List Cl} {ex : Bool} {s' : St} (hr : rowAt s n = some (T, cs, ex)) (hset : s.set n (.cells T cs' ex) = .ok s') {L : Ln} (hL : θ n = some L) {old vs sp : List Value} {fz : Nat × Nat} (ho : w.heap[L.b]? = some (.cells old.toArray T fz)) (hfz : fz = (0, 0) ∨ fz = (L.sz, L.sz + 1))
    (hc : CW ρ θ cs' vs) (hl : (vs ++ sp).length = L.sz) (hex : ex = true → sp = []) : Gon ρ θ s w θ s' (w.setRow L.b (vs ++ sp).toArray) := by
  have hlt := (Array.getElem?_eq_some_iff.1 ho).1
  refine hs.turn (rowAt_some hr) hL hset (by simp [World.setRow]) ⟨rfl, rfl, rfl⟩ (fun b hb => ?_) ?_
  · show (w.heap.modify L.b _)[b]? = _
    rw [Array.getElem?_modify, if_neg (fun e => hb e.symm)]
  · exact ⟨vs, sp, fz, setRow_heap w L.b _ _ T fz ho, hfz, hc, hl, hex⟩
theorem dropV_sound : ∀ {k : Nat} {b c : List Cl} {bs : List Value}, dropV k b = some c → CW ρ θ b bs → ∃ us rest, bs = us ++ rest ∧ us.length = k ∧ CW ρ θ c rest
  | 0, b, c, bs, h, hb => by cases h; exact ⟨[], bs, rfl, rfl, hb⟩
  | k + 1, [], c, bs, h, hb => by cases h
  | k + 1, .b i :: b, c, bs, h, hb => by cases h
  | k + 1, .v x :: b, c, bs, h, hb => by
    simp only [dropV] at h
    obtain ⟨u, us, rfl, _, _, h2⟩ := hb
    obtain ⟨us', rest, rfl, h3, h4⟩ := dropV_sound h h2
    exact ⟨u :: us', rest, rfl, by simp [h3], h4⟩
theorem storeD_sound (hΓ : CxOk Γ ρ) (hs : Sat ρ θ s w) {T : Nat} {x y : DV} {u v : Value} (hu : W ρ θ x u) (hv : W ρ θ y v) {l : List (DV × St)} (h : storeD Γ P T x y s = .ok l) :
    ∃ d s' θ' w', (d, s') ∈ l ∧ Gon ρ θ s w θ' s' w' ∧ d = noD ∧ (Instr.storeAt T u v).run P w = .ok () w' := by
  unfold storeD at h
  split at h <;> try exact (fail_ok h).elim
  rename_i n o
  split at h <;> try exact (fail_ok h).elim
  rename_i T' cs ex l' g sz hr hc hk
  split at h <;> try exact (fail_ok h).elim
  rename_i a b hsp
  split at h <;> try exact (fail_ok h).elim
  rename_i c hd
  obtain ⟨hlen, h⟩ := cond_fail h
  have hlen := nbeq hlen
  obtain ⟨s', hset, rfl⟩ := setOb_ok h
  simp only [W] at hu
  obtain ⟨L, hL, ho, rfl⟩ := hu
  obtain ⟨as, bs, sp, fz, e1, e2, e3, e4, e5, e6, e7, e8⟩ := row_at hΓ hs.toR hr hsp hL
  obtain ⟨us, rest, rfl, f1, f2⟩ := dropV_sound hd e4
  obtain ⟨c1, c2⟩ := cellsD_sound hc hv
  have hvl := WL_length c1
  have hsz : v.cells.size = sz := by have : v.cells.toList.length = v.cells.size := by simp
                                     omega
  rw [List.append_assoc] at e1 e6
  have hone := allOne_sound c2 c1
  refine ⟨noD, s', θ, w.setRow L.b ((as ++ (v.cells.toList ++ rest)) ++ sp).toArray, .head _, setRow_sat hs hr hset hL e1 e2 (CW_append e3 (CW_append (rowOf_sound c2 c1) f2)) ?_ e8, rfl, ?_⟩
  · simp only [List.length_append] at e6 ⊢
    have : v.cells.toList.length = v.cells.size := by simp
    omega
  · have := run_storeRow (P := P) (o := (o.ev ρ.a).toNat) (news := v.cells.toList) e1 (by rw [e6]; exact e2) (by omega) (by simp [hsz, f1]) hone
    simp only [Instr.storeAt, Instr.sureAddr, storeVar, Sem.run_bind, Sem.run_pure, Result.andThen, (run_kind hk w).2, hsz, ne_eq, not_true_eq_false, if_false, this]
    congr 2
    simp [List.append_assoc]
end
end
end Go.Q

namespace Go.Q
noncomputable section
open Go.RowKit
open Go.Z hiding cond_false get

section
variable {Γ : Cx} {ρ : Rh} {θ : Tz} {P : Program} {s : St} {w : World}

theorem repL_length (l : List DV) : ∀ n, (repL l n).length = n * l.length
  | 0 => by simp [repL]
  | n + 1 => by simp [repL, repL_length l n, Nat.succ_mul]; omega
def repV (l : List Value) : Nat → List Value
  | 0 => []
  | n + 1 => l ++ repV l n
theorem repV_length (l : List Value) : ∀ n, (repV l n).length = n * l.length
  | 0 => by simp [repV]
  | n + 1 => by simp [repV, repV_length l n, Nat.succ_mul]; omega
theorem repL_sound {l : List DV} {vs : List Value} (h : WL ρ θ l vs) : ∀ n, WL ρ θ (repL l n) (repV vs n)
  | 0 => WL_nil
  | n + 1 => WL_append h (repL_sound h n)
theorem allOne_append {l m : List DV} (h1 : allOne l = true) (h2 : allOne m = true) : allOne (l ++ m) = true := by
  induction l with
  | nil => exact h2
  | cons x l ih =>
    simp only [List.cons_append, allOne, Bool.and_eq_true] at h1 ⊢
    exact ⟨h1.1, ih h1.2⟩
theorem repL_one {l : List DV} (h : allOne l = true) : ∀ n, allOne (repL l n) = true
  | 0 => rfl
  | n + 1 => allOne_append h (repL_one h n)
theorem zeros_row (z : Array Value) (n m : Nat) (hm : z.size = m) (hp : 0 < m) : ((Array.range (n * m)).map fun j => z[j % z.size]!).toList = repV z.toList n := by
  apply List.ext_getElem?
  intro j
  have hlen : (repV z.toList n).length = n * m := by rw [repV_length]; simp [hm]
  have key : ∀ n j, j < n * m → (repV z.toList n)[j]? = z.toList[j % m]? := by
    intro n
    induction n with
    | zero => intro j h; simp at h
    | succ n ih =>
      intro j h
      simp only [repV]
      by_cases hj : j < m
      · rw [List.getElem?_append_left (by simpa [hm] using hj), Nat.mod_eq_of_lt hj]
      · rw [List.getElem?_append_right (by simp [hm]; omega)]
        have hz : z.toList.length = m := by simpa using hm
        rw [hz, ih (j - m) (by rw [Nat.succ_mul] at h; omega)]
        congr 1
        rw [← Nat.mod_eq_sub_mod (by omega)]
  by_cases hj : j < n * m
  · rw [key n j hj]
    have hlt : j % m < z.size := by rw [hm]; exact Nat.mod_lt _ hp
    simp [hj, hm, getElem!_pos z (j % m) hlt]
  · rw [List.getElem?_eq_none (by simp; omega), List.getElem?_eq_none (by omega)]

theorem buildSliceD_sound (hs : Sat ρ θ s w) {T len : Nat} {parts : List (Nat × Value)} {ixs : List Nat} {vs : List DV} (hix : parts.map (·.1) = ixs) (hvs : WL ρ θ vs (parts.map (·.2))) {l : List (DV × St)} (h : buildSliceD P T len ixs vs s = .ok l) :
    LOk ρ θ s w l ((Instr.buildSlice T len parts.toArray).run P w) := by
  unfold buildSliceD at h
  split at h <;> try exact (fail_ok h).elim
  rename_i e hT
  split at h <;> try exact (fail_ok h).elim
  rename_i g es z hk hz
  obtain ⟨i, zv, hi, hzv, rfl⟩ := zeroL_some hz
  obtain ⟨hc, h'⟩ := cond_fail h
  clear h
  simp only [Bool.and_eq_true] at hc
  have c1 := nblt hc.1
  have c2 := nbeq hc.2.1
  have c3 := nble hc.2.2
  split at h' <;> try exact (fail_ok h').elim
  rename_i cs hcs
  obtain ⟨h1, h⟩ := cond_fail h'
  clear h'
  have hzs : zv.cells.size = es := by simpa using c2
  have hf2 : PW ρ θ (ixs.zip vs) parts := by subst hix; exact PW_zip hvs
  have hrow := zeros_row zv.cells len es hzs c1
  have hz0 : WL ρ θ (repL (zv.cells.toList.map lift1) len) ((Array.range (len * es)).map fun j => zv.cells[j % zv.cells.size]!).toList := by
    rw [hrow]
    exact repL_sound (WL_lift1 _) len
  obtain ⟨out, g1, g2⟩ := fillD_sound (ρ := ρ) (θ := θ) (placeV := fun j => some (j * es, es)) (fun j r hr => hr) _ _ _ _ _ hf2 hz0 hcs
  have hfl : ∀ {parts : List (Nat × DV)} {cells r : List DV}, fillD (fun i => some (i * es, es)) cells parts = some r → r.length = cells.length := by
    intro parts
    induction parts with
    | nil => intro cells r hr; cases hr; rfl
    | cons p ps ih =>
      intro cells r hr
      obtain ⟨i, x⟩ := p
      unfold fillD at hr
      split at hr <;> try (cases hr; done)
      rename_i off size c' hpl hc'
      obtain ⟨b1, hr⟩ := condO hr
      simp only [Bool.and_eq_true] at b1
      have e1 := nbeq b1.1
      have e2 := nble b1.2
      rw [ih hr]
      simp; omega
  have hol : out.size = len * es := by
    have h2 := WL_length g2
    have h3 := hfl hcs
    rw [repL_length] at h3
    have h4 : out.toList.length = out.size := by simp
    simp only [List.length_map, Array.length_toList, hzs] at h3
    omega
  have hsz := (run_kind hk w).2
  have hrun : (Instr.buildSlice T len parts.toArray).run P w = .ok (.slice (some ⟨w.heap.size, 0, none⟩) len len) (w.alloc (.cells out e)) := by
    have hb : ¬ (16777216 < len * es) := by omega
    simp only [Instr.buildSlice, Sem.run_bind, run_underlying hT, Result.andThen, hsz]
    rw [if_neg (by simpa using hb), Sem.run_ite]
    split
    · rename_i h0
      have e0 : (Array.map (fun x => (#[] : Array Value)[x % (#[] : Array Value).size]!) (Array.range (len * es))) = ((Array.range (len * es)).map fun j => zv.cells[j % zv.cells.size]!) := by
        rw [h0]; simp
      simp only [Sem.run_bind, Sem.run_pure, Result.andThen]
      rw [e0, g1]; rfl
    · simp only [Sem.run_bind, run_zero hi hzv, Result.andThen, Sem.run_pure]
      rw [g1]; rfl
  refine newRow_sound hs h (vs := out.toList) (sp := []) (fz := (0, 0)) (rowOf_sound h1 g2) (fun _ => rfl) (.inl rfl) (below_alloc w (.cells out e)) ?_ (fun θ' n hn => W_l0 hn c1 (ev_lit _ _) (Nat.le_refl _) ?_) hrun
  · simpa using heap_alloc w (.cells out e)
  · simp [hol]

theorem isZero8_sound {z : List DV} {vs : List Value} (h : isZero8 z = true) (hv : WL ρ θ z vs) : vs = [.int .u8 0] := by
  unfold isZero8 at h
  split at h
  · rename_i x
    simp only [Bool.and_eq_true] at h
    obtain ⟨u, us, rfl, h1, h2⟩ := WL_cons_left hv
    rw [WL_nil_left h2]
    simp only [W] at h1
    rw [h1, Lin.ev_of_lit h.1, intB_eq h.2]
  · cases h
theorem zsTab_sound (hΓ : CxOk Γ ρ) {x : Lin} {c i : Nat} : ∀ {l : List (Lin × Nat × Nat)}, (∀ e ∈ l, e ∈ Γ.zs) → zsTab x l = some (c, i) → ∃ n : Nat, ρ.b i = List.replicate n 0 ∧ x.ev ρ.a = ((c + n : Nat) : Int)
  | [], _, h => by cases h
  | (y, d, j) :: l, hl, h => by
    unfold zsTab at h
    cases hb : x.eqb y with
    | false => rw [hb] at h; exact zsTab_sound hΓ (fun e he => hl e (.tail _ he)) h
    | true =>
      rw [hb] at h
      cases h
      rw [Lin.eqb_eq hb]
      exact hΓ.z _ (hl _ (.head _))
theorem repV_one (v : Value) : ∀ n, repV [v] n = List.replicate n v
  | 0 => rfl
  | n + 1 => by simp [repV, repV_one v n, List.replicate_succ]
theorem zerosD_sound (hΓ : CxOk Γ ρ) {z : List DV} {vs : List Value} {x : Lin} {cs : List Cl} (hz : WL ρ θ z vs) (h : zerosD Γ z x = some cs) : ∃ n : Nat, x.ev ρ.a = n ∧ CW ρ θ cs (repV vs n) := by
  unfold zerosD at h
  split at h
  · rename_i k hk
    obtain ⟨h1, h⟩ := condO h
    cases h
    exact ⟨k, natOf_some hk, rowOf_sound (repL_one h1 k) (repL_sound hz k)⟩
  · obtain ⟨h1, h⟩ := condO h
    split at h <;> cases h
    rename_i c i hi
    obtain ⟨n, h2, h3⟩ := zsTab_sound hΓ (fun _ h => h) hi
    refine ⟨c + n, h3, ?_⟩
    have hz1 : allOne z = true := by
      unfold isZero8 at h1
      split at h1
      · rfl
      · cases h1
    have e : repV vs (c + n) = repV vs c ++ repV vs n := by
      rw [isZero8_sound h1 hz, repV_one, repV_one, repV_one, List.replicate_append_replicate]
    rw [e]
    refine CW_append (rowOf_sound (repL_one hz1 c) (repL_sound hz c)) ?_
    rw [isZero8_sound h1 hz, repV_one]
    refine ⟨[], ?_, rfl⟩
    simp [blobV, h2]
theorem bytesOf_some {e bs : Nat} (h : bytesOf P e = some bs) : ∃ i, P.info? e = some i ∧ i.bytes = bs := by
  unfold bytesOf at h
  split at h <;> cases h
  exact ⟨_, ‹_›, rfl⟩

theorem makeSliceD_sound (hΓ : CxOk Γ ρ) (hs : Sat ρ θ s w) {T : Nat} {x y : DV} {u v : Value} (hu : W ρ θ x u) (hv : W ρ θ y v) {l : List (DV × St)} (h : makeSliceD Γ P T x y s = .ok l) : LOk ρ θ s w l ((Instr.makeSlice T u v).run P w) := by
  unfold makeSliceD at h
  split at h <;> try exact (fail_ok h).elim
  rename_i e k1 a k2 b hT
  split at h <;> try exact (fail_ok h).elim
  rename_i g es z bs hk hz hbs
  obtain ⟨i, zv, hi, hzv, rfl⟩ := zeroL_some hz
  obtain ⟨hc, h'⟩ := cond_fail h
  clear h
  simp only [Bool.and_eq_true] at hc
  have c1 := nblt hc.1
  have c2 := nbeq hc.2.1
  have c6 := nblt hc.2.2.1
  have c3 := Lin.eqb_eq hc.2.2.2.1
  have c4 := le0_sound hΓ hc.2.2.2.2.1
  have c5 := le0_sound hΓ hc.2.2.2.2.2
  rw [ev_lit] at c4 c5
  rw [ev_mul] at c5
  clear hc
  subst c3
  split at h' <;> try (cases h'; done)
  rename_i cs hcs
  have hzs : zv.cells.size = es := by simpa using c2
  obtain ⟨i', hi', hbi⟩ := bytesOf_some hbs
  obtain rfl := Option.some.inj (hi.symm.trans hi')
  simp only [W] at hu hv
  subst hu hv
  obtain ⟨n, hn, hrow⟩ := zerosD_sound hΓ (ρ := ρ) (θ := θ) (WL_lift1 zv.cells.toList) hcs
  have hsz := (run_kind hk w).2
  rw [hn] at c4 c5
  have e1 : (bs : Int) * n = ((bs * n : Nat) : Int) := by simp
  rw [e1] at c5
  have e2 : n ≤ bs * n := Nat.le_mul_of_pos_left n c6
  have w1 : IntKind.i64.wrap (n : Int) = n := IntWalk.i64_in _ (by omega)
  have e4 : ¬ (281474976710656 < (bs : Int) * n) := by rw [e1]; omega
  have hzr := zeros_row zv.cells n es hzs c1
  refine newRow_sound hs h' (vs := repV zv.cells.toList n) (sp := []) (fz := (0, 0)) (w1 := w.alloc (.cells (repV zv.cells.toList n).toArray e)) hrow (fun _ => rfl) (.inl rfl) (below_alloc w _) ?_ (v := .slice (some ⟨w.heap.size, 0, none⟩) n n) (fun θ' m hm => W_l0 hm c1 hn (Nat.le_refl _) ?_) ?_
  · simpa using heap_alloc w _
  · rw [List.append_nil, repV_length]; simp [hzs]
  · have h0 : ¬ ((n : Int) < 0) := by omega
    have e0 : ((Array.range (n * es)).map fun j => zv.cells[j % zv.cells.size]!) = (repV zv.cells.toList n).toArray := by
      apply Array.ext'
      rw [hzr]
    simp [Instr.makeSlice, run_underlying hT, asInt, asIntOf, typeInfo, hi, hsz, hn, hbi, w1, h0, e4, newRow]
    split
    · rename_i hz0
      rw [hz0] at e0
      rw [← e0]
      congr 2
      rw [hz0]
      simp
    · rw [run_zero hi hzv, ← e0]; rfl

theorem makeMapD_sound (hs : Sat ρ θ s w) {T : Nat} {vs : List DV} {r : Option Value} (hv : WL ρ θ vs r.toList) {l : List (DV × St)} (h : makeMapD P T vs s = .ok l) : LOk ρ θ s w l ((Instr.makeMap T r).run P w) := by
  have key : ∀ {l : List (DV × St)}, newMap s = .ok l → (Instr.makeMap T r).run P w = .ok (.map (some w.heap.size)) (w.alloc (.map #[] 0)) → LOk ρ θ s w l ((Instr.makeMap T r).run P w) := by
    intro l h hr
    unfold newMap at h
    split at h <;> cases h
    rename_i n s' hn
    obtain ⟨g1, g2, g3, g4⟩ := hs.ver ⟨w.heap.size, 0, []⟩
    obtain ⟨q1, rfl, q3⟩ := g1.sat.add hn (sz := 0) (ob := .map #[] 0) (w1 := w.alloc (.map #[] 0)) (fun θ' w' hx hw' => ⟨_, hx _ _ g2, rfl, [], hw', .refl _, trivial, by simp, fun e he => by cases he⟩) (below_alloc _ _) (heap_alloc _ _)
    refine ⟨_, _, _, .map (some w.heap.size), _, .head _, g1.trans q1, ?_, hr⟩
    simp only [W]
    exact ⟨_, q3, rfl⟩
  unfold makeMapD at h
  split at h <;> try exact (fail_ok h).elim
  · rename_i kt vt hT
    have : r = none := by cases r with
      | none => rfl
      | some v => simp [WL] at hv
    subst this
    exact key h rfl
  · rename_i kt vt k x hT
    obtain ⟨hc, h⟩ := cond_fail h
    simp only [Bool.and_eq_true] at hc
    have c2 := intLe_iff.1 hc.2.1
    have c3 := intLe_iff.1 hc.2.2
    cases r with
    | none => simp [WL] at hv
    | some v =>
      simp only [Option.toList, WL, W] at hv
      have hv := hv.1
      rw [Lin.ev_of_lit hc.1] at hv
      subst hv
      refine key h ?_
      have w1 : IntKind.i64.wrap x.c = x.c := IntWalk.i64_in _ (by omega)
      have h0 : ¬ (x.c < 0) := by omega
      simp [Instr.makeMap, run_underlying hT, asInt, asIntOf, newObj]
      rfl

theorem run_mark' {a : Addr} {cs : Array Value} {T : Nat} {fz : Nat × Nat} (hb : w.heap[a.block]? = some (.cells cs T fz)) (hfz : fz = (0, 0) ∨ fz = (cs.size, cs.size + 1)) :
    (markStringish a).run P w = .ok () { w with heap := w.heap.setIfInBounds a.block (.cells cs T (cs.size, cs.size + 1)) } := by
  have hlt := (Array.getElem?_eq_some_iff.1 hb).1
  have hge := (Array.getElem?_eq_some_iff.1 hb).2
  have hsh : w.shape? a.block = some (T, cs.size) := by simp [World.shape?, hb]
  have e : w.freeze ⟨a.block, cs.size, none⟩ 1 = { w with heap := w.heap.setIfInBounds a.block (.cells cs T (cs.size, cs.size + 1)) } := by
    unfold World.freeze
    rw [if_neg (by decide)]
    congr 1
    apply Array.ext
    · simp
    · intro j h1 h2
      by_cases hj : a.block = j
      · subst hj
        rcases hfz with rfl | rfl <;> simp [Array.getElem_modify, hge]
      · have e1 : (w.heap.setIfInBounds a.block (.cells cs T (cs.size, cs.size + 1)))[j]? = w.heap[j]? := by simp [hj]
        rw [Array.getElem?_eq_getElem h2, Array.getElem?_eq_getElem (by simpa using h2)] at e1
        rw [Option.some.inj e1]
        simp [Array.getElem_modify, hj]
  show (Sem.run P (Sem.shape a.block Sem.pure >>= fun x => match x with | some (_, n) => freeze { block := a.block, off := n } 1 | _ => pure ()) w) = _
  simp only [Sem.run_bind, Sem.run, hsh, Result.andThen]
  show (Sem.freeze { block := a.block, off := cs.size } 1 (Sem.pure ())).run P w = _
  simp only [Sem.run, e]

theorem convL_sound (hΓ : CxOk Γ ρ) (hs : Sat ρ θ s w) {src dst : Nat} {x : DV} {u : Value} (hu : W ρ θ x u) {l : List (DV × St)} (h : convL Γ P src dst x s = .ok l) : LOk ρ θ s w l ((convert src dst u).run P w) := by
  unfold convL at h
  split at h <;> try exact (fail_ok h).elim
  · rename_i e sl h1 h2
    obtain ⟨h3, h'⟩ := cond_fail h
    clear h
    have h3 := isU8_spec h3
    split at h' <;> try exact (fail_ok h').elim
    rename_i cs hcs
    simp only [W] at hu; subst hu
    have hz := szS_ev hΓ sl
    have hcw := ofSg_sound (θ := θ) hΓ hcs
    generalize hstr : sgs ρ sl = bytes at hz hcw
    have hs0 : strOf ρ sl = ⟨bytes.toArray⟩ := by rw [strOf, hstr]
    rw [hs0]
    generalize hstr' : (⟨bytes.toArray⟩ : ByteArray) = str
    have hsz : str.size = bytes.length := by rw [← hstr']; rfl
    have hdat : str.data = bytes.toArray := by rw [← hstr']
    have hge := grownCap_ge w str.size 0 e
    generalize hcap : grownCap w str.size 0 e = cap at hge
    let arr : Array Value := (str.data.map fun b => Value.int .u8 (b.toNat : Int)) ++ Array.replicate (cap - str.size) (.int .u8 0)
    let w1 : World := { w.drew with heap := w.heap.push (.cells arr e (arr.size, arr.size + 1)) }
    have harr : arr = (bytes.map (fun b => Value.int .u8 (b.toNat : Int)) ++ List.replicate (cap - str.size) (Value.int .u8 0)).toArray := by
      apply Array.ext'
      simp [arr, hdat]
    have hheap : w1.heap[w.heap.size]? = some (.cells arr e (arr.size, arr.size + 1)) := by
      show (w.heap.push _)[w.heap.size]? = _
      simp
    have hb : Below w.heap.size w w1 := ⟨rfl, rfl, rfl, by show _ ≤ (w.heap.push _).size; simp, fun b hb => by
      show (w.heap.push _)[b]? = _
      rw [Array.getElem?_push, if_neg (by omega)]⟩
    have hasz : arr.size = cap := by rw [harr]; simp; omega
    refine newRow_sound hs h' (vs := bytes.map (fun b => Value.int .u8 (b.toNat : Int))) (sp := List.replicate (cap - str.size) (Value.int .u8 0)) (fz := (arr.size, arr.size + 1)) (w1 := w1) (v := .slice (some ⟨w.heap.size, 0, none⟩) str.size cap)
      hcw (fun hh => by cases hh) (.inr ?_) hb ?_ (fun θ' m hm => W_l0 hm (by decide) (by rw [hsz]; omega) hge ?_) ?_
    · rw [harr]; simp
    · rw [hheap, harr]
    · simp; omega
    · have hfz : (w.drew.alloc (.cells arr e)).freeze ⟨w.heap.size, arr.size, none⟩ 1 = w1 := by
        refine Eq.trans (b := ({ w.drew with heap := (w.heap.push (.cells arr e)).modify w.heap.size _ } : World)) rfl (congrArg (fun hp => ({ w.drew with heap := hp } : World)) ?_)
        apply Array.ext
        · simp
        · intro i h1 h2
          rw [Array.getElem_modify]
          simp only [Array.getElem_push]
          by_cases hi : i < w.heap.size
          · simp [hi, Nat.ne_of_gt hi]
          · have : i = w.heap.size := by simp at h2; omega
            subst this
            simp
      have hsh : (w.drew.alloc (.cells arr e)).shape? w.heap.size = some (e, arr.size) := by
        simp only [World.shape?]
        show (match (w.heap.push (.cells arr e))[w.heap.size]? with | some (.cells c elem _) => some (elem, c.size) | _ => none) = _
        simp
      have hcap' : (Question.appendCap str.size 0 e).cut (w.tape w.drawn (Question.appendCap str.size 0 e)) = cap := hcap
      simp [convert, run_underlying h1, run_underlying h2, run_underlying h3, Conv.stringToBytes, newRow, Question.forced, markStringish, hcap']
      show ((Sem.run P (match (w.drew.alloc (.cells arr e)).shape? w.heap.size with | some (_, n) => freeze ⟨w.heap.size, n, none⟩ 1 | x => pure ()) (w.drew.alloc (.cells arr e))).andThen fun _ w' => Result.ok (Value.slice (some ⟨w.heap.size, 0, none⟩) str.size cap) w') = _
      rw [hsh]
      simp only [freeze, Sem.run, Result.andThen, hfz]
  · rename_i e0 e n es o len cp q h1 h2
    obtain ⟨h3, h'⟩ := cond_fail h
    clear h
    simp only [Bool.and_eq_true] at h3
    obtain rfl := nbeq h3.1
    have h4 := isU8_spec h3.2
    have he : e0 = e := by rw [h1] at h2; cases h2; rfl
    subst he
    split at h' <;> try exact (fail_ok h').elim
    rename_i T cs ex hr
    obtain ⟨s', hset, rfl⟩ := setOb_ok h'
    have hget := rowAt_some hr
    have hu0 := hu
    simp only [W] at hu
    obtain ⟨L, hL, _, _, _, _, C, hC, _, rfl⟩ := hu
    obtain ⟨L', hL', vs, sp, fz, g1, g2, g3, g4, g5⟩ := hs.res n _ hget
    obtain rfl := Option.some.inj (hL.symm.trans hL')
    have hlt := (Array.getElem?_eq_some_iff.1 g1).1
    have hsz : (vs ++ sp).toArray.size = L.sz := by rw [← g4]; simp
    have hm := run_mark' (P := P) (a := ⟨L.b, if C = 0 then (q.ev ρ.a).toNat else (o.ev ρ.a).toNat, none⟩) g1 (by rw [hsz]; exact g2)
    rw [hsz] at hm
    refine ⟨_, _, θ, _, _, .head _, hs.turn hget hL hset (w1 := { w with heap := w.heap.setIfInBounds L.b (.cells (vs ++ sp).toArray T (L.sz, L.sz + 1)) }) (by simp) ⟨rfl, rfl, rfl⟩ (fun b hne => ?_) ⟨vs, sp, _, ?_, .inr rfl, g3, g4, g5⟩, hu0, ?_⟩
    · show (w.heap.setIfInBounds _ _)[b]? = _
      simp [Ne.symm hne]
    · show (w.heap.setIfInBounds _ _)[L.b]? = _
      simp [hlt]
    · simp only [convert, Sem.run_bind, run_underlying h1, run_underlying h4, Result.andThen, beq_self_eq_true, hm]
      rfl
end
end
end Go.Q

namespace Go.Q
noncomputable section
open Go.RowKit
open Go.Z hiding cond_false get

theorem get_lt {α : Type} {l : List α} {j : Nat} {e : α} (h : l[j]? = some e) : j < l.length := (List.getElem?_eq_some_iff.1 h).1
theorem split_at {α : Type} {l : List α} {j : Nat} {e : α} (h : l[j]? = some e) : l = l.take j ++ e :: l.drop (j + 1) := by
  have h1 := get_lt h
  have h2 : l[j] = e := (List.getElem?_eq_some_iff.1 h).2
  rw [← h2, ← List.drop_eq_getElem_cons h1, List.take_append_drop]
theorem set_split {α : Type} {l : List α} {j : Nat} {e : α} (h : l[j]? = some e) (x : α) : l.set j x = l.take j ++ x :: l.drop (j + 1) := by
  rw [List.set_eq_take_append_cons_drop, if_pos (get_lt h)]
theorem perm_rest {α : Type} {l m : List α} {i j : Nat} {e : α} (h : l.Perm m) (hi : l[i]? = some e) (hj : m[j]? = some e) : (l.take i ++ l.drop (i + 1)).Perm (m.take j ++ m.drop (j + 1)) := by
  have h1 : (l.take i ++ e :: l.drop (i + 1)).Perm (m.take j ++ e :: m.drop (j + 1)) := by rw [← split_at hi, ← split_at hj]; exact h
  have h2 := (List.perm_middle (a := e) (l₁ := l.take i) (l₂ := l.drop (i + 1))).symm.trans (h1.trans List.perm_middle)
  exact (List.perm_cons e).1 h2
theorem perm_set {α : Type} {l m : List α} {i j : Nat} {e : α} (x : α) (h : l.Perm m) (hi : l[i]? = some e) (hj : m[j]? = some e) : (l.set i x).Perm (m.set j x) := by
  rw [set_split hi, set_split hj]
  exact List.perm_middle.trans ((List.Perm.cons x (perm_rest h hi hj)).trans List.perm_middle.symm)
theorem perm_erase {α : Type} {l m : List α} {i j : Nat} {e : α} (h : l.Perm m) (hi : l[i]? = some e) (hj : m[j]? = some e) : (l.eraseIdx i).Perm (m.eraseIdx j) := by
  rw [List.eraseIdx_eq_take_drop_succ, List.eraseIdx_eq_take_drop_succ]
  exact perm_rest h hi hj
theorem modify_set {ms : List MapEntry} {j : Nat} {e : MapEntry} (f : MapEntry → MapEntry) (h : ms[j]? = some e) : ms.toArray.modify j f = (ms.set j (f e)).toArray := by
  apply Array.ext'
  rw [Array.toList_modify]
  apply List.ext_getElem?
  intro i
  rw [List.getElem?_modify, List.getElem?_set]
  by_cases hi : j = i
  · subst hi
    have := (List.getElem?_eq_some_iff.1 h).2
    simp [get_lt h, this]
  · simp [hi]
theorem map_set_same {β γ : Type} {l : List β} {j : Nat} {e x : β} {f : β → γ} (h : l[j]? = some e) (hf : f x = f e) : (l.set j x).map f = l.map f := by
  apply List.ext_getElem?
  intro i
  rw [List.getElem?_map, List.getElem?_set, List.getElem?_map]
  by_cases hi : j = i
  · subst hi
    have := (List.getElem?_eq_some_iff.1 h).2
    simp [get_lt h, this, hf]
  · simp [hi]

section
variable {Γ : Cx} {ρ : Rh} {θ : Tz} {P : Program} {s : St} {w : World}

def UOk (ρ : Rh) (θ : Tz) (s : St) (w : World) (l : List (DV × St)) (res : Result Unit) : Prop :=
  ∃ d s' θ' w', (d, s') ∈ l ∧ Gon ρ θ s w θ' s' w' ∧ d = noD ∧ res = .ok () w'

theorem EW_get : ∀ {es : List (DV × DV)} {ms : List MapEntry}, EW ρ θ es ms → ∀ {i : Nat} {k v : DV}, es[i]? = some (k, v) → ∃ e, ms[i]? = some e ∧ W ρ θ k e.key ∧ W ρ θ v e.val
  | [], [], _, i, _, _, h => by simp at h
  | [], _ :: _, h, _, _, _, _ => h.elim
  | _ :: _, [], h, _, _, _, _ => h.elim
  | (k, v) :: es, e :: ms, h, 0, k', v', hi => by
    simp at hi
    obtain ⟨rfl, rfl⟩ := hi
    exact ⟨e, rfl, h.1, h.2.1⟩
  | (_, _) :: es, e :: ms, h, i + 1, k', v', hi => by
    obtain ⟨e', h1, h2⟩ := EW_get h.2.2 (i := i) (by simpa using hi)
    exact ⟨e', by simpa using h1, h2⟩
theorem EW_put : ∀ {es : List (DV × DV)} {ms : List MapEntry}, EW ρ θ es ms → ∀ {i : Nat} {z : DV} {e e1 : MapEntry}, ms[i]? = some e → e1.key = e.key → W ρ θ z e1.val → EW ρ θ (setE i z es) (ms.set i e1)
  | [], [], _, i, _, _, _, h, _, _ => by simp at h
  | [], _ :: _, h, _, _, _, _, _, _, _ => h.elim
  | _ :: _, [], h, _, _, _, _, _, _, _ => h.elim
  | (k, v) :: es, e0 :: ms, h, 0, z, e, e1, hi, hk, hz => by
    simp at hi
    subst hi
    exact ⟨by rw [hk]; exact h.1, hz, h.2.2⟩
  | (k, v) :: es, e0 :: ms, h, i + 1, z, e, e1, hi, hk, hz => ⟨h.1, h.2.1, EW_put h.2.2 (i := i) (by simpa using hi) hk hz⟩
theorem EW_del : ∀ {es : List (DV × DV)} {ms : List MapEntry}, EW ρ θ es ms → ∀ {i : Nat}, EW ρ θ (delE i es) (ms.eraseIdx i)
  | [], [], _, i => by simp [delE, EW]
  | [], _ :: _, h, _ => h.elim
  | _ :: _, [], h, _ => h.elim
  | (k, v) :: es, e0 :: ms, h, 0 => h.2.2
  | (k, v) :: es, e0 :: ms, h, i + 1 => ⟨h.1, h.2.1, EW_del h.2.2 (i := i)⟩
theorem EW_push : ∀ {es : List (DV × DV)} {ms : List MapEntry}, EW ρ θ es ms → ∀ {k z : DV} {e : MapEntry}, W ρ θ k e.key → W ρ θ z e.val → EW ρ θ (es ++ [(k, z)]) (ms ++ [e])
  | [], [], _, _, _, _, h1, h2 => ⟨h1, h2, trivial⟩
  | [], _ :: _, h, _, _, _, _, _ => h.elim
  | _ :: _, [], h, _, _, _, _, _ => h.elim
  | (_k, _v) :: _es, _e0 :: _ms, h, _, _, _, h1, h2 => ⟨h.1, h.2.1, EW_push h.2.2 h1 h2⟩

theorem all2_W {f : DV → DV → Bool} (hf : ∀ x y u v, f x y = true → W ρ θ x u → W ρ θ y v → u = v) : ∀ {l m : List DV} {us vs : List Value}, all2 f l m = true → WL ρ θ l us → WL ρ θ m vs → us = vs
  | [], [], us, vs, _, h1, h2 => by rw [WL_nil_left h1, WL_nil_left h2]
  | [], _ :: _, _, _, h, _, _ => by cases h
  | _ :: _, [], _, _, h, _, _ => by cases h
  | x :: l, y :: m, us, vs, h, h1, h2 => by
    simp only [all2, Bool.and_eq_true] at h
    obtain ⟨u, us', rfl, a1, a2⟩ := WL_cons_left h1
    obtain ⟨v, vs', rfl, b1, b2⟩ := WL_cons_left h2
    rw [hf _ _ _ _ h.1 a1 b1, all2_W hf h.2 a2 b2]
theorem sameK_W : ∀ (d : Nat) (x y : DV) (u v : Value), sameK d x y = true → W ρ θ x u → W ρ θ y v → u = v
  | 0, _, _, _, _, h, _, _ => by cases h
  | d + 1, x, y, u, v, h, hu, hv => by
    unfold sameK at h
    split at h
    · simp only [Bool.and_eq_true, decide_eq_true_eq] at h
      obtain ⟨rfl, h2⟩ := h
      simp only [W] at hu hv
      rw [hu, hv, Lin.eqb_eq h2]
    · simp only [W] at hu hv
      rw [hu, hv, sgB_eq h]
    · simp only [W] at hu hv
      rw [hu, hv]
      simp at h; rw [h]
    · simp only [W] at hu hv
      obtain ⟨us, rfl, h1⟩ := hu
      obtain ⟨vs, rfl, h2⟩ := hv
      rw [all2_W (sameK_W d) h h1 h2]
    · cases h

theorem all2_bits {f : DV → DV → Bool} {n : Nat} (hf : ∀ x y u, f x y = true → W ρ θ x u → Instr.sameBits n u u = true) : ∀ {l m : List DV} {us : List Value}, all2 f l m = true → WL ρ θ l us → (us.zip us).all (fun (x, y) => Instr.sameBits n x y) = true
  | [], _, us, _, h1 => by rw [WL_nil_left h1]; rfl
  | _ :: _, [], _, h, _ => by cases h
  | x :: l, y :: m, us, h, h1 => by
    simp only [all2, Bool.and_eq_true] at h
    obtain ⟨u, us', rfl, a1, a2⟩ := WL_cons_left h1
    simp only [List.zip_cons_cons, List.all_cons, Bool.and_eq_true]
    exact ⟨hf _ _ _ h.1 a1, all2_bits hf h.2 a2⟩
theorem sameK_bits (m : Nat) : ∀ (d : Nat) (x y : DV) (u : Value), sameK d x y = true → W ρ θ x u → Instr.sameBits (d + m) u u = true
  | 0, _, _, _, h, _ => by cases h
  | d + 1, x, y, u, h, hu => by
    rw [show d + 1 + m = (d + m) + 1 by omega]
    unfold sameK at h
    split at h <;> try (cases h; done)
    all_goals simp only [W] at hu
    · subst hu; simp [Instr.sameBits]
    · subst hu; simp [Instr.sameBits, beq_bytes]
    · subst hu; simp [Instr.sameBits]
    · obtain ⟨us, rfl, hx⟩ := hu
      simp only [Instr.sameBits, beq_self_eq_true, Bool.true_and]
      exact all2_bits (sameK_bits m d) h hx

theorem keyStays {k y : DV} {v u : Value} (h : sameK eqDepth k y = true) (hv : W ρ θ k v) (hu : W ρ θ y u) (w : World) : v = u ∧ (Instr.keyThatStays v u).run P w = .ok u w := by
  have h1 := sameK_W _ _ _ _ _ h hv hu
  have h2 : Instr.sameBits 10000 v v = true := sameK_bits 9992 eqDepth _ _ _ h hv
  subst h1
  refine ⟨rfl, ?_⟩
  simp only [Instr.keyThatStays, h2, if_true]
  rfl

theorem setMap_sound (hs : Sat ρ θ s w) {n ver : Nat} {es es' : List (DV × DV)} {L : Ln} (hn : s.get n = some (.map es ver)) (hL : θ n = some L) {d : DV} {l : List (DV × St)} (h : setMap s n es' d = .ok l) {ob : Obj} (hb : w.heap[L.b]? = some ob) {c : Nat} {ms' Vms' : List MapEntry} (hp : ms'.Perm Vms') (hE : EW ρ θ es' Vms')
    (hnd : (Vms'.map (·.born)).Nodup) (hlt : ∀ e ∈ Vms', e.born < c) : ∃ s' θ', l = [(d, s')] ∧ Gon ρ θ s w θ' s' { w with heap := w.heap.setIfInBounds L.b (.map ms'.toArray c) } ∧ θ.ext θ' ∧ θ' s.nx = some ⟨L.b, c, Vms'⟩ := by
  obtain ⟨s', hset, rfl⟩ := setOb_ok h
  obtain ⟨g1, g2, g3, g4⟩ := hs.ver ⟨L.b, c, Vms'⟩
  have hin := (Array.getElem?_eq_some_iff.1 hb).1
  refine ⟨s', _, rfl, g1.trans (g1.sat.turn (o := .map es ver) (L := L) (by rw [g4]; exact hn) (g1.ext _ _ hL) hset (w1 := { w with heap := w.heap.setIfInBounds L.b (.map ms'.toArray c) }) (by simp) ⟨rfl, rfl, rfl⟩ (fun b hne => ?_) ?_), g1.ext, g2⟩
  · show (w.heap.setIfInBounds _ _)[b]? = _
    simp [Ne.symm hne]
  · refine ⟨_, g2, rfl, ms', ?_, hp, EW_mono g1.ext hE, hnd, hlt⟩
    show (w.heap.setIfInBounds _ _)[L.b]? = _
    simp [hin]

theorem map_res (hs : Sat ρ θ s w) {n ver : Nat} {es : List (DV × DV)} (hn : mapAt s n = some (es, ver)) {u : Value} (hu : W ρ θ (.m n) u) : ∃ L V ms, θ n = some L ∧ u = .map (some L.b) ∧ θ ver = some V ∧ V.b = L.b ∧ w.heap[L.b]? = some (.map (ms : List MapEntry).toArray V.sz) ∧ ms.Perm V.ms ∧ EW ρ θ es V.ms ∧ (V.ms.map (·.born)).Nodup ∧ ∀ e ∈ V.ms, e.born < V.sz := by
  simp only [W] at hu
  obtain ⟨L, hL, rfl⟩ := hu
  obtain ⟨L', hL', V, h1, h2, ms, h3, h4, h5, h6, h7⟩ := hs.res n _ (mapAt_some hn)
  obtain rfl := Option.some.inj (hL.symm.trans hL')
  exact ⟨L, V, ms, hL, rfl, h1, h2, h3, h4, h5, h6, h7⟩

theorem nodup_push {V : List MapEntry} {c : Nat} {e : MapEntry} (h1 : (V.map (·.born)).Nodup) (h2 : ∀ e ∈ V, e.born < c) (he : e.born = c) : ((V ++ [e]).map (·.born)).Nodup ∧ ∀ e' ∈ V ++ [e], e'.born < c + 1 := by
  refine ⟨?_, fun e' he' => ?_⟩
  · rw [List.map_append, List.nodup_append]
    refine ⟨h1, by simp, fun a ha b hb hab => ?_⟩
    simp at hb
    obtain ⟨e1, q1, rfl⟩ := List.mem_map.1 ha
    have := h2 e1 q1
    omega
  · rcases List.mem_append.1 he' with h | h
    · have := h2 e' h; omega
    · simp at h; subst h; omega

theorem push_toArray (ms : List MapEntry) (e : MapEntry) : ms.toArray.push e = (ms ++ [e]).toArray := by simp

theorem mapUpdateD_sound (hΓ : CxOk Γ ρ) (hs : Sat ρ θ s w) {T : Nat} {x y z : DV} {u v t : Value} (hu : W ρ θ x u) (hv : W ρ θ y v) (ht : W ρ θ z t) {l : List (DV × St)} (h : mapUpdateD Γ P T x y z s = .ok l) : UOk ρ θ s w l ((Instr.mapUpdate T u v t).run P w) := by
  unfold mapUpdateD at h
  split at h <;> try exact (fail_ok h).elim
  rename_i kt vt n hT
  split at h <;> try exact (fail_ok h).elim
  rename_i es ver hm
  obtain ⟨hk, h'⟩ := cond_fail h
  clear h
  obtain ⟨L, V, ms, hL, rfl, hV, hVb, hb, hp, hE, hnd, hlt⟩ := map_res hs hm hu
  have hck : ∀ e : Bool, (Instr.checkKey e 10000 kt v).run P w = .ok () w := fun e => keyOk_sound 9992 e eqDepth hk hv
  obtain ⟨D, hD⟩ := keyOk_desc hk
  split at h'
  · rename_i hf
    obtain ⟨f, g1, g2⟩ := findD_sound hΓ hD hv w hf hE hnd
    have hr := run_find (P := P) (w := w) hD ms fun e he => g1 e (hp.mem_iff.1 he)
    rw [findF_none fun e he => g2 e (hp.mem_iff.1 he)] at hr
    obtain ⟨q1, q2⟩ := nodup_push (e := { key := v, val := t, born := V.sz }) hnd hlt rfl
    obtain ⟨s', θ', rfl, g, _, _⟩ := setMap_sound hs (mapAt_some hm) hL h' hb (c := V.sz + 1) (ms' := ms ++ [{ key := v, val := t, born := V.sz }]) (hp.append_right _) (EW_push hE hv ht) q1 q2
    refine ⟨_, _, _, _, .head _, g, rfl, ?_⟩
    simp only [Instr.mapUpdate, Sem.run_bind, run_underlying hT, Result.andThen, Go.Z.run_getObj_map hb, hck, hr, run_setObj hb, push_toArray]
  · rename_i i z0 hf
    split at h' <;> try exact (fail_ok h').elim
    rename_i k hk1
    obtain ⟨hsk, h''⟩ := cond_fail h'
    clear h'
    obtain ⟨f, g1, e, j', hj, e1, e2, e3, e4⟩ := findD_sound hΓ hD hv w hf hE hnd
    obtain rfl : i = j' := by omega
    have hr := run_find (P := P) (w := w) hD ms fun e he => g1 e (hp.mem_iff.1 he)
    obtain ⟨j, p1, p2⟩ := findF_some (i := 0) (hp.mem_iff.2 (List.mem_of_getElem? e1)) e3 fun e' he' hb' => e4 e' (hp.mem_iff.1 he') hb'
    rw [p1, Nat.zero_add] at hr
    have hkk : ∃ v0, es[i]? = some (k, v0) := by
      unfold keyAtE at hk1
      split at hk1 <;> cases hk1
      exact ⟨_, ‹_›⟩
    obtain ⟨v0, hkk⟩ := hkk
    obtain ⟨e', r1, r2, r3⟩ := EW_get hE hkk
    obtain rfl : e = e' := by rw [e1] at r1; exact Option.some.inj r1
    obtain ⟨k1, k2⟩ := keyStays (P := P) hsk r2 hv w
    have hms : ms.toArray[j]? = some e := by simpa using p2
    obtain ⟨s', θ', rfl, g, _, _⟩ := setMap_sound hs (mapAt_some hm) hL h'' hb (c := V.sz) (ms' := ms.set j { e with key := v, val := t }) (perm_set _ hp p2 e1) (EW_put hE e1 k1.symm ht)
      (by rw [map_set_same (f := (·.born)) (x := { e with key := v, val := t }) e1 rfl]; exact hnd) (fun e2 he2 => by
        rcases List.mem_or_eq_of_mem_set he2 with h | rfl
        · exact hlt _ h
        · exact hlt e (List.mem_of_getElem? e1))
    refine ⟨_, _, _, _, .head _, g, rfl, ?_⟩
    simp only [Instr.mapUpdate, Sem.run_bind, run_underlying hT, Result.andThen, Go.Z.run_getObj_map hb, hck, hr, hms, Option.map_some, Option.getD_some, k2, run_setObj hb]
    rw [modify_set _ p2]
  · exact (fail_ok h').elim
end
end
end Go.Q

namespace Go.Q
noncomputable section
open Go.RowKit
open Go.Z hiding cond_false get

section
variable {Γ : Cx} {ρ : Rh} {θ : Tz} {P : Program} {s : St} {w : World}

theorem found (hΓ : CxOk Γ ρ) {kt : Nat} {y : DV} {v : Value} (hk : keyOk P eqDepth kt y = true) (hv : W ρ θ y v) {es : List (DV × DV)} {ms Vms : List MapEntry} (hp : ms.Perm Vms) (hE : EW ρ θ es Vms) (hnd : (Vms.map (·.born)).Nodup) {i : Nat} {z : DV} (hf : findD Γ P kt y es 0 = some (some (i, z))) (w : World) :
    ∃ e j, Vms[i]? = some e ∧ ms[j]? = some e ∧ W ρ θ z e.val ∧ (Instr.findKey kt v ms).run P w = .ok (some (j, e.val)) w := by
  obtain ⟨D, hD⟩ := keyOk_desc hk
  obtain ⟨f, g1, e, j', hj, e1, e2, e3, e4⟩ := findD_sound hΓ hD hv w hf hE hnd
  obtain rfl : i = j' := by omega
  have hr := run_find (P := P) (w := w) hD ms fun e he => g1 e (hp.mem_iff.1 he)
  obtain ⟨j, p1, p2⟩ := findF_some (i := 0) (hp.mem_iff.2 (List.mem_of_getElem? e1)) e3 fun e' he' hb' => e4 e' (hp.mem_iff.1 he') hb'
  rw [p1, Nat.zero_add] at hr
  exact ⟨e, j, e1, p2, e2, hr⟩
theorem notFound (hΓ : CxOk Γ ρ) {kt : Nat} {y : DV} {v : Value} (hk : keyOk P eqDepth kt y = true) (hv : W ρ θ y v) {es : List (DV × DV)} {ms Vms : List MapEntry} (hp : ms.Perm Vms) (hE : EW ρ θ es Vms) (hnd : (Vms.map (·.born)).Nodup) (hf : findD Γ P kt y es 0 = some none) (w : World) :
    (Instr.findKey kt v ms).run P w = .ok none w := by
  obtain ⟨D, hD⟩ := keyOk_desc hk
  obtain ⟨f, g1, g2⟩ := findD_sound hΓ hD hv w hf hE hnd
  have hr := run_find (P := P) (w := w) hD ms fun e he => g1 e (hp.mem_iff.1 he)
  rwa [findF_none fun e he => g2 e (hp.mem_iff.1 he)] at hr
theorem keyAtE_some {es : List (DV × DV)} {i : Nat} {k : DV} (h : keyAtE es i = some k) : ∃ v, es[i]? = some (k, v) := by
  unfold keyAtE at h
  split at h <;> cases h
  exact ⟨_, ‹_›⟩
theorem W_unit : W ρ θ noD (.tuple #[]) := by simp only [noD, W]; rfl
theorem heap_same {b : Nat} {ob : Obj} (h : w.heap[b]? = some ob) : w.heap.setIfInBounds b ob = w.heap := by
  apply Array.ext (by simp)
  intro i h1 h2
  rw [Array.getElem_setIfInBounds]
  · split
    · rename_i e1; subst e1
      exact (Option.some.inj ((Array.getElem?_eq_getElem h2).symm.trans h)).symm
    · rfl

theorem deleteD_sound (hΓ : CxOk Γ ρ) (hs : Sat ρ θ s w) {T : Nat} {ts : Array Nat} {ty : Nat} (hts : ts[0]? = some T) {x y : DV} {u v : Value} (hu : W ρ θ x u) (hv : W ρ θ y v) {l : List (DV × St)} (h : deleteD Γ P T x y s = .ok l) : LOk ρ θ s w l ((Builtin.delete_ ts ty #[u, v]).run P w) := by
  unfold deleteD at h
  split at h <;> try exact (fail_ok h).elim
  rename_i kt vt n hT
  split at h <;> try exact (fail_ok h).elim
  rename_i es ver hm
  obtain ⟨hk, h'⟩ := cond_fail h
  clear h
  obtain ⟨L, V, ms, hL, rfl, hV, hVb, hb, hp, hE, hnd, hlt⟩ := map_res hs hm hu
  have hck : ∀ e : Bool, (Instr.checkKey e 10000 kt v).run P w = .ok () w := fun e => keyOk_sound 9992 e eqDepth hk hv
  split at h'
  · rename_i hf
    have hr := notFound hΓ hk hv hp hE hnd hf w
    cases h'
    refine ⟨_, _, θ, .tuple #[], w, .head _, Gon.refl hs, W_unit, ?_⟩
    simp [Builtin.delete_, hts, run_underlying hT, Go.Z.run_getObj_map hb, hck, hr, run_setObj hb, heap_same hb]
  · rename_i i z0 hf
    obtain ⟨e, j, e1, p2, e2, hr⟩ := found hΓ hk hv hp hE hnd hf w
    obtain ⟨s', θ', rfl, g, _, _⟩ := setMap_sound hs (mapAt_some hm) hL h' hb (c := V.sz) (perm_erase hp p2 e1) (EW_del hE)
      (((List.eraseIdx_sublist V.ms i).map _).nodup hnd) (fun e2 he2 => hlt _ ((List.eraseIdx_sublist V.ms i).subset he2))
    refine ⟨_, _, _, .tuple #[], _, .head _, g, W_unit, ?_⟩
    have hms : ms.toArray.eraseIdxIfInBounds j = (ms.eraseIdx j).toArray := by
      have := get_lt p2
      simp [Array.eraseIdxIfInBounds, this]
    simp [Builtin.delete_, hts, run_underlying hT, Go.Z.run_getObj_map hb, hck, hr, run_setObj hb]
  · exact (fail_ok h').elim

theorem bornOf_get {ms : List MapEntry} {i : Nat} {e : MapEntry} (h : ms[i]? = some e) : bornOf ms i = e.born := by simp only [bornOf, h]

theorem mapEntryD_sound (hΓ : CxOk Γ ρ) (hs : Sat ρ θ s w) {T : Nat} {x y : DV} {u v : Value} (hu : W ρ θ x u) (hv : W ρ θ y v) {l : List (DV × St)} (h : mapEntryD Γ P T x y s = .ok l) : LOk ρ θ s w l ((Instr.mapEntry T u v).run P w) := by
  unfold mapEntryD at h
  split at h <;> try exact (fail_ok h).elim
  rename_i kt vt n hT
  split at h <;> try exact (fail_ok h).elim
  rename_i es ver hm
  obtain ⟨hk, h'⟩ := cond_fail h
  clear h
  obtain ⟨L, V, ms, hL, rfl, hV, hVb, hb, hp, hE, hnd, hlt⟩ := map_res hs hm hu
  have hck : ∀ e : Bool, (Instr.checkKey e 10000 kt v).run P w = .ok () w := fun e => keyOk_sound 9992 e eqDepth hk hv
  split at h'
  · rename_i hf
    have hr := notFound hΓ hk hv hp hE hnd hf w
    split at h' <;> try exact (fail_ok h').elim
    rename_i z hz
    obtain ⟨zv, z1, z2⟩ := zeroD_sound (ρ := ρ) (θ := θ) (P := P) hz w
    obtain ⟨q1, q2⟩ := nodup_push (e := { key := v, val := zv, born := V.sz }) hnd hlt rfl
    obtain ⟨s', θ', rfl, g, hx, hver⟩ := setMap_sound hs (mapAt_some hm) hL h' hb (c := V.sz + 1) (ms' := ms ++ [{ key := v, val := zv, born := V.sz }]) (hp.append_right _) (EW_push hE hv z1) q1 q2
    refine ⟨_, _, _, .tuple #[zv, goInt V.sz], _, .head _, g, ?_, ?_⟩
    · simp only [W]
      refine ⟨[zv, goInt V.sz], rfl, ?_⟩
      simp only [WL, W]
      refine ⟨W_mono (Tz.ext_trans hx (fun n L hn => hn)) _ _ z1, ⟨_, hver, ?_⟩, trivial⟩
      rw [bornOf_get (e := { key := v, val := zv, born := V.sz }) (by rw [EW_length hE]; simp)]
      rfl
    · simp only [Instr.mapEntry, Sem.run_bind, run_underlying hT, Result.andThen, Go.Z.run_getObj_map hb, hck, hr, z2, run_setObj hb, push_toArray, Sem.run_pure]
  · rename_i i z0 hf
    obtain ⟨e, j, e1, p2, e2, hr⟩ := found hΓ hk hv hp hE hnd hf w
    split at h' <;> try exact (fail_ok h').elim
    rename_i k hk1
    obtain ⟨hsk, h''⟩ := cond_fail h'
    clear h'
    obtain ⟨v0, hkk⟩ := keyAtE_some hk1
    obtain ⟨e', r1, r2, r3⟩ := EW_get hE hkk
    obtain rfl : e = e' := by rw [e1] at r1; exact Option.some.inj r1
    obtain ⟨k1, k2⟩ := keyStays (P := P) hsk r2 hv w
    have hms : ms.toArray[j]? = some e := by simpa using p2
    cases h''
    refine ⟨_, _, θ, .tuple #[e.val, goInt e.born], w, .head _, Gon.refl hs, ?_, ?_⟩
    · simp only [W]
      refine ⟨[e.val, goInt e.born], rfl, ?_⟩
      simp only [WL, W]
      exact ⟨e2, ⟨V, hV, by rw [bornOf_get e1]; rfl⟩, trivial⟩
    · have hmod : ms.toArray.modify j (fun e => { e with key := v }) = ms.toArray := modify_id _ j _ fun e' he' => by
        rw [hms] at he'; cases he'
        rw [← k1]
      simp only [Instr.mapEntry, Sem.run_bind, run_underlying hT, Result.andThen, Go.Z.run_getObj_map hb, hck, hr, hms, Option.map_some, Option.getD_some, k2, run_setObj hb, hmod, heap_same hb, Sem.run_pure]
  · exact (fail_ok h').elim

theorem findIdx_born : ∀ {ms : List MapEntry} {j : Nat} {e : MapEntry}, (ms.map (·.born)).Nodup → ms[j]? = some e → ms.findIdx? (fun e' => (e'.born : Int) == (e.born : Int)) = some j
  | [], j, e, _, h => by simp at h
  | e0 :: ms, 0, e, _, h => by
    simp at h
    subst h
    simp [List.findIdx?_cons]
  | e0 :: ms, j + 1, e, hnd, h => by
    simp only [List.map_cons, List.nodup_cons] at hnd
    have h1 : ms[j]? = some e := by simpa using h
    have hne : ¬ (e0.born = e.born) := fun hh => hnd.1 (by rw [hh]; exact List.mem_map.2 ⟨e, List.mem_of_getElem? h1, rfl⟩)
    rw [List.findIdx?_cons, findIdx_born hnd.2 h1]
    simp
    omega

theorem entryStoreD_sound (hs : Sat ρ θ s w) {T : Nat} {x y z : DV} {u v t : Value} (hu : W ρ θ x u) (hv : W ρ θ y v) (ht : W ρ θ z t) {l : List (DV × St)} (h : entryStoreD x y z s = .ok l) : UOk ρ θ s w l ((Instr.entryStore T u v t).run P w) := by
  unfold entryStoreD at h
  split at h <;> try exact (fail_ok h).elim
  rename_i n ver' i
  split at h <;> try exact (fail_ok h).elim
  rename_i es ver hm
  obtain ⟨hc, h'⟩ := cond_fail h
  clear h
  simp only [Bool.and_eq_true] at hc
  obtain rfl := nbeq hc.1
  have hi := nblt hc.2
  obtain ⟨L, V, ms, hL, rfl, hV, hVb, hb, hp, hE, hnd, hlt⟩ := map_res hs hm hu
  simp only [W] at hv
  obtain ⟨V', hV', rfl⟩ := hv
  obtain rfl := Option.some.inj (hV.symm.trans hV')
  rw [EW_length hE] at hi
  have e1 : V.ms[i]? = some V.ms[i] := List.getElem?_eq_getElem hi
  generalize V.ms[i] = e at e1
  rw [bornOf_get e1]
  obtain ⟨j, hj1, hj2⟩ := List.getElem_of_mem (hp.mem_iff.2 (List.mem_of_getElem? e1))
  have p2 : ms[j]? = some e := by rw [List.getElem?_eq_getElem hj1, hj2]
  have hnd2 : (ms.map (·.born)).Nodup := (hp.map _).nodup_iff.2 hnd
  obtain ⟨s', θ', rfl, g, _, _⟩ := setMap_sound hs (mapAt_some hm) hL h' hb (c := V.sz) (ms' := ms.set j { e with val := t }) (perm_set _ hp p2 e1) (EW_put hE e1 rfl ht)
      (by rw [map_set_same (f := (·.born)) (x := { e with val := t }) e1 rfl]; exact hnd) (fun e2 he2 => by
        rcases List.mem_or_eq_of_mem_set he2 with h | rfl
        · exact hlt _ h
        · exact hlt e (List.mem_of_getElem? e1))
  refine ⟨_, _, _, _, .head _, g, rfl, ?_⟩
  have hint : (asInt (.int .i64 (e.born : Int))).run P w = .ok (e.born : Int) w := by simp [asInt, asIntOf]
  have hfi : ms.toArray.findIdx? (fun e' => (e'.born : Int) == (e.born : Int)) = some j := by
    rw [List.findIdx?_toArray]; exact findIdx_born hnd2 p2
  simp only [Instr.entryStore, Sem.run_bind, Result.andThen, Go.Z.run_getObj_map hb, hint, hfi, run_setObj hb]
  rw [modify_set _ p2]

theorem rangeD_sound (hs : Sat ρ θ s w) {T : Nat} {x : DV} {u : Value} (hu : W ρ θ x u) {l : List (DV × St)} (h : rangeD P T x s = .ok l) : LOk ρ θ s w l ((Instr.range T u).run P w) := by
  unfold rangeD at h
  split at h <;> try exact (fail_ok h).elim
  · rename_i kt vt hT
    simp only [W] at hu; subst hu
    obtain ⟨n, s', h1, rfl⟩ := newOb_ok h
    obtain ⟨g1, rfl, g3⟩ := hs.add h1 (sz := 1) (ob := .mapIter none 0 #[] 0) (w1 := w.alloc (.mapIter none 0 #[] 0)) (fun θ' w' hx hw' => hw') (below_alloc _ _) (heap_alloc _ _)
    refine ⟨_, _, _, .pointer (some ⟨w.heap.size, 0, none⟩), _, .head _, g1, W_p0 g3, ?_⟩
    simp only [Instr.range, Sem.run_bind, run_underlying hT, Result.andThen]
    rfl
  · rename_i kt vt m hT
    split at h <;> try exact (fail_ok h).elim
    rename_i es ver hm
    obtain ⟨L, V, ms, hL, rfl, hV, hVb, hb, hp, hE, hnd, hlt⟩ := map_res hs hm hu
    obtain ⟨n, s', h1, rfl⟩ := newOb_ok h
    obtain ⟨g1, rfl, g3⟩ := hs.add h1 (sz := 1) (ob := .mapIter (some L.b) V.sz #[] V.sz) (w1 := w.alloc (.mapIter (some L.b) V.sz #[] V.sz)) (fun θ' w' hx hw' => ⟨V, hx _ _ hV, [], by rw [hVb]; exact hw', by simp, fun i hi => by cases hi⟩) (below_alloc _ _) (heap_alloc _ _)
    refine ⟨_, _, _, .pointer (some ⟨w.heap.size, 0, none⟩), _, .head _, g1, W_p0 g3, ?_⟩
    simp only [Instr.range, Sem.run_bind, run_underlying hT, Result.andThen, Go.Z.run_getObj_map hb]
    rfl

theorem memN_iff {b : Nat} : ∀ {l : List Nat}, memN b l = true ↔ b ∈ l
  | [] => by simp [memN]
  | c :: l => by
    simp only [memN, Bool.or_eq_true, memN_iff (l := l), List.mem_cons]
    constructor
    · rintro (h | h)
      · exact .inl (nbeq h).symm
      · exact .inr h
    · rintro (h | h)
      · left; subst h; exact Nat.beq_refl _
      · exact .inr h
theorem insN_perm (b : Nat) : ∀ l : List Nat, (insN b l).Perm (b :: l)
  | [] => .refl _
  | c :: l => by
    unfold insN
    cases Nat.ble b c with
    | true => exact .refl _
    | false => exact (List.Perm.cons c (insN_perm b l)).trans (List.Perm.swap b c l)
theorem allN_spec {p : Nat → Bool} : ∀ {l : List Nat}, allN p l = true → ∀ i ∈ l, p i = true
  | [], _, i, h => by cases h
  | j :: l, h, i, hi => by
    simp only [allN, Bool.and_eq_true] at h
    rcases List.mem_cons.1 hi with rfl | hi
    · exact h.1
    · exact allN_spec h.2 i hi

theorem nextsD_mem {n : Nat} {m : Nat × Nat} {seen : List Nat} {s : St} : ∀ {l : List (DV × DV)} {i : Nat} {r : List (DV × St)}, nextsD n m seen s l i = .ok r →
    (∀ j k v, l[j]? = some (k, v) → memN (i + j) seen = false → ∃ s', s.set n (.it (some m) (insN (i + j) seen) (some (i + j))) = .ok s' ∧ (.t [.c (.bool true), k, v], s') ∈ r) ∧ ((∀ j, j < l.length → memN (i + j) seen = true) → r = [])
  | [], i, r, h => by
    cases h
    exact ⟨fun j k v hj => by simp at hj, fun _ => rfl⟩
  | (k0, v0) :: l, i, r, h => by
    unfold nextsD at h
    split at h <;> try (cases h; done)
    rename_i r' hr'
    obtain ⟨g1, g2⟩ := nextsD_mem hr'
    have shift : ∀ j, i + 1 + j = i + (j + 1) := fun j => by omega
    cases hm : memN i seen with
    | true =>
      rw [hm] at h
      cases h
      refine ⟨fun j k v hj hn => ?_, fun hall => g2 fun j hj => by rw [shift]; exact hall (j + 1) (by simp; omega)⟩
      cases j with
      | zero => rw [Nat.add_zero, hm] at hn; cases hn
      | succ j => rw [← shift] at hn ⊢; exact g1 j k v (by simpa using hj) hn
    | false =>
      rw [hm] at h
      simp only [_root_.cond_false] at h
      split at h <;> cases h
      rename_i s' hs'
      refine ⟨fun j k v hj hn => ?_, fun hall => ?_⟩
      · cases j with
        | zero =>
          simp at hj
          obtain ⟨rfl, rfl⟩ := hj
          exact ⟨s', hs', .head _⟩
        | succ j =>
          rw [← shift] at hn ⊢
          obtain ⟨s2, q1, q2⟩ := g1 j k v (by simpa using hj) hn
          exact ⟨s2, q1, .tail _ q2⟩
      · have := hall 0 (by simp)
        rw [Nat.add_zero, hm] at this; cases this

theorem itAt_some {n : Nat} {m : Option (Nat × Nat)} {seen : List Nat} {last : Option Nat} (h : itAt s n = some (m, seen, last)) : s.get n = some (.it m seen last) := by
  unfold itAt at h
  split at h <;> cases h
  assumption

theorem born_inj {ms : List MapEntry} (hnd : (ms.map (·.born)).Nodup) {i j : Nat} {e e' : MapEntry} (h1 : ms[i]? = some e) (h2 : ms[j]? = some e') (h : e.born = e'.born) : i = j := by
  have hi := get_lt h1
  have hj := get_lt h2
  have h3 := (List.getElem?_eq_some_iff.1 h1).2
  have h4 := (List.getElem?_eq_some_iff.1 h2).2
  have hpw := List.pairwise_iff_getElem.1 hnd
  rcases Nat.lt_trichotomy i j with hlt | rfl | hlt
  · have := hpw i j (by simpa using hi) (by simpa using hj) hlt
    rw [List.getElem_map, List.getElem_map, h3, h4] at this
    exact absurd h this
  · rfl
  · have := hpw j i (by simpa using hj) (by simpa using hi) hlt
    rw [List.getElem_map, List.getElem_map, h3, h4] at this
    exact absurd h.symm this

theorem nextD_sound (hs : Sat ρ θ s w) {x : DV} {u : Value} (hu : W ρ θ x u) {l : List (DV × St)} (h : nextD x s = .ok l) (T : Nat) : LOk ρ θ s w l ((Instr.next u false T).run P w) := by
  unfold nextD at h
  split at h <;> try exact (fail_ok h).elim
  rename_i n o
  obtain ⟨h0, h'⟩ := cond_fail h
  clear h
  rw [Lin.eqb_eq h0] at hu
  simp only [W, ev_lit] at hu
  obtain ⟨L, hL, _, rfl⟩ := hu
  have over : W ρ θ (.t [.c (.bool false)]) (.tuple #[.bool false]) := by
    simp only [W]
    exact ⟨[.bool false], rfl, by simp only [WL]; exact ⟨W_bool _, trivial⟩⟩
  split at h' <;> try exact (fail_ok h').elim
  · rename_i seen last hit
    cases h'
    obtain ⟨L', hL', hb⟩ := hs.res n _ (itAt_some hit)
    obtain rfl := Option.some.inj (hL.symm.trans hL')
    have hb : w.heap[L.b]? = some (.mapIter none 0 #[] 0) := hb
    refine ⟨_, _, θ, .tuple #[.bool false], w, .head _, Gon.refl hs, over, ?_⟩
    show (Instr.next (.pointer (some ⟨L.b, 0, none⟩)) false T).run P w = _
    simp only [Instr.next, Sem.run_bind, run_getObj_it hb, Result.andThen, Sem.run_pure]
  · rename_i m ver seen last hit
    split at h' <;> try exact (fail_ok h').elim
    rename_i es ver' hm
    obtain ⟨hc, h''⟩ := cond_fail h'
    clear h'
    simp only [Bool.and_eq_true] at hc
    obtain rfl := nbeq hc.1
    have hlen := allN_spec hc.2
    obtain ⟨L', hL', V, hV, sn, hbi, hsn, hlast⟩ := hs.res n _ (itAt_some hit)
    obtain rfl := Option.some.inj (hL.symm.trans hL')
    obtain ⟨Lm, hLm, V', hV', hVb, ms, hbm, hp, hE, hnd, hlt⟩ := hs.res m _ (mapAt_some hm)
    obtain rfl := Option.some.inj (hV.symm.trans hV')
    rw [← hVb] at hbm
    have hpb : ∀ e ∈ ms, e.born < V.sz := fun e he => hlt e (hp.mem_iff.1 he)
    have hes := EW_length hE
    -- which are left
    have hnot : (!sn.toArray.isEmpty && !ms.toArray.isEmpty && ms.toArray.all (fun e => decide (e.born ≥ V.sz))) = false := by
      rw [Bool.eq_false_iff]
      intro ht
      simp only [Bool.and_eq_true, Bool.not_eq_true', Array.all_eq_true] at ht
      obtain ⟨⟨_, h2⟩, h3⟩ := ht
      have hne : 0 < ms.toArray.size := by
        rcases Nat.eq_zero_or_pos ms.toArray.size with h | h
        · simp [Array.isEmpty] at h2; simp [h2] at h
        · exact h
      have h4 := of_decide_eq_true (h3 0 hne)
      have h5 := hpb ms.toArray[0] (by simp)
      omega
    have hold : (ms.toArray.filter fun e => !sn.toArray.contains e.born).filter (fun e => decide (e.born < V.sz)) = ms.toArray.filter fun e => !sn.toArray.contains e.born := by
      rw [Array.filter_filter]
      apply Array.ext'
      simp only [Array.toList_filter]
      apply List.filter_congr
      intro e he
      simp [hpb e he]
    have hnew : (ms.toArray.filter fun e => !sn.toArray.contains e.born).filter (fun e => decide (e.born ≥ V.sz)) = #[] := by
      rw [Array.filter_filter]
      apply Array.ext'
      simp only [Array.toList_filter, List.filter_eq_nil_iff]
      intro e he
      have := hpb e he
      simp
      omega
    generalize hleft : (ms.toArray.filter fun e => !sn.toArray.contains e.born) = left at hold hnew
    have hrun : (Instr.next (.pointer (some ⟨L.b, 0, none⟩)) false T).run P w =
        ((choose (.mapNext ((if left.isEmpty then #[none] else #[]) ++ left.map some).size)).run P w).andThen fun i w1 => (match ((if left.isEmpty then #[none] else #[]) ++ left.map some)[i]? with
          | some (some e) => (do setObj L.b (.mapIter (some V.b) V.sz (sn.toArray.push e.born) V.sz); pure (.tuple #[.bool true, e.key, e.val]) : Sem Value)
          | some none => pure (.tuple #[.bool false])
          | none => stuck "Next: no such candidate").run P w1 := by
      simp only [Instr.next, Sem.run_bind, run_getObj_it hbi, Result.andThen, Go.Z.run_getObj_map hbm, hnot, Bool.false_eq_true, if_false, hleft, hold, hnew, Array.append_empty]
      rfl
    have hmemsn : ∀ b, sn.toArray.contains b = true ↔ ∃ i ∈ seen, bornOf V.ms i = b := fun b => by
      rw [List.contains_toArray, List.contains_iff_mem, hsn.mem_iff, List.mem_map]
    show LOk ρ θ s w l ((Instr.next (.pointer (some ⟨L.b, 0, none⟩)) false T).run P w)
    cases hns : nextsD n (m, ver) seen s es 0 with
    | error e => rw [hns] at h''; cases h''
    | ok r =>
      obtain ⟨m1, m2⟩ := nextsD_mem hns
      simp only [Nat.zero_add] at m1 m2
      rw [hns] at h''
      by_cases hle : left = #[]
      · subst hle
        have hr : r = [] := m2 fun j hj => by
          rw [hes] at hj
          have hje : V.ms[j]? = some V.ms[j] := List.getElem?_eq_getElem hj
          generalize V.ms[j] = e at hje
          have hin : e ∈ ms := hp.mem_iff.2 (List.mem_of_getElem? hje)
          cases hcn : sn.toArray.contains e.born with
          | false =>
            have : e ∈ ms.toArray.filter fun e => !sn.toArray.contains e.born := by
              rw [Array.mem_filter]
              exact ⟨by simpa using hin, by rw [hcn]; rfl⟩
            rw [hleft] at this
            simp at this
          | true =>
            obtain ⟨i, hi, hb⟩ := (hmemsn _).1 hcn
            have hil : i < V.ms.length := by rw [← hes]; exact nblt (hlen i hi)
            rw [bornOf_get (List.getElem?_eq_getElem hil)] at hb
            rw [← born_inj hnd (List.getElem?_eq_getElem hil) hje hb]
            exact memN_iff.2 hi
        subst hr
        cases h''
        refine ⟨_, _, θ, .tuple #[.bool false], w, .head _, Gon.refl hs, over, ?_⟩
        rw [hrun]
        have e1 : ((if (#[] : Array MapEntry).isEmpty = true then (#[none] : Array (Option MapEntry)) else #[]) ++ Array.map some #[]) = #[none] := by simp
        rw [e1]
        show ((Sem.choose (.mapNext 1) Sem.pure).run P w).andThen _ = _
        rfl
      · have hpos : 0 < left.size := by
          rcases Nat.eq_zero_or_pos left.size with h | h
          · exact absurd (Array.eq_empty_of_size_eq_zero h) hle
          · exact h
        have hemp : left.isEmpty = false := by
          simp only [Array.isEmpty, decide_eq_false_iff_not]
          omega
        obtain ⟨i, w1, hi, hw1, hch⟩ := run_choose_next (P := P) left.size w hpos
        have hmem : left[i] ∈ ms.toArray.filter fun e => !sn.toArray.contains e.born := by
          rw [hleft]; simp
        rw [Array.mem_filter] at hmem
        obtain ⟨hin, hnsn⟩ := hmem
        generalize hee : left[i] = e at hin hnsn
        obtain ⟨j, hj, hje⟩ := List.getElem_of_mem (hp.mem_iff.1 (by simpa using hin))
        have hjv : V.ms[j]? = some e := by rw [List.getElem?_eq_getElem hj, hje]
        have hjs : memN j seen = false := by
          cases hb : memN j seen with
          | false => rfl
          | true =>
            have : sn.toArray.contains e.born = true := (hmemsn _).2 ⟨j, memN_iff.1 hb, bornOf_get hjv⟩
            rw [this] at hnsn; cases hnsn
        have hje2 : es[j]? = some es[j] := List.getElem?_eq_getElem (by rw [hes]; exact hj)
        obtain ⟨k, v, hkv⟩ : ∃ k v, es[j]? = some (k, v) := ⟨_, _, hje2⟩
        obtain ⟨e', r1, r2, r3⟩ := EW_get hE hkv
        obtain rfl : e = e' := by rw [hjv] at r1; exact Option.some.inj r1
        obtain ⟨s', hset, hin'⟩ := m1 j k v hkv hjs
        have hl : l = r := by
          cases r with
          | nil => cases hin'
          | cons a b => cases h''; rfl
        subst hl
        have hbw : w1.heap = w.heap := by rcases hw1 with rfl | rfl <;> rfl
        have hlt' := (Array.getElem?_eq_some_iff.1 hbi).1
        have hpush : sn.toArray.push e.born = (sn ++ [e.born]).toArray := by simp
        refine ⟨_, s', θ, .tuple #[.bool true, e.key, e.val], { w1 with heap := w1.heap.setIfInBounds L.b (.mapIter (some V.b) V.sz (sn.toArray.push e.born) V.sz) }, hin', ?_, ?_, ?_⟩
        · refine hs.turn (itAt_some hit) hL hset (by simp [hbw]) (by rcases hw1 with rfl | rfl <;> exact ⟨rfl, rfl, rfl⟩) (fun b hne => by simp [hbw, Ne.symm hne]) ⟨V, hV, sn ++ [e.born], ?_, ?_, fun i' hi' => ?_⟩
          · rw [← hpush]
            simp [hbw, hlt']
          · have h1 := (insN_perm j seen).map (bornOf V.ms)
            simp only [List.map_cons, bornOf_get hjv] at h1
            refine List.Perm.trans ?_ h1.symm
            exact (List.perm_append_comm).trans (by simpa using hsn)
          · cases hi'
            exact ⟨hj, by rw [bornOf_get hjv]; simp⟩
        · simp only [W]
          exact ⟨[.bool true, e.key, e.val], rfl, by simp only [WL]; exact ⟨W_bool _, r2, r3, trivial⟩⟩
        · rw [hrun, hemp]
          have hsz : ((if false = true then #[none] else #[]) ++ left.map some).size = left.size := by simp
          rw [hsz, hch]
          have hget : ((if false = true then (#[none] : Array (Option MapEntry)) else #[]) ++ left.map some)[i]? = some (some e) := by
            simp [hi, hee]
          simp only [Result.andThen, hget, Sem.run_bind, run_setObj_it (show w1.heap[L.b]? = _ from by rw [hbw]; exact hbi)]
          rfl

theorem entryD_sound (hs : Sat ρ θ s w) {x : DV} {u : Value} (hu : W ρ θ x u) {l : List (DV × St)} (h : entryD x s = .ok l) : LOk ρ θ s w l ((Instr.entry u).run P w) := by
  unfold entryD at h
  split at h <;> try exact (fail_ok h).elim
  rename_i n o
  obtain ⟨h0, h'⟩ := cond_fail h
  clear h
  rw [Lin.eqb_eq h0] at hu
  simp only [W, ev_lit] at hu
  obtain ⟨L, hL, _, rfl⟩ := hu
  split at h' <;> try exact (fail_ok h').elim
  rename_i m ver seen i hit
  split at h' <;> try exact (fail_ok h').elim
  rename_i es ver' hm
  obtain ⟨hc, h''⟩ := cond_fail h'
  clear h'
  obtain rfl := nbeq hc
  split at h'' <;> try exact (fail_ok h'').elim
  rename_i k v hkv
  obtain ⟨s', hset, rfl⟩ := setOb_ok h''
  obtain ⟨L', hL', V, hV, sn, hbi, hsn, hlast⟩ := hs.res n _ (itAt_some hit)
  obtain rfl := Option.some.inj (hL.symm.trans hL')
  obtain ⟨Lm, hLm, V', hV', hVb, ms, hbm, hp, hE, hnd, hlt⟩ := hs.res m _ (mapAt_some hm)
  obtain rfl := Option.some.inj (hV.symm.trans hV')
  rw [← hVb] at hbm
  obtain ⟨e, r1, r2, r3⟩ := EW_get hE hkv
  obtain ⟨hil, hback⟩ := hlast i rfl
  rw [bornOf_get r1] at hback
  obtain ⟨j, hj, hje⟩ := List.getElem_of_mem (hp.mem_iff.2 (List.mem_of_getElem? r1))
  have hfind : ms.find? (fun e' => e'.born == e.born) = some e := by
    have hin : e ∈ ms := hp.mem_iff.2 (List.mem_of_getElem? r1)
    have hnd2 : (ms.map (·.born)).Nodup := (hp.map _).nodup_iff.2 hnd
    clear hbm hp hje hj
    induction ms with
    | nil => cases hin
    | cons a ms ih =>
      simp only [List.map_cons, List.nodup_cons] at hnd2
      rcases List.mem_cons.1 hin with rfl | hin
      · simp
      · rw [List.find?_cons_of_neg]
        · exact ih hin hnd2.2
        · intro hh
          have hh : a.born = e.born := by simpa using hh
          exact hnd2.1 (by rw [hh]; exact List.mem_map.2 ⟨e, hin, rfl⟩)
  refine ⟨_, s', θ, .tuple #[e.key, e.val], w, .head _, ?_, ?_, ?_⟩
  · exact hs.turn (itAt_some hit) hL hset rfl ⟨rfl, rfl, rfl⟩ (fun _ _ => rfl) ⟨V, hV, sn, hbi, hsn, fun i' hi' => by cases hi'⟩
  · simp only [W]
    exact ⟨[e.key, e.val], rfl, by simp only [WL]; exact ⟨r2, r3, trivial⟩⟩
  · show (Instr.entry (.pointer (some ⟨L.b, 0, none⟩))).run P w = _
    have hb2 : sn.toArray.back? = some e.born := by simpa using hback
    have hf2 : ms.toArray.find? (fun e' => e'.born == e.born) = some e := by simpa using hfind
    simp [Instr.entry, Sem.run_bind, run_getObj_it hbi, Result.andThen, Go.Z.run_getObj_map hbm, hb2, hf2]
end
end
end Go.Q

