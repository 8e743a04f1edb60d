/- The operations that only read: what 'stepQ' says is what the run does. -/
import Derived.Test.YtonfaeenoifomaaZ5
namespace Go.Z
open Go.RowKit

theorem V_c (θ : Th) (v : Value) : V θ (.c v) v := by simp only [V]
theorem V_b (θ : Th) (t : Bool) : V θ (.b t) (.bool t) := by simp only [V]

theorem run_ptr_nil {P : Program} {T e : Nat} (hT : P.underlying T = some (.pointer e)) (a : Addr) (w : World) :
    (binOp .eql T (.pointer (some a)) (.pointer none)).run P w = .ok (.bool false) w ∧ (binOp .neq T (.pointer (some a)) (.pointer none)).run P w = .ok (.bool true) w := by
  have h : (Op.equal T (.pointer (some a)) (.pointer none)).run P w = .ok false w := by
    show (Op.equalIn (9999 + 1) T (.pointer (some a)) (.pointer none)).run P w = .ok false w
    unfold Op.equalIn
    simp only [Sem.run_bind, run_underlying hT, Result.andThen]
    rfl
  have h1 : binOp .eql T (.pointer (some a)) (.pointer none) = (do pure (.bool (← Op.equal T (.pointer (some a)) (.pointer none)))) := rfl
  have h2 : binOp .neq T (.pointer (some a)) (.pointer none) = (do pure (.bool (!(← Op.equal T (.pointer (some a)) (.pointer none))))) := rfl
  rw [h1, h2]
  simp only [Sem.run_bind, h, Result.andThen]
  exact ⟨rfl, rfl⟩

section
variable {P : Program} {K : Ctx} {θ : Th} {h : List (Nat × R)} {nx : Nat} {w : World}

theorem fieldAddrQ_sound {S f : Nat} {s : SV} {v : Value} {k : SV → Prop} (hv : V θ s v) (hq : fieldAddrQ (fldT P S f) s k) :
    ∃ r v', k r ∧ V θ r v' ∧ ∀ w', (Instr.fieldAt S v f).run P w' = .ok v' w' := by
  unfold fieldAddrQ at hq
  split at hq
  · rename_i off n o hf
    simp only [V] at hv
    obtain ⟨L, hL, rfl⟩ := hv
    exact ⟨_, _, hq, by simp only [V]; exact ⟨L, hL, rfl⟩, fun w' => by rw [run_fieldAt hf]; congr 1; simp [Nat.add_assoc]⟩
  · rename_i off n es i o hf
    simp only [V] at hv
    obtain ⟨L, hL, hi, rfl⟩ := hv
    exact ⟨_, _, hq, by simp only [V]; exact ⟨L, hL, hi, rfl⟩, fun w' => by rw [run_fieldAt hf]; congr 1; simp [Nat.add_assoc]⟩
  · exact hq.elim

theorem ldBlk_sound {T : Nat} {l : List SV} {o : Nat} {r : SV} {cs : List Value} (hl : VL θ l cs) (hq : ldBlk P T l o = some r) :
    ∃ v, V θ r v ∧ ∀ (w' : World) (b : Nat), (∀ j u, cs[j]? = some u → w'.cell? ⟨b, j, none⟩ = some u) → (loadVar T ⟨b, o, none⟩).run P w' = .ok v w' := by
  unfold ldBlk at hq
  split at hq
  · rename_i s hT
    cases hc : Nat.ble (o + s) l.length with
    | false => rw [hc] at hq; cases hq
    | true =>
      rw [hc] at hq; cases hq
      have hlen := VL_length hl
      have hle := nble hc
      refine ⟨.agg ((cs.drop o).take s).toArray, by simp only [V]; exact ⟨_, rfl, VL_take s (VL_drop o hl)⟩, fun w' b hb => run_loadVar_agg hT w' b o _ (by simp; omega) fun j v hj => ?_⟩
      rw [List.getElem?_take] at hj
      split at hj <;> try (cases hj; done)
      rw [List.getElem?_drop] at hj
      exact hb _ _ hj
  · rename_i s hT
    obtain ⟨v, h1, h2⟩ := VL_get hl hq
    exact ⟨v, h2, fun w' b hb => run_loadVar_one hT w' b o v (hb _ _ h1)⟩
  · cases hq

/-- The blocks that a value's reading looks at are as they were. -/
def rdB (θ : Th) : SV → Nat → Prop
  | .p n _, b => ∃ L, θ n = some L ∧ L.b = b
  | .e n _ _ _, b => ∃ L, θ n = some L ∧ L.len ≠ 0 ∧ L.b = b
  | .a n, b => ∃ L, θ n = some L ∧ L.len ≠ 0 ∧ L.b = b
  | .m n, b => ∃ L, θ n = some L ∧ L.b = b
  | .q n, b => ∃ L, θ n = some L ∧ L.b = b
  | _, _ => False
def Rd (θ : Th) (s : SV) (w w' : World) : Prop := ∀ b, b < w.heap.size → rdB θ s b → w'.heap[b]? = w.heap[b]?
theorem Rd.of_below {w' : World} (hb : Below w.heap.size w w') (s : SV) : Rd θ s w w' := fun b h _ => hb.block b h

theorem loadQ_sound (hs : SatH K θ h nx w) {T : Nat} {s : SV} {v : Value} {k : HK} (hv : V θ s v) (hq : loadQ P T s h nx k) :
    ∃ r h' nx' θ' v', k r h' nx' ∧ Grows K θ θ' nx nx' h' w ∧ V θ' r v' ∧ ∀ w', Rd θ s w w' → (Instr.loadAt T v).run P w' = .ok v' w' := by
  unfold loadQ at hq
  split at hq
  · rename_i n o
    simp only [V] at hv
    obtain ⟨L, hL, rfl⟩ := hv
    have blk : ∀ {T' : Nat} {l : List SV} {r : SV} {cs : List Value}, ldBlk P T l o = some r → L.a = some ⟨L.b, 0, none⟩ → w.heap[L.b]? = some (.cells cs.toArray T' (0, 0)) → VL θ l cs → k r h nx →
        ∃ r h' nx' θ' v', k r h' nx' ∧ Grows K θ θ' nx nx' h' w ∧ V θ' r v' ∧ ∀ w', Rd θ (.p n o) w w' → (Instr.loadAt T (.pointer (some ⟨L.b, L.o + o, none⟩))).run P w' = .ok v' w' := by
      intro T' l r cs hr hb1 hb2 hb3 hk
      obtain ⟨v', h1, h2⟩ := ldBlk_sound hb3 hr
      refine ⟨_, _, _, θ, v', hk, .refl hs, h1, fun w' hw' => ?_⟩
      have ho : L.o = 0 := by unfold Loc.o; rw [hb1]
      have := h2 w' L.b (fun j u hj => by
        have hlt : L.b < w.heap.size := (Array.getElem?_eq_some_iff.1 hb2).1
        rw [cell_eq (hw' _ hlt ⟨L, hL, rfl⟩), cell_of_cells hb2]; exact hj)
      simpa [Instr.loadAt, Instr.sureAddr, ho] using this
    split at hq <;> try exact hq.elim
    · rename_i T' l hf
      split at hq <;> try exact hq.elim
      rename_i r hr
      obtain ⟨L', hL', cs, hb1, hb2, hb3⟩ := hs.res n _ hf
      obtain rfl := Option.some.inj (hL.symm.trans hL')
      exact blk hr hb1 hb2 hb3 hq
    · rename_i T' l hf
      split at hq <;> try exact hq.elim
      rename_i r hr
      obtain ⟨L', hL', cs, hb1, _, hb2, hb3⟩ := hs.res n _ hf
      obtain rfl := Option.some.inj (hL.symm.trans hL')
      exact blk hr hb1 hb2 hb3 hq
  · rename_i n
    split at hq <;> try exact hq.elim
    rename_i T' kk xs hf
    split at hq <;> try exact hq.elim
    rename_i s hT
    obtain ⟨hlen, hk⟩ := hq
    simp only [V] at hv
    obtain ⟨L, hL, hLL, rfl⟩ := hv
    have ho : L.o = 0 := by rw [hLL]; rfl
    obtain ⟨L', hL', hat, hw, _⟩ := hs.res n _ hf
    obtain rfl := Option.some.inj (hL.symm.trans hL')
    obtain ⟨e1, e2, e3⟩ := hat
    refine ⟨_, _, _, θ, .agg (xs.map (Value.int kk)).toArray, hk, .refl hs, by simp only [V], fun w' hw' => ?_⟩
    have := run_loadVar_agg (P := P) hT w' L.b 0 (xs.map (Value.int kk)) (by simp [hlen]) (fun j v hj => by
      rw [List.getElem?_map] at hj
      cases hx : xs[j]? with
      | none => rw [hx] at hj; simp at hj
      | some z =>
        rw [hx] at hj; simp at hj; subst hj
        have h3 := e3 j z hx
        rw [ho] at h3
        rw [cell_eq (hw' _ (lt_of_cell h3) ⟨L, hL, rfl⟩)]; exact h3)
    simpa [Instr.loadAt, Instr.sureAddr] using this
  · rename_i n es i o
    split at hq <;> try exact hq.elim
    rename_i d hd
    obtain ⟨r, h', nx', θ', v', a1, a2, a3, b, o', e1, hb, a4⟩ := ldArr_sound hs hd hv hq
    subst e1
    simp only [V] at hv
    obtain ⟨L, g1, g0, g2⟩ := hv
    simp at g2
    refine ⟨r, h', nx', θ', v', a1, a2, a3, fun w' hw' => ?_⟩
    have := a4 w' (hw' b hb ⟨L, g1, by omega, g2.1.symm⟩)
    simpa [Instr.loadAt, Instr.sureAddr] using this
  · exact hq.elim

theorem binQ_sound {op : BinOp} {T : Nat} {s t : SV} {u v : Value} {k : SV → Prop} (hu : V θ s u) (hv : V θ t v) (hq : binQ P op T s t k) :
    ∃ r v', k r ∧ V θ r v' ∧ ∀ (x y : Operand) w', (do eqGuard op T x y u v; binOp op T u v : Sem Value).run P w' = .ok v' w' := by
  unfold binQ at hq
  split at hq
  · rename_i u' v' e1 e2
    split at hq <;> try exact hq.elim
    rename_i c r hr
    obtain rfl := V_scal e1 hu
    obtain rfl := V_scal e2 hv
    exact ⟨_, _, hq.2, V_c _ _, fun x y w' => binV_sound hr hq.1 x y w'⟩
  · split at hq
    · rename_i hT _
      simp only [V] at hu hv
      obtain ⟨L, _, rfl⟩ := hu
      subst hv
      refine ⟨_, .bool false, hq, V_b _ _, fun x y w' => ?_⟩
      rw [eqGuard_at_pointer]
      exact (run_ptr_nil hT _ w').1
    · rename_i hT _
      simp only [V] at hu hv
      obtain ⟨L, _, rfl⟩ := hu
      subst hv
      refine ⟨_, .bool true, hq, V_b _ _, fun x y w' => ?_⟩
      rw [eqGuard_at_pointer]
      exact (run_ptr_nil hT _ w').2
    · rename_i hT _
      simp only [V] at hu hv
      obtain ⟨L, _, _, rfl⟩ := hu
      subst hv
      refine ⟨_, .bool false, hq, V_b _ _, fun x y w' => ?_⟩
      rw [eqGuard_at_pointer]
      exact (run_ptr_nil hT _ w').1
    · rename_i hT _
      simp only [V] at hu hv
      obtain ⟨L, _, _, rfl⟩ := hu
      subst hv
      refine ⟨_, .bool true, hq, V_b _ _, fun x y w' => ?_⟩
      rw [eqGuard_at_pointer]
      exact (run_ptr_nil hT _ w').2
    · exact hq.elim

theorem run_nil_nil {P : Program} {T e : Nat} (hT : P.underlying T = some (.pointer e)) (w : World) :
    (binOp .eql T (.pointer none) (.pointer none)).run P w = .ok (.bool true) w ∧ (binOp .neq T (.pointer none) (.pointer none)).run P w = .ok (.bool false) w := by
  have h : (Op.equal T (.pointer none) (.pointer none)).run P w = .ok true w := by
    show (Op.equalIn (9999 + 1) T (.pointer none) (.pointer none)).run P w = .ok true w
    unfold Op.equalIn
    simp only [Sem.run_bind, run_underlying hT, Result.andThen]
    rfl
  have h1 : binOp .eql T (.pointer none) (.pointer none) = (do pure (.bool (← Op.equal T (.pointer none) (.pointer none)))) := rfl
  have h2 : binOp .neq T (.pointer none) (.pointer none) = (do pure (.bool (!(← Op.equal T (.pointer none) (.pointer none))))) := rfl
  rw [h1, h2]
  simp only [Sem.run_bind, h, Result.andThen]
  exact ⟨rfl, rfl⟩

theorem run_slice_nil {P : Program} {T e : Nat} (hT : P.underlying T = some (.slice e)) (a : Option Addr) (n c : Nat) (w : World) :
    (binOp .eql T (.slice a n c) (.slice none 0 0)).run P w = .ok (.bool a.isNone) w ∧ (binOp .neq T (.slice a n c) (.slice none 0 0)).run P w = .ok (.bool (!a.isNone)) w := by
  have h : (Op.equal T (.slice a n c) (.slice none 0 0)).run P w = .ok a.isNone w := by
    show (Op.equalIn (9999 + 1) T (.slice a n c) (.slice none 0 0)).run P w = .ok a.isNone w
    unfold Op.equalIn
    simp only [Sem.run_bind, run_underlying hT, Result.andThen]
    cases a <;> rfl
  have h1 : binOp .eql T (.slice a n c) (.slice none 0 0) = (do pure (.bool (← Op.equal T (.slice a n c) (.slice none 0 0)))) := rfl
  have h2 : binOp .neq T (.slice a n c) (.slice none 0 0) = (do pure (.bool (!(← Op.equal T (.slice a n c) (.slice none 0 0))))) := rfl
  rw [h1, h2]
  simp only [Sem.run_bind, h, Result.andThen]
  exact ⟨rfl, rfl⟩

theorem eqGuard_at_slice' (op : BinOp) (t : TypeId) (x y : Operand) (a : Option Addr) (n c : Nat) (v : Value) : eqGuard op t x y (.slice a n c) v = pure () := by cases op <;> rfl

theorem len_of_nil {L : Loc} {d : D} {X : Nat → Prop} {w : World} (hat : d.at X w L) (hw : L.wf) (ha : L.a.isNone = true) : d.len = 0 := by
  obtain ⟨e1, e2⟩ := D.at_len hat
  rcases hw with h | h
  · omega
  · rw [h] at ha; cases ha

theorem nilQ_sound (hs : SatH K θ h nx w) {op : BinOp} {T : Nat} {s t : SV} {u v : Value} {k : SV → Prop} {p : Prop} (hu : V θ s u) (hv : V θ t v) (hn : nilQ P op T s t h k = some p) (hq : p) :
    ∃ r v', k r ∧ V θ r v' ∧ ∀ (x y : Operand) w', (do eqGuard op T x y u v; binOp op T u v : Sem Value).run P w' = .ok v' w' := by
  unfold nilQ at hn
  split at hn <;> cases hn
  · rename_i hT; simp only [V] at hu hv; subst hu hv
    refine ⟨_, .bool true, hq, V_b _ _, fun x y w' => ?_⟩
    rw [eqGuard_at_pointer]
    exact (run_nil_nil hT w').1
  · rename_i hT; simp only [V] at hu hv; subst hu hv
    refine ⟨_, .bool false, hq, V_b _ _, fun x y w' => ?_⟩
    rw [eqGuard_at_pointer]
    exact (run_nil_nil hT w').2
  · rename_i hT; simp only [V] at hu hv; subst hu hv
    refine ⟨_, .bool true, hq, V_b _ _, fun x y w' => ?_⟩
    rw [eqGuard_at_slice']
    exact (run_slice_nil hT none 0 0 w').1
  · rename_i hT; simp only [V] at hu hv; subst hu hv
    refine ⟨_, .bool false, hq, V_b _ _, fun x y w' => ?_⟩
    rw [eqGuard_at_slice']
    exact (run_slice_nil hT none 0 0 w').2
  · rename_i n hT; simp only [V] at hu hv; subst hv
    obtain ⟨L, hL, rfl⟩ := hu
    unfold nilA at hq
    split at hq <;> try exact hq.elim
    rename_i d hd
    obtain ⟨L', hL', hat, hw⟩ := arrOf_sound hs hd
    obtain rfl := Option.some.inj (hL.symm.trans hL')
    refine ⟨_, .bool L.a.isNone, hq L.a.isNone (len_of_nil hat hw), V_c _ _, fun x y w' => ?_⟩
    rw [show L.val = .slice L.a L.len L.cap from rfl, eqGuard_at_slice']
    exact (run_slice_nil hT _ _ _ w').1
  · rename_i n hT; simp only [V] at hu hv; subst hv
    obtain ⟨L, hL, rfl⟩ := hu
    unfold nilA at hq
    split at hq <;> try exact hq.elim
    rename_i d hd
    obtain ⟨L', hL', hat, hw⟩ := arrOf_sound hs hd
    obtain rfl := Option.some.inj (hL.symm.trans hL')
    refine ⟨_, .bool (!L.a.isNone), hq (!L.a.isNone) (fun ht => len_of_nil hat hw (by simpa using ht)), V_c _ _, fun x y w' => ?_⟩
    rw [show L.val = .slice L.a L.len L.cap from rfl, eqGuard_at_slice']
    exact (run_slice_nil hT _ _ _ w').2

theorem mapOf_sound (hs : SatH K θ h nx w) {n : Nat} {ks vs : Col} (hm : mapOf h n = some (ks, vs)) {u : Value} (hu : V θ (.m n) u) :
    ∃ b es clock, u = .map (some b) ∧ (∃ L, θ n = some L ∧ L.b = b) ∧ w.heap[b]? = some (.map es clock) ∧ MapIs es clock ks vs := by
  simp only [V] at hu
  obtain ⟨L, hL, rfl⟩ := hu
  unfold mapOf at hm
  split at hm <;> cases hm
  · rename_i hf
    obtain ⟨L', hL', _, es, clock, h1, h2⟩ := hs.res n _ hf
    obtain rfl := Option.some.inj (hL.symm.trans hL')
    exact ⟨L.b, es, clock, rfl, ⟨L, hL, rfl⟩, h1, h2⟩
  · rename_i hf
    obtain ⟨L', hL', _, _, es, clock, h1, h2⟩ := hs.res n _ hf
    obtain rfl := Option.some.inj (hL.symm.trans hL')
    exact ⟨L.b, es, clock, rfl, ⟨L, hL, rfl⟩, h1, h2⟩

theorem run_getObj_map {b : Nat} {es : Array MapEntry} {clock : Nat} {w' : World} (h : w'.heap[b]? = some (.map es clock)) : (getObj b).run P w' = .ok (.map es clock) w' := by
  show (Sem.getObj b Sem.pure).run P w' = _
  simp only [Sem.run, h]

theorem keyKind_cases {kt : Nat} {ks : Col} (hk : keyKind P kt ks = true) : ∃ d, P.underlying kt = some d ∧ (d = .bool ∨ d = .string ∨ ∃ k, d = .int k) := by
  unfold keyKind at hk
  cases hd : P.underlying kt with
  | none => rw [hd] at hk; cases hk
  | some d =>
    rw [hd] at hk
    cases d <;> cases ks <;> simp at hk
    · exact ⟨_, rfl, .inl rfl⟩
    · exact ⟨_, rfl, .inr (.inr ⟨_, rfl⟩)⟩
    · exact ⟨_, rfl, .inr (.inl rfl)⟩

theorem run_checkKey {e : Bool} {kt : Nat} {ks : Col} (hk : keyKind P kt ks = true) (key : Value) (w' : World) : (Instr.checkKey e 10000 kt key).run P w' = .ok () w' := by
  obtain ⟨d, hd, hcs⟩ := keyKind_cases hk
  show (Instr.checkKey e (9999 + 1) kt key).run P w' = _
  unfold Instr.checkKey
  simp only [Sem.run_bind, run_underlying hd, Result.andThen]
  rcases hcs with rfl | rfl | ⟨k, rfl⟩ <;> rfl

theorem run_findKey {kt : Nat} {ks vs : Col} {key : Value} {o : Option Nat} {es : Array MapEntry} {clock : Nat} (hk : keyKind P kt ks = true) (ho : ks.idx key = some o) (hm : MapIs es clock ks vs) (w' : World) :
    (Instr.findKey kt key es.toList).run P w' = .ok (eget es o) w' := by
  obtain ⟨d, hd, _⟩ := keyKind_cases hk
  unfold Instr.findKey
  simp only [Sem.run_bind, run_underlying hd, Result.andThen, (findNow_col hd hk ho hm).1]
  rfl

theorem find_place {kt : Nat} {ks vs : Col} {key : Value} {j : Nat} {es : Array MapEntry} {clock : Nat} (hk : keyKind P kt ks = true) (ho : ks.idx key = some (some j)) (hm : MapIs es clock ks vs) :
    ∃ e, es[j]? = some e ∧ e.key = key ∧ ks.get? j = some key := by
  obtain ⟨d, hd, _⟩ := keyKind_cases hk
  have hj := (findNow_col hd hk ho hm).2 j rfl
  have hjs : j < es.size := by
    rw [hm.size]
    cases ks <;> simp only [Col.get?, Option.map_eq_some_iff] at hj <;> obtain ⟨z, hz, _⟩ := hj <;> exact (List.getElem?_eq_some_iff.1 hz).1
  have he := Array.getElem?_eq_getElem hjs
  refine ⟨_, he, ?_, hj⟩
  have := (hm.at_ j _ he).1
  rw [hj] at this
  exact (Option.some.inj this).symm

theorem zeroOk_sound {vt : Nat} {vs : Col} (hz : zeroOk P vt vs = true) (w' : World) : (zeroValue vt).run P w' = .ok (vs.getAt none) w' := by
  unfold zeroOk at hz
  split at hz <;> try (cases hz; done)
  rename_i i hi
  split at hz <;> try (cases hz; done)
  · rename_i k k' m hzv
    have := of_decide_eq_true hz
    subst this
    simp [zeroValue, run_typeInfo hi, hzv, Col.getAt, oget]
  · rename_i m hzv
    simp [zeroValue, run_typeInfo hi, hzv, Col.getAt, oget]
  · rename_i s m hzv
    have h1 := of_decide_eq_true hz
    have : s = ⟨#[]⟩ := by
      obtain ⟨a⟩ := s
      have h2 : a.toList = [] := h1
      congr 1
      exact Array.ext' h2
    subst this
    simp [zeroValue, run_typeInfo hi, hzv, Col.getAt, oget]

theorem getAt_some {ks vs : Col} {es : Array MapEntry} {clock j : Nat} {e : MapEntry} (hm : MapIs es clock ks vs) (he : es[j]? = some e) : vs.getAt (some j) = e.val := by
  have := (hm.at_ j e he).2
  cases vs <;> simp only [Col.get?] at this <;> simp only [Col.getAt, oget]
  all_goals
    rename_i l
    cases hl : l[j]? with
    | none => rw [hl] at this; cases this
    | some z => rw [hl] at this; simp at this; simp [this]

theorem lookupQ_sound (hs : SatH K θ h nx w) {T : Nat} {ok : Bool} {s t : SV} {u v : Value} {k : SV → Prop} (hu : V θ s u) (hv : V θ t v) (hq : lookupQ P T ok s t h k) :
    ∃ r v', k r ∧ V θ r v' ∧ ∀ w', Rd θ s w w' → (Instr.lookup T u v ok).run P w' = .ok v' w' := by
  unfold lookupQ at hq
  split at hq <;> try exact hq.elim
  rename_i kt vt n key hT hsc
  obtain rfl := V_scal hsc hv
  split at hq <;> try exact hq.elim
  rename_i ks vs hmo
  split at hq <;> try exact hq.elim
  rename_i o ho
  obtain ⟨hc, hk⟩ := cond_false hq
  simp only [Bool.and_eq_true] at hc
  obtain ⟨b, es, clock, rfl, hb0, hb, hm⟩ := mapOf_sound hs hmo hu
  have hlt := (Array.getElem?_eq_some_iff.1 hb).1
  have main : ∀ w', w'.heap[b]? = some (.map es clock) → (Instr.lookup T (.map (some b)) v ok).run P w' = .ok (if ok then .tuple #[vs.getAt o, .bool o.isSome] else vs.getAt o) w' := by
    intro w' hb'
    simp only [Instr.lookup, Sem.run_bind, run_underlying hT, Result.andThen, run_getObj_map hb', Sem.run_pure, run_checkKey hc.1, run_findKey hc.1 ho hm]
    cases o with
    | none =>
      simp only [eget, Sem.run_bind, zeroOk_sound hc.2, Result.andThen, Sem.run_pure]
      cases ok <;> rfl
    | some j =>
      obtain ⟨e, he, _, _⟩ := find_place hc.1 ho hm
      simp only [eget, he, getAt_some hm he]
      cases ok <;> rfl
  cases ok with
  | false =>
    exact ⟨_, _, hk, V_c _ _, fun w' hw' => by rw [main w' (by rw [hw' b hlt (by simpa only [rdB] using hb0)]; exact hb)]; rfl⟩
  | true =>
    refine ⟨_, .tuple #[vs.getAt o, .bool o.isSome], hk, ?_, fun w' hw' => by rw [main w' (by rw [hw' b hlt (by simpa only [rdB] using hb0)]; exact hb)]; rfl⟩
    show V θ (.tup [.c (vs.getAt o), .c (.bool o.isSome)]) _
    simp only [V]
    exact ⟨[vs.getAt o, .bool o.isSome], rfl, by simp [VL, V]⟩

theorem unQ_sound {op : UnOp} {s : SV} {u : Value} {k : SV → Prop} (hu : V θ s u) (hq : unQ op s k) :
    ∃ r v', k r ∧ V θ r v' ∧ ∀ w', (Op.unary op u).run P w' = .ok v' w' := by
  unfold unQ at hq
  split at hq <;> (try simp only [V] at hu) <;> (try subst hu)
  · exact ⟨_, _, hq, V_b _ _, fun w' => rfl⟩
  · exact ⟨_, _, hq, V_c _ _, fun w' => rfl⟩
  · exact ⟨_, _, hq, V_c _ _, fun w' => rfl⟩
  · exact ⟨_, _, hq, V_c _ _, fun w' => rfl⟩
  · exact hq.elim

theorem convQ_sound (hs : SatH K θ h nx w) {src dst : Nat} {s : SV} {u : Value} {k : SV → Prop} (hu : V θ s u) (hq : convQ P src dst s h k) :
    ∃ r v', k r ∧ V θ r v' ∧ ∀ w', Rd θ s w w' → (convert src dst u).run P w' = .ok v' w' := by
  unfold convQ at hq
  split at hq
  · rename_i h1 h2
    simp only [V] at hu; subst hu
    exact ⟨_, _, hq, V_c _ _, fun w' _ => by simp [convert, run_underlying h1, run_underlying h2, Conv.intToInt]⟩
  · rename_i h1 h2
    simp only [V] at hu; subst hu
    exact ⟨_, _, hq, V_c _ _, fun w' _ => by simp [convert, run_underlying h1, run_underlying h2]⟩
  · rename_i e h1 h2
    split at hq <;> try exact hq.elim
    rename_i h3
    simp only [V] at hu; subst hu
    refine ⟨_, _, hq, V_c _ _, fun w' _ => ?_⟩
    rw [run_convert_bytes_string w' src dst e none 0 0 h1 h3 h2]
    rfl
  · rename_i e n h1 h2
    split at hq <;> try exact hq.elim
    rename_i xs h3 h4
    simp only [V] at hu
    obtain ⟨L, hL, rfl⟩ := hu
    obtain ⟨L', hL', hd, hw⟩ := arrOf_sound hs h4
    obtain rfl := Option.some.inj (hL.symm.trans hL')
    refine ⟨_, _, hq, V_c _ _, fun w' hb => ?_⟩
    obtain ⟨e1, e2, e3⟩ := hd
    rw [show L.val = .slice L.a L.len L.cap from rfl, run_convert_bytes_string w' src dst e _ _ _ h1 h3 h2]
    exact run_bytes_string hw e1 e2 (fun i z hz => by rw [cell_eq (hb _ (lt_of_cell (e3 i z hz)) ⟨L, hL, by have := (List.getElem?_eq_some_iff.1 hz).1; omega, rfl⟩)]; exact e3 i z hz)
  · exact hq.elim

theorem extractQ_sound {i : Nat} {s : SV} {u : Value} {k : SV → Prop} (hu : V θ s u) (hq : extractQ i s k) :
    ∃ r v', k r ∧ V θ r v' ∧ ∀ w', (Instr.extract u i).run P w' = .ok v' w' := by
  unfold extractQ at hq
  split at hq <;> try exact hq.elim
  split at hq <;> try exact hq.elim
  rename_i r hr
  simp only [V] at hu
  obtain ⟨cs, rfl, hl⟩ := hu
  obtain ⟨v, h1, h2⟩ := VL_get hl hr
  exact ⟨r, v, hq, h2, fun w' => by simp [Instr.extract, h1]⟩

theorem fieldQ_sound {T f : Nat} {s : SV} {u : Value} {k : SV → Prop} (hu : V θ s u) (hq : fieldQ P T f s k) :
    ∃ r v', k r ∧ V θ r v' ∧ ∀ w', (Instr.field T u f).run P w' = .ok v' w' := by
  unfold fieldQ at hq
  split at hq <;> try exact hq.elim
  rename_i fs l hT
  split at hq <;> try exact hq.elim
  rename_i fl hf
  split at hq <;> try exact hq.elim
  rename_i r hr
  simp only [V] at hu
  obtain ⟨cs, rfl, hl⟩ := hu
  unfold ldBlk at hr
  split at hr
  · rename_i s hk
    cases hc : Nat.ble (fl.offset + s) l.length with
    | false => rw [hc] at hr; cases hr
    | true =>
      rw [hc] at hr; cases hr
      refine ⟨_, .agg ((cs.drop fl.offset).take s).toArray, hq, by simp only [V]; exact ⟨_, rfl, VL_take s (VL_drop _ hl)⟩, fun w' => ?_⟩
      obtain ⟨k1, k2⟩ := run_kind hk w'
      simp [Instr.field, run_underlying hT, hf, asAgg, part, k1, k2]
  · rename_i s hk
    obtain ⟨v, h1, h2⟩ := VL_get hl hr
    refine ⟨_, v, hq, h2, fun w' => ?_⟩
    obtain ⟨k1, _⟩ := run_kind hk w'
    simp [Instr.field, run_underlying hT, hf, asAgg, part, k1, h1]
  · cases hr

theorem indexAddrQ_sound (hs : SatH K θ h nx w) {T : Nat} {s t : SV} {u v : Value} {k : SV → Prop} (hu : V θ s u) (hv : V θ t v) (hq : indexAddrQ P T s t h k) :
    ∃ r v', k r ∧ V θ r v' ∧ ∀ w', (Instr.indexAt T u v).run P w' = .ok v' w' := by
  unfold indexAddrQ at hq
  split at hq
  · rename_i e n kk z hT
    split at hq <;> try exact hq.elim
    rename_i d g es hd hk
    obtain ⟨hc, hq1⟩ := cond_false hq
    obtain ⟨⟨hz0, hz1⟩, hq2⟩ := hq1
    simp only [V] at hu hv
    obtain ⟨L, hL, rfl⟩ := hu
    subst hv
    obtain ⟨L', hL', hat, hw⟩ := arrOf_sound hs hd
    obtain rfl := Option.some.inj (hL.symm.trans hL')
    obtain ⟨l1, l2⟩ := D.at_len hat
    have hlt : z.toNat < L.len := by omega
    have ha : L.a = some ⟨L.b, L.o, none⟩ := hw.resolve_left (by omega)
    refine ⟨_, .pointer (some ⟨L.b, L.o + (z.toNat * es + 0), none⟩), hq2, by simp only [V]; exact ⟨L, hL, hlt, rfl⟩, fun w' => ?_⟩
    obtain ⟨_, k2⟩ := run_kind hk w'
    have hin : 0 ≤ z ∧ z < (L.len : Int) := ⟨hz0, by omega⟩
    simp only [Loc.val, ha]
    simp [Instr.indexAt, asIntOf, run_underlying hT, k2, hin, add_mk]
  · rename_i len e n o kk z hT
    split at hq <;> try exact hq.elim
    rename_i g es hk
    simp only [V] at hu hv
    obtain ⟨L, hL, rfl⟩ := hu
    subst hv
    obtain ⟨⟨hz0, hz1⟩, hq2⟩ := hq
    refine ⟨_, _, hq2, by simp only [V]; exact ⟨L, hL, rfl⟩, fun w' => ?_⟩
    obtain ⟨_, k2⟩ := run_kind hk w'
    simp [Instr.indexAt, asIntOf, run_underlying hT, k2, hz0, hz1, Instr.sureAddr, add_mk, Nat.add_assoc]
  · rename_i len e n kk z hT
    split at hq <;> try exact hq.elim
    rename_i g es T' d hk hf
    obtain ⟨hc, hq1⟩ := cond_false hq
    obtain ⟨⟨hz0, hz1, hlen⟩, hq2⟩ := hq1
    have e1 := nbeq hc
    subst e1
    simp only [V] at hu hv
    obtain ⟨L, hL, hLL, rfl⟩ := hu
    subst hv
    have ho : L.o = 0 := by rw [hLL]; rfl
    obtain ⟨L', hL', hat, hw, _⟩ := hs.res n _ hf
    obtain rfl := Option.some.inj (hL.symm.trans hL')
    have l1 := (D.at_len hat).1
    refine ⟨_, .pointer (some ⟨L.b, L.o + (z.toNat * 1 + 0), none⟩), hq2, by simp only [V]; exact ⟨L, hL, by omega, rfl⟩, fun w' => ?_⟩
    obtain ⟨_, k2⟩ := run_kind hk w'
    simp [Instr.indexAt, asIntOf, run_underlying hT, k2, hz0, hz1, Instr.sureAddr, add_mk, ho]
  · exact hq.elim

theorem indexQ_sound {T : Nat} {s t : SV} {u v : Value} {k : SV → Prop} (hu : V θ s u) (hv : V θ t v) (hq : indexQ P T s t k) :
    ∃ r v', k r ∧ V θ r v' ∧ ∀ w', (Instr.index T u v).run P w' = .ok v' w' := by
  unfold indexQ at hq
  split at hq <;> try exact hq.elim
  rename_i str kk z hT
  obtain ⟨⟨hz0, hz1⟩, hq2⟩ := hq
  simp only [V] at hu hv
  subst hu hv
  refine ⟨_, _, hq2, V_c _ _, fun w' => ?_⟩
  have hlt : z.toNat < str.size := by omega
  have hlt' : z.toNat < str.data.toList.length := by simpa using hlt
  simp [Instr.index, asIntOf, run_underlying hT, hz0, ByteArray.getElem?_lt' str _ hlt, List.getD, List.getElem?_eq_getElem hlt']
  rfl

theorem lenQ_sound (hs : SatH K θ h nx w) {T : Option Nat} {s : SV} {u : Value} {k : SV → Prop} (hu : V θ s u) (hq : lenQ P T s h k) :
    ∃ r v', k r ∧ V θ r v' ∧ ∀ (ts : Array Nat) (ty : Nat) w', Rd θ s w w' ∨ (∀ n, s ≠ .m n) → ts[0]? = T → (Builtin.len_ ts ty #[u]).run P w' = .ok v' w' := by
  unfold lenQ at hq
  split at hq <;> try exact hq.elim
  rename_i t
  split at hq
  · rename_i hT
    simp only [V] at hu; subst hu
    exact ⟨_, _, hq, V_c _ _, fun ts ty w' hrd ht => by simp [Builtin.len_, ht, run_underlying hT, goInt]⟩
  · rename_i hT
    simp only [V] at hu; subst hu
    exact ⟨_, _, hq, V_c _ _, fun ts ty w' hrd ht => by simp [Builtin.len_, ht, run_underlying hT, goInt]⟩
  · rename_i hT
    simp only [V] at hu; subst hu
    exact ⟨_, _, hq, V_c _ _, fun ts ty w' _ ht => by simp [Builtin.len_, ht, run_underlying hT, goInt]⟩
  · rename_i n hT
    split at hq <;> try exact hq.elim
    rename_i ks vs hmo
    obtain ⟨b, es, clock, rfl, hb0, hb, hm⟩ := mapOf_sound hs hmo hu
    have hlt := (Array.getElem?_eq_some_iff.1 hb).1
    refine ⟨_, _, hq, V_c _ _, fun ts ty w' hrd ht => ?_⟩
    have hb' : w'.heap[b]? = some (.map es clock) := by
      rcases hrd with hrd | hrd
      · rw [hrd b hlt (by simpa only [rdB] using hb0)]; exact hb
      · exact absurd rfl (hrd n)
    simp [Builtin.len_, ht, run_underlying hT, run_getObj_map hb', goInt, hm.size]
  · rename_i n hT
    split at hq <;> try exact hq.elim
    rename_i d hd
    simp only [V] at hu
    obtain ⟨L, hL, rfl⟩ := hu
    obtain ⟨L', hL', hat, hw⟩ := arrOf_sound hs hd
    obtain rfl := Option.some.inj (hL.symm.trans hL')
    refine ⟨_, _, hq, V_c _ _, fun ts ty w' hrd ht => ?_⟩
    rw [← (D.at_len hat).1]
    simp [Builtin.len_, ht, run_underlying hT, goInt, Loc.val]
  · exact hq.elim
end
end Go.Z
