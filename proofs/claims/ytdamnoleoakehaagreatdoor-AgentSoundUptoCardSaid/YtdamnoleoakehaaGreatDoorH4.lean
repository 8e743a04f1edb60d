/- Part 4 of what the closing text rests on. -/
import Derived.Test.YtdamnoleoakehaaGreatDoorH3
namespace Go.Z
open Go.RowKit

theorem V_c (θ : Th) (v : Value) : V θ (.c v) v := by simp only [V]
theorem V_b (θ : Th) (t : Bool) : V θ (.b t) (.bool t) := by simp only [V]

theorem run_ptr_nil {P : Program} {T e : Nat} (hT : P.underlying T = some (.pointer e)) (a : Addr) (w : World) :
    (binOp .eql T (.pointer (some a)) (.pointer none)).run P w = .ok (.bool false) w ∧ (binOp .neq T (.pointer (some a)) (.pointer none)).run P w = .ok (.bool true) w := by
  have h : (Op.equal T (.pointer (some a)) (.pointer none)).run P w = .ok false w := by
    show (Op.equalIn (9999 + 1) T (.pointer (some a)) (.pointer none)).run P w = .ok false w
    unfold Op.equalIn
    simp only [Sem.run_bind, run_underlying hT, Result.andThen]
    rfl
  have h1 : binOp .eql T (.pointer (some a)) (.pointer none) = (do pure (.bool (← Op.equal T (.pointer (some a)) (.pointer none)))) := rfl
  have h2 : binOp .neq T (.pointer (some a)) (.pointer none) = (do pure (.bool (!(← Op.equal T (.pointer (some a)) (.pointer none))))) := rfl
  rw [h1, h2]
  simp only [Sem.run_bind, h, Result.andThen]
  exact ⟨rfl, rfl⟩

section
variable {P : Program} {K : Ctx} {θ : Th} {h : List (Nat × R)} {nx : Nat} {w : World}

theorem fieldAddrQ_sound {S f : Nat} {s : SV} {v : Value} {k : SV → Prop} (hv : V θ s v) (hq : fieldAddrQ (fldT P S f) s k) :
    ∃ r v', k r ∧ V θ r v' ∧ ∀ w', (Instr.fieldAt S v f).run P w' = .ok v' w' := by
  unfold fieldAddrQ at hq
  split at hq
  · rename_i off n o hf
    simp only [V] at hv
    obtain ⟨L, hL, rfl⟩ := hv
    exact ⟨_, _, hq, by simp only [V]; exact ⟨L, hL, rfl⟩, fun w' => by rw [run_fieldAt hf]; congr 1; simp [Nat.add_assoc]⟩
  · rename_i off n es i o hf
    simp only [V] at hv
    obtain ⟨L, hL, hi, rfl⟩ := hv
    exact ⟨_, _, hq, by simp only [V]; exact ⟨L, hL, hi, rfl⟩, fun w' => by rw [run_fieldAt hf]; congr 1; simp [Nat.add_assoc]⟩
  · rename_i off S' i b o hf
    simp only [V] at hv
    subst hv
    exact ⟨_, .pointer (some ⟨b, o + off, none⟩), hq, by simp only [V], fun w' => by rw [run_fieldAt hf]⟩
  · exact hq.elim

theorem ldBlk_sound {T : Nat} {l : List SV} {o : Nat} {r : SV} {cs : List Value} (hl : VL θ l cs) (hq : ldBlk P T l o = some r) :
    ∃ v, V θ r v ∧ ∀ (w' : World) (b : Nat), (∀ j u, cs[j]? = some u → w'.cell? ⟨b, j, none⟩ = some u) → (loadVar T ⟨b, o, none⟩).run P w' = .ok v w' := by
  unfold ldBlk at hq
  split at hq
  · rename_i s hT
    cases hc : Nat.ble (o + s) l.length with
    | false => rw [hc] at hq; cases hq
    | true =>
      rw [hc] at hq; cases hq
      have hlen := VL_length hl
      have hle := nble hc
      refine ⟨.agg ((cs.drop o).take s).toArray, by simp only [V]; exact ⟨_, rfl, VL_take s (VL_drop o hl)⟩, fun w' b hb => run_loadVar_agg hT w' b o _ (by simp; omega) fun j v hj => ?_⟩
      rw [List.getElem?_take] at hj
      split at hj <;> try (cases hj; done)
      rw [List.getElem?_drop] at hj
      exact hb _ _ hj
  · rename_i s hT
    obtain ⟨v, h1, h2⟩ := VL_get hl hq
    exact ⟨v, h2, fun w' b hb => run_loadVar_one hT w' b o v (hb _ _ h1)⟩
  · cases hq

def rdB (θ : Th) : SV → Nat → Prop
  | .p n _, b => ∃ L, θ n = some L ∧ L.b = b
  | .e n _ _ _, b => ∃ L, θ n = some L ∧ L.len ≠ 0 ∧ L.b = b
  | .a n, b => ∃ L, θ n = some L ∧ L.len ≠ 0 ∧ L.b = b
  | .m n, b => ∃ L, θ n = some L ∧ L.b = b
  | .q n, b => ∃ L, θ n = some L ∧ L.b = b
  | .px _ _ b' _, b => b' = b
  | _, _ => False
def Rd (θ : Th) (s : SV) (w w' : World) : Prop := ∀ b, b < w.heap.size → rdB θ s b → w'.heap[b]? = w.heap[b]?
theorem Rd.of_below {w' : World} (hb : Below w.heap.size w w') (s : SV) : Rd θ s w w' := fun b h _ => hb.block b h

theorem pownOf_sound (hs : SatH K θ h nx w) {n T S m len : Nat} {bs : List Nat} {f : Nat → Nat → D} (hp : pownOf h n = some (T, S, m, bs, len, f)) :
    hfind h n = some (.pown T S m bs len f) ∧ ∃ L, θ n = some L ∧ POwn (Free K θ h) w L T S m bs len f := by
  unfold pownOf at hp
  split at hp <;> cases hp
  rename_i hf
  obtain ⟨L, h1, h2⟩ := hs.res n _ hf
  exact ⟨hf, L, h1, h2⟩
theorem pfind_mem {S : Nat} {q T m len : Nat} {bs : List Nat} {f : Nat → Nat → D} : ∀ {l : List (Nat × R)}, pfind h S l = some (q, T, m, bs, len, f) → hfind h q = some (.pown T S m bs len f)
  | [], hp => by cases hp
  | (a, r) :: l, hp => by
    unfold pfind at hp
    split at hp
    · rename_i T' S' m' bs' n' f' hf
      cases hb : Nat.beq S' S with
      | false => rw [hb] at hp; exact pfind_mem hp
      | true =>
        rw [hb] at hp
        cases hp
        obtain rfl := Nat.eq_of_beq_eq_true hb
        exact hf
    · exact pfind_mem hp
theorem pfind_sound (hs : SatH K θ h nx w) {S : Nat} {q T m len : Nat} {bs : List Nat} {f : Nat → Nat → D} (hp : pfind h S h = some (q, T, m, bs, len, f)) :
    hfind h q = some (.pown T S m bs len f) ∧ ∃ L, θ q = some L ∧ POwn (Free K θ h) w L T S m bs len f := by
  have hf := pfind_mem hp
  obtain ⟨L, h1, h2⟩ := hs.res q _ hf
  exact ⟨hf, L, h1, h2⟩

theorem ldElem_sound (hs : SatH K θ h nx w) {T S m i b o : Nat} {f : Nat → Nat → D} (he : Elem (Free K θ h) w S m (f i) b) {k : HK} (hk : ldArr P T (.recs m 0 f) m i o h nx k) :
    ∃ s h' nx' θ' v, k s h' nx' ∧ Grows K θ θ' nx nx' h' w ∧ V θ' s v ∧ b < w.heap.size ∧ ∀ w' : World, w'.heap[b]? = w.heap[b]? → (loadVar T ⟨b, o, none⟩).run P w' = .ok v w' := by
  obtain ⟨us, h1, h2, h3⟩ := he
  have hb := (Array.getElem?_eq_some_iff.1 h1).1
  have hc : ∀ j, j < m → ∃ c, w.cell? ⟨b, 0 + j, none⟩ = some c ∧ (f i j).holds (Free K θ h) w c := fun j hj => by
    obtain ⟨c, e1, e2⟩ := h3 j hj
    exact ⟨c, by rw [Nat.zero_add, cell_of_cells h1]; exact e1, e2⟩
  unfold ldArr at hk
  split at hk
  · rename_i e; cases e
  · rename_i es' n' f' hT e
    cases e
    obtain ⟨hc1, hk1⟩ := cond_false hk
    simp only [Bool.and_eq_true] at hc1
    have ho := nblt hc1.2
    obtain ⟨c, h4, h5⟩ := hc o ho
    rw [Nat.zero_add] at h4
    obtain ⟨s, h', nx', θ', a1, a2, a3, _⟩ := instD_sound' hs h5 hk1
    exact ⟨s, h', nx', θ', c, a1, a2, a3, hb, fun w' hw' => run_loadVar_one hT w' _ _ _ (by rw [cell_eq hw']; exact h4)⟩
  · rename_i s es' n' f' hT e
    cases e
    obtain ⟨hc1, hk1⟩ := cond_false hk
    simp only [Bool.and_eq_true] at hc1
    have ho := nble hc1.1.2
    obtain ⟨cs, c1, c2, c3⟩ := fieldsD_holds (X := Free K θ h) (w := w) (b := b) (base := 0) (f := f) (i := i) (es := m) hc s o ho
    obtain ⟨ss, h', nx', θ', a1, a2, a3, _⟩ := instL_sound hs c3 hk1
    refine ⟨.agg ss, h', nx', θ', .agg cs.toArray, a1, a2, by simp only [V]; exact ⟨cs, rfl, a3⟩, hb, fun w' hw' => run_loadVar_agg hT w' _ _ cs c1 fun j v hv => ?_⟩
    rw [cell_eq hw']
    have := c2 j v hv
    rw [Nat.zero_add] at this
    exact this
  · rename_i e; cases e
  · exact hk.elim

theorem loadQ_sound (hs : SatH K θ h nx w) {T : Nat} {s : SV} {v : Value} {k : HK} (hv : V θ s v) (hq : loadQ P T s h nx k) :
    ∃ r h' nx' θ' v', k r h' nx' ∧ Grows K θ θ' nx nx' h' w ∧ V θ' r v' ∧ ∀ w', Rd θ s w w' → (Instr.loadAt T v).run P w' = .ok v' w' := by
  unfold loadQ at hq
  split at hq
  · rename_i n o
    simp only [V] at hv
    obtain ⟨L, hL, rfl⟩ := hv
    have blk : ∀ {T' : Nat} {l : List SV} {r : SV} {cs : List Value}, ldBlk P T l o = some r → L.a = some ⟨L.b, 0, none⟩ → w.heap[L.b]? = some (.cells cs.toArray T' (0, 0)) → VL θ l cs → k r h nx →
        ∃ r h' nx' θ' v', k r h' nx' ∧ Grows K θ θ' nx nx' h' w ∧ V θ' r v' ∧ ∀ w', Rd θ (.p n o) w w' → (Instr.loadAt T (.pointer (some ⟨L.b, L.o + o, none⟩))).run P w' = .ok v' w' := by
      intro T' l r cs hr hb1 hb2 hb3 hk
      obtain ⟨v', h1, h2⟩ := ldBlk_sound hb3 hr
      refine ⟨_, _, _, θ, v', hk, .refl hs, h1, fun w' hw' => ?_⟩
      have ho : L.o = 0 := by unfold Loc.o; rw [hb1]
      have := h2 w' L.b (fun j u hj => by
        have hlt : L.b < w.heap.size := (Array.getElem?_eq_some_iff.1 hb2).1
        rw [cell_eq (hw' _ hlt ⟨L, hL, rfl⟩), cell_of_cells hb2]; exact hj)
      simpa [Instr.loadAt, Instr.sureAddr, ho] using this
    split at hq <;> try exact hq.elim
    · rename_i T' l hf
      split at hq <;> try exact hq.elim
      rename_i r hr
      obtain ⟨L', hL', cs, hb1, hb2, hb3⟩ := hs.res n _ hf
      obtain rfl := Option.some.inj (hL.symm.trans hL')
      exact blk hr hb1 hb2 hb3 hq
    · rename_i T' l hf
      split at hq <;> try exact hq.elim
      rename_i r hr
      obtain ⟨L', hL', cs, hb1, _, hb2, hb3⟩ := hs.res n _ hf
      obtain rfl := Option.some.inj (hL.symm.trans hL')
      exact blk hr hb1 hb2 hb3 hq
  · rename_i n
    split at hq <;> try exact hq.elim
    rename_i T' kk xs hf
    split at hq <;> try exact hq.elim
    rename_i s hT
    obtain ⟨hlen, hk⟩ := hq
    simp only [V] at hv
    obtain ⟨L, hL, hLL, rfl⟩ := hv
    have ho : L.o = 0 := by rw [hLL]; rfl
    obtain ⟨L', hL', hat, hw, _⟩ := hs.res n _ hf
    obtain rfl := Option.some.inj (hL.symm.trans hL')
    obtain ⟨e1, e2, e3⟩ := hat
    refine ⟨_, _, _, θ, .agg (xs.map (Value.int kk)).toArray, hk, .refl hs, by simp only [V], fun w' hw' => ?_⟩
    have := run_loadVar_agg (P := P) hT w' L.b 0 (xs.map (Value.int kk)) (by simp [hlen]) (fun j v hj => by
      rw [List.getElem?_map] at hj
      cases hx : xs[j]? with
      | none => rw [hx] at hj; simp at hj
      | some z =>
        rw [hx] at hj; simp at hj; subst hj
        have h3 := e3 j z hx
        rw [ho] at h3
        rw [cell_eq (hw' _ (lt_of_cell h3) ⟨L, hL, rfl⟩)]; exact h3)
    simpa [Instr.loadAt, Instr.sureAddr] using this
  · rename_i n es i o
    split at hq
    · rename_i d hd
      obtain ⟨r, h', nx', θ', v', a1, a2, a3, b, o', e1, hb, a4⟩ := ldArr_sound hs hd hv hq
      subst e1
      simp only [V] at hv
      obtain ⟨L, g1, g0, g2⟩ := hv
      simp at g2
      refine ⟨r, h', nx', θ', v', a1, a2, a3, fun w' hw' => ?_⟩
      have := a4 w' (hw' b hb ⟨L, g1, by omega, g2.1.symm⟩)
      simpa [Instr.loadAt, Instr.sureAddr] using this
    · unfold loadSlot at hq
      split at hq <;> try exact hq.elim
      rename_i T' S m bs len f sz hp hT
      obtain ⟨hc, hk⟩ := cond_false hq
      simp only [Bool.and_eq_true] at hc
      obtain rfl := nbeq hc.1
      obtain rfl := nbeq hc.2
      obtain ⟨_, L, hL, p1, p2, p3, p4, p5, p6, p7⟩ := pownOf_sound hs hp
      simp only [V] at hv
      obtain ⟨L', hL', hi, rfl⟩ := hv
      obtain rfl := Option.some.inj (hL.symm.trans hL')
      have hlt : i < bs.length := by omega
      obtain ⟨g1, _⟩ := p7 i _ (List.getElem?_eq_getElem hlt)
      refine ⟨_, _, _, θ, .pointer (some ⟨bs[i], 0, none⟩), hk _ (List.getElem?_eq_getElem hlt), .refl hs, by simp only [V], fun w' hw' => ?_⟩
      have := run_loadVar_one (P := P) hT w' L.b (L.o + i) _ (by rw [cell_eq (hw' _ (lt_of_cell g1) ⟨L, hL, by omega, rfl⟩)]; exact g1)
      simpa [Instr.loadAt, Instr.sureAddr] using this
  · rename_i S i b o
    unfold loadP at hq
    split at hq <;> try exact hq.elim
    rename_i q T' m bs len f hp
    obtain ⟨hb, hk⟩ := hq
    obtain ⟨_, L, hL, p1, p2, p3, p4, p5, p6, p7⟩ := pfind_sound hs hp
    simp only [V] at hv
    subst hv
    obtain ⟨s, h', nx', θ', v, a1, a2, a3, hlt, a4⟩ := ldElem_sound hs (p7 i b hb).2 hk
    refine ⟨s, h', nx', θ', v, a1, a2, a3, fun w' hw' => ?_⟩
    have := a4 w' (hw' b hlt rfl)
    simpa [Instr.loadAt, Instr.sureAddr] using this
  · exact hq.elim

theorem binQ_sound {op : BinOp} {T : Nat} {s t : SV} {u v : Value} {k : SV → Prop} (hu : V θ s u) (hv : V θ t v) (hq : binQ P op T s t k) :
    ∃ r v', k r ∧ V θ r v' ∧ ∀ (x y : Operand) w', (do eqGuard op T x y u v; binOp op T u v : Sem Value).run P w' = .ok v' w' := by
  unfold binQ at hq
  split at hq
  · rename_i u' v' e1 e2
    split at hq <;> try exact hq.elim
    rename_i c r hr
    obtain rfl := V_scal e1 hu
    obtain rfl := V_scal e2 hv
    exact ⟨_, _, hq.2, V_c _ _, fun x y w' => binV_sound hr hq.1 x y w'⟩
  · split at hq
    · rename_i hT _
      simp only [V] at hu hv
      obtain ⟨L, _, rfl⟩ := hu
      subst hv
      refine ⟨_, .bool false, hq, V_b _ _, fun x y w' => ?_⟩
      rw [eqGuard_at_pointer]
      exact (run_ptr_nil hT _ w').1
    · rename_i hT _
      simp only [V] at hu hv
      obtain ⟨L, _, rfl⟩ := hu
      subst hv
      refine ⟨_, .bool true, hq, V_b _ _, fun x y w' => ?_⟩
      rw [eqGuard_at_pointer]
      exact (run_ptr_nil hT _ w').2
    · rename_i hT _
      simp only [V] at hu hv
      obtain ⟨L, _, _, rfl⟩ := hu
      subst hv
      refine ⟨_, .bool false, hq, V_b _ _, fun x y w' => ?_⟩
      rw [eqGuard_at_pointer]
      exact (run_ptr_nil hT _ w').1
    · rename_i hT _
      simp only [V] at hu hv
      obtain ⟨L, _, _, rfl⟩ := hu
      subst hv
      refine ⟨_, .bool true, hq, V_b _ _, fun x y w' => ?_⟩
      rw [eqGuard_at_pointer]
      exact (run_ptr_nil hT _ w').2
    · rename_i hT _
      simp only [V] at hu hv
      subst hu hv
      refine ⟨_, .bool false, hq, V_b _ _, fun x y w' => ?_⟩
      rw [eqGuard_at_pointer]
      exact (run_ptr_nil hT _ w').1
    · rename_i hT _
      simp only [V] at hu hv
      subst hu hv
      refine ⟨_, .bool true, hq, V_b _ _, fun x y w' => ?_⟩
      rw [eqGuard_at_pointer]
      exact (run_ptr_nil hT _ w').2
    · exact hq.elim

theorem run_nil_nil {P : Program} {T e : Nat} (hT : P.underlying T = some (.pointer e)) (w : World) :
    (binOp .eql T (.pointer none) (.pointer none)).run P w = .ok (.bool true) w ∧ (binOp .neq T (.pointer none) (.pointer none)).run P w = .ok (.bool false) w := by
  have h : (Op.equal T (.pointer none) (.pointer none)).run P w = .ok true w := by
    show (Op.equalIn (9999 + 1) T (.pointer none) (.pointer none)).run P w = .ok true w
    unfold Op.equalIn
    simp only [Sem.run_bind, run_underlying hT, Result.andThen]
    rfl
  have h1 : binOp .eql T (.pointer none) (.pointer none) = (do pure (.bool (← Op.equal T (.pointer none) (.pointer none)))) := rfl
  have h2 : binOp .neq T (.pointer none) (.pointer none) = (do pure (.bool (!(← Op.equal T (.pointer none) (.pointer none))))) := rfl
  rw [h1, h2]
  simp only [Sem.run_bind, h, Result.andThen]
  exact ⟨rfl, rfl⟩

theorem run_slice_nil {P : Program} {T e : Nat} (hT : P.underlying T = some (.slice e)) (a : Option Addr) (n c : Nat) (w : World) :
    (binOp .eql T (.slice a n c) (.slice none 0 0)).run P w = .ok (.bool a.isNone) w ∧ (binOp .neq T (.slice a n c) (.slice none 0 0)).run P w = .ok (.bool (!a.isNone)) w := by
  have h : (Op.equal T (.slice a n c) (.slice none 0 0)).run P w = .ok a.isNone w := by
    show (Op.equalIn (9999 + 1) T (.slice a n c) (.slice none 0 0)).run P w = .ok a.isNone w
    unfold Op.equalIn
    simp only [Sem.run_bind, run_underlying hT, Result.andThen]
    cases a <;> rfl
  have h1 : binOp .eql T (.slice a n c) (.slice none 0 0) = (do pure (.bool (← Op.equal T (.slice a n c) (.slice none 0 0)))) := rfl
  have h2 : binOp .neq T (.slice a n c) (.slice none 0 0) = (do pure (.bool (!(← Op.equal T (.slice a n c) (.slice none 0 0))))) := rfl
  rw [h1, h2]
  simp only [Sem.run_bind, h, Result.andThen]
  exact ⟨rfl, rfl⟩

theorem eqGuard_at_slice' (op : BinOp) (t : TypeId) (x y : Operand) (a : Option Addr) (n c : Nat) (v : Value) : eqGuard op t x y (.slice a n c) v = pure () := by cases op <;> rfl

theorem len_of_nil {L : Loc} {d : D} {X : Nat → Prop} {w : World} (hat : d.at X w L) (hw : L.wf) (ha : L.a.isNone = true) : d.len = 0 := by
  obtain ⟨e1, e2⟩ := D.at_len hat
  rcases hw with h | h
  · omega
  · rw [h] at ha; cases ha

theorem run_part {P : Program} {t : Nat} (h : intT P t = true) {cs : Array Value} {i : Nat} {v : Value} (hv : cs[i]? = some v) (w : World) : (part t cs i).run P w = .ok v w := by
  unfold intT at h
  split at h
  · rename_i k hk
    unfold part isAgg
    simp only [Sem.run_bind, run_underlying hk, Result.andThen, hv]
    rfl
  · cases h
theorem run_prog {P : Program} (w : World) : (program : Sem Program).run P w = .ok P w := rfl
theorem run_int_eq {P : Program} {t : Nat} (h : intT P t = true) (n : Nat) (k : IntKind) (a b : Int) (w : World) : (Op.equalIn (n + 1) t (.int k a) (.int k b)).run P w = .ok (a == b) w := by
  unfold intT at h
  split at h
  · rename_i k hk
    unfold Op.equalIn
    simp only [Sem.run_bind, run_underlying hk, Result.andThen]
    simp
  · cases h
theorem run_two' (n : Nat) {P : Program} {T : Nat} (h : twoT P T = true) (k l : IntKind) (a b c d : Int) (w : World) :
    (Op.equalIn (n + 1 + 1) T (.agg #[.int k a, .int l b]) (.agg #[.int k c, .int l d])).run P w = .ok (decide (a = c) && decide (b = d)) w := by
  unfold twoT at h
  split at h
  · rename_i fs hf
    split at h
    · rename_i f g hl
      simp only [Bool.and_eq_true, Bool.not_eq_true', bne_iff_ne, ne_eq] at h
      obtain ⟨⟨⟨⟨h1, h2⟩, h3, h4⟩, h5, h6⟩, h7, h8⟩ := h
      have h1 := Nat.eq_of_beq_eq_true h1
      have h2 := Nat.eq_of_beq_eq_true h2
      obtain rfl : fs = #[f, g] := by cases fs; simp only at hl; rw [hl]
      rw [Op.equalIn]
      simp only [Sem.run_bind, run_underlying hf, Result.andThen, run_prog, h8, Bool.false_eq_true, if_false, ← Array.forIn_toList, List.forIn_cons, List.forIn_nil]
      have q1 : (Op.equalIn (n + 1) f.type (.int k a) (.int k c)).run P w = .ok (a == c) w := run_int_eq h5 n k a c w
      have q2 : (Op.equalIn (n + 1) g.type (.int l b) (.int l d)).run P w = .ok (b == d) w := run_int_eq h6 n l b d w
      have p1 : (part f.type #[Value.int k a, .int l b] 0).run P w = .ok (.int k a) w := run_part h5 rfl w
      have p2 : (part f.type #[Value.int k c, .int l d] 0).run P w = .ok (.int k c) w := run_part h5 rfl w
      have p3 : (part g.type #[Value.int k a, .int l b] 1).run P w = .ok (.int l b) w := run_part h6 rfl w
      have p4 : (part g.type #[Value.int k c, .int l d] 1).run P w = .ok (.int l d) w := run_part h6 rfl w
      rw [if_pos h3, h1]
      simp only [Sem.run_bind, Result.andThen, p1, p2, q1]
      by_cases e : a = c
      · subst e
        simp only [beq_self_eq_true, Bool.not_true, Bool.false_eq_true, if_false, Sem.run_pure, Sem.run_bind, Result.andThen, if_pos h4, h2, p3, p4, q2]
        by_cases e : b = d
        · subst e
          simp
        · simp [e]
      · simp [e]
    · cases h
  · cases h
theorem run_two {P : Program} {T : Nat} (h : twoT P T = true) (k l : IntKind) (a b c d : Int) (w : World) :
    (Op.equal T (.agg #[.int k a, .int l b]) (.agg #[.int k c, .int l d])).run P w = .ok (decide (a = c) && decide (b = d)) w := run_two' 9998 h k l a b c d w
theorem eqGuard_two {P : Program} {T : Nat} (h : twoT P T = true) (op : BinOp) (x y : Operand) (u v : Array Value) (w : World) : (eqGuard op T x y (.agg u) (.agg v)).run P w = .ok () w := by
  have hg : P.eqGuardType P.depth T = false := by
    unfold twoT at h
    split at h
    · split at h
      · simp only [Bool.and_eq_true, Bool.not_eq_true'] at h; exact h.2.1
      · cases h
    · cases h
  unfold eqGuard
  cases op <;> simp [Sem.run_bind, Result.andThen, hg]
theorem two_sound {P : Program} {T : Nat} (h : twoT P T = true) (k l : IntKind) (a b c d : Int) (x y : Operand) (w : World) :
    (do eqGuard .eql T x y (.agg #[.int k a, .int l b]) (.agg #[.int k c, .int l d]); binOp .eql T (.agg #[.int k a, .int l b]) (.agg #[.int k c, .int l d]) : Sem Value).run P w = .ok (.bool (decide (a = c) && decide (b = d))) w ∧
    (do eqGuard .neq T x y (.agg #[.int k a, .int l b]) (.agg #[.int k c, .int l d]); binOp .neq T (.agg #[.int k a, .int l b]) (.agg #[.int k c, .int l d]) : Sem Value).run P w = .ok (.bool (!(decide (a = c) && decide (b = d)))) w := by
  have h1 : ∀ u v : Array Value, binOp .eql T (.agg u) (.agg v) = (do pure (.bool (← Op.equal T (.agg u) (.agg v)))) := fun _ _ => rfl
  have h2 : ∀ u v : Array Value, binOp .neq T (.agg u) (.agg v) = (do pure (.bool (!(← Op.equal T (.agg u) (.agg v))))) := fun _ _ => rfl
  rw [h1, h2]
  simp only [Sem.run_bind, eqGuard_two h, run_two h, Result.andThen]
  exact ⟨rfl, rfl⟩
theorem V_two {θ : Th} {k l : IntKind} {a b : Int} {v : Value} (h : V θ (.agg [.c (.int k a), .c (.int l b)]) v) : v = .agg #[.int k a, .int l b] := by
  simp only [V] at h
  obtain ⟨cs, rfl, h⟩ := h
  match cs, h with
  | [x, y], h =>
    simp only [VL, V] at h
    obtain ⟨rfl, rfl, _⟩ := h
    rfl

def valI (x : IntKind × Int) : Value := .int x.1 x.2
theorem V_many {θ : Th} : ∀ {xs : List SV} {l : List (IntKind × Int)} {vs : List Value}, intsS xs = some l → VL θ xs vs → vs = l.map valI
  | [], l, vs, h, hv => by simp [intsS] at h; subst h; rw [VL_nil_left hv]; rfl
  | s :: xs, l, vs, h, hv => by
    obtain ⟨v, us, rfl, h1, h2⟩ := VL_cons_left hv
    unfold intsS at h
    split at h
    · rename_i h0; cases h0
    · rename_i k a xs' h0
      cases h0
      split at h
      · rename_i m hm
        cases h
        simp only [V] at h1
        subst h1
        rw [V_many hm h2]
        rfl
      · cases h
    · cases h
def fldB (n : Nat) (A B : Array Value) (f : Field) (_ : Option Bool × Unit) : Sem (ForInStep (Option Bool × Unit)) :=
  if f.name ≠ "_" then do
    let u ← part f.type A f.offset
    let v ← part f.type B f.offset
    let x ← Op.equalIn (n + 1) f.type u v
    if (!x) = true then pure (ForInStep.done (some false, ())) else pure (ForInStep.yield (none, ()))
  else pure (ForInStep.yield (none, ()))
theorem run_fields (n : Nat) {P : Program} (w : World) : ∀ (l : List Field) (xs ys : List (IntKind × Int)) (pre pre' : List Value) (r : Bool), fldsI P l pre.length = true → pre'.length = pre.length → l.length = xs.length → eqI xs ys = some r →
    (forIn (m := Sem) l ((none : Option Bool), ()) (fldB n (pre ++ xs.map valI).toArray (pre' ++ ys.map valI).toArray)).run P w = .ok (if r then none else some false, ()) w
  | [], xs, ys, pre, pre', r, _, _, hl, he => by
    have : xs = [] := List.eq_nil_of_length_eq_zero hl.symm
    subst this
    cases ys with
    | nil => simp [eqI] at he; subst he; simp
    | cons _ _ => simp [eqI] at he
  | f :: l, xs, ys, pre, pre', r, hf, hp, hl, he => by
    cases xs with
    | nil => cases hl
    | cons x xs =>
    cases ys with
    | nil => simp [eqI] at he
    | cons y ys =>
    obtain ⟨k, a⟩ := x
    obtain ⟨k', b⟩ := y
    simp only [eqI] at he
    split at he <;> try (cases he; done)
    rename_i hk
    subst hk
    split at he <;> try (cases he; done)
    rename_i r' hr
    cases he
    simp only [fldsI, Bool.and_eq_true, bne_iff_ne, ne_eq] at hf
    obtain ⟨h1, h2, h3, h4⟩ := hf
    have h1 := Nat.eq_of_beq_eq_true h1
    have p1 : (part f.type (pre ++ ((k, a) :: xs).map valI).toArray pre.length).run P w = .ok (.int k a) w := run_part h3 (by simp [valI]) w
    have p2 : (part f.type (pre' ++ ((k, b) :: ys).map valI).toArray pre.length).run P w = .ok (.int k b) w := run_part h3 (by rw [← hp]; simp [valI]) w
    have q := run_int_eq h3 n k a b w
    have ih := run_fields n w l xs ys (pre ++ [valI (k, a)]) (pre' ++ [valI (k, b)]) r' (by simpa using h4) (by simp [hp]) (by simpa using hl) hr
    rw [List.append_assoc, List.append_assoc] at ih
    rw [List.forIn_cons]
    simp only [fldB, h1, if_pos h2, Sem.run_bind, p1, p2, q, Result.andThen]
    by_cases e : a = b
    · subst e
      simp only [beq_self_eq_true, Bool.not_true, Bool.false_eq_true, if_false, Sem.run_pure, decide_true, Bool.true_and]
      exact ih
    · simp [e]
theorem run_many' (n : Nat) {P : Program} {T m : Nat} (h : manyT P T = some m) {xs ys : List (IntKind × Int)} (hl : m = xs.length) {r : Bool} (he : eqI xs ys = some r) (w : World) :
    (Op.equalIn (n + 1 + 1) T (.agg (xs.map valI).toArray) (.agg (ys.map valI).toArray)).run P w = .ok r w := by
  unfold manyT at h
  split at h <;> try (cases h; done)
  rename_i fs hf
  cases hc : (fldsI P fs.toList 0 && (!P.eqGuardType P.depth T && !P.stoodInHeld T)) with
  | false => rw [hc] at h; cases h
  | true =>
    rw [hc] at h
    cases h
    simp only [Bool.and_eq_true, Bool.not_eq_true'] at hc
    obtain ⟨h1, _, h8⟩ := hc
    have := run_fields n w fs.toList xs ys [] [] r h1 rfl hl he
    rw [Op.equalIn]
    simp only [Sem.run_bind, run_underlying hf, Result.andThen, run_prog, h8, Bool.false_eq_true, if_false, ← Array.forIn_toList]
    have e : (fun (f : Field) (s : Option Bool × Unit) =>
          if f.name ≠ "_" then do
            let u ← part f.type (xs.map valI).toArray f.offset
            let v ← part f.type (ys.map valI).toArray f.offset
            let x ← Op.equalIn (n + 1) f.type u v
            if (!x) = true then pure (ForInStep.done (some false, ())) else pure (ForInStep.yield (none, ()))
          else pure (ForInStep.yield (none, ()))) = fldB n (xs.map valI).toArray (ys.map valI).toArray := rfl
    rw [e]
    simp only [List.nil_append] at this
    rw [this]
    cases r <;> rfl
theorem eqGuard_many {P : Program} {T m : Nat} (h : manyT P T = some m) (op : BinOp) (x y : Operand) (u v : Array Value) (w : World) : (eqGuard op T x y (.agg u) (.agg v)).run P w = .ok () w := by
  have hg : P.eqGuardType P.depth T = false := by
    unfold manyT at h
    split at h <;> try (cases h; done)
    rename_i fs hf
    cases hc : (fldsI P fs.toList 0 && (!P.eqGuardType P.depth T && !P.stoodInHeld T)) with
    | false => rw [hc] at h; cases h
    | true =>
      simp only [Bool.and_eq_true, Bool.not_eq_true'] at hc
      exact hc.2.1
  unfold eqGuard
  cases op <;> simp [Sem.run_bind, Result.andThen, hg]
theorem many_sound {P : Program} {θ : Th} {T : Nat} {xs ys : List SV} {r : Bool} (hq : manyQ P T xs ys = some r) {u v : Value} (hu : V θ (.agg xs) u) (hv : V θ (.agg ys) v) (x y : Operand) (w : World) :
    (do eqGuard .eql T x y u v; binOp .eql T u v : Sem Value).run P w = .ok (.bool r) w ∧
    (do eqGuard .neq T x y u v; binOp .neq T u v : Sem Value).run P w = .ok (.bool (!r)) w := by
  unfold manyQ at hq
  split at hq <;> try (cases hq; done)
  rename_i l m n hx hy hT
  cases hc : Nat.beq n l.length with
  | false => rw [hc] at hq; cases hq
  | true =>
    rw [hc] at hq
    simp only [_root_.cond_true] at hq
    simp only [V] at hu hv
    obtain ⟨cs, rfl, hcs⟩ := hu
    obtain ⟨ds, rfl, hds⟩ := hv
    rw [V_many hx hcs, V_many hy hds]
    have h0 : (Op.equal T (.agg (l.map valI).toArray) (.agg (m.map valI).toArray)).run P w = .ok r w := run_many' 9998 hT (Nat.eq_of_beq_eq_true hc) hq w
    have h1 : ∀ u v : Array Value, binOp .eql T (.agg u) (.agg v) = (do pure (.bool (← Op.equal T (.agg u) (.agg v)))) := fun _ _ => rfl
    have h2 : ∀ u v : Array Value, binOp .neq T (.agg u) (.agg v) = (do pure (.bool (!(← Op.equal T (.agg u) (.agg v))))) := fun _ _ => rfl
    rw [h1, h2]
    simp only [Sem.run_bind, eqGuard_many hT, h0, Result.andThen]
    exact ⟨rfl, rfl⟩

theorem nilQ_sound (hs : SatH K θ h nx w) {op : BinOp} {T : Nat} {s t : SV} {u v : Value} {k : SV → Prop} {p : Prop} (hu : V θ s u) (hv : V θ t v) (hn : nilQ P op T s t h k = some p) (hq : p) :
    ∃ r v', k r ∧ V θ r v' ∧ ∀ (x y : Operand) w', (do eqGuard op T x y u v; binOp op T u v : Sem Value).run P w' = .ok v' w' := by
  unfold nilQ at hn
  split at hn <;> try (cases hn)
  · rename_i hT; simp only [V] at hu hv; subst hu hv
    refine ⟨_, .bool true, hq, V_b _ _, fun x y w' => ?_⟩
    rw [eqGuard_at_pointer]
    exact (run_nil_nil hT w').1
  · rename_i hT; simp only [V] at hu hv; subst hu hv
    refine ⟨_, .bool false, hq, V_b _ _, fun x y w' => ?_⟩
    rw [eqGuard_at_pointer]
    exact (run_nil_nil hT w').2
  · rename_i hT; simp only [V] at hu hv; subst hu hv
    refine ⟨_, .bool true, hq, V_b _ _, fun x y w' => ?_⟩
    rw [eqGuard_at_slice']
    exact (run_slice_nil hT none 0 0 w').1
  · rename_i hT; simp only [V] at hu hv; subst hu hv
    refine ⟨_, .bool false, hq, V_b _ _, fun x y w' => ?_⟩
    rw [eqGuard_at_slice']
    exact (run_slice_nil hT none 0 0 w').2
  · rename_i n hT; simp only [V] at hu hv; subst hv
    obtain ⟨L, hL, rfl⟩ := hu
    unfold nilA at hq
    split at hq <;> try exact hq.elim
    rename_i d hd
    obtain ⟨L', hL', hat, hw⟩ := arrOf_sound hs hd
    obtain rfl := Option.some.inj (hL.symm.trans hL')
    refine ⟨_, .bool L.a.isNone, hq L.a.isNone (len_of_nil hat hw), V_c _ _, fun x y w' => ?_⟩
    rw [show L.val = .slice L.a L.len L.cap from rfl, eqGuard_at_slice']
    exact (run_slice_nil hT _ _ _ w').1
  · rename_i n hT; simp only [V] at hu hv; subst hv
    obtain ⟨L, hL, rfl⟩ := hu
    unfold nilA at hq
    split at hq <;> try exact hq.elim
    rename_i d hd
    obtain ⟨L', hL', hat, hw⟩ := arrOf_sound hs hd
    obtain rfl := Option.some.inj (hL.symm.trans hL')
    refine ⟨_, .bool (!L.a.isNone), hq (!L.a.isNone) (fun ht => len_of_nil hat hw (by simpa using ht)), V_c _ _, fun x y w' => ?_⟩
    rw [show L.val = .slice L.a L.len L.cap from rfl, eqGuard_at_slice']
    exact (run_slice_nil hT _ _ _ w').2
  · split at hn
    · split at hn
      · split at hn
        · rename_i e1 e2 e3
          cases hn
          subst e1 e2
          obtain rfl := V_two hu
          obtain rfl := V_two hv
          exact ⟨_, _, hq, V_c _ _, fun x y w' => (two_sound e3 _ _ _ _ _ _ x y w').1⟩
        · cases hn
      · cases hn
    · cases hn
  · split at hn
    · split at hn
      · split at hn
        · rename_i e1 e2 e3
          cases hn
          subst e1 e2
          obtain rfl := V_two hu
          obtain rfl := V_two hv
          exact ⟨_, _, hq, V_c _ _, fun x y w' => (two_sound e3 _ _ _ _ _ _ x y w').2⟩
        · cases hn
      · cases hn
    · cases hn
  · split at hn
    · rename_i r hr
      cases hn
      exact ⟨_, _, hq, V_c _ _, fun x y w' => (many_sound hr hu hv x y w').1⟩
    · cases hn
  · split at hn
    · rename_i r hr
      cases hn
      exact ⟨_, _, hq, V_c _ _, fun x y w' => (many_sound hr hu hv x y w').2⟩
    · cases hn

theorem mapOf_sound (hs : SatH K θ h nx w) {n : Nat} {ks vs : Col} (hm : mapOf h n = some (ks, vs)) {u : Value} (hu : V θ (.m n) u) :
    ∃ b es clock, u = .map (some b) ∧ (∃ L, θ n = some L ∧ L.b = b) ∧ w.heap[b]? = some (.map es clock) ∧ MapIs es clock ks vs := by
  simp only [V] at hu
  obtain ⟨L, hL, rfl⟩ := hu
  unfold mapOf at hm
  split at hm <;> cases hm
  · rename_i hf
    obtain ⟨L', hL', _, es, clock, h1, h2⟩ := hs.res n _ hf
    obtain rfl := Option.some.inj (hL.symm.trans hL')
    exact ⟨L.b, es, clock, rfl, ⟨L, hL, rfl⟩, h1, h2⟩
  · rename_i hf
    obtain ⟨L', hL', _, _, es, clock, h1, h2⟩ := hs.res n _ hf
    obtain rfl := Option.some.inj (hL.symm.trans hL')
    exact ⟨L.b, es, clock, rfl, ⟨L, hL, rfl⟩, h1, h2⟩

theorem run_getObj_map {b : Nat} {es : Array MapEntry} {clock : Nat} {w' : World} (h : w'.heap[b]? = some (.map es clock)) : (getObj b).run P w' = .ok (.map es clock) w' := by
  show (Sem.getObj b Sem.pure).run P w' = _
  simp only [Sem.run, h]

theorem keyKind_cases {kt : Nat} {ks : Col} (hk : keyKind P kt ks = true) : ∃ d, P.underlying kt = some d ∧ (d = .bool ∨ d = .string ∨ ∃ k, d = .int k) := by
  unfold keyKind at hk
  cases hd : P.underlying kt with
  | none => rw [hd] at hk; cases hk
  | some d =>
    rw [hd] at hk
    cases d <;> cases ks <;> simp at hk
    · exact ⟨_, rfl, .inl rfl⟩
    · exact ⟨_, rfl, .inr (.inr ⟨_, rfl⟩)⟩
    · exact ⟨_, rfl, .inr (.inl rfl)⟩

theorem run_checkKey {e : Bool} {kt : Nat} {ks : Col} (hk : keyKind P kt ks = true) (key : Value) (w' : World) : (Instr.checkKey e 10000 kt key).run P w' = .ok () w' := by
  obtain ⟨d, hd, hcs⟩ := keyKind_cases hk
  show (Instr.checkKey e (9999 + 1) kt key).run P w' = _
  unfold Instr.checkKey
  simp only [Sem.run_bind, run_underlying hd, Result.andThen]
  rcases hcs with rfl | rfl | ⟨k, rfl⟩ <;> rfl

theorem run_findKey {kt : Nat} {ks vs : Col} {key : Value} {o : Option Nat} {es : Array MapEntry} {clock : Nat} (hk : keyKind P kt ks = true) (ho : ks.idx key = some o) (hm : MapIs es clock ks vs) (w' : World) :
    (Instr.findKey kt key es.toList).run P w' = .ok (eget es o) w' := by
  obtain ⟨d, hd, _⟩ := keyKind_cases hk
  unfold Instr.findKey
  simp only [Sem.run_bind, run_underlying hd, Result.andThen, (findNow_col hd hk ho hm).1]
  rfl

theorem run_findKeyK {kt : Nat} {ks : Col} {key : Value} {o : Option Nat} {es : Array MapEntry} {clock : Nat} (hk : keyKind P kt ks = true) (ho : ks.idx key = some o) (hm : MapK es clock ks) (w' : World) :
    (Instr.findKey kt key es.toList).run P w' = .ok (eget es o) w' := by
  obtain ⟨d, hd, _⟩ := keyKind_cases hk
  unfold Instr.findKey
  simp only [Sem.run_bind, run_underlying hd, Result.andThen, (findNow_colK hd hk ho hm).1]
  rfl
theorem find_placeK {kt : Nat} {ks : Col} {key : Value} {j : Nat} {es : Array MapEntry} {clock : Nat} (hk : keyKind P kt ks = true) (ho : ks.idx key = some (some j)) (hm : MapK es clock ks) :
    ∃ e, es[j]? = some e ∧ e.key = key ∧ ks.get? j = some key := by
  obtain ⟨d, hd, _⟩ := keyKind_cases hk
  have hj := (findNow_colK hd hk ho hm).2 j rfl
  have hjs : j < es.size := by
    rw [hm.size]
    cases ks <;> simp only [Col.get?, Option.map_eq_some_iff] at hj <;> obtain ⟨z, hz, _⟩ := hj <;> exact (List.getElem?_eq_some_iff.1 hz).1
  have he := Array.getElem?_eq_getElem hjs
  refine ⟨_, he, ?_, hj⟩
  have := hm.key j _ he
  rw [hj] at this
  exact (Option.some.inj this).symm

theorem find_place {kt : Nat} {ks vs : Col} {key : Value} {j : Nat} {es : Array MapEntry} {clock : Nat} (hk : keyKind P kt ks = true) (ho : ks.idx key = some (some j)) (hm : MapIs es clock ks vs) :
    ∃ e, es[j]? = some e ∧ e.key = key ∧ ks.get? j = some key := by
  obtain ⟨d, hd, _⟩ := keyKind_cases hk
  have hj := (findNow_col hd hk ho hm).2 j rfl
  have hjs : j < es.size := by
    rw [hm.size]
    cases ks <;> simp only [Col.get?, Option.map_eq_some_iff] at hj <;> obtain ⟨z, hz, _⟩ := hj <;> exact (List.getElem?_eq_some_iff.1 hz).1
  have he := Array.getElem?_eq_getElem hjs
  refine ⟨_, he, ?_, hj⟩
  have := (hm.at_ j _ he).1
  rw [hj] at this
  exact (Option.some.inj this).symm

theorem zeroOk_sound {vt : Nat} {vs : Col} (hz : zeroOk P vt vs = true) (w' : World) : (zeroValue vt).run P w' = .ok (vs.getAt none) w' := by
  unfold zeroOk at hz
  split at hz <;> try (cases hz; done)
  rename_i i hi
  split at hz <;> try (cases hz; done)
  · rename_i k k' m hzv
    have := of_decide_eq_true hz
    subst this
    simp [zeroValue, run_typeInfo hi, hzv, Col.getAt, oget]
  · rename_i m hzv
    simp [zeroValue, run_typeInfo hi, hzv, Col.getAt, oget]
  · rename_i s m hzv
    have h1 := of_decide_eq_true hz
    have : s = ⟨#[]⟩ := by
      obtain ⟨a⟩ := s
      have h2 : a.toList = [] := h1
      congr 1
      exact Array.ext' h2
    subst this
    simp [zeroValue, run_typeInfo hi, hzv, Col.getAt, oget]

theorem getAt_some {ks vs : Col} {es : Array MapEntry} {clock j : Nat} {e : MapEntry} (hm : MapIs es clock ks vs) (he : es[j]? = some e) : vs.getAt (some j) = e.val := by
  have := (hm.at_ j e he).2
  cases vs <;> simp only [Col.get?] at this <;> simp only [Col.getAt, oget]
  all_goals
    rename_i l
    cases hl : l[j]? with
    | none => rw [hl] at this; cases this
    | some z => rw [hl] at this; simp at this; simp [this]

theorem mapROf_sound (hs : SatH K θ h nx w) {x : SV} {n m : Nat} {ks : Col} {f : Nat → Nat → D} (hm : mapROf h x = some (n, ks, m, f)) {u : Value} (hu : V θ x u) :
    ∃ b es clock, u = .map (some b) ∧ rdB θ x b ∧ w.heap[b]? = some (.map es clock) ∧ MapK es clock ks ∧ RecsAre (Free K θ h) w es m f := by
  unfold mapROf at hm
  split at hm <;> try (cases hm; done)
  split at hm <;> cases hm
  rename_i hf
  simp only [V] at hu
  obtain ⟨L, hL, rfl⟩ := hu
  obtain ⟨L', hL', e1, es, clock, e2, e3, e4⟩ := hs.res n _ hf
  obtain rfl := Option.some.inj (hL.symm.trans hL')
  exact ⟨L.b, es, clock, rfl, by simp only [rdB]; exact ⟨L, hL, rfl⟩, e2, e3, e4⟩
theorem dl_of {X : Nat → Prop} {g : Nat → D} : ∀ (m i : Nat) {us : List Value}, us.length = m → (∀ j, j < m → ∃ c, us[j]? = some c ∧ (g (i + j)).holds X w c) → DL.holds X w ((List.range' i m).map g) us
  | 0, i, us, hl, _ => by
    obtain rfl := List.eq_nil_of_length_eq_zero hl
    exact trivial
  | m + 1, i, us, hl, hh => by
    match us, hl with
    | c :: us, hl =>
      obtain ⟨c', e1, e2⟩ := hh 0 (by omega)
      simp at e1
      subst e1
      refine ⟨e2, dl_of m (i + 1) (by simpa using hl) fun j hj => ?_⟩
      obtain ⟨c', e3, e4⟩ := hh (j + 1) (by omega)
      exact ⟨c', by simpa using e3, by rw [show i + 1 + j = i + (j + 1) by omega]; exact e4⟩
theorem lookupR_sound (hs : SatH K θ h nx w) {T : Nat} {ok : Bool} {s t : SV} {u v : Value} {k : HK} {n m : Nat} {ks : Col} {f : Nat → Nat → D} (hmo : mapROf h s = some (n, ks, m, f)) (hu : V θ s u) (hv : V θ t v) (hq : lookupR P T ok ks m f t h nx k) :
    ∃ r h' nx' θ' v', k r h' nx' ∧ Grows K θ θ' nx nx' h' w ∧ V θ' r v' ∧ ∀ w', Rd θ s w w' → (Instr.lookup T u v ok).run P w' = .ok v' w' := by
  obtain ⟨b, es, clock, rfl, hb0, hb, hm, hr⟩ := mapROf_sound hs hmo hu
  unfold lookupR at hq
  split at hq <;> try exact hq.elim
  rename_i kt vt key hT hsc
  obtain rfl := V_scal hsc hv
  split at hq <;> try exact hq.elim
  rename_i o zs ho hz
  obtain ⟨hc, hk0, hk1⟩ := cond_false hq
  have hlt := (Array.getElem?_eq_some_iff.1 hb).1
  have same : ∀ w', Rd θ s w w' → w'.heap[b]? = some (.map es clock) := fun w' hw' => by rw [hw' b hlt hb0]; exact hb
  cases o with
  | none =>
    have hk := hk0 rfl
    unfold zeroA at hz
    split at hz <;> try (cases hz; done)
    rename_i i hi
    split at hz <;> cases hz
    rename_i cs hzv
    have hrun : ∀ w', (zeroValue vt).run P w' = .ok (.agg cs) w' := fun w' => by simp [zeroValue, run_typeInfo hi, hzv]
    have hV : V θ (.agg (cs.toList.map liftK1)) (.agg cs) := by
      simp only [V]
      exact ⟨cs.toList, rfl, VL_liftK1 θ _⟩
    cases ok with
    | false =>
      refine ⟨_, h, nx, θ, _, hk, .refl hs, hV, fun w' hw' => ?_⟩
      simp only [Instr.lookup, Sem.run_bind, run_underlying hT, Result.andThen, run_getObj_map (same w' hw'), Sem.run_pure, run_checkKey hc, run_findKeyK hc ho hm, eget, hrun]
      rfl
    | true =>
      refine ⟨_, h, nx, θ, .tuple #[.agg cs, .bool false], hk, .refl hs, ?_, fun w' hw' => ?_⟩
      · show V θ (.tup [.agg (cs.toList.map liftK1), .b false]) _
        simp only [V]
        exact ⟨[.agg cs, .bool false], rfl, by simp only [VL]; exact ⟨hV, by simp only [V], trivial⟩⟩
      · simp only [Instr.lookup, Sem.run_bind, run_underlying hT, Result.andThen, run_getObj_map (same w' hw'), Sem.run_pure, run_checkKey hc, run_findKeyK hc ho hm, eget, hrun]
        rfl
  | some j =>
    have hk := hk1 j rfl
    obtain ⟨e, he, _, _⟩ := find_placeK hc ho hm
    obtain ⟨us, hev, hul, hus⟩ := hr j e he
    have hdl : DL.holds (Free K θ h) w ((List.range m).map (f j)) us := by
      rw [List.range_eq_range']
      exact dl_of m 0 hul fun i hi => by rw [Nat.zero_add]; exact hus i hi
    obtain ⟨ss, h', nx', θ', a1, a2, a3, _⟩ := instL_sound hs hdl hk
    have hV : V θ' (.agg ss) (.agg us.toArray) := by
      simp only [V]
      exact ⟨us, rfl, a3⟩
    cases ok with
    | false =>
      refine ⟨_, h', nx', θ', _, a1, a2, hV, fun w' hw' => ?_⟩
      simp only [Instr.lookup, Sem.run_bind, run_underlying hT, Result.andThen, run_getObj_map (same w' hw'), Sem.run_pure, run_checkKey hc, run_findKeyK hc ho hm, eget, he, hev]
      rfl
    | true =>
      refine ⟨_, h', nx', θ', .tuple #[.agg us.toArray, .bool true], a1, a2, ?_, fun w' hw' => ?_⟩
      · show V θ' (.tup [.agg ss, .b true]) _
        simp only [V]
        exact ⟨[.agg us.toArray, .bool true], rfl, by simp only [VL]; exact ⟨hV, by simp only [V], trivial⟩⟩
      · simp only [Instr.lookup, Sem.run_bind, run_underlying hT, Result.andThen, run_getObj_map (same w' hw'), Sem.run_pure, run_checkKey hc, run_findKeyK hc ho hm, eget, he, hev]
        rfl

theorem mapSOf_sound (hs : SatH K θ h nx w) {x : SV} {n : Nat} {ks : Col} {l : List SV} {bn : List Nat} {clock : Nat} (hm : mapSOf h x = some (n, ks, l, bn, clock)) {u : Value} (hu : V θ x u) :
    ∃ b es, u = .map (some b) ∧ rdB θ x b ∧ w.heap[b]? = some (.map es clock) ∧ MapK es clock ks ∧ VL θ l (es.toList.map (·.val)) ∧ es.toList.map (·.born) = bn ∧ x = .m n ∧ ∃ L, θ n = some L ∧ L.b = b := by
  unfold mapSOf at hm
  split at hm <;> try (cases hm; done)
  split at hm <;> cases hm
  rename_i hf
  simp only [V] at hu
  obtain ⟨L, hL, rfl⟩ := hu
  obtain ⟨L', hL', e1, es, e2, e3, e4, e5⟩ := hs.res n _ hf
  obtain rfl := Option.some.inj (hL.symm.trans hL')
  exact ⟨L.b, es, rfl, by simp only [rdB]; exact ⟨L, hL, rfl⟩, e2, e3, e4, e5, rfl, L, hL, rfl⟩
theorem lookupS_sound (hs : SatH K θ h nx w) {T : Nat} {ok : Bool} {s t : SV} {u v : Value} {k : SV → Prop} {n : Nat} {ks : Col} {l : List SV} {bn : List Nat} {clock : Nat} (hmo : mapSOf h s = some (n, ks, l, bn, clock)) (hu : V θ s u) (hv : V θ t v) (hq : lookupS P T ok ks l t k) :
    ∃ r v', k r ∧ V θ r v' ∧ ∀ w', Rd θ s w w' → (Instr.lookup T u v ok).run P w' = .ok v' w' := by
  obtain ⟨b, es, rfl, hb0, hb, hm, hvl, _⟩ := mapSOf_sound hs hmo hu
  unfold lookupS at hq
  split at hq <;> try exact hq.elim
  rename_i kt vt key hT hsc
  obtain rfl := V_scal hsc hv
  split at hq <;> try exact hq.elim
  rename_i o z ho hz
  obtain ⟨hc, hk⟩ := cond_false hq
  have hlt := (Array.getElem?_eq_some_iff.1 hb).1
  have same : ∀ w', Rd θ s w w' → w'.heap[b]? = some (.map es clock) := fun w' hw' => by rw [hw' b hlt hb0]; exact hb
  unfold lookS at hk
  split at hk
  · unfold zeroV at hz
    split at hz <;> try (cases hz; done)
    rename_i i hi
    have hrun : ∀ w', (zeroValue vt).run P w' = .ok z w' := fun w' => by simp [zeroValue, run_typeInfo hi, hz]
    cases ok with
    | false =>
      refine ⟨_, _, hk, V_c θ z, fun w' hw' => ?_⟩
      simp only [Instr.lookup, Sem.run_bind, run_underlying hT, Result.andThen, run_getObj_map (same w' hw'), Sem.run_pure, run_checkKey hc, run_findKeyK hc ho hm, eget, hrun]
      rfl
    | true =>
      refine ⟨_, .tuple #[z, .bool false], hk, ?_, fun w' hw' => ?_⟩
      · show V θ (.tup [.c z, .b false]) _
        simp only [V]
        exact ⟨[z, .bool false], rfl, by simp only [VL, V]; exact ⟨trivial, trivial, trivial⟩⟩
      · simp only [Instr.lookup, Sem.run_bind, run_underlying hT, Result.andThen, run_getObj_map (same w' hw'), Sem.run_pure, run_checkKey hc, run_findKeyK hc ho hm, eget, hrun]
        rfl
  · rename_i j
    split at hk <;> try exact hk.elim
    rename_i sv hsv
    obtain ⟨e, he, _, _⟩ := find_placeK hc ho hm
    obtain ⟨v', hv1, hv2⟩ := VL_get hvl hsv
    have hev : e.val = v' := by
      rw [List.getElem?_map, Array.getElem?_toList, he] at hv1
      exact Option.some.inj hv1
    subst hev
    cases ok with
    | false =>
      refine ⟨_, _, hk, hv2, fun w' hw' => ?_⟩
      simp only [Instr.lookup, Sem.run_bind, run_underlying hT, Result.andThen, run_getObj_map (same w' hw'), Sem.run_pure, run_checkKey hc, run_findKeyK hc ho hm, eget, he]
      rfl
    | true =>
      refine ⟨_, .tuple #[e.val, .bool true], hk, ?_, fun w' hw' => ?_⟩
      · show V θ (.tup [sv, .b true]) _
        simp only [V]
        exact ⟨[e.val, .bool true], rfl, by simp only [VL]; exact ⟨hv2, by simp only [V], trivial⟩⟩
      · simp only [Instr.lookup, Sem.run_bind, run_underlying hT, Result.andThen, run_getObj_map (same w' hw'), Sem.run_pure, run_checkKey hc, run_findKeyK hc ho hm, eget, he]
        rfl

theorem lookupQ_sound (hs : SatH K θ h nx w) {T : Nat} {ok : Bool} {s t : SV} {u v : Value} {k : SV → Prop} (hu : V θ s u) (hv : V θ t v) (hq : lookupQ P T ok s t h k) :
    ∃ r v', k r ∧ V θ r v' ∧ ∀ w', Rd θ s w w' → (Instr.lookup T u v ok).run P w' = .ok v' w' := by
  unfold lookupQ at hq
  split at hq <;> try exact hq.elim
  rename_i kt vt n key hT hsc
  obtain rfl := V_scal hsc hv
  split at hq <;> try exact hq.elim
  rename_i ks vs hmo
  split at hq <;> try exact hq.elim
  rename_i o ho
  obtain ⟨hc, hk⟩ := cond_false hq
  simp only [Bool.and_eq_true] at hc
  obtain ⟨b, es, clock, rfl, hb0, hb, hm⟩ := mapOf_sound hs hmo hu
  have hlt := (Array.getElem?_eq_some_iff.1 hb).1
  have main : ∀ w', w'.heap[b]? = some (.map es clock) → (Instr.lookup T (.map (some b)) v ok).run P w' = .ok (if ok then .tuple #[vs.getAt o, .bool o.isSome] else vs.getAt o) w' := by
    intro w' hb'
    simp only [Instr.lookup, Sem.run_bind, run_underlying hT, Result.andThen, run_getObj_map hb', Sem.run_pure, run_checkKey hc.1, run_findKey hc.1 ho hm]
    cases o with
    | none =>
      simp only [eget, Sem.run_bind, zeroOk_sound hc.2, Result.andThen, Sem.run_pure]
      cases ok <;> rfl
    | some j =>
      obtain ⟨e, he, _, _⟩ := find_place hc.1 ho hm
      simp only [eget, he, getAt_some hm he]
      cases ok <;> rfl
  cases ok with
  | false =>
    exact ⟨_, _, hk, V_c _ _, fun w' hw' => by rw [main w' (by rw [hw' b hlt (by simpa only [rdB] using hb0)]; exact hb)]; rfl⟩
  | true =>
    refine ⟨_, .tuple #[vs.getAt o, .bool o.isSome], hk, ?_, fun w' hw' => by rw [main w' (by rw [hw' b hlt (by simpa only [rdB] using hb0)]; exact hb)]; rfl⟩
    show V θ (.tup [.c (vs.getAt o), .c (.bool o.isSome)]) _
    simp only [V]
    exact ⟨[vs.getAt o, .bool o.isSome], rfl, by simp [VL, V]⟩

theorem unQ_sound {op : UnOp} {s : SV} {u : Value} {k : SV → Prop} (hu : V θ s u) (hq : unQ op s k) :
    ∃ r v', k r ∧ V θ r v' ∧ ∀ w', (Op.unary op u).run P w' = .ok v' w' := by
  unfold unQ at hq
  split at hq <;> (try simp only [V] at hu) <;> (try subst hu)
  · exact ⟨_, _, hq, V_b _ _, fun w' => rfl⟩
  · exact ⟨_, _, hq, V_c _ _, fun w' => rfl⟩
  · exact ⟨_, _, hq, V_c _ _, fun w' => rfl⟩
  · exact ⟨_, _, hq, V_c _ _, fun w' => rfl⟩
  · exact hq.elim

theorem convQ_sound (hs : SatH K θ h nx w) {src dst : Nat} {s : SV} {u : Value} {k : SV → Prop} (hu : V θ s u) (hq : convQ P src dst s h k) :
    ∃ r v', k r ∧ V θ r v' ∧ ∀ w', Rd θ s w w' → (convert src dst u).run P w' = .ok v' w' := by
  unfold convQ at hq
  split at hq
  · rename_i h1 h2
    simp only [V] at hu; subst hu
    exact ⟨_, _, hq, V_c _ _, fun w' _ => by simp [convert, run_underlying h1, run_underlying h2, Conv.intToInt]⟩
  · rename_i h1 h2
    simp only [V] at hu; subst hu
    exact ⟨_, _, hq, V_c _ _, fun w' _ => by simp [convert, run_underlying h1, run_underlying h2]⟩
  · rename_i e h1 h2
    split at hq <;> try exact hq.elim
    rename_i h3
    simp only [V] at hu; subst hu
    refine ⟨_, _, hq, V_c _ _, fun w' _ => ?_⟩
    rw [run_convert_bytes_string w' src dst e none 0 0 h1 h3 h2]
    rfl
  · rename_i e n h1 h2
    split at hq <;> try exact hq.elim
    rename_i xs h3 h4
    simp only [V] at hu
    obtain ⟨L, hL, rfl⟩ := hu
    obtain ⟨L', hL', hd, hw⟩ := arrOf_sound hs h4
    obtain rfl := Option.some.inj (hL.symm.trans hL')
    refine ⟨_, _, hq, V_c _ _, fun w' hb => ?_⟩
    obtain ⟨e1, e2, e3⟩ := hd
    rw [show L.val = .slice L.a L.len L.cap from rfl, run_convert_bytes_string w' src dst e _ _ _ h1 h3 h2]
    exact run_bytes_string hw e1 e2 (fun i z hz => by rw [cell_eq (hb _ (lt_of_cell (e3 i z hz)) ⟨L, hL, by have := (List.getElem?_eq_some_iff.1 hz).1; omega, rfl⟩)]; exact e3 i z hz)
  · exact hq.elim

theorem extractQ_sound {i : Nat} {s : SV} {u : Value} {k : SV → Prop} (hu : V θ s u) (hq : extractQ i s k) :
    ∃ r v', k r ∧ V θ r v' ∧ ∀ w', (Instr.extract u i).run P w' = .ok v' w' := by
  unfold extractQ at hq
  split at hq <;> try exact hq.elim
  split at hq <;> try exact hq.elim
  rename_i r hr
  simp only [V] at hu
  obtain ⟨cs, rfl, hl⟩ := hu
  obtain ⟨v, h1, h2⟩ := VL_get hl hr
  exact ⟨r, v, hq, h2, fun w' => by simp [Instr.extract, h1]⟩

theorem fieldQ_sound {T f : Nat} {s : SV} {u : Value} {k : SV → Prop} (hu : V θ s u) (hq : fieldQ P T f s k) :
    ∃ r v', k r ∧ V θ r v' ∧ ∀ w', (Instr.field T u f).run P w' = .ok v' w' := by
  unfold fieldQ at hq
  split at hq <;> try exact hq.elim
  rename_i fs l hT
  split at hq <;> try exact hq.elim
  rename_i fl hf
  split at hq <;> try exact hq.elim
  rename_i r hr
  simp only [V] at hu
  obtain ⟨cs, rfl, hl⟩ := hu
  unfold ldBlk at hr
  split at hr
  · rename_i s hk
    cases hc : Nat.ble (fl.offset + s) l.length with
    | false => rw [hc] at hr; cases hr
    | true =>
      rw [hc] at hr; cases hr
      refine ⟨_, .agg ((cs.drop fl.offset).take s).toArray, hq, by simp only [V]; exact ⟨_, rfl, VL_take s (VL_drop _ hl)⟩, fun w' => ?_⟩
      obtain ⟨k1, k2⟩ := run_kind hk w'
      simp [Instr.field, run_underlying hT, hf, asAgg, part, k1, k2]
  · rename_i s hk
    obtain ⟨v, h1, h2⟩ := VL_get hl hr
    refine ⟨_, v, hq, h2, fun w' => ?_⟩
    obtain ⟨k1, _⟩ := run_kind hk w'
    simp [Instr.field, run_underlying hT, hf, asAgg, part, k1, h1]
  · cases hr

theorem indexAddrQ_sound (hs : SatH K θ h nx w) {T : Nat} {s t : SV} {u v : Value} {k : SV → Prop} (hu : V θ s u) (hv : V θ t v) (hq : indexAddrQ P T s t h k) :
    ∃ r v', k r ∧ V θ r v' ∧ ∀ w', (Instr.indexAt T u v).run P w' = .ok v' w' := by
  unfold indexAddrQ at hq
  split at hq
  · rename_i e n kk z hT
    split at hq <;> try exact hq.elim
    · rename_i d g es hd hk
      obtain ⟨hc, hq1⟩ := cond_false hq
      obtain ⟨⟨hz0, hz1⟩, hq2⟩ := hq1
      simp only [V] at hu hv
      obtain ⟨L, hL, rfl⟩ := hu
      subst hv
      obtain ⟨L', hL', hat, hw⟩ := arrOf_sound hs hd
      obtain rfl := Option.some.inj (hL.symm.trans hL')
      obtain ⟨l1, l2⟩ := D.at_len hat
      have hlt : z.toNat < L.len := by omega
      have ha : L.a = some ⟨L.b, L.o, none⟩ := hw.resolve_left (by omega)
      refine ⟨_, .pointer (some ⟨L.b, L.o + (z.toNat * es + 0), none⟩), hq2, by simp only [V]; exact ⟨L, hL, hlt, rfl⟩, fun w' => ?_⟩
      obtain ⟨_, k2⟩ := run_kind hk w'
      have hin : 0 ≤ z ∧ z < (L.len : Int) := ⟨hz0, by omega⟩
      simp only [Loc.val, ha]
      simp [Instr.indexAt, asIntOf, run_underlying hT, k2, hin, add_mk]
    · rename_i g es hd hk
      split at hq <;> try exact hq.elim
      rename_i T' S m bs len f hp
      obtain ⟨hc, ⟨hz0, hz1⟩, hq2⟩ := cond_false hq
      obtain rfl := nbeq hc
      obtain ⟨_, L, hL, p1, p2, p3, p4, p5, p6, p7⟩ := pownOf_sound hs hp
      simp only [V] at hu hv
      obtain ⟨L', hL', rfl⟩ := hu
      obtain rfl := Option.some.inj (hL.symm.trans hL')
      subst hv
      have hlt : z.toNat < L.len := by omega
      have ha : L.a = some ⟨L.b, L.o, none⟩ := p1.resolve_left (by omega)
      refine ⟨_, .pointer (some ⟨L.b, L.o + (z.toNat * 1 + 0), none⟩), hq2, by simp only [V]; exact ⟨L, hL, hlt, rfl⟩, fun w' => ?_⟩
      obtain ⟨_, k2⟩ := run_kind hk w'
      have hin : 0 ≤ z ∧ z < (L.len : Int) := ⟨hz0, by omega⟩
      simp only [Loc.val, ha]
      simp [Instr.indexAt, asIntOf, run_underlying hT, k2, hin, add_mk]
  · rename_i e n m kk z hT
    split at hq <;> try exact hq.elim
    rename_i g es pw hk hp
    obtain ⟨T', S, m', bs, len, f⟩ := pw
    obtain ⟨hc, ⟨hz0, hz1⟩, hq2⟩ := cond_false hq
    obtain rfl := nbeq hc
    obtain ⟨_, L', hL', p1, p2, p3, p4, p5, p6, p7⟩ := pownOf_sound hs hp
    simp only [V] at hu hv
    obtain ⟨L, hL, hmL, rfl⟩ := hu
    obtain rfl := Option.some.inj (hL.symm.trans hL')
    subst hv
    have ha : L.a = some ⟨L.b, L.o, none⟩ := p1.resolve_left (by omega)
    refine ⟨_, .pointer (some ⟨L.b, L.o + (z.toNat * 1 + 0), none⟩), hq2, by simp only [V]; exact ⟨L, hL, by omega, rfl⟩, fun w' => ?_⟩
    obtain ⟨_, k2⟩ := run_kind hk w'
    simp only [ha]
    simp [Instr.indexAt, asIntOf, run_underlying hT, k2, hz0, hz1, add_mk]
  · rename_i e n m kk z hT
    split at hq <;> try exact hq.elim
    rename_i g es hk
    simp only [V] at hu hv
    obtain ⟨L, hL, rfl⟩ := hu
    subst hv
    obtain ⟨⟨hz0, hz1⟩, hq2⟩ := hq
    refine ⟨_, _, hq2, by simp only [V]; exact ⟨L, hL, rfl⟩, fun w' => ?_⟩
    obtain ⟨_, k2⟩ := run_kind hk w'
    simp [Instr.indexAt, asIntOf, run_underlying hT, k2, hz0, hz1, add_mk]
  · rename_i len e n o kk z hT
    split at hq <;> try exact hq.elim
    rename_i g es hk
    simp only [V] at hu hv
    obtain ⟨L, hL, rfl⟩ := hu
    subst hv
    obtain ⟨⟨hz0, hz1⟩, hq2⟩ := hq
    refine ⟨_, _, hq2, by simp only [V]; exact ⟨L, hL, rfl⟩, fun w' => ?_⟩
    obtain ⟨_, k2⟩ := run_kind hk w'
    simp [Instr.indexAt, asIntOf, run_underlying hT, k2, hz0, hz1, Instr.sureAddr, add_mk, Nat.add_assoc]
  · rename_i len e n kk z hT
    split at hq <;> try exact hq.elim
    rename_i g es T' d hk hf
    obtain ⟨hc, hq1⟩ := cond_false hq
    obtain ⟨⟨hz0, hz1, hlen⟩, hq2⟩ := hq1
    have e1 := nbeq hc
    subst e1
    simp only [V] at hu hv
    obtain ⟨L, hL, hLL, rfl⟩ := hu
    subst hv
    have ho : L.o = 0 := by rw [hLL]; rfl
    obtain ⟨L', hL', hat, hw, _⟩ := hs.res n _ hf
    obtain rfl := Option.some.inj (hL.symm.trans hL')
    have l1 := (D.at_len hat).1
    refine ⟨_, .pointer (some ⟨L.b, L.o + (z.toNat * 1 + 0), none⟩), hq2, by simp only [V]; exact ⟨L, hL, by omega, rfl⟩, fun w' => ?_⟩
    obtain ⟨_, k2⟩ := run_kind hk w'
    simp [Instr.indexAt, asIntOf, run_underlying hT, k2, hz0, hz1, Instr.sureAddr, add_mk, ho]
  · exact hq.elim

theorem indexQ_sound {T : Nat} {s t : SV} {u v : Value} {k : SV → Prop} (hu : V θ s u) (hv : V θ t v) (hq : indexQ P T s t k) :
    ∃ r v', k r ∧ V θ r v' ∧ ∀ w', (Instr.index T u v).run P w' = .ok v' w' := by
  unfold indexQ at hq
  split at hq <;> try exact hq.elim
  rename_i str kk z hT
  obtain ⟨⟨hz0, hz1⟩, hq2⟩ := hq
  simp only [V] at hu hv
  subst hu hv
  refine ⟨_, _, hq2, V_c _ _, fun w' => ?_⟩
  have hlt : z.toNat < str.size := by omega
  have hlt' : z.toNat < str.data.toList.length := by simpa using hlt
  simp [Instr.index, asIntOf, run_underlying hT, hz0, ByteArray.getElem?_lt' str _ hlt, List.getD, List.getElem?_eq_getElem hlt']
  rfl

theorem lenQ_sound (hs : SatH K θ h nx w) {T : Option Nat} {s : SV} {u : Value} {k : SV → Prop} (hu : V θ s u) (hq : lenQ P T s h k) :
    ∃ r v', k r ∧ V θ r v' ∧ ∀ (ts : Array Nat) (ty : Nat) w', Rd θ s w w' ∨ (∀ n, s ≠ .m n) → ts[0]? = T → (Builtin.len_ ts ty #[u]).run P w' = .ok v' w' := by
  unfold lenQ at hq
  split at hq <;> try exact hq.elim
  rename_i t
  split at hq
  · rename_i hT
    simp only [V] at hu; subst hu
    exact ⟨_, _, hq, V_c _ _, fun ts ty w' hrd ht => by simp [Builtin.len_, ht, run_underlying hT, goInt]⟩
  · rename_i hT
    simp only [V] at hu; subst hu
    exact ⟨_, _, hq, V_c _ _, fun ts ty w' hrd ht => by simp [Builtin.len_, ht, run_underlying hT, goInt]⟩
  · rename_i n m hT
    simp only [V] at hu
    obtain ⟨L, hL, rfl⟩ := hu
    exact ⟨_, _, hq, V_c _ _, fun ts ty w' hrd ht => by simp [Builtin.len_, ht, run_underlying hT, goInt]⟩
  · rename_i hT
    simp only [V] at hu; subst hu
    exact ⟨_, _, hq, V_c _ _, fun ts ty w' _ ht => by simp [Builtin.len_, ht, run_underlying hT, goInt]⟩
  · rename_i n hT
    split at hq
    · rename_i ks vs hmo
      obtain ⟨b, es, clock, rfl, hb0, hb, hm⟩ := mapOf_sound hs hmo hu
      have hlt := (Array.getElem?_eq_some_iff.1 hb).1
      refine ⟨_, _, hq, V_c _ _, fun ts ty w' hrd ht => ?_⟩
      have hb' : w'.heap[b]? = some (.map es clock) := by
        rcases hrd with hrd | hrd
        · rw [hrd b hlt (by simpa only [rdB] using hb0)]; exact hb
        · exact absurd rfl (hrd n)
      simp [Builtin.len_, ht, run_underlying hT, run_getObj_map hb', goInt, hm.size]
    · split at hq
      · rename_i ks m f hmo
        obtain ⟨b, es, clock, rfl, hb0, hb, hm, _⟩ := mapROf_sound hs hmo hu
        have hlt := (Array.getElem?_eq_some_iff.1 hb).1
        refine ⟨_, _, hq, V_c _ _, fun ts ty w' hrd ht => ?_⟩
        have hb' : w'.heap[b]? = some (.map es clock) := by
          rcases hrd with hrd | hrd
          · rw [hrd b hlt (by simpa only [rdB] using hb0)]; exact hb
          · exact absurd rfl (hrd n)
        simp [Builtin.len_, ht, run_underlying hT, run_getObj_map hb', goInt, hm.size]
      · split at hq <;> try exact hq.elim
        rename_i n' ks rest hmo
        obtain ⟨b, es, rfl, hb0, hb, hm, _⟩ := mapSOf_sound hs hmo hu
        have hlt := (Array.getElem?_eq_some_iff.1 hb).1
        refine ⟨_, _, hq, V_c _ _, fun ts ty w' hrd ht => ?_⟩
        have hb' : w'.heap[b]? = some (.map es rest.2.2) := by
          rcases hrd with hrd | hrd
          · rw [hrd b hlt (by simpa only [rdB] using hb0)]; exact hb
          · exact absurd rfl (hrd n)
        simp [Builtin.len_, ht, run_underlying hT, run_getObj_map hb', goInt, hm.size]
  · rename_i n m hT
    simp only [V] at hu
    obtain ⟨L, hL, _, rfl⟩ := hu
    exact ⟨_, _, hq, V_c _ _, fun ts ty w' hrd ht => by simp [Builtin.len_, ht, run_underlying hT, goInt]⟩
  · rename_i n hT
    simp only [V] at hu
    obtain ⟨L, hL, rfl⟩ := hu
    split at hq
    · rename_i d hd
      obtain ⟨L', hL', hat, hw⟩ := arrOf_sound hs hd
      obtain rfl := Option.some.inj (hL.symm.trans hL')
      refine ⟨_, _, hq, V_c _ _, fun ts ty w' hrd ht => ?_⟩
      rw [← (D.at_len hat).1]
      simp [Builtin.len_, ht, run_underlying hT, goInt, Loc.val]
    · split at hq <;> try exact hq.elim
      rename_i T' S m bs len f hp
      obtain ⟨_, L', hL', p1, p2, p3, p4, p5, p6, p7⟩ := pownOf_sound hs hp
      obtain rfl := Option.some.inj (hL.symm.trans hL')
      refine ⟨_, _, hq, V_c _ _, fun ts ty w' hrd ht => ?_⟩
      rw [← p2]
      simp [Builtin.len_, ht, run_underlying hT, goInt, Loc.val]
  · exact hq.elim
theorem capQ_sound {T : Option Nat} {s : SV} {u : Value} {k : SV → Prop} (hu : V θ s u) (hq : capQ P T s k) :
    ∃ r v', k r ∧ V θ r v' ∧ ∀ (ts : Array Nat) (ty : Nat) w', ts[0]? = T → (Builtin.cap_ ts ty #[u]).run P w' = .ok v' w' := by
  unfold capQ at hq
  split at hq <;> try exact hq.elim
  split at hq <;> try exact hq.elim
  rename_i hT
  simp only [V] at hu; subst hu
  exact ⟨_, _, hq, V_c _ _, fun ts ty w' ht => by simp [Builtin.cap_, ht, run_underlying hT, goInt]⟩
theorem glFind_sound (hs : SatH K θ h nx w) {n T : Nat} {kk : IntKind} {xs : List Int} (hq : glFind h n = some (T, kk, xs)) : Free K θ h n ∧ GCell w n kk xs := by
  unfold glFind at hq
  split at hq <;> try (cases hq; done)
  rename_i m _
  split at hq <;> try (cases hq; done)
  rename_i b T' k' xs' hf
  cases hb : Nat.beq b n with
  | false => rw [hb] at hq; cases hq
  | true =>
    rw [hb] at hq
    cases hq
    obtain rfl := Nat.eq_of_beq_eq_true hb
    obtain ⟨L, _, _, h1, h2⟩ := hs.res m _ hf
    exact ⟨h1, h2⟩
theorem indexG_sound (hs : SatH K θ h nx w) {T n : Nat} {t : SV} {u v : Value} {k : HK} (hu : V θ (.g n) u) (hv : V θ t v) (hq : indexG P T n t h nx k) :
    ∃ r h' nx' θ' v', k r h' nx' ∧ Grows K θ θ' nx nx' h' w ∧ V θ' r v' ∧ ∀ w', (Instr.indexAt T u v).run P w' = .ok v' w' := by
  unfold indexG at hq
  split at hq <;> try exact hq.elim
  rename_i len e kk z T' k' xs hT hg
  split at hq <;> try exact hq.elim
  rename_i g es hk
  obtain ⟨hc, hq1⟩ := cond_false hq
  obtain ⟨⟨hz0, hz1, hlen⟩, hq2⟩ := hq1
  have e1 := nbeq hc
  subst e1
  simp only [V] at hu hv
  subst hu hv
  obtain ⟨h1, h2⟩ := glFind_sound hs hg
  have hlt : n < w.heap.size := h2.1
  have hat : (D.ints k' xs).at (Free K θ h) w ⟨some ⟨n, 0, none⟩, xs.length, xs.length⟩ := ⟨rfl, Nat.le_refl _, fun i y hy => by
    show w.cell? ⟨n, 0 + i, none⟩ = _
    rw [Nat.zero_add]; exact h2.2 i y hy⟩
  refine ⟨_, _, _, _, .pointer (some ⟨n, 0 + (z.toNat * 1 + 0), none⟩), hq2, Grows.add_ro (L := ⟨some ⟨n, 0, none⟩, xs.length, xs.length⟩) hs hat (.inr rfl) (fun _ => ⟨h1, hlt⟩), by simp only [V]; exact ⟨_, Th.add_self _ _ _, by simp only; omega, rfl⟩, fun w' => ?_⟩
  obtain ⟨_, k2⟩ := run_kind hk w'
  simp [Instr.indexAt, asIntOf, run_underlying hT, k2, hz0, hz1, Instr.sureAddr, add_mk]
end
end Go.Z
