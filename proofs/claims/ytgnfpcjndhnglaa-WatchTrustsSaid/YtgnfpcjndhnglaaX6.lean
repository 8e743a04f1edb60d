/- The operations that only read: what 'stepQ' says is what the run does. -/
import Derived.Test.YtgnfpcjndhnglaaX5
namespace Go.X
open Go.RowKit

theorem V_c (θ : Th) (v : Value) : V θ (.c v) v := by simp only [V]
theorem V_b (θ : Th) (t : Bool) : V θ (.b t) (.bool t) := by simp only [V]

theorem run_ptr_nil {P : Program} {T e : Nat} (hT : P.underlying T = some (.pointer e)) (a : Addr) (w : World) :
    (binOp .eql T (.pointer (some a)) (.pointer none)).run P w = .ok (.bool false) w ∧ (binOp .neq T (.pointer (some a)) (.pointer none)).run P w = .ok (.bool true) w := by
  have h : (Op.equal T (.pointer (some a)) (.pointer none)).run P w = .ok false w := by
    show (Op.equalIn (9999 + 1) T (.pointer (some a)) (.pointer none)).run P w = .ok false w
    unfold Op.equalIn
    simp only [Sem.run_bind, run_underlying hT, Result.andThen]
    rfl
  have h1 : binOp .eql T (.pointer (some a)) (.pointer none) = (do pure (.bool (← Op.equal T (.pointer (some a)) (.pointer none)))) := rfl
  have h2 : binOp .neq T (.pointer (some a)) (.pointer none) = (do pure (.bool (!(← Op.equal T (.pointer (some a)) (.pointer none))))) := rfl
  rw [h1, h2]
  simp only [Sem.run_bind, h, Result.andThen]
  exact ⟨rfl, rfl⟩

section
variable {P : Program} {K : Ctx} {θ : Th} {h : List (Nat × R)} {nx : Nat} {w : World}

theorem fieldAddrQ_sound {S f : Nat} {s : SV} {v : Value} {k : SV → Prop} (hv : V θ s v) (hq : fieldAddrQ (fldT P S f) s k) :
    ∃ r v', k r ∧ V θ r v' ∧ ∀ w', (Instr.fieldAt S v f).run P w' = .ok v' w' := by
  unfold fieldAddrQ at hq
  split at hq
  · rename_i off n o hf
    simp only [V] at hv
    obtain ⟨L, hL, rfl⟩ := hv
    exact ⟨_, _, hq, by simp only [V]; exact ⟨L, hL, rfl⟩, fun w' => by rw [run_fieldAt hf]; congr 1; simp [Nat.add_assoc]⟩
  · rename_i off n es i o hf
    simp only [V] at hv
    obtain ⟨L, hL, hi, rfl⟩ := hv
    exact ⟨_, _, hq, by simp only [V]; exact ⟨L, hL, hi, rfl⟩, fun w' => by rw [run_fieldAt hf]; congr 1; simp [Nat.add_assoc]⟩
  · exact hq.elim

theorem ldBlk_sound {T : Nat} {l : List SV} {o : Nat} {r : SV} {cs : List Value} (hl : VL θ l cs) (hq : ldBlk P T l o = some r) :
    ∃ v, V θ r v ∧ ∀ (w' : World) (b : Nat), (∀ j u, cs[j]? = some u → w'.cell? ⟨b, j, none⟩ = some u) → (loadVar T ⟨b, o, none⟩).run P w' = .ok v w' := by
  unfold ldBlk at hq
  split at hq
  · rename_i s hT
    cases hc : Nat.ble (o + s) l.length with
    | false => rw [hc] at hq; cases hq
    | true =>
      rw [hc] at hq; cases hq
      have hlen := VL_length hl
      have hle := nble hc
      refine ⟨.agg ((cs.drop o).take s).toArray, by simp only [V]; exact ⟨_, rfl, VL_take s (VL_drop o hl)⟩, fun w' b hb => run_loadVar_agg hT w' b o _ (by simp; omega) fun j v hj => ?_⟩
      rw [List.getElem?_take] at hj
      split at hj <;> try (cases hj; done)
      rw [List.getElem?_drop] at hj
      exact hb _ _ hj
  · rename_i s hT
    obtain ⟨v, h1, h2⟩ := VL_get hl hq
    exact ⟨v, h2, fun w' b hb => run_loadVar_one hT w' b o v (hb _ _ h1)⟩
  · cases hq

/-- The blocks that a value's reading looks at are as they were. -/
def rdB (θ : Th) : SV → Nat → Prop
  | .p n _, b => ∃ L, θ n = some L ∧ L.b = b
  | .e n _ _ _, b => ∃ L, θ n = some L ∧ L.len ≠ 0 ∧ L.b = b
  | .a n, b => ∃ L, θ n = some L ∧ L.len ≠ 0 ∧ L.b = b
  | _, _ => False
def Rd (θ : Th) (s : SV) (w w' : World) : Prop := ∀ b, b < w.heap.size → rdB θ s b → w'.heap[b]? = w.heap[b]?
theorem Rd.of_below {w' : World} (hb : Below w.heap.size w w') (s : SV) : Rd θ s w w' := fun b h _ => hb.block b h

theorem loadQ_sound (hs : SatH K θ h nx w) {T : Nat} {s : SV} {v : Value} {k : HK} (hv : V θ s v) (hq : loadQ P T s h nx k) :
    ∃ r h' nx' θ' v', k r h' nx' ∧ Grows K θ θ' nx nx' h' w ∧ V θ' r v' ∧ ∀ w', Rd θ s w w' → (Instr.loadAt T v).run P w' = .ok v' w' := by
  unfold loadQ at hq
  split at hq
  · rename_i n o
    split at hq <;> try exact hq.elim
    rename_i T' l hf
    split at hq <;> try exact hq.elim
    rename_i r hr
    obtain ⟨L, hL, cs, hb1, hb2, hb3⟩ := hs.res n _ hf
    simp only [V] at hv
    obtain ⟨L', hL', rfl⟩ := hv
    obtain rfl := Option.some.inj (hL.symm.trans hL')
    obtain ⟨v', h1, h2⟩ := ldBlk_sound hb3 hr
    refine ⟨_, _, _, θ, v', hq, .refl hs, h1, fun w' hw' => ?_⟩
    have ho : L.o = 0 := by unfold Loc.o; rw [hb1]
    have := h2 w' L.b (fun j u hj => by
      have hlt : L.b < w.heap.size := (Array.getElem?_eq_some_iff.1 hb2).1
      rw [cell_eq (hw' _ hlt ⟨L, hL, rfl⟩), cell_of_cells hb2]; exact hj)
    simpa [Instr.loadAt, Instr.sureAddr, ho] using this
  · rename_i n es i o
    split at hq <;> try exact hq.elim
    rename_i d hd
    obtain ⟨r, h', nx', θ', v', a1, a2, a3, b, o', e1, hb, a4⟩ := ldArr_sound hs hd hv hq
    subst e1
    simp only [V] at hv
    obtain ⟨L, g1, g0, g2⟩ := hv
    simp at g2
    refine ⟨r, h', nx', θ', v', a1, a2, a3, fun w' hw' => ?_⟩
    have := a4 w' (hw' b hb ⟨L, g1, by omega, g2.1.symm⟩)
    simpa [Instr.loadAt, Instr.sureAddr] using this
  · exact hq.elim

theorem binQ_sound {op : BinOp} {T : Nat} {s t : SV} {u v : Value} {k : SV → Prop} (hu : V θ s u) (hv : V θ t v) (hq : binQ P op T s t k) :
    ∃ r v', k r ∧ V θ r v' ∧ ∀ (x y : Operand) w', (do eqGuard op T x y u v; binOp op T u v : Sem Value).run P w' = .ok v' w' := by
  unfold binQ at hq
  split at hq
  · rename_i u' v' e1 e2
    split at hq <;> try exact hq.elim
    rename_i c r hr
    obtain rfl := V_scal e1 hu
    obtain rfl := V_scal e2 hv
    exact ⟨_, _, hq.2, V_c _ _, fun x y w' => binV_sound hr hq.1 x y w'⟩
  · split at hq
    · rename_i hT _
      simp only [V] at hu hv
      obtain ⟨L, _, rfl⟩ := hu
      subst hv
      refine ⟨_, .bool false, hq, V_b _ _, fun x y w' => ?_⟩
      rw [eqGuard_at_pointer]
      exact (run_ptr_nil hT _ w').1
    · rename_i hT _
      simp only [V] at hu hv
      obtain ⟨L, _, rfl⟩ := hu
      subst hv
      refine ⟨_, .bool true, hq, V_b _ _, fun x y w' => ?_⟩
      rw [eqGuard_at_pointer]
      exact (run_ptr_nil hT _ w').2
    · exact hq.elim

theorem unQ_sound {op : UnOp} {s : SV} {u : Value} {k : SV → Prop} (hu : V θ s u) (hq : unQ op s k) :
    ∃ r v', k r ∧ V θ r v' ∧ ∀ w', (Op.unary op u).run P w' = .ok v' w' := by
  unfold unQ at hq
  split at hq <;> (try simp only [V] at hu) <;> (try subst hu)
  · exact ⟨_, _, hq, V_b _ _, fun w' => rfl⟩
  · exact ⟨_, _, hq, V_c _ _, fun w' => rfl⟩
  · exact ⟨_, _, hq, V_c _ _, fun w' => rfl⟩
  · exact ⟨_, _, hq, V_c _ _, fun w' => rfl⟩
  · exact hq.elim

theorem convQ_sound (hs : SatH K θ h nx w) {src dst : Nat} {s : SV} {u : Value} {k : SV → Prop} (hu : V θ s u) (hq : convQ P src dst s h k) :
    ∃ r v', k r ∧ V θ r v' ∧ ∀ w', Rd θ s w w' → (convert src dst u).run P w' = .ok v' w' := by
  unfold convQ at hq
  split at hq
  · rename_i h1 h2
    simp only [V] at hu; subst hu
    exact ⟨_, _, hq, V_c _ _, fun w' _ => by simp [convert, run_underlying h1, run_underlying h2, Conv.intToInt]⟩
  · rename_i h1 h2
    simp only [V] at hu; subst hu
    exact ⟨_, _, hq, V_c _ _, fun w' _ => by simp [convert, run_underlying h1, run_underlying h2]⟩
  · rename_i e h1 h2
    split at hq <;> try exact hq.elim
    rename_i h3
    simp only [V] at hu; subst hu
    refine ⟨_, _, hq, V_c _ _, fun w' _ => ?_⟩
    rw [run_convert_bytes_string w' src dst e none 0 0 h1 h3 h2]
    rfl
  · rename_i e n h1 h2
    split at hq <;> try exact hq.elim
    rename_i xs h3 h4
    simp only [V] at hu
    obtain ⟨L, hL, rfl⟩ := hu
    obtain ⟨L', hL', hd, hw⟩ := arrOf_sound hs h4
    obtain rfl := Option.some.inj (hL.symm.trans hL')
    refine ⟨_, _, hq, V_c _ _, fun w' hb => ?_⟩
    obtain ⟨e1, e2, e3⟩ := hd
    rw [show L.val = .slice L.a L.len L.cap from rfl, run_convert_bytes_string w' src dst e _ _ _ h1 h3 h2]
    exact run_bytes_string hw e1 e2 (fun i z hz => by rw [cell_eq (hb _ (lt_of_cell (e3 i z hz)) ⟨L, hL, by have := (List.getElem?_eq_some_iff.1 hz).1; omega, rfl⟩)]; exact e3 i z hz)
  · exact hq.elim

theorem extractQ_sound {i : Nat} {s : SV} {u : Value} {k : SV → Prop} (hu : V θ s u) (hq : extractQ i s k) :
    ∃ r v', k r ∧ V θ r v' ∧ ∀ w', (Instr.extract u i).run P w' = .ok v' w' := by
  unfold extractQ at hq
  split at hq <;> try exact hq.elim
  split at hq <;> try exact hq.elim
  rename_i r hr
  simp only [V] at hu
  obtain ⟨cs, rfl, hl⟩ := hu
  obtain ⟨v, h1, h2⟩ := VL_get hl hr
  exact ⟨r, v, hq, h2, fun w' => by simp [Instr.extract, h1]⟩

theorem fieldQ_sound {T f : Nat} {s : SV} {u : Value} {k : SV → Prop} (hu : V θ s u) (hq : fieldQ P T f s k) :
    ∃ r v', k r ∧ V θ r v' ∧ ∀ w', (Instr.field T u f).run P w' = .ok v' w' := by
  unfold fieldQ at hq
  split at hq <;> try exact hq.elim
  rename_i fs l hT
  split at hq <;> try exact hq.elim
  rename_i fl hf
  split at hq <;> try exact hq.elim
  rename_i r hr
  simp only [V] at hu
  obtain ⟨cs, rfl, hl⟩ := hu
  unfold ldBlk at hr
  split at hr
  · rename_i s hk
    cases hc : Nat.ble (fl.offset + s) l.length with
    | false => rw [hc] at hr; cases hr
    | true =>
      rw [hc] at hr; cases hr
      refine ⟨_, .agg ((cs.drop fl.offset).take s).toArray, hq, by simp only [V]; exact ⟨_, rfl, VL_take s (VL_drop _ hl)⟩, fun w' => ?_⟩
      obtain ⟨k1, k2⟩ := run_kind hk w'
      simp [Instr.field, run_underlying hT, hf, asAgg, part, k1, k2]
  · rename_i s hk
    obtain ⟨v, h1, h2⟩ := VL_get hl hr
    refine ⟨_, v, hq, h2, fun w' => ?_⟩
    obtain ⟨k1, _⟩ := run_kind hk w'
    simp [Instr.field, run_underlying hT, hf, asAgg, part, k1, h1]
  · cases hr

theorem indexAddrQ_sound (hs : SatH K θ h nx w) {T : Nat} {s t : SV} {u v : Value} {k : SV → Prop} (hu : V θ s u) (hv : V θ t v) (hq : indexAddrQ P T s t h k) :
    ∃ r v', k r ∧ V θ r v' ∧ ∀ w', (Instr.indexAt T u v).run P w' = .ok v' w' := by
  unfold indexAddrQ at hq
  split at hq
  · rename_i e n kk z hT
    split at hq <;> try exact hq.elim
    rename_i d g es hd hk
    obtain ⟨hc, hq1⟩ := cond_false hq
    obtain ⟨⟨hz0, hz1⟩, hq2⟩ := hq1
    simp only [V] at hu hv
    obtain ⟨L, hL, rfl⟩ := hu
    subst hv
    obtain ⟨L', hL', hat, hw⟩ := arrOf_sound hs hd
    obtain rfl := Option.some.inj (hL.symm.trans hL')
    obtain ⟨l1, l2⟩ := D.at_len hat
    have hlt : z.toNat < L.len := by omega
    have ha : L.a = some ⟨L.b, L.o, none⟩ := hw.resolve_left (by omega)
    refine ⟨_, .pointer (some ⟨L.b, L.o + (z.toNat * es + 0), none⟩), hq2, by simp only [V]; exact ⟨L, hL, hlt, rfl⟩, fun w' => ?_⟩
    obtain ⟨_, k2⟩ := run_kind hk w'
    have hin : 0 ≤ z ∧ z < (L.len : Int) := ⟨hz0, by omega⟩
    simp only [Loc.val, ha]
    simp [Instr.indexAt, asIntOf, run_underlying hT, k2, hin, add_mk]
  · rename_i len e n o kk z hT
    split at hq <;> try exact hq.elim
    rename_i g es hk
    obtain ⟨⟨hz0, hz1⟩, hq2⟩ := hq
    simp only [V] at hu hv
    obtain ⟨L, hL, rfl⟩ := hu
    subst hv
    refine ⟨_, _, hq2, by simp only [V]; exact ⟨L, hL, rfl⟩, fun w' => ?_⟩
    obtain ⟨_, k2⟩ := run_kind hk w'
    simp [Instr.indexAt, asIntOf, run_underlying hT, k2, hz0, hz1, Instr.sureAddr, add_mk, Nat.add_assoc]
  · exact hq.elim

theorem indexQ_sound {T : Nat} {s t : SV} {u v : Value} {k : SV → Prop} (hu : V θ s u) (hv : V θ t v) (hq : indexQ P T s t k) :
    ∃ r v', k r ∧ V θ r v' ∧ ∀ w', (Instr.index T u v).run P w' = .ok v' w' := by
  unfold indexQ at hq
  split at hq <;> try exact hq.elim
  rename_i str kk z hT
  obtain ⟨⟨hz0, hz1⟩, hq2⟩ := hq
  simp only [V] at hu hv
  subst hu hv
  refine ⟨_, _, hq2, V_c _ _, fun w' => ?_⟩
  have hlt : z.toNat < str.size := by omega
  have hlt' : z.toNat < str.data.toList.length := by simpa using hlt
  simp [Instr.index, asIntOf, run_underlying hT, hz0, ByteArray.getElem?_lt' str _ hlt, List.getD, List.getElem?_eq_getElem hlt']
  rfl

theorem lenQ_sound (hs : SatH K θ h nx w) {T : Option Nat} {s : SV} {u : Value} {k : SV → Prop} (hu : V θ s u) (hq : lenQ P T s h k) :
    ∃ r v', k r ∧ V θ r v' ∧ ∀ (ts : Array Nat) (ty : Nat) w', ts[0]? = T → (Builtin.len_ ts ty #[u]).run P w' = .ok v' w' := by
  unfold lenQ at hq
  split at hq <;> try exact hq.elim
  rename_i t
  split at hq
  · rename_i hT
    simp only [V] at hu; subst hu
    exact ⟨_, _, hq, V_c _ _, fun ts ty w' ht => by simp [Builtin.len_, ht, run_underlying hT, goInt]⟩
  · rename_i hT
    simp only [V] at hu; subst hu
    exact ⟨_, _, hq, V_c _ _, fun ts ty w' ht => by simp [Builtin.len_, ht, run_underlying hT, goInt]⟩
  · rename_i n hT
    split at hq <;> try exact hq.elim
    rename_i d hd
    simp only [V] at hu
    obtain ⟨L, hL, rfl⟩ := hu
    obtain ⟨L', hL', hat, hw⟩ := arrOf_sound hs hd
    obtain rfl := Option.some.inj (hL.symm.trans hL')
    refine ⟨_, _, hq, V_c _ _, fun ts ty w' ht => ?_⟩
    rw [← (D.at_len hat).1]
    simp [Builtin.len_, ht, run_underlying hT, goInt, Loc.val]
  · exact hq.elim
end
end Go.X
