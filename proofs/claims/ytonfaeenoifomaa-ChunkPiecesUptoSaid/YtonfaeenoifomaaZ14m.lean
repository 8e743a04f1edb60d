/- Maps that are written: what becomes of their columns. -/
import Derived.Test.YtonfaeenoifomaaZ14
namespace Go.Z
open Go.RowKit

section
variable {P : Program} {K : Ctx} {θ : Th} {h : List (Nat × R)} {nx : Nat} {w : World}

theorem mputV_spec {ν : Type} (m : List ν) (o : Option Nat) (v : ν) : (∀ i, o ≠ some i → i < m.length → (mputV m o v)[i]? = m[i]?) ∧ (∀ j, o = some j → j < m.length → (mputV m o v)[j]? = some v ∧ (mputV m o v).length = m.length) ∧
    (o = none → (mputV m o v)[m.length]? = some v ∧ (mputV m o v).length = m.length + 1) := by
  cases o with
  | none =>
    refine ⟨fun i _ hi => ?_, fun j hj => (by cases hj), fun _ => ?_⟩
    · simp [mputV, List.getElem?_append_left hi]
    · simp [mputV]
  | some j =>
    refine ⟨fun i hne _ => ?_, fun j' hj hlt => ?_, fun h => by cases h⟩
    · simp only [mputV]
      exact List.getElem?_set_ne (fun e => hne (by rw [e]))
    · cases hj
      simp [mputV, hlt]
theorem mputK_spec {κ : Type} (m : List κ) (o : Option Nat) (x : κ) : (∀ i, i < m.length → (mputK m o x)[i]? = m[i]?) ∧ (∀ j, o = some j → mputK m o x = m) ∧ (o = none → (mputK m o x)[m.length]? = some x ∧ (mputK m o x).length = m.length + 1) := by
  cases o with
  | none =>
    refine ⟨fun i hi => ?_, fun j hj => (by cases hj), fun _ => ?_⟩
    · simp [mputK, List.getElem?_append_left hi]
    · simp [mputK]
  | some j => exact ⟨fun i _ => rfl, fun j' _ => rfl, fun h => by cases h⟩

theorem Col.putV_spec {vs vs' : Col} {o : Option Nat} {v : Value} (hp : vs.putV o v = some vs') : (∀ i, o ≠ some i → i < vs.len → vs'.get? i = vs.get? i) ∧ (∀ j, o = some j → j < vs.len → vs'.get? j = some v ∧ vs'.len = vs.len) ∧
    (o = none → vs'.get? vs.len = some v ∧ vs'.len = vs.len + 1) := by
  have main : ∀ {ν : Type} (enc : ν → Value) (m : List ν) (z : ν), (∀ i, o ≠ some i → i < m.length → ((mputV m o z)[i]?).map enc = (m[i]?).map enc) ∧ (∀ j, o = some j → j < m.length → ((mputV m o z)[j]?).map enc = some (enc z) ∧ (mputV m o z).length = m.length) ∧
      (o = none → ((mputV m o z)[m.length]?).map enc = some (enc z) ∧ (mputV m o z).length = m.length + 1) := by
    intro ν enc m z
    obtain ⟨h1, h2, h3⟩ := mputV_spec m o z
    exact ⟨fun i hi hl => by rw [h1 i hi hl], fun j hj hl => ⟨by rw [(h2 j hj hl).1]; rfl, (h2 j hj hl).2⟩, fun hn => ⟨by rw [(h3 hn).1]; rfl, (h3 hn).2⟩⟩
  unfold Col.putV at hp
  split at hp
  · split at hp <;> cases hp
    rename_i e; subst e
    exact main (Value.int _) _ _
  · cases hp; exact main Value.bool _ _
  · cases hp; exact main Value.string _ _
  · cases hp

theorem Col.putK_spec {vs vs' : Col} {o : Option Nat} {v : Value} (hp : vs.putK o v = some vs') : (∀ i, i < vs.len → vs'.get? i = vs.get? i) ∧ (∀ j, o = some j → vs' = vs) ∧ (o = none → vs'.get? vs.len = some v ∧ vs'.len = vs.len + 1) := by
  have main : ∀ {ν : Type} (enc : ν → Value) (m : List ν) (z : ν), (∀ i, i < m.length → ((mputK m o z)[i]?).map enc = (m[i]?).map enc) ∧ (o = none → ((mputK m o z)[m.length]?).map enc = some (enc z) ∧ (mputK m o z).length = m.length + 1) := by
    intro ν enc m z
    obtain ⟨h1, h2, h3⟩ := mputK_spec m o z
    exact ⟨fun i hl => by rw [h1 i hl], fun hn => ⟨by rw [(h3 hn).1]; rfl, (h3 hn).2⟩⟩
  have same : ∀ {ν : Type} (m : List ν) (z : ν) j, o = some j → mputK m o z = m := fun m z j hj => by rw [hj]; rfl
  unfold Col.putK at hp
  split at hp
  · split at hp <;> cases hp
    rename_i e; subst e
    exact ⟨(main (Value.int _) _ _).1, fun j hj => by rw [same _ _ j hj], (main (Value.int _) _ _).2⟩
  · cases hp; exact ⟨(main Value.bool _ _).1, fun j hj => by rw [same _ _ j hj], (main Value.bool _ _).2⟩
  · cases hp; exact ⟨(main Value.string _ _).1, fun j hj => by rw [same _ _ j hj], (main Value.string _ _).2⟩
  · cases hp

theorem Col.get?_lt {c : Col} {i : Nat} {v : Value} (h : c.get? i = some v) : i < c.len := by
  cases c <;> simp only [Col.get?, Option.map_eq_some_iff] at h <;> obtain ⟨z, hz, _⟩ := h <;> exact (List.getElem?_eq_some_iff.1 hz).1

theorem MapIs.set {es : Array MapEntry} {clock j : Nat} {ks vs vs' : Col} {key val : Value} (hm : MapIs es clock ks vs) (hk : ks.get? j = some key) (hv : vs.putV (some j) val = some vs') :
    MapIs (es.modify j fun e => { e with key, val }) clock ks vs' := by
  have hj := Col.get?_lt hk
  obtain ⟨v1, v2, _⟩ := Col.putV_spec hv
  have hjv : j < vs.len := by rw [hm.vals]; exact hj
  have born : ∀ (i : Nat) (e : MapEntry), (es.modify j fun e => { e with key, val })[i]? = some e → ∃ e0, es[i]? = some e0 ∧ e.born = e0.born ∧ (i = j → e.key = key ∧ e.val = val) ∧ (i ≠ j → e = e0) := by
    intro i e he
    rw [Array.getElem?_modify] at he
    split at he
    · rename_i hji
      subst hji
      cases h0 : es[j]? with
      | none => rw [h0] at he; cases he
      | some e0 => rw [h0] at he; simp at he; subst he; exact ⟨e0, rfl, rfl, fun _ => ⟨rfl, rfl⟩, fun hne => absurd rfl hne⟩
    · rename_i hji
      exact ⟨e, he, rfl, fun e => absurd e.symm hji, fun _ => rfl⟩
  refine ⟨by simp [hm.size], by rw [(v2 j rfl hjv).2, hm.vals], fun i e he => ?_, fun i e he => ?_, fun i i' e e' hlt he he' => ?_⟩
  · obtain ⟨e0, h0, _, h1, h2⟩ := born i e he
    by_cases hij : i = j
    · subst hij
      rw [(h1 rfl).1, (h1 rfl).2]
      exact ⟨hk, (v2 i rfl hjv).1⟩
    · rw [h2 hij]
      obtain ⟨a1, a2⟩ := hm.at_ i e0 h0
      exact ⟨a1, by rw [v1 i (fun h => hij (Option.some.inj h).symm) (Col.get?_lt a2)]; exact a2⟩
  · obtain ⟨e0, h0, h1, _⟩ := born i e he
    rw [h1]; exact hm.born i e0 h0
  · obtain ⟨e0, h0, h1, _⟩ := born i e he
    obtain ⟨e0', h0', h1', _⟩ := born i' e' he'
    rw [h1, h1']; exact hm.order i i' e0 e0' hlt h0 h0'

theorem MapIs.push {es : Array MapEntry} {clock : Nat} {ks ks' vs vs' : Col} {key val : Value} (hm : MapIs es clock ks vs) (hk : ks.putK none key = some ks') (hv : vs.putV none val = some vs') :
    MapIs (es.push { key, val, born := clock }) (clock + 1) ks' vs' := by
  obtain ⟨v1, _, v3⟩ := Col.putV_spec hv
  obtain ⟨k1, _, k3⟩ := Col.putK_spec hk
  have get : ∀ (i : Nat) (e : MapEntry), (es.push { key, val, born := clock })[i]? = some e → (i < es.size ∧ es[i]? = some e) ∨ (i = es.size ∧ e = { key, val, born := clock }) := by
    intro i e he
    rw [Array.getElem?_push] at he
    split at he
    · rename_i hi; subst hi; cases he; exact .inr ⟨rfl, rfl⟩
    · exact .inl ⟨(Array.getElem?_eq_some_iff.1 he).1, he⟩
  refine ⟨by rw [(k3 rfl).2]; simp [hm.size], by rw [(v3 rfl).2, (k3 rfl).2, hm.vals], fun i e he => ?_, fun i e he => ?_, fun i i' e e' hlt he he' => ?_⟩
  · rcases get i e he with ⟨hi, h1⟩ | ⟨hi, rfl⟩
    · obtain ⟨a1, a2⟩ := hm.at_ i e h1
      exact ⟨by rw [k1 i (Col.get?_lt a1)]; exact a1, by rw [v1 i (fun h => by cases h) (Col.get?_lt a2)]; exact a2⟩
    · subst hi
      have e1 : es.size = ks.len := hm.size
      have e2 : es.size = vs.len := by rw [e1, hm.vals]
      exact ⟨by rw [e1]; exact (k3 rfl).1, by rw [e2]; exact (v3 rfl).1⟩
  · rcases get i e he with ⟨hi, h1⟩ | ⟨hi, rfl⟩
    · have := hm.born i e h1; omega
    · simp
  · rcases get i e he with ⟨hi, h1⟩ | ⟨hi, rfl⟩ <;> rcases get i' e' he' with ⟨hi', h1'⟩ | ⟨hi', rfl⟩
    · exact hm.order i i' e e' hlt h1 h1'
    · exact hm.born i e h1
    · omega
    · omega

theorem mdel_len {ν : Type} {m : List ν} {j : Nat} (h : j < m.length) : (mdel m (some j)).length = m.length - 1 := by simp [mdel, List.length_eraseIdx, h]
theorem Col.del_spec {c : Col} {j : Nat} (h : j < c.len) : (c.del (some j)).len = c.len - 1 ∧ ∀ i, (c.del (some j)).get? i = if i < j then c.get? i else c.get? (i + 1) := by
  cases c <;> simp only [Col.len] at h <;> refine ⟨mdel_len h, fun i => ?_⟩ <;> simp only [Col.del, Col.get?, mdel, List.getElem?_eraseIdx] <;> split <;> rfl

theorem MapIs.del {es : Array MapEntry} {clock j : Nat} {ks vs : Col} (hm : MapIs es clock ks vs) (hj : j < es.size) : MapIs (es.eraseIdxIfInBounds j) clock (ks.del (some j)) (vs.del (some j)) := by
  have hk : j < ks.len := by rw [← hm.size]; exact hj
  have hv : j < vs.len := by rw [hm.vals]; exact hk
  obtain ⟨k1, k2⟩ := Col.del_spec hk
  obtain ⟨v1, v2⟩ := Col.del_spec hv
  have get : ∀ i : Nat, (es.eraseIdxIfInBounds j)[i]? = if i < j then es[i]? else es[i + 1]? := by
    intro i
    simp only [Array.eraseIdxIfInBounds, hj, dite_true]
    rw [← Array.getElem?_toList, Array.toList_eraseIdx, List.getElem?_eraseIdx]
    split <;> simp
  refine ⟨?_, by rw [v1, k1, hm.vals], fun i e he => ?_, fun i e he => ?_, fun i i' e e' hlt he he' => ?_⟩
  · rw [k1, ← hm.size]
    simp [Array.eraseIdxIfInBounds, hj]
  · rw [get] at he
    rw [k2, v2]
    split at he
    · rename_i hi; rw [if_pos hi, if_pos hi]; exact hm.at_ i e he
    · rename_i hi; rw [if_neg hi, if_neg hi]; exact hm.at_ (i + 1) e he
  · rw [get] at he
    split at he
    · exact hm.born i e he
    · exact hm.born _ e he
  · rw [get] at he he'
    split at he <;> split at he'
    · exact hm.order _ _ e e' hlt he he'
    · exact hm.order _ _ e e' (by omega) he he'
    · omega
    · exact hm.order _ _ e e' (by omega) he he'

theorem run_setObj {b : Nat} {es : Array MapEntry} {clock : Nat} {o : Obj} {w : World} (h : w.heap[b]? = some (.map es clock)) : (setObj b o).run P w = .ok () { w with heap := w.heap.setIfInBounds b o } := by
  show (Sem.setObj b o (Sem.pure ())).run P w = _
  simp only [Sem.run, h]

theorem run_keyStays {kt : Nat} {ks : Col} {key : Value} {o : Option Nat} (hk : keyKind P kt ks = true) (ho : ks.idx key = some o) (w : World) : (Instr.keyThatStays key key).run P w = .ok key w := by
  have hsame : Instr.sameBits 10000 key key = true := by
    unfold Col.idx at ho
    split at ho <;> try (cases ho; done)
    · simp [Instr.sameBits]
    · simp [Instr.sameBits]
    · simp [Instr.sameBits, beq_bytes]
  simp only [Instr.keyThatStays, hsame, if_true]
  rfl

theorem mapUpdateL_sound (hs : SatH K θ h nx w) {T : Nat} {x y z : SV} {u v t : Value} (hu : V θ x u) (hv : V θ y v) (ht : V θ z t) {k : List (Nat × R) → Nat → Prop} (hq : mapUpdateL P T x y z h nx k) :
    ∃ h' w', k h' nx ∧ SatH K θ h' nx w' ∧ (Instr.mapUpdate T u v t).run P w = .ok () w' := by
  unfold mapUpdateL at hq
  split at hq <;> try exact hq.elim
  rename_i kt vt n key val hT hk1 hk2
  obtain rfl := V_scal hk1 hv
  obtain rfl := V_scal hk2 ht
  split at hq <;> try exact hq.elim
  rename_i ks vs hf
  split at hq <;> try exact hq.elim
  rename_i o ho
  split at hq <;> try exact hq.elim
  rename_i ks' vs' hks hvs
  obtain ⟨hkk, hk⟩ := cond_false hq
  simp only [V] at hu
  obtain ⟨L, hL, rfl⟩ := hu
  obtain ⟨L', hL', ha, es, clock, hb, hm⟩ := hs.res n _ hf
  obtain rfl := Option.some.inj (hL.symm.trans hL')
  have hlt := (Array.getElem?_eq_some_iff.1 hb).1
  have turn : ∀ (es' : Array MapEntry) (clock' : Nat), MapIs es' clock' ks' vs' → SatH K θ ((n, .map ks' vs') :: h) nx { w with heap := w.heap.setIfInBounds L.b (.map es' clock') } := by
    intro es' clock' hm'
    refine hs.turn hf hL trivial rfl rfl rfl (by simp) (fun b hne => by simp [Ne.symm hne]) trivial (fun X' _ => ⟨ha, es', clock', ?_, hm'⟩)
    simp [hlt]
  cases o with
  | none =>
    refine ⟨_, _, hk, turn _ _ (hm.push hks hvs), ?_⟩
    simp only [Instr.mapUpdate, Sem.run_bind, run_underlying hT, Result.andThen, run_getObj_map hb, run_checkKey hkk, run_findKey hkk ho hm, eget, run_setObj hb]
  | some j =>
    obtain ⟨e, he, hek, hkj⟩ := find_place hkk ho hm
    have hks' : ks' = ks := (Col.putK_spec hks).2.1 j rfl
    subst hks'
    refine ⟨_, _, hk, turn _ _ (hm.set hkj hvs), ?_⟩
    simp only [Instr.mapUpdate, Sem.run_bind, run_underlying hT, Result.andThen, run_getObj_map hb, run_checkKey hkk, run_findKey hkk ho hm, eget, he, Option.map_some, Option.getD_some, hek, run_keyStays hkk ho, run_setObj hb]

theorem deleteL_sound (hs : SatH K θ h nx w) {T : Nat} {ts : Array Nat} {ty : Nat} {x y : SV} {u v : Value} (hts : ts[0]? = some T) (hu : V θ x u) (hv : V θ y v) {k : HK} (hq : deleteL P T x y h nx k) :
    ∃ r h' w' v', k r h' nx ∧ SatH K θ h' nx w' ∧ V θ r v' ∧ (Builtin.delete_ ts ty #[u, v]).run P w = .ok v' w' := by
  unfold deleteL at hq
  split at hq <;> try exact hq.elim
  rename_i kt vt n key hT hk1
  obtain rfl := V_scal hk1 hv
  split at hq <;> try exact hq.elim
  rename_i ks vs hf
  split at hq <;> try exact hq.elim
  rename_i o ho
  obtain ⟨hkk, hk⟩ := cond_false hq
  simp only [V] at hu
  obtain ⟨L, hL, rfl⟩ := hu
  obtain ⟨L', hL', ha, es, clock, hb, hm⟩ := hs.res n _ hf
  obtain rfl := Option.some.inj (hL.symm.trans hL')
  have hlt := (Array.getElem?_eq_some_iff.1 hb).1
  have turn : ∀ (es' : Array MapEntry), MapIs es' clock (ks.del o) (vs.del o) → SatH K θ ((n, .map (ks.del o) (vs.del o)) :: h) nx { w with heap := w.heap.setIfInBounds L.b (.map es' clock) } := by
    intro es' hm'
    refine hs.turn hf hL trivial rfl rfl rfl (by simp) (fun b hne => by simp [Ne.symm hne]) trivial (fun X' _ => ⟨ha, es', clock, ?_, hm'⟩)
    simp [hlt]
  cases o with
  | none =>
    have e1 : ks.del none = ks := by cases ks <;> rfl
    have e2 : vs.del none = vs := by cases vs <;> rfl
    refine ⟨_, _, _, .tuple #[], hk, turn es (by rw [e1, e2]; exact hm), by simp only [V]; exact ⟨[], rfl, by simp [VL]⟩, ?_⟩
    simp [Builtin.delete_, hts, run_underlying hT, run_getObj_map hb, run_checkKey hkk, run_findKey hkk ho hm, eget, run_setObj hb]
  | some j =>
    obtain ⟨e, he, hek, hkj⟩ := find_place hkk ho hm
    refine ⟨_, _, _, .tuple #[], hk, turn _ (hm.del (Array.getElem?_eq_some_iff.1 he).1), by simp only [V]; exact ⟨[], rfl, by simp [VL]⟩, ?_⟩
    simp [Builtin.delete_, hts, run_underlying hT, run_getObj_map hb, run_checkKey hkk, run_findKey hkk ho hm, eget, he, run_setObj hb]
end
end Go.Z
