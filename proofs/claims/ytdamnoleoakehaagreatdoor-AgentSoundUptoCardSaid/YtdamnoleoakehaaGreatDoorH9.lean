/- Part 9 of what the closing text rests on. -/
import Derived.Test.YtdamnoleoakehaaGreatDoorH8
namespace Go.Z
open Go.RowKit

section
variable {P : Program} {K : Ctx} {θ : Th} {h : List (Nat × R)} {nx : Nat} {w : World}

theorem mputV_spec {ν : Type} (m : List ν) (o : Option Nat) (v : ν) : (∀ i, o ≠ some i → i < m.length → (mputV m o v)[i]? = m[i]?) ∧ (∀ j, o = some j → j < m.length → (mputV m o v)[j]? = some v ∧ (mputV m o v).length = m.length) ∧
    (o = none → (mputV m o v)[m.length]? = some v ∧ (mputV m o v).length = m.length + 1) := by
  cases o with
  | none =>
    refine ⟨fun i _ hi => ?_, fun j hj => (by cases hj), fun _ => ?_⟩
    · simp [mputV, List.getElem?_append_left hi]
    · simp [mputV]
  | some j =>
    refine ⟨fun i hne _ => ?_, fun j' hj hlt => ?_, fun h => by cases h⟩
    · simp only [mputV]
      exact List.getElem?_set_ne (fun e => hne (by rw [e]))
    · cases hj
      simp [mputV, hlt]
theorem mputK_spec {κ : Type} (m : List κ) (o : Option Nat) (x : κ) : (∀ i, i < m.length → (mputK m o x)[i]? = m[i]?) ∧ (∀ j, o = some j → mputK m o x = m) ∧ (o = none → (mputK m o x)[m.length]? = some x ∧ (mputK m o x).length = m.length + 1) := by
  cases o with
  | none =>
    refine ⟨fun i hi => ?_, fun j hj => (by cases hj), fun _ => ?_⟩
    · simp [mputK, List.getElem?_append_left hi]
    · simp [mputK]
  | some j => exact ⟨fun i _ => rfl, fun j' _ => rfl, fun h => by cases h⟩

theorem Col.putV_spec {vs vs' : Col} {o : Option Nat} {v : Value} (hp : vs.putV o v = some vs') : (∀ i, o ≠ some i → i < vs.len → vs'.get? i = vs.get? i) ∧ (∀ j, o = some j → j < vs.len → vs'.get? j = some v ∧ vs'.len = vs.len) ∧
    (o = none → vs'.get? vs.len = some v ∧ vs'.len = vs.len + 1) := by
  have main : ∀ {ν : Type} (enc : ν → Value) (m : List ν) (z : ν), (∀ i, o ≠ some i → i < m.length → ((mputV m o z)[i]?).map enc = (m[i]?).map enc) ∧ (∀ j, o = some j → j < m.length → ((mputV m o z)[j]?).map enc = some (enc z) ∧ (mputV m o z).length = m.length) ∧
      (o = none → ((mputV m o z)[m.length]?).map enc = some (enc z) ∧ (mputV m o z).length = m.length + 1) := by
    intro ν enc m z
    obtain ⟨h1, h2, h3⟩ := mputV_spec m o z
    exact ⟨fun i hi hl => by rw [h1 i hi hl], fun j hj hl => ⟨by rw [(h2 j hj hl).1]; rfl, (h2 j hj hl).2⟩, fun hn => ⟨by rw [(h3 hn).1]; rfl, (h3 hn).2⟩⟩
  unfold Col.putV at hp
  split at hp
  · split at hp <;> cases hp
    rename_i e; subst e
    exact main (Value.int _) _ _
  · cases hp; exact main Value.bool _ _
  · cases hp; exact main Value.string _ _
  · cases hp

theorem Col.putK_spec {vs vs' : Col} {o : Option Nat} {v : Value} (hp : vs.putK o v = some vs') : (∀ i, i < vs.len → vs'.get? i = vs.get? i) ∧ (∀ j, o = some j → vs' = vs) ∧ (o = none → vs'.get? vs.len = some v ∧ vs'.len = vs.len + 1) := by
  have main : ∀ {ν : Type} (enc : ν → Value) (m : List ν) (z : ν), (∀ i, i < m.length → ((mputK m o z)[i]?).map enc = (m[i]?).map enc) ∧ (o = none → ((mputK m o z)[m.length]?).map enc = some (enc z) ∧ (mputK m o z).length = m.length + 1) := by
    intro ν enc m z
    obtain ⟨h1, h2, h3⟩ := mputK_spec m o z
    exact ⟨fun i hl => by rw [h1 i hl], fun hn => ⟨by rw [(h3 hn).1]; rfl, (h3 hn).2⟩⟩
  have same : ∀ {ν : Type} (m : List ν) (z : ν) j, o = some j → mputK m o z = m := fun m z j hj => by rw [hj]; rfl
  unfold Col.putK at hp
  split at hp
  · split at hp <;> cases hp
    rename_i e; subst e
    exact ⟨(main (Value.int _) _ _).1, fun j hj => by rw [same _ _ j hj], (main (Value.int _) _ _).2⟩
  · cases hp; exact ⟨(main Value.bool _ _).1, fun j hj => by rw [same _ _ j hj], (main Value.bool _ _).2⟩
  · cases hp; exact ⟨(main Value.string _ _).1, fun j hj => by rw [same _ _ j hj], (main Value.string _ _).2⟩
  · cases hp

theorem Col.get?_lt {c : Col} {i : Nat} {v : Value} (h : c.get? i = some v) : i < c.len := by
  cases c <;> simp only [Col.get?, Option.map_eq_some_iff] at h <;> obtain ⟨z, hz, _⟩ := h <;> exact (List.getElem?_eq_some_iff.1 hz).1

theorem MapIs.set {es : Array MapEntry} {clock j : Nat} {ks vs vs' : Col} {key val : Value} (hm : MapIs es clock ks vs) (hk : ks.get? j = some key) (hv : vs.putV (some j) val = some vs') :
    MapIs (es.modify j fun e => { e with key, val }) clock ks vs' := by
  have hj := Col.get?_lt hk
  obtain ⟨v1, v2, _⟩ := Col.putV_spec hv
  have hjv : j < vs.len := by rw [hm.vals]; exact hj
  have born : ∀ (i : Nat) (e : MapEntry), (es.modify j fun e => { e with key, val })[i]? = some e → ∃ e0, es[i]? = some e0 ∧ e.born = e0.born ∧ (i = j → e.key = key ∧ e.val = val) ∧ (i ≠ j → e = e0) := by
    intro i e he
    rw [Array.getElem?_modify] at he
    split at he
    · rename_i hji
      subst hji
      cases h0 : es[j]? with
      | none => rw [h0] at he; cases he
      | some e0 => rw [h0] at he; simp at he; subst he; exact ⟨e0, rfl, rfl, fun _ => ⟨rfl, rfl⟩, fun hne => absurd rfl hne⟩
    · rename_i hji
      exact ⟨e, he, rfl, fun e => absurd e.symm hji, fun _ => rfl⟩
  refine ⟨by simp [hm.size], by rw [(v2 j rfl hjv).2, hm.vals], fun i e he => ?_, fun i e he => ?_, fun i i' e e' hlt he he' => ?_⟩
  · obtain ⟨e0, h0, _, h1, h2⟩ := born i e he
    by_cases hij : i = j
    · subst hij
      rw [(h1 rfl).1, (h1 rfl).2]
      exact ⟨hk, (v2 i rfl hjv).1⟩
    · rw [h2 hij]
      obtain ⟨a1, a2⟩ := hm.at_ i e0 h0
      exact ⟨a1, by rw [v1 i (fun h => hij (Option.some.inj h).symm) (Col.get?_lt a2)]; exact a2⟩
  · obtain ⟨e0, h0, h1, _⟩ := born i e he
    rw [h1]; exact hm.born i e0 h0
  · obtain ⟨e0, h0, h1, _⟩ := born i e he
    obtain ⟨e0', h0', h1', _⟩ := born i' e' he'
    rw [h1, h1']; exact hm.order i i' e0 e0' hlt h0 h0'

theorem MapIs.push {es : Array MapEntry} {clock : Nat} {ks ks' vs vs' : Col} {key val : Value} (hm : MapIs es clock ks vs) (hk : ks.putK none key = some ks') (hv : vs.putV none val = some vs') :
    MapIs (es.push { key, val, born := clock }) (clock + 1) ks' vs' := by
  obtain ⟨v1, _, v3⟩ := Col.putV_spec hv
  obtain ⟨k1, _, k3⟩ := Col.putK_spec hk
  have get : ∀ (i : Nat) (e : MapEntry), (es.push { key, val, born := clock })[i]? = some e → (i < es.size ∧ es[i]? = some e) ∨ (i = es.size ∧ e = { key, val, born := clock }) := by
    intro i e he
    rw [Array.getElem?_push] at he
    split at he
    · rename_i hi; subst hi; cases he; exact .inr ⟨rfl, rfl⟩
    · exact .inl ⟨(Array.getElem?_eq_some_iff.1 he).1, he⟩
  refine ⟨by rw [(k3 rfl).2]; simp [hm.size], by rw [(v3 rfl).2, (k3 rfl).2, hm.vals], fun i e he => ?_, fun i e he => ?_, fun i i' e e' hlt he he' => ?_⟩
  · rcases get i e he with ⟨hi, h1⟩ | ⟨hi, rfl⟩
    · obtain ⟨a1, a2⟩ := hm.at_ i e h1
      exact ⟨by rw [k1 i (Col.get?_lt a1)]; exact a1, by rw [v1 i (fun h => by cases h) (Col.get?_lt a2)]; exact a2⟩
    · subst hi
      have e1 : es.size = ks.len := hm.size
      have e2 : es.size = vs.len := by rw [e1, hm.vals]
      exact ⟨by rw [e1]; exact (k3 rfl).1, by rw [e2]; exact (v3 rfl).1⟩
  · rcases get i e he with ⟨hi, h1⟩ | ⟨hi, rfl⟩
    · have := hm.born i e h1; omega
    · simp
  · rcases get i e he with ⟨hi, h1⟩ | ⟨hi, rfl⟩ <;> rcases get i' e' he' with ⟨hi', h1'⟩ | ⟨hi', rfl⟩
    · exact hm.order i i' e e' hlt h1 h1'
    · exact hm.born i e h1
    · omega
    · omega

theorem mdel_len {ν : Type} {m : List ν} {j : Nat} (h : j < m.length) : (mdel m (some j)).length = m.length - 1 := by simp [mdel, List.length_eraseIdx, h]
theorem Col.del_spec {c : Col} {j : Nat} (h : j < c.len) : (c.del (some j)).len = c.len - 1 ∧ ∀ i, (c.del (some j)).get? i = if i < j then c.get? i else c.get? (i + 1) := by
  cases c <;> simp only [Col.len] at h <;> refine ⟨mdel_len h, fun i => ?_⟩ <;> simp only [Col.del, Col.get?, mdel, List.getElem?_eraseIdx] <;> split <;> rfl

theorem MapIs.del {es : Array MapEntry} {clock j : Nat} {ks vs : Col} (hm : MapIs es clock ks vs) (hj : j < es.size) : MapIs (es.eraseIdxIfInBounds j) clock (ks.del (some j)) (vs.del (some j)) := by
  have hk : j < ks.len := by rw [← hm.size]; exact hj
  have hv : j < vs.len := by rw [hm.vals]; exact hk
  obtain ⟨k1, k2⟩ := Col.del_spec hk
  obtain ⟨v1, v2⟩ := Col.del_spec hv
  have get : ∀ i : Nat, (es.eraseIdxIfInBounds j)[i]? = if i < j then es[i]? else es[i + 1]? := by
    intro i
    simp only [Array.eraseIdxIfInBounds, hj, dite_true]
    rw [← Array.getElem?_toList, Array.toList_eraseIdx, List.getElem?_eraseIdx]
    split <;> simp
  refine ⟨?_, by rw [v1, k1, hm.vals], fun i e he => ?_, fun i e he => ?_, fun i i' e e' hlt he he' => ?_⟩
  · rw [k1, ← hm.size]
    simp [Array.eraseIdxIfInBounds, hj]
  · rw [get] at he
    rw [k2, v2]
    split at he
    · rename_i hi; rw [if_pos hi, if_pos hi]; exact hm.at_ i e he
    · rename_i hi; rw [if_neg hi, if_neg hi]; exact hm.at_ (i + 1) e he
  · rw [get] at he
    split at he
    · exact hm.born i e he
    · exact hm.born _ e he
  · rw [get] at he he'
    split at he <;> split at he'
    · exact hm.order _ _ e e' hlt he he'
    · exact hm.order _ _ e e' (by omega) he he'
    · omega
    · exact hm.order _ _ e e' (by omega) he he'

theorem run_setObj {b : Nat} {es : Array MapEntry} {clock : Nat} {o : Obj} {w : World} (h : w.heap[b]? = some (.map es clock)) : (setObj b o).run P w = .ok () { w with heap := w.heap.setIfInBounds b o } := by
  show (Sem.setObj b o (Sem.pure ())).run P w = _
  simp only [Sem.run, h]

theorem run_keyStays {kt : Nat} {ks : Col} {key : Value} {o : Option Nat} (hk : keyKind P kt ks = true) (ho : ks.idx key = some o) (w : World) : (Instr.keyThatStays key key).run P w = .ok key w := by
  have hsame : Instr.sameBits 10000 key key = true := by
    unfold Col.idx at ho
    split at ho <;> try (cases ho; done)
    · simp [Instr.sameBits]
    · simp [Instr.sameBits]
    · simp [Instr.sameBits, beq_bytes]
  simp only [Instr.keyThatStays, hsame, if_true]
  rfl

theorem mapUpdateL_sound (hs : SatH K θ h nx w) {T : Nat} {x y z : SV} {u v t : Value} (hu : V θ x u) (hv : V θ y v) (ht : V θ z t) {k : List (Nat × R) → Nat → Prop} (hq : mapUpdateL P T x y z h nx k) :
    ∃ h' w', k h' nx ∧ SatH K θ h' nx w' ∧ (Instr.mapUpdate T u v t).run P w = .ok () w' := by
  unfold mapUpdateL at hq
  split at hq <;> try exact hq.elim
  rename_i kt vt n key val hT hk1 hk2
  obtain rfl := V_scal hk1 hv
  obtain rfl := V_scal hk2 ht
  split at hq <;> try exact hq.elim
  rename_i ks vs hf
  split at hq <;> try exact hq.elim
  rename_i o ho
  split at hq <;> try exact hq.elim
  rename_i ks' vs' hks hvs
  obtain ⟨hkk, hk⟩ := cond_false hq
  simp only [V] at hu
  obtain ⟨L, hL, rfl⟩ := hu
  obtain ⟨L', hL', ha, es, clock, hb, hm⟩ := hs.res n _ hf
  obtain rfl := Option.some.inj (hL.symm.trans hL')
  have hlt := (Array.getElem?_eq_some_iff.1 hb).1
  have turn : ∀ (es' : Array MapEntry) (clock' : Nat), MapIs es' clock' ks' vs' → SatH K θ ((n, .map ks' vs') :: h) nx { w with heap := w.heap.setIfInBounds L.b (.map es' clock') } := by
    intro es' clock' hm'
    refine hs.turn hf hL (b0 := L.b) rfl rfl rfl rfl (by simp) (fun b hne => by simp [Ne.symm hne]) (fun _ => Iff.rfl) (fun X' _ => ⟨ha, es', clock', ?_, hm'⟩)
    simp [hlt]
  cases o with
  | none =>
    refine ⟨_, _, hk, turn _ _ (hm.push hks hvs), ?_⟩
    simp only [Instr.mapUpdate, Sem.run_bind, run_underlying hT, Result.andThen, run_getObj_map hb, run_checkKey hkk, run_findKey hkk ho hm, eget, run_setObj hb]
  | some j =>
    obtain ⟨e, he, hek, hkj⟩ := find_place hkk ho hm
    have hks' : ks' = ks := (Col.putK_spec hks).2.1 j rfl
    subst hks'
    refine ⟨_, _, hk, turn _ _ (hm.set hkj hvs), ?_⟩
    simp only [Instr.mapUpdate, Sem.run_bind, run_underlying hT, Result.andThen, run_getObj_map hb, run_checkKey hkk, run_findKey hkk ho hm, eget, he, Option.map_some, Option.getD_some, hek, run_keyStays hkk ho, run_setObj hb]

theorem deleteL_sound (hs : SatH K θ h nx w) {T : Nat} {ts : Array Nat} {ty : Nat} {x y : SV} {u v : Value} (hts : ts[0]? = some T) (hu : V θ x u) (hv : V θ y v) {k : HK} (hq : deleteL P T x y h nx k) :
    ∃ r h' w' v', k r h' nx ∧ SatH K θ h' nx w' ∧ V θ r v' ∧ (Builtin.delete_ ts ty #[u, v]).run P w = .ok v' w' := by
  unfold deleteL at hq
  split at hq <;> try exact hq.elim
  rename_i kt vt n key hT hk1
  obtain rfl := V_scal hk1 hv
  split at hq <;> try exact hq.elim
  rename_i ks vs hf
  split at hq <;> try exact hq.elim
  rename_i o ho
  obtain ⟨hkk, hk⟩ := cond_false hq
  simp only [V] at hu
  obtain ⟨L, hL, rfl⟩ := hu
  obtain ⟨L', hL', ha, es, clock, hb, hm⟩ := hs.res n _ hf
  obtain rfl := Option.some.inj (hL.symm.trans hL')
  have hlt := (Array.getElem?_eq_some_iff.1 hb).1
  have turn : ∀ (es' : Array MapEntry), MapIs es' clock (ks.del o) (vs.del o) → SatH K θ ((n, .map (ks.del o) (vs.del o)) :: h) nx { w with heap := w.heap.setIfInBounds L.b (.map es' clock) } := by
    intro es' hm'
    refine hs.turn hf hL (b0 := L.b) rfl rfl rfl rfl (by simp) (fun b hne => by simp [Ne.symm hne]) (fun _ => Iff.rfl) (fun X' _ => ⟨ha, es', clock, ?_, hm'⟩)
    simp [hlt]
  cases o with
  | none =>
    have e1 : ks.del none = ks := by cases ks <;> rfl
    have e2 : vs.del none = vs := by cases vs <;> rfl
    refine ⟨_, _, _, .tuple #[], hk, turn es (by rw [e1, e2]; exact hm), by simp only [V]; exact ⟨[], rfl, by simp [VL]⟩, ?_⟩
    simp [Builtin.delete_, hts, run_underlying hT, run_getObj_map hb, run_checkKey hkk, run_findKey hkk ho hm, eget, run_setObj hb]
  | some j =>
    obtain ⟨e, he, hek, hkj⟩ := find_place hkk ho hm
    refine ⟨_, _, _, .tuple #[], hk, turn _ (hm.del (Array.getElem?_eq_some_iff.1 he).1), by simp only [V]; exact ⟨[], rfl, by simp [VL]⟩, ?_⟩
    simp [Builtin.delete_, hts, run_underlying hT, run_getObj_map hb, run_checkKey hkk, run_findKey hkk ho hm, eget, he, run_setObj hb]

theorem modify_id {α : Type} (es : Array α) (j : Nat) (f : α → α) (h : ∀ e, es[j]? = some e → f e = e) : es.modify j f = es := by
  apply Array.ext'
  rw [Array.toList_modify]
  apply List.ext_getElem?
  intro i
  rw [List.getElem?_modify]
  by_cases hi : j = i
  · subst hi
    cases he : es[j]? with
    | none => simp [he]
    | some e => simp [he, h e he]
  · simp [hi]

theorem mapEntryL_sound (hs : SatH K θ h nx w) {T : Nat} {x y : SV} {u v : Value} (hu : V θ x u) (hv : V θ y v) {k : HK} (hq : mapEntryL P T x y h nx k) :
    ∃ r h' v', k r h' nx ∧ SatH K θ h' nx w ∧ V θ r v' ∧ (Instr.mapEntry T u v).run P w = .ok v' w := by
  unfold mapEntryL at hq
  split at hq <;> try exact hq.elim
  rename_i kt vt n key hT hk1
  obtain rfl := V_scal hk1 hv
  split at hq <;> try exact hq.elim
  rename_i ks vs st hf
  split at hq <;> try exact hq.elim
  rename_i o ho
  obtain ⟨hkk, hsome, hk⟩ := cond_false hq
  simp only [V] at hu
  obtain ⟨L, hL, rfl⟩ := hu
  have hold : ∃ r, hfind h n = some r ∧ (∀ b, r.has L b ↔ L.b = b) ∧ (L.a = some ⟨L.b, 0, none⟩ ∧ ∃ es clock, w.heap[L.b]? = some (.map es clock) ∧ MapIs es clock ks vs ∧ ∀ p, p ∈ st → ∃ e : MapEntry, es[p.1]? = some e ∧ (e.born : Int) = p.2) := by
    unfold mapEOf at hf
    split at hf <;> cases hf
    · rename_i hf
      obtain ⟨L', hL', ha, es, clock, hb, hm⟩ := hs.res n _ hf
      obtain rfl := Option.some.inj (hL.symm.trans hL')
      exact ⟨_, hf, fun _ => Iff.rfl, ha, es, clock, hb, hm, fun p hp => by cases hp⟩
    · rename_i hf
      obtain ⟨L', hL', h1⟩ := hs.res n _ hf
      obtain rfl := Option.some.inj (hL.symm.trans hL')
      exact ⟨_, hf, fun _ => Iff.rfl, h1⟩
  obtain ⟨r, hr, hhas, ha, es, clock, hb, hm, hst⟩ := hold
  have hlt := (Array.getElem?_eq_some_iff.1 hb).1
  cases o with
  | none => cases hsome
  | some j =>
    obtain ⟨e, he, hek, hkj⟩ := find_place hkk ho hm
    have hmod : (es.modify j fun e => { e with key := v }) = es := modify_id es j _ fun e' he' => by
      rw [he] at he'; cases he'
      rw [← hek]
    refine ⟨_, _, .tuple #[e.val, goInt e.born], hk j e.born rfl, ?_, ?_, ?_⟩
    · refine hs.turn hr hL (b0 := L.b) ((hhas _).2 rfl) rfl rfl rfl rfl (fun b _ => rfl) (fun b => (hhas b).symm) (fun X' _ => ⟨ha, es, clock, hb, hm, fun p hp => ?_⟩)
      rcases List.mem_cons.1 hp with rfl | hp
      · exact ⟨e, he, rfl⟩
      · exact hst p hp
    · simp only [V]
      exact ⟨[e.val, goInt e.born], rfl, by simp [VL, V, getAt_some hm he, goInt]⟩
    · have hset : w.heap.setIfInBounds L.b (.map es clock) = w.heap := by
        apply Array.ext (by simp)
        intro i h1 h2
        rw [Array.getElem_setIfInBounds]
        · split
          · rename_i e1; subst e1
            exact (Option.some.inj ((Array.getElem?_eq_getElem h2).symm.trans hb)).symm
          · rfl
      have hko : (Instr.keyThatStays e.key v).run P w = .ok v w := by rw [hek]; exact run_keyStays hkk ho w
      simp only [Instr.mapEntry, Sem.run_bind, run_underlying hT, Result.andThen, run_getObj_map hb, run_checkKey hkk, run_findKey hkk ho hm, eget, he, Option.map_some, Option.getD_some, hko, run_setObj hb, hmod, hset, Sem.run_pure]

theorem dropN_spec {z : Int} {k : Nat → List (Nat × Int) → Prop} : ∀ {u l : List (Nat × Int)}, dropN z u l k → ∃ p u' l', u ++ l = u' ++ p :: l' ∧ z = p.2 ∧ k p.1 (u' ++ l')
  | _, [], hq => hq.elim
  | u, p :: l, hq => by
    unfold dropN at hq
    rcases hq with ⟨h1, h2⟩ | hq
    · exact ⟨p, u, l, rfl, h1, h2⟩
    · obtain ⟨p', u', l', e, h1, h2⟩ := dropN_spec hq
      exact ⟨p', u', l', by rw [← e]; simp, h1, h2⟩

theorem MapIs.setBorn {es : Array MapEntry} {clock : Nat} {ks vs : Col} (hm : MapIs es clock ks vs) {j : Nat} {e : MapEntry} (he : es[j]? = some e) :
    es.findIdx? (fun e' => (e'.born : Int) == (e.born : Int)) = some j := by
  obtain ⟨hj, hje⟩ := Array.getElem?_eq_some_iff.1 he
  rw [Array.findIdx?_eq_some_iff_getElem]
  refine ⟨hj, by simp [hje], fun i hi => ?_⟩
  have hlt : i < es.size := by omega
  have := hm.order i j es[i] e hi (Array.getElem?_eq_getElem hlt) he
  simp; omega

theorem MapIs.setV {es : Array MapEntry} {clock j : Nat} {ks vs vs' : Col} {val : Value} {e0 : MapEntry} (hm : MapIs es clock ks vs) (he : es[j]? = some e0) (hv : vs.putV (some j) val = some vs') :
    MapIs (es.modify j fun e => { e with val }) clock ks vs' := by
  have hk := (hm.at_ j e0 he).1
  have := hm.set hk hv
  have e1 : (es.modify j fun e => { e with key := e0.key, val }) = es.modify j fun e => { e with val } := by
    apply Array.ext (by simp)
    intro i h1 h2
    rw [Array.getElem_modify, Array.getElem_modify]
    split
    · rename_i e1; subst e1
      have hj : j < es.size := by simpa using h2
      have : es[j] = e0 := Option.some.inj ((Array.getElem?_eq_getElem hj).symm.trans he)
      rw [this]
    · rfl
  rw [e1] at this
  exact this

theorem entryStoreL_sound (hs : SatH K θ h nx w) {T : Nat} {x y z : SV} {u v t : Value} (hu : V θ x u) (hv : V θ y v) (ht : V θ z t) {k : List (Nat × R) → Nat → Prop} (hq : entryStoreL x y z h nx k) :
    ∃ h' w', k h' nx ∧ SatH K θ h' nx w' ∧ (Instr.entryStore T u v t).run P w = .ok () w' := by
  unfold entryStoreL at hq
  split at hq <;> try exact hq.elim
  rename_i n kk s val hk1 hk2
  obtain rfl := V_scal hk2 ht
  have hv' : v = .int kk s := by
    unfold intOf1 at hk1
    split at hk1 <;> cases hk1
    simpa only [V] using hv
  subst hv'
  split at hq <;> try exact hq.elim
  rename_i ks vs st hf
  obtain ⟨p, u', l', e1, hz, hq⟩ := dropN_spec hq
  simp only [List.nil_append] at e1
  split at hq <;> try exact hq.elim
  rename_i vs' hvs
  simp only [V] at hu
  obtain ⟨L, hL, rfl⟩ := hu
  obtain ⟨L', hL', ha, es, clock, hb, hm, hst⟩ := hs.res n _ hf
  obtain rfl := Option.some.inj (hL.symm.trans hL')
  have hlt := (Array.getElem?_eq_some_iff.1 hb).1
  obtain ⟨e, he, heb⟩ := hst p (by rw [e1]; simp)
  have hfi : es.findIdx? (fun e' => (e'.born : Int) == s) = some p.1 := by rw [hz, ← heb]; exact hm.setBorn he
  have hm' := hm.setV he hvs
  have hheap : (w.heap.setIfInBounds L.b (.map (es.modify p.1 fun e => { e with val := t }) clock))[L.b]? = some (.map (es.modify p.1 fun e => { e with val := t }) clock) := by simp [hlt]
  refine ⟨_, { w with heap := w.heap.setIfInBounds L.b (.map (es.modify p.1 fun e => { e with val := t }) clock) }, hq, ?_, ?_⟩
  · refine hs.turn hf hL (b0 := L.b) rfl rfl rfl rfl (by simp) (fun b hne => by simp [Ne.symm hne]) (fun b => ?_) (fun X' _ => ?_)
    · unfold mapER; split <;> exact Iff.rfl
    · have hnotes : ∀ q, q ∈ u' ++ l' → ∃ e : MapEntry, (es.modify p.1 fun e => { e with val := t })[q.1]? = some e ∧ (e.born : Int) = q.2 := by
        intro q hq'
        obtain ⟨e2, he2, hb2⟩ := hst q (by
          rw [e1]
          rcases List.mem_append.1 hq' with h1 | h1
          · exact List.mem_append_left _ h1
          · exact List.mem_append_right _ (List.mem_cons_of_mem _ h1))
        rw [Array.getElem?_modify]
        by_cases hpq : p.1 = q.1
        · rw [if_pos hpq, he2]
          exact ⟨_, rfl, hb2⟩
        · rw [if_neg hpq]
          exact ⟨e2, he2, hb2⟩
      unfold mapER
      split
      · exact ⟨ha, _, clock, hheap, hm'⟩
      · rename_i hne
        exact ⟨ha, _, clock, hheap, hm', hnotes⟩
  · have hint : (asInt (.int kk s)).run P w = .ok s w := by simp [asInt, asIntOf]
    simp only [Instr.entryStore, Sem.run_bind, Result.andThen, run_getObj_map hb, hint, hfi, run_setObj hb]

theorem MapK.set {es : Array MapEntry} {clock j : Nat} {ks : Col} {key : Value} (hm : MapK es clock ks) (hk : ks.get? j = some key) (val : Value) : MapK (es.modify j fun e => { e with key, val }) clock ks := by
  have born : ∀ (i : Nat) (e : MapEntry), (es.modify j fun e => { e with key, val })[i]? = some e → ∃ e0, es[i]? = some e0 ∧ e.born = e0.born ∧ (i = j → e.key = key) ∧ (i ≠ j → e = e0) := by
    intro i e he
    rw [Array.getElem?_modify] at he
    split at he
    · rename_i hji
      subst hji
      cases h0 : es[j]? with
      | none => rw [h0] at he; cases he
      | some e0 => rw [h0] at he; simp at he; subst he; exact ⟨e0, rfl, rfl, fun _ => rfl, fun hne => absurd rfl hne⟩
    · rename_i hji
      exact ⟨e, he, rfl, fun e => absurd e.symm hji, fun _ => rfl⟩
  refine ⟨by simp [hm.size], fun i e he => ?_, fun i e he => ?_, fun i i' e e' hlt he he' => ?_⟩
  · obtain ⟨e0, h0, _, h1, h2⟩ := born i e he
    by_cases hij : i = j
    · subst hij
      rw [h1 rfl]; exact hk
    · rw [h2 hij]; exact hm.key i e0 h0
  · obtain ⟨e0, h0, h1, _⟩ := born i e he
    rw [h1]; exact hm.born i e0 h0
  · obtain ⟨e0, h0, h1, _⟩ := born i e he
    obtain ⟨e0', h0', h1', _⟩ := born i' e' he'
    rw [h1, h1']; exact hm.order i i' e0 e0' hlt h0 h0'
theorem MapK.push {es : Array MapEntry} {clock : Nat} {ks ks' : Col} {key : Value} (hm : MapK es clock ks) (hk : ks.putK none key = some ks') (val : Value) : MapK (es.push { key, val, born := clock }) (clock + 1) ks' := by
  obtain ⟨k1, _, k3⟩ := Col.putK_spec hk
  have get : ∀ (i : Nat) (e : MapEntry), (es.push { key, val, born := clock })[i]? = some e → (i < es.size ∧ es[i]? = some e) ∨ (i = es.size ∧ e = { key, val, born := clock }) := by
    intro i e he
    rw [Array.getElem?_push] at he
    split at he
    · rename_i hi; subst hi; cases he; exact .inr ⟨rfl, rfl⟩
    · exact .inl ⟨(Array.getElem?_eq_some_iff.1 he).1, he⟩
  refine ⟨by rw [(k3 rfl).2]; simp [hm.size], fun i e he => ?_, fun i e he => ?_, fun i i' e e' hlt he he' => ?_⟩
  · rcases get i e he with ⟨hi, h1⟩ | ⟨hi, rfl⟩
    · have a1 := hm.key i e h1
      rw [k1 i (Col.get?_lt a1)]; exact a1
    · subst hi
      rw [show es.size = ks.len from hm.size]; exact (k3 rfl).1
  · rcases get i e he with ⟨hi, h1⟩ | ⟨hi, rfl⟩
    · have := hm.born i e h1; omega
    · simp
  · rcases get i e he with ⟨hi, h1⟩ | ⟨hi, rfl⟩ <;> rcases get i' e' he' with ⟨hi', h1'⟩ | ⟨hi', rfl⟩
    · exact hm.order i i' e e' hlt h1 h1'
    · exact hm.born i e h1
    · omega
    · omega
theorem erase_get {α : Type} (es : Array α) {j : Nat} (hj : j < es.size) (i : Nat) : (es.eraseIdxIfInBounds j)[i]? = if i < j then es[i]? else es[i + 1]? := by
  simp only [Array.eraseIdxIfInBounds, hj, dite_true]
  rw [← Array.getElem?_toList, Array.toList_eraseIdx, List.getElem?_eraseIdx]
  split <;> simp
theorem MapK.del {es : Array MapEntry} {clock j : Nat} {ks : Col} (hm : MapK es clock ks) (hj : j < es.size) : MapK (es.eraseIdxIfInBounds j) clock (ks.del (some j)) := by
  have hk : j < ks.len := by rw [← hm.size]; exact hj
  obtain ⟨k1, k2⟩ := Col.del_spec hk
  have get := erase_get es hj
  refine ⟨?_, fun i e he => ?_, fun i e he => ?_, fun i i' e e' hlt he he' => ?_⟩
  · rw [k1, ← hm.size]
    simp [Array.eraseIdxIfInBounds, hj]
  · rw [get] at he
    rw [k2]
    split at he
    · rename_i hi; rw [if_pos hi]; exact hm.key i e he
    · rename_i hi; rw [if_neg hi]; exact hm.key (i + 1) e he
  · rw [get] at he
    split at he
    · exact hm.born i e he
    · exact hm.born _ e he
  · rw [get] at he he'
    split at he <;> split at he'
    · exact hm.order _ _ e e' hlt he he'
    · exact hm.order _ _ e e' (by omega) he he'
    · omega
    · exact hm.order _ _ e e' (by omega) he he'

theorem mapROf_find {x : SV} {n m : Nat} {ks : Col} {f : Nat → Nat → D} {h : List (Nat × R)} (hm : mapROf h x = some (n, ks, m, f)) : x = .m n ∧ hfind h n = some (.mapR ks m f) := by
  unfold mapROf at hm
  split at hm <;> try (cases hm; done)
  split at hm <;> cases hm
  rename_i hf
  exact ⟨rfl, hf⟩
theorem RecsAre.one {X : Nat → Prop} {w : World} {ds : List D} {us : List Value} {m : Nat} (hd : DL.holds X w ds us) (hl : ds.length = m) : us.length = m ∧ ∀ j, j < m → ∃ c, us[j]? = some c ∧ (ds.getD j (.v undef)).holds X w c :=
  ⟨by rw [← DL.length hd]; exact hl, fun j hj => DL.getD hd j (by omega)⟩

theorem turn_mapR (hs : SatH K θ h nx w) {n m : Nat} {ks ks' : Col} {f f' : Nat → Nat → D} (hf : hfind h n = some (.mapR ks m f)) {L : Loc} (hL : θ n = some L) (ha : L.a = some ⟨L.b, 0, none⟩) {es : Array MapEntry} {clock : Nat} (hb : w.heap[L.b]? = some (.map es clock))
    (es' : Array MapEntry) (clock' : Nat) (hk : MapK es' clock' ks') (hr : RecsAre (Free K θ h) w es' m f') : SatH K θ ((n, .mapR ks' m f') :: h) nx { w with heap := w.heap.setIfInBounds L.b (.map es' clock') } := by
  have hlt := (Array.getElem?_eq_some_iff.1 hb).1
  have hme : OwnsAt θ h n L.b := ⟨_, L, hf, hL, rfl⟩
  refine hs.turn hf hL (b0 := L.b) rfl rfl rfl rfl (by simp) (fun b hne => by simp [Ne.symm hne]) (fun _ => Iff.rfl) (fun X' hX => ⟨ha, es', clock', by simp [hlt], hk, hr.mono fun b hbl hfr => ⟨hX b hbl hfr, ?_⟩⟩)
  have hne : b ≠ L.b := fun e => hfr.1 n (e ▸ hme)
  simp [Ne.symm hne]

theorem mapUpdateX_sound (hs : SatH K θ h nx w) {T : Nat} {x y z : SV} {u v t : Value} (hu : V θ x u) (hv : V θ y v) (ht : V θ z t) {k : List (Nat × R) → Nat → Prop} (hq : mapUpdateX P T x y z h nx k) :
    ∃ h' w', k h' nx ∧ SatH K θ h' nx w' ∧ (Instr.mapUpdate T u v t).run P w = .ok () w' := by
  unfold mapUpdateX at hq
  split at hq
  · rename_i l hl
    split at hq <;> try exact hq.elim
    rename_i kt vt n ks m f key hT hmo hk1
    obtain rfl := V_scal hk1 hv
    split at hq <;> try exact hq.elim
    rename_i o ds ho hds
    split at hq <;> try exact hq.elim
    rename_i ks' hks
    obtain ⟨hc, hk⟩ := cond_false hq
    simp only [Bool.and_eq_true] at hc
    have hdl := nbeq hc.2
    have hs1 := freezeL_sound (l := l) hs
    have hz : z = .agg l := by
      unfold aggOf at hl
      split at hl <;> cases hl
      rfl
    subst hz
    simp only [V] at ht
    obtain ⟨us, rfl, hvl⟩ := ht
    have hd := dsOf_sound hs1 hvl hds
    obtain ⟨rfl, hf⟩ := mapROf_find hmo
    simp only [V] at hu
    obtain ⟨L, hL, rfl⟩ := hu
    obtain ⟨L', hL', ha, es, clock, hb, hm, hr⟩ := hs1.res n _ hf
    obtain rfl := Option.some.inj (hL.symm.trans hL')
    obtain ⟨one1, one2⟩ := RecsAre.one hd hdl
    cases o with
    | none =>
      refine ⟨_, _, hk, turn_mapR hs1 hf hL ha hb _ _ (hm.push hks (.agg us.toArray)) (fun i e he => ?_), ?_⟩
      · rw [Array.getElem?_push] at he
        split at he
        · rename_i hi
          subst hi
          cases he
          refine ⟨us, rfl, one1, fun j hj => ?_⟩
          obtain ⟨c, e1, e2⟩ := one2 j hj
          refine ⟨c, e1, ?_⟩
          show (cond (Nat.beq es.size ks.len) _ _ : D).holds _ _ _
          rw [show es.size = ks.len from hm.size, Nat.beq_refl]
          exact e2
        · rename_i hi
          obtain ⟨us', a1, a2, a3⟩ := hr i e he
          refine ⟨us', a1, a2, fun j hj => ?_⟩
          obtain ⟨c, e1, e2⟩ := a3 j hj
          refine ⟨c, e1, ?_⟩
          have hne : Nat.beq i ks.len = false := by
            cases hbq : Nat.beq i ks.len with
            | false => rfl
            | true => exact absurd ((Nat.eq_of_beq_eq_true hbq).trans hm.size.symm) hi
          show (cond (Nat.beq i ks.len) _ _ : D).holds _ _ _
          rw [hne]
          exact e2
      · simp only [Instr.mapUpdate, Sem.run_bind, run_underlying hT, Result.andThen, run_getObj_map hb, run_checkKey hc.1, run_findKeyK hc.1 ho hm, eget, run_setObj hb]
    | some j =>
      obtain ⟨e0, he0, hek, hkj⟩ := find_placeK hc.1 ho hm
      have hks' : ks' = ks := (Col.putK_spec hks).2.1 j rfl
      subst hks'
      refine ⟨_, _, hk, turn_mapR hs1 hf hL ha hb _ _ (hm.set hkj (.agg us.toArray)) (fun i e he => ?_), ?_⟩
      · rw [Array.getElem?_modify] at he
        split at he
        · rename_i hji
          subst hji
          rw [he0] at he
          simp at he
          subst he
          refine ⟨us, rfl, one1, fun i hi => ?_⟩
          obtain ⟨c, e1, e2⟩ := one2 i hi
          refine ⟨c, e1, ?_⟩
          show (cond (Nat.beq j j) _ _ : D).holds _ _ _
          rw [Nat.beq_refl]
          exact e2
        · rename_i hji
          obtain ⟨us', a1, a2, a3⟩ := hr i e he
          refine ⟨us', a1, a2, fun j' hj => ?_⟩
          obtain ⟨c, e1, e2⟩ := a3 j' hj
          refine ⟨c, e1, ?_⟩
          have hne : Nat.beq i j = false := by
            cases hbq : Nat.beq i j with
            | false => rfl
            | true => exact absurd (Nat.eq_of_beq_eq_true hbq).symm hji
          show (cond (Nat.beq i j) _ _ : D).holds _ _ _
          rw [hne]
          exact e2
      · simp only [Instr.mapUpdate, Sem.run_bind, run_underlying hT, Result.andThen, run_getObj_map hb, run_checkKey hc.1, run_findKeyK hc.1 ho hm, eget, he0, Option.map_some, Option.getD_some, hek, run_keyStays hc.1 ho, run_setObj hb]
  · exact mapUpdateL_sound hs hu hv ht hq

theorem mapSOf_find {x : SV} {n : Nat} {ks : Col} {l : List SV} {bn : List Nat} {c : Nat} {h : List (Nat × R)} (hm : mapSOf h x = some (n, ks, l, bn, c)) : x = .m n ∧ hfind h n = some (.mapS ks l bn c) := by
  unfold mapSOf at hm
  split at hm <;> try (cases hm; done)
  split at hm <;> cases hm
  rename_i hf
  exact ⟨rfl, hf⟩
theorem turn_mapS (hs : SatH K θ h nx w) {n : Nat} {ks ks' : Col} {l l' : List SV} {bn bn' : List Nat} {clock : Nat} (hf : hfind h n = some (.mapS ks l bn clock)) {L : Loc} (hL : θ n = some L) (ha : L.a = some ⟨L.b, 0, none⟩) {es : Array MapEntry} (hb : w.heap[L.b]? = some (.map es clock))
    (es' : Array MapEntry) (clock' : Nat) (hk : MapK es' clock' ks') (hr : VL θ l' (es'.toList.map (·.val))) (hbn : es'.toList.map (·.born) = bn') : SatH K θ ((n, .mapS ks' l' bn' clock') :: h) nx { w with heap := w.heap.setIfInBounds L.b (.map es' clock') } := by
  have hlt := (Array.getElem?_eq_some_iff.1 hb).1
  exact hs.turn hf hL (b0 := L.b) rfl rfl rfl rfl (by simp) (fun b hne => by simp [Ne.symm hne]) (fun _ => Iff.rfl) (fun X' hX => ⟨ha, es', by simp [hlt], hk, hr, hbn⟩)
theorem modify_born (es : Array MapEntry) (j : Nat) (key val : Value) : (es.modify j fun e => { e with key, val }).toList.map (·.born) = es.toList.map (·.born) := by
  apply List.ext_getElem?
  intro i
  simp only [List.getElem?_map, Array.getElem?_toList, Array.getElem?_modify]
  by_cases hij : j = i
  · subst hij
    simp only [if_true, Option.map_map]
    rfl
  · simp [hij]
theorem modify_vals (es : Array MapEntry) (j : Nat) (key val : Value) : (es.modify j fun e => { e with key, val }).toList.map (·.val) = (es.toList.map (·.val)).set j val := by
  apply List.ext_getElem?
  intro i
  simp only [List.getElem?_map, Array.getElem?_toList, Array.getElem?_modify, List.getElem?_set]
  by_cases hij : j = i
  · subst hij
    simp only [if_true, List.length_map, Array.length_toList]
    by_cases hj : j < es.size
    · simp [hj]
    · simp [hj]
  · simp [hij]
theorem mapUpdateY_sound (hs : SatH K θ h nx w) {T : Nat} {x y z : SV} {u v t : Value} (hu : V θ x u) (hv : V θ y v) (ht : V θ z t) {k : List (Nat × R) → Nat → Prop} (hq : mapUpdateY P T x y z h nx k) :
    ∃ h' w', k h' nx ∧ SatH K θ h' nx w' ∧ (Instr.mapUpdate T u v t).run P w = .ok () w' := by
  unfold mapUpdateY at hq
  split at hq
  · rename_i n ks l bn clock hmo
    unfold mapUpdateS at hq
    split at hq <;> try exact hq.elim
    rename_i kt vt key hT hk1
    obtain rfl := V_scal hk1 hv
    split at hq <;> try exact hq.elim
    rename_i o ho
    split at hq <;> try exact hq.elim
    rename_i ks' hks
    obtain ⟨hc, hk⟩ := cond_false hq
    obtain ⟨rfl, hf⟩ := mapSOf_find hmo
    simp only [V] at hu
    obtain ⟨L, hL, rfl⟩ := hu
    obtain ⟨L', hL', ha, es, hb, hm, hr, hbn⟩ := hs.res n _ hf
    obtain rfl := Option.some.inj (hL.symm.trans hL')
    cases o with
    | none =>
      refine ⟨_, _, hk, turn_mapS hs hf hL ha hb _ _ (hm.push hks t) ?_ (by simp [hbn]), ?_⟩
      · show VL θ (l ++ [z]) _
        rw [Array.toList_push, List.map_append]
        exact VL_append hr (by simp only [List.map_cons, List.map_nil, VL]; exact ⟨ht, trivial⟩)
      · simp only [Instr.mapUpdate, Sem.run_bind, run_underlying hT, Result.andThen, run_getObj_map hb, run_checkKey hc, run_findKeyK hc ho hm, eget, run_setObj hb]
        rfl
    | some j =>
      obtain ⟨e0, he0, hek, hkj⟩ := find_placeK hc ho hm
      have hks' : ks' = ks := (Col.putK_spec hks).2.1 j rfl
      subst hks'
      refine ⟨_, _, hk, turn_mapS hs hf hL ha hb _ _ (hm.set hkj t) ?_ ((modify_born ..).trans hbn), ?_⟩
      · show VL θ (l.set j z) _
        rw [modify_vals]
        exact VL_set j hr ht
      · simp only [Instr.mapUpdate, Sem.run_bind, run_underlying hT, Result.andThen, run_getObj_map hb, run_checkKey hc, run_findKeyK hc ho hm, eget, he0, Option.map_some, Option.getD_some, hek, run_keyStays hc ho, run_setObj hb]
        rfl
  · exact mapUpdateX_sound hs hu hv ht hq

theorem seenB_eq {seen : List Nat} {b : Nat} : seenB seen b = seen.reverse.toArray.contains b := by
  have : seenB seen b = seen.contains b := by
    unfold seenB
    induction seen with
    | nil => rfl
    | cons a l ih =>
      rw [List.any_cons, ih, List.contains_cons]
      congr 1
      rw [Bool.eq_iff_iff]
      simp
  rw [this]; simp
theorem nextAll_get {ks : Col} {seen : List Nat} {k : Value → SV → Nat → Prop} : ∀ {l : List SV} {bn : List Nat} {i0 : Nat}, nextAll ks seen k i0 l bn → ∀ {i : Nat} {s : SV} {b : Nat}, l[i]? = some s → bn[i]? = some b → seenB seen b = false → ∃ v, ks.get? (i0 + i) = some v ∧ k v s b
  | [], bn, i0, hq, i, s, b, h1, h2, h3 => by simp at h1
  | s0 :: l, [], i0, hq, i, s, b, h1, h2, h3 => by simp at h2
  | s0 :: l, b0 :: bn, i0, hq, 0, s, b, h1, h2, h3 => by
    simp at h1 h2
    subst h1 h2
    have := hq.1
    rw [h3] at this
    simp only [sw] at this
    split at this
    · rename_i v hv
      exact ⟨v, hv, this⟩
    · exact this.elim
  | s0 :: l, b0 :: bn, i0, hq, i + 1, s, b, h1, h2, h3 => by
    obtain ⟨v, a1, a2⟩ := nextAll_get hq.2 (by simpa using h1) (by simpa using h2) h3
    exact ⟨v, by rw [show i0 + (i + 1) = i0 + 1 + i by omega]; exact a1, a2⟩
theorem run_choose_next (n : Nat) (w : World) (hn : 0 < n) : ∃ i w', i < n ∧ (w' = w ∨ w' = { w with drawn := w.drawn + 1 }) ∧ (choose (.mapNext n)).run P w = .ok i w' := by
  by_cases h : n ≤ 1
  · refine ⟨0, w, by omega, .inl rfl, ?_⟩
    show (Sem.choose (.mapNext n) Sem.pure).run P w = _
    simp [Sem.run, Question.forced, h]
  · refine ⟨w.tape w.drawn (.mapNext n) % n, _, Nat.mod_lt _ hn, .inr rfl, ?_⟩
    show (Sem.choose (.mapNext n) Sem.pure).run P w = _
    simp [Sem.run, Question.forced, h, Question.cut]
theorem run_getObj_it {b : Nat} {m : Option Nat} {s : Nat} {sn : Array Nat} {l : Nat} {w' : World} (h : w'.heap[b]? = some (.mapIter m s sn l)) : (getObj b).run P w' = .ok (.mapIter m s sn l) w' := by
  show (Sem.getObj b Sem.pure).run P w' = _
  simp only [Sem.run, h]
theorem run_setObj_it {b : Nat} {m : Option Nat} {s : Nat} {sn : Array Nat} {l : Nat} {o : Obj} {w : World} (h : w.heap[b]? = some (.mapIter m s sn l)) : (setObj b o).run P w = .ok () { w with heap := w.heap.setIfInBounds b o } := by
  show (Sem.setObj b o (Sem.pure ())).run P w = _
  simp only [Sem.run, h]
theorem nextL_sound (hs : SatH K θ h nx w) {x : SV} {u : Value} (hu : V θ x u) {k : HK} (hq : nextL x h nx k) :
    ∃ r h' v' w', k r h' nx ∧ SatH K θ h' nx w' ∧ V θ r v' ∧ (∀ T, (Instr.next u false T).run P w = .ok v' w') := by
  unfold nextL at hq
  split at hq <;> try exact hq.elim
  rename_i m o
  split at hq <;> try exact hq.elim
  rename_i n since seen last hfm
  split at hq <;> try exact hq.elim
  rename_i ks l bn c hfn
  obtain ⟨hc, hq0, hq1⟩ := cond_false hq
  simp only [Bool.and_eq_true, List.all_eq_true] at hc
  obtain ⟨⟨h0, hsin⟩, hlast⟩ := hc
  obtain rfl := nbeq h0
  simp only [V] at hu
  obtain ⟨L, hL, rfl⟩ := hu
  obtain ⟨L', hL', ha, Lm, hLm, hbi⟩ := hs.res m _ hfm
  obtain rfl := Option.some.inj (hL.symm.trans hL')
  obtain ⟨Lm', hLm', ham, es, hbm, hmk, hvl, hbn⟩ := hs.res n _ hfn
  obtain rfl := Option.some.inj (hLm.symm.trans hLm')
  have hLo : L.o = 0 := by
    unfold Loc.o
    rw [ha]
  have born_lt : ∀ e ∈ es.toList, e.born < since ∧ e.born < last := fun e he => by
    have : e.born ∈ bn := by rw [← hbn]; exact List.mem_map_of_mem he
    exact ⟨nblt (hsin _ this), nblt (hlast _ this)⟩
  have hnot : (!seen.reverse.toArray.isEmpty && !es.isEmpty && es.all (fun e => decide (e.born ≥ last))) = false := by
    rw [Bool.eq_false_iff]
    intro ht
    simp only [Bool.and_eq_true, Bool.not_eq_true', Array.all_eq_true] at ht
    obtain ⟨⟨_, h2⟩, h3⟩ := ht
    have hne : 0 < es.size := by
      rcases Nat.eq_zero_or_pos es.size with h | h
      · simp [Array.isEmpty, h] at h2
      · exact h
    have h4 := of_decide_eq_true (h3 0 hne)
    have h5 := (born_lt es[0] (by simp)).2
    omega
  have hold : (es.filter fun e => !seen.reverse.toArray.contains e.born).filter (fun e => decide (e.born < since)) = es.filter fun e => !seen.reverse.toArray.contains e.born := by
    rw [Array.filter_filter]
    apply Array.ext'
    simp only [Array.toList_filter]
    apply List.filter_congr
    intro e he
    simp [(born_lt e he).1]
  have hnew : (es.filter fun e => !seen.reverse.toArray.contains e.born).filter (fun e => decide (e.born ≥ since)) = #[] := by
    rw [Array.filter_filter]
    apply Array.ext'
    simp only [Array.toList_filter, List.filter_eq_nil_iff]
    intro e he
    have := (born_lt e he).1
    simp
    omega
  generalize hleft : (es.filter fun e => !seen.reverse.toArray.contains e.born) = left at hold hnew
  have hrun : ∀ T, (Instr.next (.pointer (some ⟨L.b, L.o + 0, none⟩)) false T).run P w =
      ((choose (.mapNext ((if left.isEmpty then #[none] else #[]) ++ left.map some).size)).run P w).andThen fun i w1 => (match ((if left.isEmpty then #[none] else #[]) ++ left.map some)[i]? with
        | some (some e) => (do setObj L.b (.mapIter (some Lm.b) since (seen.reverse.toArray.push e.born) c); pure (.tuple #[.bool true, e.key, e.val]) : Sem Value)
        | some none => pure (.tuple #[.bool false])
        | none => stuck "Next: no such candidate").run P w1 := by
    intro T
    rw [hLo]
    simp only [Instr.next, Nat.add_zero, Sem.run_bind, run_getObj_it hbi, Result.andThen, run_getObj_map hbm, hnot, Bool.false_eq_true, if_false, hleft, hold, hnew, Array.append_empty]
    rfl
  by_cases hle : left = #[]
  · subst hle
    have hall : bn.all (seenB seen) = true := by
      rw [List.all_eq_true]
      intro b hb
      rw [← hbn, List.mem_map] at hb
      obtain ⟨e, he, rfl⟩ := hb
      rw [seenB_eq]
      cases hcn : seen.reverse.toArray.contains e.born with
      | true => rfl
      | false =>
        have : e ∈ es.filter fun e => !seen.reverse.toArray.contains e.born := by
          rw [Array.mem_filter]
          exact ⟨Array.mem_toList_iff.1 he, by rw [hcn]; rfl⟩
        rw [hleft] at this
        simp at this
    rw [hall] at hq0
    refine ⟨_, _, .tuple #[.bool false], w, hq0, hs, by simp only [V]; exact ⟨[.bool false], rfl, by simp only [VL, V]; exact ⟨trivial, trivial⟩⟩, fun T => ?_⟩
    rw [hrun T]
    have e1 : ((if (#[] : Array MapEntry).isEmpty = true then (#[none] : Array (Option MapEntry)) else #[]) ++ Array.map some #[]) = #[none] := by simp
    rw [e1]
    show ((Sem.choose (.mapNext 1) Sem.pure).run P w).andThen _ = _
    rfl
  · have hpos : 0 < left.size := by
      rcases Nat.eq_zero_or_pos left.size with h | h
      · exact absurd (Array.eq_empty_of_size_eq_zero h) hle
      · exact h
    have hemp : left.isEmpty = false := by
      simp only [Array.isEmpty, decide_eq_false_iff_not]
      omega
    obtain ⟨i, w1, hi, hw1, hch⟩ := run_choose_next (P := P) left.size w hpos
    have hmem : left[i] ∈ es.filter fun e => !seen.reverse.toArray.contains e.born := by
      rw [hleft]; simp
    rw [Array.mem_filter] at hmem
    obtain ⟨hin, hns⟩ := hmem
    generalize hee : left[i] = e at hin hns
    obtain ⟨j, hj, hje⟩ := Array.getElem_of_mem hin
    have hjs : es[j]? = some e := by rw [Array.getElem?_eq_getElem hj, hje]
    have hsn : seenB seen e.born = false := by rw [seenB_eq]; simpa using hns
    have hbj : bn[j]? = some e.born := by rw [← hbn, List.getElem?_map, Array.getElem?_toList, hjs]; rfl
    have hvj : (es.toList.map (·.val))[j]? = some e.val := by rw [List.getElem?_map, Array.getElem?_toList, hjs]; rfl
    have hlj : j < l.length := by
      rw [VL_length hvl]
      exact (List.getElem?_eq_some_iff.1 hvj).1
    obtain ⟨v, hv1, hk⟩ := nextAll_get hq1 (List.getElem?_eq_getElem hlj) hbj hsn
    rw [Nat.zero_add] at hv1
    have hkey := hmk.key j e hjs
    rw [hv1] at hkey
    obtain rfl := Option.some.inj hkey
    obtain ⟨v', hv2, hv3⟩ := VL_get hvl (List.getElem?_eq_getElem hlj)
    rw [hvj] at hv2
    obtain rfl := Option.some.inj hv2
    have hbw : w1.heap = w.heap := by rcases hw1 with rfl | rfl <;> rfl
    have hlt := (Array.getElem?_eq_some_iff.1 hbi).1
    refine ⟨_, _, .tuple #[.bool true, e.key, e.val], { w1 with heap := w1.heap.setIfInBounds L.b (.mapIter (some Lm.b) since (seen.reverse.toArray.push e.born) c) }, hk, ?_, ?_, fun T => ?_⟩
    · have hrv : (e.born :: seen).reverse.toArray = seen.reverse.toArray.push e.born := by simp
      refine hs.turn hfm hL (b0 := L.b) rfl (by rcases hw1 with rfl | rfl <;> rfl) (by rcases hw1 with rfl | rfl <;> rfl) (by rcases hw1 with rfl | rfl <;> rfl) (by simp [hbw]) (fun b hne => by simp [hbw, Ne.symm hne]) (fun _ => Iff.rfl) (fun X' _ => ⟨ha, Lm, hLm, ?_⟩)
      rw [hrv]
      simp [hbw, hlt]
    · simp only [V]
      exact ⟨[.bool true, e.key, e.val], rfl, by simp only [VL, V]; exact ⟨trivial, trivial, hv3, trivial⟩⟩
    · rw [hrun T, hemp]
      have hsz : ((if false = true then #[none] else #[]) ++ left.map some).size = left.size := by simp
      rw [hsz, hch]
      have hget : ((if false = true then (#[none] : Array (Option MapEntry)) else #[]) ++ left.map some)[i]? = some (some e) := by
        simp [hi, hee]
      simp only [Result.andThen, hget, Sem.run_bind, run_setObj_it (show w1.heap[L.b]? = _ from by rw [hbw]; exact hbi)]
      rfl

theorem atB_find {st : Nat} : ∀ {es : List MapEntry} {i0 j : Nat}, atB (es.map (·.born)) st i0 = some j → ∃ e, es.find? (fun e => e.born == st) = some e ∧ i0 ≤ j ∧ es[j - i0]? = some e
  | [], i0, j, h => by simp [atB] at h
  | e :: es, i0, j, h => by
    simp only [List.map_cons, atB] at h
    cases hb : Nat.beq e.born st with
    | true =>
      rw [hb] at h
      simp at h
      subst h
      exact ⟨e, by rw [List.find?_cons_of_pos]; rw [Nat.eq_of_beq_eq_true hb]; simp, Nat.le_refl _, by simp⟩
    | false =>
      rw [hb] at h
      obtain ⟨e', h1, h2, h3⟩ := atB_find (by simpa using h)
      refine ⟨e', ?_, by omega, ?_⟩
      · rw [List.find?_cons_of_neg]
        · exact h1
        · intro ht
          have : e.born = st := by simpa using ht
          rw [this, Nat.beq_refl] at hb
          cases hb
      · rw [show j - i0 = (j - (i0 + 1)) + 1 by omega]
        simpa using h3
theorem entryL_sound (hs : SatH K θ h nx w) {x : SV} {u : Value} (hu : V θ x u) {k : HK} (hq : entryL x h nx k) :
    ∃ r v', k r h nx ∧ V θ r v' ∧ (Instr.entry u).run P w = .ok v' w := by
  unfold entryL at hq
  split at hq <;> try exact hq.elim
  rename_i m o
  split at hq <;> try exact hq.elim
  rename_i n since seen last hfm
  split at hq <;> try exact hq.elim
  rename_i ks l bn c st hfn hst
  split at hq <;> try exact hq.elim
  rename_i j hj
  split at hq <;> try exact hq.elim
  rename_i v s hv hsj
  obtain ⟨hc, hk⟩ := cond_false hq
  simp only [Bool.and_eq_true] at hc
  obtain rfl := nbeq hc.1
  obtain rfl := nbeq hc.2
  simp only [V] at hu
  obtain ⟨L, hL, rfl⟩ := hu
  obtain ⟨L', hL', ha, Lm, hLm, hbi⟩ := hs.res m _ hfm
  obtain rfl := Option.some.inj (hL.symm.trans hL')
  obtain ⟨Lm', hLm', ham, es, hbm, hmk, hvl, hbn⟩ := hs.res n _ hfn
  obtain rfl := Option.some.inj (hLm.symm.trans hLm')
  have hLo : L.o = 0 := by
    unfold Loc.o
    rw [ha]
  rw [← hbn] at hj
  obtain ⟨e, hfind, _, hje⟩ := atB_find hj
  rw [Nat.sub_zero] at hje
  have hjs : es[j]? = some e := by rw [← Array.getElem?_toList]; exact hje
  have hkey := hmk.key j e hjs
  rw [hv] at hkey
  obtain rfl := Option.some.inj hkey
  obtain ⟨v', hv2, hv3⟩ := VL_get hvl hsj
  have hvj : (es.toList.map (·.val))[j]? = some e.val := by rw [List.getElem?_map, hje]; rfl
  rw [hvj] at hv2
  obtain rfl := Option.some.inj hv2
  refine ⟨_, .tuple #[e.key, e.val], hk, by simp only [V]; exact ⟨[e.key, e.val], rfl, by simp only [VL, V]; exact ⟨trivial, hv3, trivial⟩⟩, ?_⟩
  have hback : seen.reverse.toArray.back? = some st := by simpa using hst
  have hf2 : es.find? (fun e => e.born == st) = some e := by
    rw [← Array.find?_toList]; exact hfind
  rw [hLo]
  simp [Instr.entry, Sem.run_bind, run_getObj_it hbi, Result.andThen, run_getObj_map hbm, hback, hf2]

theorem deleteX_sound (hs : SatH K θ h nx w) {T : Nat} {ts : Array Nat} {ty : Nat} {x y : SV} {u v : Value} (hts : ts[0]? = some T) (hu : V θ x u) (hv : V θ y v) {k : HK} (hq : deleteX P T x y h nx k) :
    ∃ r h' w' v', k r h' nx ∧ SatH K θ h' nx w' ∧ V θ r v' ∧ (Builtin.delete_ ts ty #[u, v]).run P w = .ok v' w' := by
  unfold deleteX at hq
  split at hq
  · rename_i n ks m f hmo
    split at hq <;> try exact hq.elim
    rename_i kt vt key hT hk1
    obtain rfl := V_scal hk1 hv
    split at hq <;> try exact hq.elim
    rename_i o ho
    obtain ⟨hkk, hk⟩ := cond_false hq
    obtain ⟨rfl, hf⟩ := mapROf_find hmo
    simp only [V] at hu
    obtain ⟨L, hL, rfl⟩ := hu
    obtain ⟨L', hL', ha, es, clock, hb, hm, hr⟩ := hs.res n _ hf
    obtain rfl := Option.some.inj (hL.symm.trans hL')
    cases o with
    | none =>
      have e1 : ks.del none = ks := by cases ks <;> rfl
      refine ⟨_, _, _, .tuple #[], hk, turn_mapR hs hf hL ha hb es clock (by rw [e1]; exact hm) hr, by simp only [V]; exact ⟨[], rfl, by simp [VL]⟩, ?_⟩
      simp [Builtin.delete_, hts, run_underlying hT, run_getObj_map hb, run_checkKey hkk, run_findKeyK hkk ho hm, eget, run_setObj hb]
    | some j =>
      obtain ⟨e, he, hek, hkj⟩ := find_placeK hkk ho hm
      have hj := (Array.getElem?_eq_some_iff.1 he).1
      refine ⟨_, _, _, .tuple #[], hk, turn_mapR hs hf hL ha hb _ clock (hm.del hj) (fun i e' he' => ?_), by simp only [V]; exact ⟨[], rfl, by simp [VL]⟩, ?_⟩
      · rw [erase_get es hj] at he'
        show ∃ us : List Value, _ ∧ _ ∧ ∀ j', j' < m → ∃ c, us[j']? = some c ∧ (f (cond (Nat.blt i j) i (i + 1)) j').holds _ _ c
        by_cases hlt : i < j
        · rw [if_pos hlt] at he'
          rw [show Nat.blt i j = true from Nat.ble_eq_true_of_le hlt]
          exact hr i e' he'
        · rw [if_neg hlt] at he'
          have : Nat.blt i j = false := by
            cases hbq : Nat.blt i j with
            | false => rfl
            | true => exact absurd (Nat.le_of_ble_eq_true hbq) hlt
          rw [this]
          exact hr (i + 1) e' he'
      · simp [Builtin.delete_, hts, run_underlying hT, run_getObj_map hb, run_checkKey hkk, run_findKeyK hkk ho hm, eget, he, run_setObj hb]
  · exact deleteL_sound hs hts hu hv hq
end
end Go.Z
