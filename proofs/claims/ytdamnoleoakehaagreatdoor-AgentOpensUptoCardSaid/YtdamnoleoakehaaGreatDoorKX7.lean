/- Part 7 of what the closing text rests on. -/
import Derived.Test.YtdamnoleoakehaaGreatDoorKX6
namespace Go.Z
open Go.RowKit

section
variable {P : Program} {K : Ctx} {θ : Th} {h : List (Nat × R)} {nx : Nat} {w : World}

theorem mputV_spec {ν : Type} (m : List ν) (o : Option Nat) (v : ν) : (∀ i, o ≠ some i → i < m.length → (mputV m o v)[i]? = m[i]?) ∧ (∀ j, o = some j → j < m.length → (mputV m o v)[j]? = some v ∧ (mputV m o v).length = m.length) ∧
    (o = none → (mputV m o v)[m.length]? = some v ∧ (mputV m o v).length = m.length + 1) := by
  cases o with
  | none =>
    refine ⟨fun i _ hi => ?_, fun j hj => (by cases hj), fun _ => ?_⟩
    · simp [mputV, List.getElem?_append_left hi]
    · simp [mputV]
  | some j =>
    refine ⟨fun i hne _ => ?_, fun j' hj hlt => ?_, fun h => by cases h⟩
    · simp only [mputV]
      exact List.getElem?_set_ne (fun e => hne (by rw [e]))
    · cases hj
      simp [mputV, hlt]
theorem mputK_spec {κ : Type} (m : List κ) (o : Option Nat) (x : κ) : (∀ i, i < m.length → (mputK m o x)[i]? = m[i]?) ∧ (∀ j, o = some j → mputK m o x = m) ∧ (o = none → (mputK m o x)[m.length]? = some x ∧ (mputK m o x).length = m.length + 1) := by
  cases o with
  | none =>
    refine ⟨fun i hi => ?_, fun j hj => (by cases hj), fun _ => ?_⟩
    · simp [mputK, List.getElem?_append_left hi]
    · simp [mputK]
  | some j => exact ⟨fun i _ => rfl, fun j' _ => rfl, fun h => by cases h⟩

theorem Col.putV_spec {vs vs' : Col} {o : Option Nat} {v : Value} (hp : vs.putV o v = some vs') : (∀ i, o ≠ some i → i < vs.len → vs'.get? i = vs.get? i) ∧ (∀ j, o = some j → j < vs.len → vs'.get? j = some v ∧ vs'.len = vs.len) ∧
    (o = none → vs'.get? vs.len = some v ∧ vs'.len = vs.len + 1) := by
  have main : ∀ {ν : Type} (enc : ν → Value) (m : List ν) (z : ν), (∀ i, o ≠ some i → i < m.length → ((mputV m o z)[i]?).map enc = (m[i]?).map enc) ∧ (∀ j, o = some j → j < m.length → ((mputV m o z)[j]?).map enc = some (enc z) ∧ (mputV m o z).length = m.length) ∧
      (o = none → ((mputV m o z)[m.length]?).map enc = some (enc z) ∧ (mputV m o z).length = m.length + 1) := by
    intro ν enc m z
    obtain ⟨h1, h2, h3⟩ := mputV_spec m o z
    exact ⟨fun i hi hl => by rw [h1 i hi hl], fun j hj hl => ⟨by rw [(h2 j hj hl).1]; rfl, (h2 j hj hl).2⟩, fun hn => ⟨by rw [(h3 hn).1]; rfl, (h3 hn).2⟩⟩
  unfold Col.putV at hp
  split at hp
  · split at hp <;> cases hp
    rename_i e; subst e
    exact main (Value.int _) _ _
  · cases hp; exact main Value.bool _ _
  · cases hp; exact main Value.string _ _
  · cases hp

theorem Col.putK_spec {vs vs' : Col} {o : Option Nat} {v : Value} (hp : vs.putK o v = some vs') : (∀ i, i < vs.len → vs'.get? i = vs.get? i) ∧ (∀ j, o = some j → vs' = vs) ∧ (o = none → vs'.get? vs.len = some v ∧ vs'.len = vs.len + 1) := by
  have main : ∀ {ν : Type} (enc : ν → Value) (m : List ν) (z : ν), (∀ i, i < m.length → ((mputK m o z)[i]?).map enc = (m[i]?).map enc) ∧ (o = none → ((mputK m o z)[m.length]?).map enc = some (enc z) ∧ (mputK m o z).length = m.length + 1) := by
    intro ν enc m z
    obtain ⟨h1, h2, h3⟩ := mputK_spec m o z
    exact ⟨fun i hl => by rw [h1 i hl], fun hn => ⟨by rw [(h3 hn).1]; rfl, (h3 hn).2⟩⟩
  have same : ∀ {ν : Type} (m : List ν) (z : ν) j, o = some j → mputK m o z = m := fun m z j hj => by rw [hj]; rfl
  unfold Col.putK at hp
  split at hp
  · split at hp <;> cases hp
    rename_i e; subst e
    exact ⟨(main (Value.int _) _ _).1, fun j hj => by rw [same _ _ j hj], (main (Value.int _) _ _).2⟩
  · cases hp; exact ⟨(main Value.bool _ _).1, fun j hj => by rw [same _ _ j hj], (main Value.bool _ _).2⟩
  · cases hp; exact ⟨(main Value.string _ _).1, fun j hj => by rw [same _ _ j hj], (main Value.string _ _).2⟩
  · rename_i k m cs
    split at hp <;> cases hp
    rename_i z hz
    have e : (Value.agg cs) = Value.agg #[.int k z.1, .int k z.2] := by rw [show cs = cs.toList.toArray by simp, prKey_eq hz]
    rw [e]
    exact ⟨(main (fun p : Int × Int => Value.agg #[.int k p.1, .int k p.2]) _ _).1, fun j hj => by rw [same _ _ j hj], (main (fun p : Int × Int => Value.agg #[.int k p.1, .int k p.2]) _ _).2⟩
  · cases hp

theorem Col.get?_lt {c : Col} {i : Nat} {v : Value} (h : c.get? i = some v) : i < c.len := by
  cases c <;> simp only [Col.get?, Option.map_eq_some_iff] at h <;> obtain ⟨z, hz, _⟩ := h <;> exact (List.getElem?_eq_some_iff.1 hz).1

theorem MapIs.set {es : Array MapEntry} {clock j : Nat} {ks vs vs' : Col} {key val : Value} (hm : MapIs es clock ks vs) (hk : ks.get? j = some key) (hv : vs.putV (some j) val = some vs') :
    MapIs (es.modify j fun e => { e with key, val }) clock ks vs' := by
  have hj := Col.get?_lt hk
  obtain ⟨v1, v2, _⟩ := Col.putV_spec hv
  have hjv : j < vs.len := by rw [hm.vals]; exact hj
  have born : ∀ (i : Nat) (e : MapEntry), (es.modify j fun e => { e with key, val })[i]? = some e → ∃ e0, es[i]? = some e0 ∧ e.born = e0.born ∧ (i = j → e.key = key ∧ e.val = val) ∧ (i ≠ j → e = e0) := by
    intro i e he
    rw [Array.getElem?_modify] at he
    split at he
    · rename_i hji
      subst hji
      cases h0 : es[j]? with
      | none => rw [h0] at he; cases he
      | some e0 => rw [h0] at he; simp at he; subst he; exact ⟨e0, rfl, rfl, fun _ => ⟨rfl, rfl⟩, fun hne => absurd rfl hne⟩
    · rename_i hji
      exact ⟨e, he, rfl, fun e => absurd e.symm hji, fun _ => rfl⟩
  refine ⟨by simp [hm.size], by rw [(v2 j rfl hjv).2, hm.vals], fun i e he => ?_, fun i e he => ?_, fun i i' e e' hlt he he' => ?_⟩
  · obtain ⟨e0, h0, _, h1, h2⟩ := born i e he
    by_cases hij : i = j
    · subst hij
      rw [(h1 rfl).1, (h1 rfl).2]
      exact ⟨hk, (v2 i rfl hjv).1⟩
    · rw [h2 hij]
      obtain ⟨a1, a2⟩ := hm.at_ i e0 h0
      exact ⟨a1, by rw [v1 i (fun h => hij (Option.some.inj h).symm) (Col.get?_lt a2)]; exact a2⟩
  · obtain ⟨e0, h0, h1, _⟩ := born i e he
    rw [h1]; exact hm.born i e0 h0
  · obtain ⟨e0, h0, h1, _⟩ := born i e he
    obtain ⟨e0', h0', h1', _⟩ := born i' e' he'
    rw [h1, h1']; exact hm.order i i' e0 e0' hlt h0 h0'

theorem MapIs.push {es : Array MapEntry} {clock : Nat} {ks ks' vs vs' : Col} {key val : Value} (hm : MapIs es clock ks vs) (hk : ks.putK none key = some ks') (hv : vs.putV none val = some vs') :
    MapIs (es.push { key, val, born := clock }) (clock + 1) ks' vs' := by
  obtain ⟨v1, _, v3⟩ := Col.putV_spec hv
  obtain ⟨k1, _, k3⟩ := Col.putK_spec hk
  have get : ∀ (i : Nat) (e : MapEntry), (es.push { key, val, born := clock })[i]? = some e → (i < es.size ∧ es[i]? = some e) ∨ (i = es.size ∧ e = { key, val, born := clock }) := by
    intro i e he
    rw [Array.getElem?_push] at he
    split at he
    · rename_i hi; subst hi; cases he; exact .inr ⟨rfl, rfl⟩
    · exact .inl ⟨(Array.getElem?_eq_some_iff.1 he).1, he⟩
  refine ⟨by rw [(k3 rfl).2]; simp [hm.size], by rw [(v3 rfl).2, (k3 rfl).2, hm.vals], fun i e he => ?_, fun i e he => ?_, fun i i' e e' hlt he he' => ?_⟩
  · rcases get i e he with ⟨hi, h1⟩ | ⟨hi, rfl⟩
    · obtain ⟨a1, a2⟩ := hm.at_ i e h1
      exact ⟨by rw [k1 i (Col.get?_lt a1)]; exact a1, by rw [v1 i (fun h => by cases h) (Col.get?_lt a2)]; exact a2⟩
    · subst hi
      have e1 : es.size = ks.len := hm.size
      have e2 : es.size = vs.len := by rw [e1, hm.vals]
      exact ⟨by rw [e1]; exact (k3 rfl).1, by rw [e2]; exact (v3 rfl).1⟩
  · rcases get i e he with ⟨hi, h1⟩ | ⟨hi, rfl⟩
    · have := hm.born i e h1; omega
    · simp
  · rcases get i e he with ⟨hi, h1⟩ | ⟨hi, rfl⟩ <;> rcases get i' e' he' with ⟨hi', h1'⟩ | ⟨hi', rfl⟩
    · exact hm.order i i' e e' hlt h1 h1'
    · exact hm.born i e h1
    · omega
    · omega

theorem run_setObj {b : Nat} {es : Array MapEntry} {clock : Nat} {o : Obj} {w : World} (h : w.heap[b]? = some (.map es clock)) : (setObj b o).run P w = .ok () { w with heap := w.heap.setIfInBounds b o } := by
  show (Sem.setObj b o (Sem.pure ())).run P w = _
  simp only [Sem.run, h]

theorem modify_id {α : Type} (es : Array α) (j : Nat) (f : α → α) (h : ∀ e, es[j]? = some e → f e = e) : es.modify j f = es := by
  apply Array.ext'
  rw [Array.toList_modify]
  apply List.ext_getElem?
  intro i
  rw [List.getElem?_modify]
  by_cases hi : j = i
  · subst hi
    cases he : es[j]? with
    | none => simp [he]
    | some e => simp [he, h e he]
  · simp [hi]

theorem MapK.set {es : Array MapEntry} {clock j : Nat} {ks : Col} {key : Value} (hm : MapK es clock ks) (hk : ks.get? j = some key) (val : Value) : MapK (es.modify j fun e => { e with key, val }) clock ks := by
  have born : ∀ (i : Nat) (e : MapEntry), (es.modify j fun e => { e with key, val })[i]? = some e → ∃ e0, es[i]? = some e0 ∧ e.born = e0.born ∧ (i = j → e.key = key) ∧ (i ≠ j → e = e0) := by
    intro i e he
    rw [Array.getElem?_modify] at he
    split at he
    · rename_i hji
      subst hji
      cases h0 : es[j]? with
      | none => rw [h0] at he; cases he
      | some e0 => rw [h0] at he; simp at he; subst he; exact ⟨e0, rfl, rfl, fun _ => rfl, fun hne => absurd rfl hne⟩
    · rename_i hji
      exact ⟨e, he, rfl, fun e => absurd e.symm hji, fun _ => rfl⟩
  refine ⟨by simp [hm.size], fun i e he => ?_, fun i e he => ?_, fun i i' e e' hlt he he' => ?_⟩
  · obtain ⟨e0, h0, _, h1, h2⟩ := born i e he
    by_cases hij : i = j
    · subst hij
      rw [h1 rfl]; exact hk
    · rw [h2 hij]; exact hm.key i e0 h0
  · obtain ⟨e0, h0, h1, _⟩ := born i e he
    rw [h1]; exact hm.born i e0 h0
  · obtain ⟨e0, h0, h1, _⟩ := born i e he
    obtain ⟨e0', h0', h1', _⟩ := born i' e' he'
    rw [h1, h1']; exact hm.order i i' e0 e0' hlt h0 h0'
theorem MapK.push {es : Array MapEntry} {clock : Nat} {ks ks' : Col} {key : Value} (hm : MapK es clock ks) (hk : ks.putK none key = some ks') (val : Value) : MapK (es.push { key, val, born := clock }) (clock + 1) ks' := by
  obtain ⟨k1, _, k3⟩ := Col.putK_spec hk
  have get : ∀ (i : Nat) (e : MapEntry), (es.push { key, val, born := clock })[i]? = some e → (i < es.size ∧ es[i]? = some e) ∨ (i = es.size ∧ e = { key, val, born := clock }) := by
    intro i e he
    rw [Array.getElem?_push] at he
    split at he
    · rename_i hi; subst hi; cases he; exact .inr ⟨rfl, rfl⟩
    · exact .inl ⟨(Array.getElem?_eq_some_iff.1 he).1, he⟩
  refine ⟨by rw [(k3 rfl).2]; simp [hm.size], fun i e he => ?_, fun i e he => ?_, fun i i' e e' hlt he he' => ?_⟩
  · rcases get i e he with ⟨hi, h1⟩ | ⟨hi, rfl⟩
    · have a1 := hm.key i e h1
      rw [k1 i (Col.get?_lt a1)]; exact a1
    · subst hi
      rw [show es.size = ks.len from hm.size]; exact (k3 rfl).1
  · rcases get i e he with ⟨hi, h1⟩ | ⟨hi, rfl⟩
    · have := hm.born i e h1; omega
    · simp
  · rcases get i e he with ⟨hi, h1⟩ | ⟨hi, rfl⟩ <;> rcases get i' e' he' with ⟨hi', h1'⟩ | ⟨hi', rfl⟩
    · exact hm.order i i' e e' hlt h1 h1'
    · exact hm.born i e h1
    · omega
    · omega
theorem RecsAre.one {X : Nat → Prop} {w : World} {ds : List D} {us : List Value} {m : Nat} (hd : DL.holds X w ds us) (hl : ds.length = m) : us.length = m ∧ ∀ j, j < m → ∃ c, us[j]? = some c ∧ (ds.getD j (.v undef)).holds X w c :=
  ⟨by rw [← DL.length hd]; exact hl, fun j hj => DL.getD hd j (by omega)⟩

theorem run_choose_next (n : Nat) (w : World) (hn : 0 < n) : ∃ i w', i < n ∧ (w' = w ∨ w' = { w with drawn := w.drawn + 1 }) ∧ (choose (.mapNext n)).run P w = .ok i w' := by
  by_cases h : n ≤ 1
  · refine ⟨0, w, by omega, .inl rfl, ?_⟩
    show (Sem.choose (.mapNext n) Sem.pure).run P w = _
    simp [Sem.run, Question.forced, h]
  · refine ⟨w.tape w.drawn (.mapNext n) % n, _, Nat.mod_lt _ hn, .inr rfl, ?_⟩
    show (Sem.choose (.mapNext n) Sem.pure).run P w = _
    simp [Sem.run, Question.forced, h, Question.cut]
theorem run_getObj_it {b : Nat} {m : Option Nat} {s : Nat} {sn : Array Nat} {l : Nat} {w' : World} (h : w'.heap[b]? = some (.mapIter m s sn l)) : (getObj b).run P w' = .ok (.mapIter m s sn l) w' := by
  show (Sem.getObj b Sem.pure).run P w' = _
  simp only [Sem.run, h]
theorem run_setObj_it {b : Nat} {m : Option Nat} {s : Nat} {sn : Array Nat} {l : Nat} {o : Obj} {w : World} (h : w.heap[b]? = some (.mapIter m s sn l)) : (setObj b o).run P w = .ok () { w with heap := w.heap.setIfInBounds b o } := by
  show (Sem.setObj b o (Sem.pure ())).run P w = _
  simp only [Sem.run, h]
end
end Go.Z

