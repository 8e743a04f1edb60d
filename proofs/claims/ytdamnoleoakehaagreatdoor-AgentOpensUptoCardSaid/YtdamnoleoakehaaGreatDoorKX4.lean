/- Part 4 of what the closing text rests on. -/
import Derived.Test.YtdamnoleoakehaaGreatDoorKX3
namespace Go.Z
open Go.RowKit

section
variable {P : Program} {K : Ctx} {θ : Th} {h : List (Nat × R)} {nx : Nat} {w : World}

theorem POwn.tail {X : Nat → Prop} {L : Loc} {T S m len l : Nat} {bs : List Nat} {f : Nat → Nat → D} (hp : POwn X w L (.sl T) S m bs len f) (hl : l ≤ len) :
    POwn X w (L.sub l L.len L.cap 1) (.sl T) S m (bs.drop l) (len - l) (fun i => f (l + i)) ∧ (∀ b, ((L.sub l L.len L.cap 1).cap ≠ 0 ∧ (L.sub l L.len L.cap 1).b = b) ∨ b ∈ bs.drop l → (L.cap ≠ 0 ∧ L.b = b) ∨ b ∈ bs) := by
  obtain ⟨p1, p2, p3, p4, p5, p6, p7⟩ := hp
  have hcap : (L.sub l L.len L.cap 1).cap = L.cap - l := rfl
  refine ⟨⟨Loc.sub_wf p1 (Nat.le_refl _), by simp [Loc.sub, p2], by simp [Loc.sub]; omega, by simp [p4], p5.sublist (List.drop_sublist _ _), fun hc => ?_, fun i b hi => ?_⟩, fun b hb => ?_⟩
  · obtain ⟨a1, a2, a3⟩ := Loc.sub_ne (l := l) (h := L.len) (m := L.cap) (es := 1) p1 (Nat.le_refl _) (by omega)
    obtain ⟨g1, cs, g2, g3⟩ := p6 (by omega)
    exact ⟨by rw [a2]; exact fun hm => g1 (List.mem_of_mem_drop hm), cs, by rw [a2]; exact g2, by rw [a3, hcap]; omega⟩
  · rw [List.getElem?_drop] at hi
    have hlt := (List.getElem?_eq_some_iff.1 hi).1
    obtain ⟨a1, a2, a3⟩ := Loc.sub_ne (l := l) (h := L.len) (m := L.cap) (es := 1) p1 (Nat.le_refl _) (by omega)
    obtain ⟨g1, g2⟩ := p7 _ _ hi
    refine ⟨?_, g2⟩
    rw [a2, a3, show L.o + l * 1 + i = L.o + (l + i) by omega]
    exact g1
  · rcases hb with ⟨h1, h2⟩ | h1
    · obtain ⟨a1, a2, a3⟩ := Loc.sub_ne (l := l) (h := L.len) (m := L.cap) (es := 1) p1 (Nat.le_refl _) (by omega)
      exact .inl ⟨by omega, by rw [← h2, a2]⟩
    · exact .inr (List.mem_of_mem_drop h1)

theorem splice_foldl : ∀ (cs : List Value) (off : Nat) (arr : Array Value), off + cs.length ≤ arr.size →
    ((cs.zipIdx off).foldl (fun a (x : Value × Nat) => a.setIfInBounds x.2 x.1) arr).toList = arr.toList.take off ++ (cs ++ arr.toList.drop (off + cs.length))
  | [], off, arr, _ => by simp
  | c :: cs, off, arr, hle => by
    simp only [List.length_cons] at hle
    simp only [List.zipIdx_cons, List.foldl_cons]
    rw [splice_foldl cs (off + 1) _ (by simp; omega)]
    have hlt : off < arr.toList.length := by simp; omega
    have e1 : (arr.setIfInBounds off c).toList = arr.toList.set off c := by simp
    rw [e1]
    have hd : arr.toList.drop off = arr.toList[off] :: arr.toList.drop (off + 1) := (List.getElem_cons_drop hlt).symm
    have e2 : (arr.toList.set off c).take (off + 1) = arr.toList.take off ++ [c] := by
      rw [List.take_succ_eq_append_getElem (by simpa using hlt), List.take_set_of_le (Nat.le_refl _)]
      simp
    have e3 : (arr.toList.set off c).drop (off + 1 + cs.length) = arr.toList.drop (off + (cs.length + 1)) := by
      rw [List.drop_set_of_lt (by omega)]
      congr 1; omega
    rw [e2, e3]
    simp
end
end Go.Z

namespace Go.Z
open Go.RowKit

section
variable {P : Program} {K : Ctx} {θ : Th} {h : List (Nat × R)} {nx : Nat} {w : World}

theorem splice_zip (cs : List Value) (off : Nat) : ∀ (n : Nat) (arr : Array Value), (cs.zipIdx n).foldl (fun a (x : Value × Nat) => a.setIfInBounds (off + x.2) x.1) arr = (cs.zipIdx (off + n)).foldl (fun a (x : Value × Nat) => a.setIfInBounds x.2 x.1) arr := by
  induction cs with
  | nil => intro n arr; rfl
  | cons c cs ih =>
    intro n arr
    simp only [List.zipIdx_cons, List.foldl_cons]
    rw [ih (n + 1)]
    rfl

theorem fill_step (cells : Array Value) (off : Nat) (cs : Array Value) (hle : off + cs.size ≤ cells.size) :
    (cs.zipIdx.foldl (fun a (x : Value × Nat) => a.setIfInBounds (off + x.2) x.1) cells).toList = cells.toList.take off ++ (cs.toList ++ cells.toList.drop (off + cs.size)) := by
  rw [← Array.foldl_toList, Array.toList_zipIdx, splice_zip cs.toList off 0]
  simpa using splice_foldl cs.toList off cells (by simpa using hle)

theorem run_mapM_list {α β : Type} (f : α → Sem β) (g : α → β) (w' : World) : ∀ (l : List α), (∀ a ∈ l, (f a).run P w' = .ok (g a) w') → (l.mapM f).run P w' = .ok (l.map g) w'
  | [], _ => by simp
  | a :: l, hl => by
    have h1 := hl a (by simp)
    have h2 := run_mapM_list f g w' l (fun b hb => hl b (by simp [hb]))
    simp [List.mapM_cons, h1, h2]

theorem run_mapM_array {α β : Type} (f : α → Sem β) (g : α → β) (w' : World) (xs : Array α) (hl : ∀ a ∈ xs.toList, (f a).run P w' = .ok (g a) w') : (xs.mapM f).run P w' = .ok (xs.map g) w' := by
  rw [Array.mapM_eq_mapM_toList]
  simp only [Sem.run_map, run_mapM_list f g w' xs.toList hl, Result.andThen]
  congr 1
  apply Array.ext'
  simp

theorem run_zero {T : Nat} {i : TypeInfo} {z : Value} (hi : P.info? T = some i) (hz : i.zero = some z) (w' : World) : (zeroValue T).run P w' = .ok z w' := by
  simp [zeroValue, run_typeInfo hi, hz]

def QOut (P : Program) (K : Ctx) (θ : Th) (nx : Nat) (w : World) (rd : List SV) (k : HK) (o : Oper) (ρ : Operand → Value) : Prop :=
  ∃ r h' nx' θ' v', k r h' nx' ∧ Grows K θ θ' nx nx' h' w ∧ V θ' r v' ∧ ∀ w', (∀ s, s ∈ rd → Rd θ s w w') → (execOp ρ o).run P w' = .ok (.value v') w'

theorem QOut.pure {rd : List SV} {k : HK} {o : Oper} {ρ : Operand → Value} {r : SV} {v : Value} (hs : SatH K θ h nx w) (hk : k r h nx) (hv : V θ r v) (hrun : ∀ w', (∀ s, s ∈ rd → Rd θ s w w') → (execOp ρ o).run P w' = .ok (.value v) w') :
    QOut P K θ nx w rd k o ρ := ⟨r, h, nx, θ, v, hk, .refl hs, hv, hrun⟩

theorem run_v {s : Sem Value} {v : Value} {w' : World} (hrun : s.run P w' = .ok v w') : (do pure (Next.value (← s)) : Sem Next).run P w' = .ok (.value v) w' := by
  simp [hrun]

end
end Go.Z

namespace Go.Z
open Go.RowKit

inductive O where
  | any
  | d (x : D)
  | own (T : Nat) (x : D)
  | ptr (T : Nat) (l : List O)
  | arr (T : Nat) (k : IntKind) (xs : List Int)
  | map (ks vs : Col)
  | agg (l : List O)
  | va (k : IntKind) (xs : List Int)
  | pown (c : PC) (S m : Nat) (ob : Option (List Nat)) (n : Nat) (f : Nat → Nat → D)
  | ifc (t : Nat) (o : O)
  | mapR (ks : Col) (m : Nat) (f : Nat → Nat → D)
  | rsl (T len : Nat) (l : List O)
  | ex (p : List Int → Prop) (f : List Int → O)

def PC.val (L : Loc) : PC → Value
  | .sl _ => L.val
  | .mp _ => .map (some L.b)
mutual
def O.holds (X : Nat → Prop) (w : World) : O → Value → List Nat → Prop
  | .any, _, fp => fp = []
  | .d x, c, fp => x.holds X w c ∧ fp = []
  | .own T x, c, fp => ∃ L : Loc, c = L.val ∧ L.wf ∧ x.at X w L ∧ ((L.cap = 0 ∧ fp = []) ∨ (L.cap ≠ 0 ∧ fp = [L.b] ∧ ∃ cs : Array Value, w.heap[L.b]? = some (.cells cs T (0, 0)) ∧ L.o + L.cap * x.es ≤ cs.size))
  | .ptr T l, c, fp => ∃ (b : Nat) (us : List Value) (f : List Nat), c = .pointer (some ⟨b, 0, none⟩) ∧ fp = b :: f ∧ w.heap[b]? = some (.cells us.toArray T (0, 0)) ∧ OL.holds X w l us f
  | .arr T k xs, c, fp => ∃ L : Loc, c = .pointer (some ⟨L.b, 0, none⟩) ∧ L = ⟨some ⟨L.b, 0, none⟩, xs.length, xs.length⟩ ∧ (D.ints k xs).at X w L ∧ ((L.cap = 0 ∧ fp = []) ∨ (L.cap ≠ 0 ∧ fp = [L.b] ∧ ∃ cs : Array Value, w.heap[L.b]? = some (.cells cs T (0, 0)) ∧ L.o + L.cap * 1 ≤ cs.size))
  | .map ks vs, c, fp => ∃ (b : Nat) (es : Array MapEntry) (clock : Nat), c = .map (some b) ∧ fp = [b] ∧ w.heap[b]? = some (.map es clock) ∧ MapIs es clock ks vs
  | .agg l, c, fp => ∃ us : List Value, c = .agg us.toArray ∧ OL.holds X w l us fp
  | .va k xs, c, fp => c = .agg (xs.map (Value.int k)).toArray ∧ fp = []
  | .pown pc S m ob n f, c, fp => ∃ (L : Loc) (bs : List Nat), c = pc.val L ∧ POwn X w L pc S m bs n f ∧ (∀ l, ob = some l → bs = l) ∧ ((L.cap = 0 ∧ fp = bs) ∨ (L.cap ≠ 0 ∧ fp = L.b :: bs))
  | .ifc t o, c, fp => ∃ u, c = .iface t u ∧ O.holds X w o u fp
  | .mapR ks m f, c, fp => ∃ b : Nat, c = .map (some b) ∧ fp = [b] ∧ MapR X w b ks m f
  | .rsl T len l, c, fp => ∃ (b : Nat) (us : List Value), c = .slice (some ⟨b, 0, none⟩) len len ∧ X b ∧ w.heap[b]? = some (.cells us.toArray T (0, 0)) ∧ OL.holds X w l us fp
  | .ex p f, c, fp => ∃ x, p x ∧ O.holds X w (f x) c fp
def OL.holds (X : Nat → Prop) (w : World) : List O → List Value → List Nat → Prop
  | [], [], fp => fp = []
  | o :: l, v :: vs, fp => ∃ f g, fp = f ++ g ∧ O.holds X w o v f ∧ OL.holds X w l vs g
  | _, _, _ => False
end

def KeepsF (fp : List Nat) (w w' : World) : Prop := ∀ b ∈ fp, w'.heap[b]? = w.heap[b]?

mutual
theorem O.holds_mono {X X' : Nat → Prop} {w w' : World} (hk : Keeps X X' w w') : ∀ (o : O) (v : Value) (fp : List Nat), KeepsF fp w w' → O.holds X w o v fp → O.holds X' w' o v fp
  | .any, v, fp, _, h => by simpa only [O.holds] using h
  | .d x, v, fp, _, h => by simp only [O.holds] at *; exact ⟨D.holds_mono hk x v h.1, h.2⟩
  | .own T x, v, fp, hf, h => by
    simp only [O.holds] at *
    obtain ⟨L, h1, h2, h3, h4⟩ := h
    refine ⟨L, h1, h2, ?_, ?_⟩
    · refine D.at_mono hk (fun hne => ?_) h3
      rcases h4 with ⟨h5, _⟩ | ⟨_, rfl, _⟩
      · have := (D.at_len' h3).2; omega
      · exact hf _ (by simp)
    · rcases h4 with h5 | ⟨h5, rfl, cs, h6, h7⟩
      · exact .inl h5
      · exact .inr ⟨h5, rfl, cs, by rw [hf _ (by simp)]; exact h6, h7⟩
  | .ptr T l, v, fp, hf, h => by
    simp only [O.holds] at *
    obtain ⟨b, us, f, h1, rfl, h2, h3⟩ := h
    exact ⟨b, us, f, h1, rfl, by rw [hf b (by simp)]; exact h2, OL.holds_mono hk l us f (fun c hc => hf c (by simp [hc])) h3⟩
  | .arr T k xs, v, fp, hf, h => by
    simp only [O.holds] at *
    obtain ⟨L, h1, h2, h3, h4⟩ := h
    refine ⟨L, h1, h2, ?_, ?_⟩
    · refine D.at_mono hk (fun hne => ?_) h3
      rcases h4 with ⟨h5, _⟩ | ⟨_, rfl, _⟩
      · have := (D.at_len' h3).2; omega
      · exact hf _ (by simp)
    · rcases h4 with h5 | ⟨h5, rfl, cs, h6, h7⟩
      · exact .inl h5
      · exact .inr ⟨h5, rfl, cs, by rw [hf _ (by simp)]; exact h6, h7⟩
  | .map ks vs, v, fp, hf, h => by
    simp only [O.holds] at *
    obtain ⟨b, es, clock, h1, rfl, h2, h3⟩ := h
    exact ⟨b, es, clock, h1, rfl, by rw [hf b (by simp)]; exact h2, h3⟩
  | .mapR ks m f, v, fp, hf, h => by
    simp only [O.holds] at *
    obtain ⟨b, h1, rfl, h2⟩ := h
    exact ⟨b, h1, rfl, h2.mono hk (hf b (by simp))⟩
  | .rsl T len l, v, fp, hf, h => by
    simp only [O.holds] at *
    obtain ⟨b, us, h1, h2, h3, h4⟩ := h
    have hb := (Array.getElem?_eq_some_iff.1 h3).1
    exact ⟨b, us, h1, (hk _ hb h2).1, by rw [(hk _ hb h2).2]; exact h3, OL.holds_mono hk l us fp hf h4⟩
  | .agg l, v, fp, hf, h => by
    simp only [O.holds] at *
    obtain ⟨us, h1, h2⟩ := h
    exact ⟨us, h1, OL.holds_mono hk l us fp hf h2⟩
  | .va k xs, v, fp, _, h => by simpa only [O.holds] using h
  | .pown T S m ob n f, v, fp, hf, h => by
    simp only [O.holds] at *
    obtain ⟨L, bs, h1, h2, h3, h4⟩ := h
    refine ⟨L, bs, h1, POwn.mono hk (fun b hb => hf b ?_) h2, h3, h4⟩
    rcases h4 with ⟨h5, rfl⟩ | ⟨h5, rfl⟩
    · exact hb.resolve_left (fun h => h.1 h5)
    · rcases hb with ⟨_, rfl⟩ | hb <;> simp [*]
  | .ifc t o, v, fp, hf, h => by
    simp only [O.holds] at *
    obtain ⟨u, h1, h2⟩ := h
    exact ⟨u, h1, O.holds_mono hk o u fp hf h2⟩
  | .ex p g, v, fp, hf, h => by
    simp only [O.holds] at *
    obtain ⟨x, h1, h2⟩ := h
    exact ⟨x, h1, O.holds_mono hk (g x) v fp hf h2⟩
theorem OL.holds_mono {X X' : Nat → Prop} {w w' : World} (hk : Keeps X X' w w') : ∀ (l : List O) (vs : List Value) (fp : List Nat), KeepsF fp w w' → OL.holds X w l vs fp → OL.holds X' w' l vs fp
  | [], [], fp, _, h => by simpa only [OL.holds] using h
  | [], _ :: _, _, _, h => by simp [OL.holds] at h
  | _ :: _, [], _, _, h => by simp [OL.holds] at h
  | o :: l, v :: vs, fp, hf, h => by
    simp only [OL.holds] at *
    obtain ⟨f, g, rfl, h1, h2⟩ := h
    exact ⟨f, g, rfl, O.holds_mono hk o v f (fun b hb => hf b (by simp [hb])) h1, OL.holds_mono hk l vs g (fun b hb => hf b (by simp [hb])) h2⟩
end

theorem OL.length {X : Nat → Prop} {w : World} : ∀ {l : List O} {vs : List Value} {fp : List Nat}, OL.holds X w l vs fp → l.length = vs.length
  | [], [], _, _ => rfl
  | [], _ :: _, _, h => by simp [OL.holds] at h
  | _ :: _, [], _, h => by simp [OL.holds] at h
  | o :: l, v :: vs, fp, h => by
    simp only [OL.holds] at h
    obtain ⟨f, g, _, _, h2⟩ := h
    simp [OL.length h2]


def FpOk (K : Ctx) (X : Nat → Prop) (θ : Th) (h : List (Nat × R)) (fp : List Nat) : Prop :=
  fp.Nodup ∧ ∀ b ∈ fp, ¬ X b ∧ (∀ n, ¬ OwnsAt θ h n b) ∧ (K.w0.heap.size ≤ b ∨ K.M b)

structure GivesX (K : Ctx) (X : Nat → Prop) (fp : List Nat) (θ θ' : Th) (h h' : List (Nat × R)) (nx nx' : Nat) (w : World) : Prop where
  sat : SatX K X θ' h' nx' w
  ext : θ.ext θ'
  le : nx ≤ nx'
  agree : ∀ n, n < nx → θ' n = θ n
  find : ∀ n, n < nx → hfind h' n = hfind h n
  own : ∀ n b, OwnsAt θ' h' n b → OwnsAt θ h n b ∨ b ∈ fp

section
variable {K : Ctx} {X : Nat → Prop} {w : World}

theorem AddsX.gives {θ θ' : Th} {h h' : List (Nat × R)} {nx nx' : Nat} (a : AddsX K X θ θ' h h' nx nx' w) (fp : List Nat) : GivesX K X fp θ θ' h h' nx nx' w :=
  ⟨a.sat, a.ext, a.le, a.agree, a.find, fun n b ho => .inl (a.own n b ho)⟩
theorem GivesX.refl {θ : Th} {h : List (Nat × R)} {nx : Nat} (hs : SatX K X θ h nx w) (fp : List Nat) : GivesX K X fp θ θ h h nx nx w := (AddsX.refl hs).gives fp
theorem GivesX.trans {f g : List Nat} {θ θ' θ'' : Th} {h h' h'' : List (Nat × R)} {nx nx' nx'' : Nat} (a : GivesX K X f θ θ' h h' nx nx' w) (b : GivesX K X g θ' θ'' h' h'' nx' nx'' w) :
    GivesX K X (f ++ g) θ θ'' h h'' nx nx'' w :=
  ⟨b.sat, Th.ext_trans a.ext b.ext, Nat.le_trans a.le b.le, fun n hn => (b.agree n (Nat.lt_of_lt_of_le hn a.le)).trans (a.agree n hn),
    fun n hn => (b.find n (Nat.lt_of_lt_of_le hn a.le)).trans (a.find n hn), fun n b' ho => by
      rcases b.own n b' ho with h1 | h1
      · rcases a.own n b' h1 with h2 | h2
        · exact .inl h2
        · exact .inr (by simp [h2])
      · exact .inr (by simp [h1])⟩
theorem FpOk.left {θ : Th} {h : List (Nat × R)} {f g : List Nat} (hf : FpOk K X θ h (f ++ g)) : FpOk K X θ h f :=
  ⟨(List.nodup_append.1 hf.1).1, fun b hb => hf.2 b (by simp [hb])⟩
theorem FpOk.right {θ θ' : Th} {h h' : List (Nat × R)} {nx nx' : Nat} {f g : List Nat} (hf : FpOk K X θ h (f ++ g)) (a : GivesX K X f θ θ' h h' nx nx' w) : FpOk K X θ' h' g := by
  obtain ⟨n1, n2, n3⟩ := List.nodup_append.1 hf.1
  refine ⟨n2, fun b hb => ?_⟩
  obtain ⟨h1, h2, h3⟩ := hf.2 b (by simp [hb])
  refine ⟨h1, fun n hn => ?_, h3⟩
  rcases a.own n b hn with h4 | h4
  · exact h2 n h4
  · exact n3 b h4 b hb rfl

end
end Go.Z

