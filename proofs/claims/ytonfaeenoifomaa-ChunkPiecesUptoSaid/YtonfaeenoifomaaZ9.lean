/- Trees of what is owned: arguments, results, what a loop carries; given names, and read off the state. -/
import Derived.Test.YtonfaeenoifomaaZ8
namespace Go.Z
open Go.RowKit

inductive O where
  | any
  | d (x : D)
  | own (T : Nat) (x : D)
  | ptr (T : Nat) (l : List O)
  | arr (T : Nat) (k : IntKind) (xs : List Int)
  | map (ks vs : Col)
  | agg (l : List O)
  | va (k : IntKind) (xs : List Int)

mutual
/-- A value is this; the blocks that go with it. -/
def O.holds (X : Nat → Prop) (w : World) : O → Value → List Nat → Prop
  | .any, _, fp => fp = []
  | .d x, c, fp => x.holds X w c ∧ fp = []
  | .own T x, c, fp => ∃ L : Loc, c = L.val ∧ L.wf ∧ x.at X w L ∧ ((L.cap = 0 ∧ fp = []) ∨ (L.cap ≠ 0 ∧ fp = [L.b] ∧ ∃ cs : Array Value, w.heap[L.b]? = some (.cells cs T (0, 0)) ∧ L.o + L.cap * x.es ≤ cs.size))
  | .ptr T l, c, fp => ∃ (b : Nat) (us : List Value) (f : List Nat), c = .pointer (some ⟨b, 0, none⟩) ∧ fp = b :: f ∧ w.heap[b]? = some (.cells us.toArray T (0, 0)) ∧ OL.holds X w l us f
  | .arr T k xs, c, fp => ∃ L : Loc, c = .pointer (some ⟨L.b, 0, none⟩) ∧ L = ⟨some ⟨L.b, 0, none⟩, xs.length, xs.length⟩ ∧ (D.ints k xs).at X w L ∧ ((L.cap = 0 ∧ fp = []) ∨ (L.cap ≠ 0 ∧ fp = [L.b] ∧ ∃ cs : Array Value, w.heap[L.b]? = some (.cells cs T (0, 0)) ∧ L.o + L.cap * 1 ≤ cs.size))
  | .map ks vs, c, fp => ∃ (b : Nat) (es : Array MapEntry) (clock : Nat), c = .map (some b) ∧ fp = [b] ∧ w.heap[b]? = some (.map es clock) ∧ MapIs es clock ks vs
  | .agg l, c, fp => ∃ us : List Value, c = .agg us.toArray ∧ OL.holds X w l us fp
  | .va k xs, c, fp => c = .agg (xs.map (Value.int k)).toArray ∧ fp = []
def OL.holds (X : Nat → Prop) (w : World) : List O → List Value → List Nat → Prop
  | [], [], fp => fp = []
  | o :: l, v :: vs, fp => ∃ f g, fp = f ++ g ∧ O.holds X w o v f ∧ OL.holds X w l vs g
  | _, _, _ => False
end

/-- From w to w', X to X': what lies in X or in the tree's own blocks is kept. -/
def KeepsF (fp : List Nat) (w w' : World) : Prop := ∀ b ∈ fp, w'.heap[b]? = w.heap[b]?

mutual
theorem O.holds_mono {X X' : Nat → Prop} {w w' : World} (hk : Keeps X X' w w') : ∀ (o : O) (v : Value) (fp : List Nat), KeepsF fp w w' → O.holds X w o v fp → O.holds X' w' o v fp
  | .any, v, fp, _, h => by simpa only [O.holds] using h
  | .d x, v, fp, _, h => by simp only [O.holds] at *; exact ⟨D.holds_mono hk x v h.1, h.2⟩
  | .own T x, v, fp, hf, h => by
    simp only [O.holds] at *
    obtain ⟨L, h1, h2, h3, h4⟩ := h
    refine ⟨L, h1, h2, ?_, ?_⟩
    · refine D.at_mono hk (fun hne => ?_) h3
      rcases h4 with ⟨h5, _⟩ | ⟨_, rfl, _⟩
      · have := (D.at_len' h3).2; omega
      · exact hf _ (by simp)
    · rcases h4 with h5 | ⟨h5, rfl, cs, h6, h7⟩
      · exact .inl h5
      · exact .inr ⟨h5, rfl, cs, by rw [hf _ (by simp)]; exact h6, h7⟩
  | .ptr T l, v, fp, hf, h => by
    simp only [O.holds] at *
    obtain ⟨b, us, f, h1, rfl, h2, h3⟩ := h
    exact ⟨b, us, f, h1, rfl, by rw [hf b (by simp)]; exact h2, OL.holds_mono hk l us f (fun c hc => hf c (by simp [hc])) h3⟩
  | .arr T k xs, v, fp, hf, h => by
    simp only [O.holds] at *
    obtain ⟨L, h1, h2, h3, h4⟩ := h
    refine ⟨L, h1, h2, ?_, ?_⟩
    · refine D.at_mono hk (fun hne => ?_) h3
      rcases h4 with ⟨h5, _⟩ | ⟨_, rfl, _⟩
      · have := (D.at_len' h3).2; omega
      · exact hf _ (by simp)
    · rcases h4 with h5 | ⟨h5, rfl, cs, h6, h7⟩
      · exact .inl h5
      · exact .inr ⟨h5, rfl, cs, by rw [hf _ (by simp)]; exact h6, h7⟩
  | .map ks vs, v, fp, hf, h => by
    simp only [O.holds] at *
    obtain ⟨b, es, clock, h1, rfl, h2, h3⟩ := h
    exact ⟨b, es, clock, h1, rfl, by rw [hf b (by simp)]; exact h2, h3⟩
  | .agg l, v, fp, hf, h => by
    simp only [O.holds] at *
    obtain ⟨us, h1, h2⟩ := h
    exact ⟨us, h1, OL.holds_mono hk l us fp hf h2⟩
  | .va k xs, v, fp, _, h => by simpa only [O.holds] using h
theorem OL.holds_mono {X X' : Nat → Prop} {w w' : World} (hk : Keeps X X' w w') : ∀ (l : List O) (vs : List Value) (fp : List Nat), KeepsF fp w w' → OL.holds X w l vs fp → OL.holds X' w' l vs fp
  | [], [], fp, _, h => by simpa only [OL.holds] using h
  | [], _ :: _, _, _, h => by simp [OL.holds] at h
  | _ :: _, [], _, _, h => by simp [OL.holds] at h
  | o :: l, v :: vs, fp, hf, h => by
    simp only [OL.holds] at *
    obtain ⟨f, g, rfl, h1, h2⟩ := h
    exact ⟨f, g, rfl, O.holds_mono hk o v f (fun b hb => hf b (by simp [hb])) h1, OL.holds_mono hk l vs g (fun b hb => hf b (by simp [hb])) h2⟩
end

theorem OL.length {X : Nat → Prop} {w : World} : ∀ {l : List O} {vs : List Value} {fp : List Nat}, OL.holds X w l vs fp → l.length = vs.length
  | [], [], _, _ => rfl
  | [], _ :: _, _, h => by simp [OL.holds] at h
  | _ :: _, [], _, h => by simp [OL.holds] at h
  | o :: l, v :: vs, fp, h => by
    simp only [OL.holds] at h
    obtain ⟨f, g, _, _, h2⟩ := h
    simp [OL.length h2]

/-! Given names -/
mutual
def instO : O → List (Nat × R) → Nat → (SV → List (Nat × R) → Nat → Prop) → Prop
  | .any, h, nx, k => k .unk h nx
  | .d x, h, nx, k => instD x h nx k
  | .own T x, h, nx, k => k (.a nx) ((nx, .own T x) :: h) (nx + 1)
  | .ptr T l, h, nx, k => instOs l h nx fun ss h' nx' => k (.p nx' 0) ((nx', .blk T ss) :: h') (nx' + 1)
  | .arr T kk xs, h, nx, k => k (.q nx) ((nx, .own T (.ints kk xs)) :: h) (nx + 1)
  | .map ks vs, h, nx, k => k (.m nx) ((nx, .map ks vs) :: h) (nx + 1)
  | .agg l, h, nx, k => instOs l h nx fun ss => k (.agg ss)
  | .va kk xs, h, nx, k => k (.arr kk xs) h nx
def instOs : List O → List (Nat × R) → Nat → (List SV → List (Nat × R) → Nat → Prop) → Prop
  | [], h, nx, k => k [] h nx
  | o :: l, h, nx, k => instO o h nx fun s h' nx' => instOs l h' nx' fun ss h'' nx'' => k (s :: ss) h'' nx''
end

/-- Blocks that may be owned from now on. -/
def FpOk (K : Ctx) (X : Nat → Prop) (θ : Th) (h : List (Nat × R)) (fp : List Nat) : Prop :=
  fp.Nodup ∧ ∀ b ∈ fp, ¬ X b ∧ (∀ n, ¬ OwnsAt θ h n b) ∧ (K.w0.heap.size ≤ b ∨ K.M b)

structure GivesX (K : Ctx) (X : Nat → Prop) (fp : List Nat) (θ θ' : Th) (h h' : List (Nat × R)) (nx nx' : Nat) (w : World) : Prop where
  sat : SatX K X θ' h' nx' w
  ext : θ.ext θ'
  le : nx ≤ nx'
  agree : ∀ n, n < nx → θ' n = θ n
  find : ∀ n, n < nx → hfind h' n = hfind h n
  own : ∀ n b, OwnsAt θ' h' n b → OwnsAt θ h n b ∨ b ∈ fp

section
variable {K : Ctx} {X : Nat → Prop} {w : World}

theorem AddsX.gives {θ θ' : Th} {h h' : List (Nat × R)} {nx nx' : Nat} (a : AddsX K X θ θ' h h' nx nx' w) (fp : List Nat) : GivesX K X fp θ θ' h h' nx nx' w :=
  ⟨a.sat, a.ext, a.le, a.agree, a.find, fun n b ho => .inl (a.own n b ho)⟩
theorem GivesX.refl {θ : Th} {h : List (Nat × R)} {nx : Nat} (hs : SatX K X θ h nx w) (fp : List Nat) : GivesX K X fp θ θ h h nx nx w := (AddsX.refl hs).gives fp
theorem GivesX.trans {f g : List Nat} {θ θ' θ'' : Th} {h h' h'' : List (Nat × R)} {nx nx' nx'' : Nat} (a : GivesX K X f θ θ' h h' nx nx' w) (b : GivesX K X g θ' θ'' h' h'' nx' nx'' w) :
    GivesX K X (f ++ g) θ θ'' h h'' nx nx'' w :=
  ⟨b.sat, Th.ext_trans a.ext b.ext, Nat.le_trans a.le b.le, fun n hn => (b.agree n (Nat.lt_of_lt_of_le hn a.le)).trans (a.agree n hn),
    fun n hn => (b.find n (Nat.lt_of_lt_of_le hn a.le)).trans (a.find n hn), fun n b' ho => by
      rcases b.own n b' ho with h1 | h1
      · rcases a.own n b' h1 with h2 | h2
        · exact .inl h2
        · exact .inr (by simp [h2])
      · exact .inr (by simp [h1])⟩
theorem GivesX.weaken {f g : List Nat} {θ θ' : Th} {h h' : List (Nat × R)} {nx nx' : Nat} (a : GivesX K X f θ θ' h h' nx nx' w) (hs : ∀ b ∈ f, b ∈ g) : GivesX K X g θ θ' h h' nx nx' w :=
  ⟨a.sat, a.ext, a.le, a.agree, a.find, fun n b ho => (a.own n b ho).imp id (hs b)⟩

theorem FpOk.left {θ : Th} {h : List (Nat × R)} {f g : List Nat} (hf : FpOk K X θ h (f ++ g)) : FpOk K X θ h f :=
  ⟨(List.nodup_append.1 hf.1).1, fun b hb => hf.2 b (by simp [hb])⟩
theorem FpOk.right {θ θ' : Th} {h h' : List (Nat × R)} {nx nx' : Nat} {f g : List Nat} (hf : FpOk K X θ h (f ++ g)) (a : GivesX K X f θ θ' h h' nx nx' w) : FpOk K X θ' h' g := by
  obtain ⟨n1, n2, n3⟩ := List.nodup_append.1 hf.1
  refine ⟨n2, fun b hb => ?_⟩
  obtain ⟨h1, h2, h3⟩ := hf.2 b (by simp [hb])
  refine ⟨h1, fun n hn => ?_, h3⟩
  rcases a.own n b hn with h4 | h4
  · exact h2 n h4
  · exact n3 b h4 b hb rfl

/-- The newest name owns what nobody owned. -/
theorem SatX.give_new {θ : Th} {h : List (Nat × R)} {nx : Nat} (hs : SatX K X θ h nx w) {r : R} {L : Loc} {fp : List Nat} (hh : r.holds (θ.add nx L) X w L)
    (hf : FpOk K X θ h fp) (ho : r.owns L → L.b ∈ fp) : GivesX K X fp θ (θ.add nx L) h ((nx, r) :: h) nx (nx + 1) w := by
  have hnx := hs.fresh nx (Nat.le_refl _)
  obtain ⟨g1, g2⟩ := hs.give (Th.add_ext hnx L) (nx' := nx + 1) (fun n hn => by rw [Th.add_other _ _ (by omega)]; exact hs.fresh n (by omega)) (n := nx) (r := r) (L := L) (Th.add_self _ _ _)
    (fun m hm => Th.add_other _ _ hm) hh (fun h1 => (hf.2 _ (ho h1)).1) (fun h1 => (hf.2 _ (ho h1)).2.1) (fun h1 => (hf.2 _ (ho h1)).2.2)
  refine ⟨g1, Th.add_ext hnx L, by omega, fun n hn => Th.add_other _ _ (by omega), fun n hn => by rw [hfind_cons, if_neg (by omega)], fun n b hn => ?_⟩
  rcases g2 n b hn with h1 | ⟨_, h1, rfl⟩
  · exact .inl h1
  · exact .inr (ho h1)

def ptrLoc (b : Nat) : Loc := ⟨some ⟨b, 0, none⟩, 0, 0⟩
def arrLoc (b n : Nat) : Loc := ⟨some ⟨b, 0, none⟩, n, n⟩

theorem arr_own {θ : Th} {b T : Nat} {k : IntKind} {xs : List Int} (h : w.heap[b]? = some (.cells (xs.map (Value.int k)).toArray T (0, 0))) : (R.own T (.ints k xs)).holds θ X w (arrLoc b xs.length) := by
  refine ⟨⟨rfl, Nat.le_refl _, fun i z hz => ?_⟩, .inr rfl, fun _ => ⟨_, h, ?_⟩⟩
  · show w.cell? ⟨b, 0 + i, none⟩ = _
    rw [Nat.zero_add, cell_of_cells h, List.getElem?_map, hz]; rfl
  · simp [D.es, arrLoc, Loc.o]

mutual
theorem instO_sound : ∀ (o : O) {θ : Th} {h : List (Nat × R)} {nx : Nat} {v : Value} {fp : List Nat} {k : SV → List (Nat × R) → Nat → Prop}, SatX K X θ h nx w → O.holds X w o v fp → FpOk K X θ h fp → instO o h nx k →
    ∃ s h' nx' θ', k s h' nx' ∧ GivesX K X fp θ θ' h h' nx nx' w ∧ V θ' s v
  | .any, θ, h, nx, v, fp, k, hs, hh, hf, hk => by
    simp only [instO] at hk
    exact ⟨_, _, _, θ, hk, .refl hs _, by simp [V]⟩
  | .d x, θ, h, nx, v, fp, k, hs, hh, hf, hk => by
    simp only [instO] at hk
    simp only [O.holds] at hh
    obtain ⟨s, h', nx', θ', a1, a2, a3⟩ := instD_soundX x hs hh.1 hk
    exact ⟨s, h', nx', θ', a1, a2.gives _, a3⟩
  | .own T x, θ, h, nx, v, fp, k, hs, hh, hf, hk => by
    simp only [instO] at hk
    simp only [O.holds] at hh
    obtain ⟨L, rfl, h2, h3, h4⟩ := hh
    refine ⟨_, _, _, θ.add nx L, hk, hs.give_new (r := .own T x) ⟨h3, h2, fun hc => ?_⟩ hf (fun ho => ?_), by simp only [V]; exact ⟨L, Th.add_self _ _ _, rfl⟩⟩
    · rcases h4 with ⟨h5, _⟩ | ⟨_, _, h5⟩
      · exact absurd h5 hc
      · exact h5
    · rcases h4 with ⟨h5, _⟩ | ⟨_, rfl, _⟩
      · exact absurd h5 ho
      · simp
  | .ptr T l, θ, h, nx, v, fp, k, hs, hh, hf, hk => by
    simp only [instO] at hk
    simp only [O.holds] at hh
    obtain ⟨b, us, f, rfl, rfl, h2, h3⟩ := hh
    have hf' : FpOk K X θ h (f ++ [b]) := ⟨by
      have := hf.1
      simp only [List.nodup_cons] at this
      rw [List.nodup_append]
      exact ⟨this.2, by simp, fun x hx y hy => by simp at hy; subst hy; intro e; subst e; exact this.1 hx⟩, fun c hc => hf.2 c (by simp at hc ⊢; exact hc.symm)⟩
    obtain ⟨ss, h1, nx1, θ1, a1, a2, a3⟩ := instOs_sound l hs h3 hf'.left hk
    have g := a2.sat.give_new (r := .blk T ss) (L := ptrLoc b) (fp := [b]) ⟨us, rfl, h2, VL_mono (Th.add_ext (a2.sat.fresh nx1 (Nat.le_refl _)) _) _ _ a3⟩ (hf'.right a2) (fun _ => by simp [ptrLoc, Loc.b])
    refine ⟨_, _, _, _, a1, (a2.trans g).weaken (fun c hc => by simp at hc ⊢; exact hc.symm), ?_⟩
    simp only [V]
    exact ⟨_, Th.add_self _ _ _, rfl⟩
  | .arr T kk xs, θ, h, nx, v, fp, k, hs, hh, hf, hk => by
    simp only [instO] at hk
    simp only [O.holds] at hh
    obtain ⟨L, rfl, h2, h3, h4⟩ := hh
    refine ⟨_, _, _, θ.add nx L, hk, hs.give_new (r := .own T (.ints kk xs)) ⟨h3, .inr (by rw [h2]; rfl), fun hc => ?_⟩ hf (fun ho => ?_), by simp only [V]; exact ⟨L, Th.add_self _ _ _, by rw [h2]; rfl, rfl⟩⟩
    · rcases h4 with ⟨h5, _⟩ | ⟨_, _, h5⟩
      · exact absurd h5 hc
      · exact h5
    · rcases h4 with ⟨h5, _⟩ | ⟨_, rfl, _⟩
      · exact absurd h5 ho
      · simp
  | .map ks vs, θ, h, nx, v, fp, k, hs, hh, hf, hk => by
    simp only [instO] at hk
    simp only [O.holds] at hh
    obtain ⟨b, es, clock, rfl, rfl, h2, h3⟩ := hh
    refine ⟨_, _, _, θ.add nx (ptrLoc b), hk, hs.give_new (r := .map ks vs) ⟨rfl, es, clock, h2, h3⟩ hf (fun _ => by simp [ptrLoc, Loc.b]), ?_⟩
    simp only [V]
    exact ⟨_, Th.add_self _ _ _, rfl⟩
  | .agg l, θ, h, nx, v, fp, k, hs, hh, hf, hk => by
    simp only [instO] at hk
    simp only [O.holds] at hh
    obtain ⟨us, rfl, h2⟩ := hh
    obtain ⟨ss, h1, nx1, θ1, a1, a2, a3⟩ := instOs_sound l hs h2 hf hk
    exact ⟨_, _, _, _, a1, a2, by simp only [V]; exact ⟨us, rfl, a3⟩⟩
  | .va kk xs, θ, h, nx, v, fp, k, hs, hh, hf, hk => by
    simp only [instO] at hk
    simp only [O.holds] at hh
    exact ⟨_, _, _, θ, hk, .refl hs _, by simp only [V]; exact hh.1⟩
theorem instOs_sound : ∀ (l : List O) {θ : Th} {h : List (Nat × R)} {nx : Nat} {vs : List Value} {fp : List Nat} {k : List SV → List (Nat × R) → Nat → Prop}, SatX K X θ h nx w → OL.holds X w l vs fp → FpOk K X θ h fp → instOs l h nx k →
    ∃ ss h' nx' θ', k ss h' nx' ∧ GivesX K X fp θ θ' h h' nx nx' w ∧ VL θ' ss vs
  | [], θ, h, nx, [], fp, k, hs, hh, hf, hk => by
    simp only [instOs] at hk
    exact ⟨_, _, _, θ, hk, .refl hs _, by simp [VL]⟩
  | [], _, _, _, _ :: _, _, _, _, hh, _, _ => by simp [OL.holds] at hh
  | _ :: _, _, _, _, [], _, _, _, hh, _, _ => by simp [OL.holds] at hh
  | o :: l, θ, h, nx, v :: vs, fp, k, hs, hh, hf, hk => by
    simp only [instOs] at hk
    simp only [OL.holds] at hh
    obtain ⟨f, g, rfl, h1, h2⟩ := hh
    obtain ⟨s, h', nx', θ', a1, a2, a3⟩ := instO_sound o hs h1 hf.left hk
    obtain ⟨ss, h'', nx'', θ'', b1, b2, b3⟩ := instOs_sound l a2.sat h2 (hf.right a2) a1
    exact ⟨_, _, _, _, b1, a2.trans b2, by simp only [VL]; exact ⟨V_mono b2.ext _ _ a3, b3⟩⟩
end
end
end Go.Z
