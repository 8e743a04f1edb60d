/- Part 6 of what the closing text rests on. -/
import Derived.Test.YtdamnoleoakehaaGreatDoorH5
namespace Go.Z
open Go.RowKit

inductive O where
  | any
  | d (x : D)
  | own (T : Nat) (x : D)
  | ptr (T : Nat) (l : List O)
  | arr (T : Nat) (k : IntKind) (xs : List Int)
  | map (ks vs : Col)
  | agg (l : List O)
  | va (k : IntKind) (xs : List Int)
  | pown (T S m : Nat) (ob : Option (List Nat)) (n : Nat) (f : Nat → Nat → D)
  | ifc (t : Nat) (o : O)
  | mapR (ks : Col) (m : Nat) (f : Nat → Nat → D)
  | rsl (T len : Nat) (l : List O)

mutual
def O.holds (X : Nat → Prop) (w : World) : O → Value → List Nat → Prop
  | .any, _, fp => fp = []
  | .d x, c, fp => x.holds X w c ∧ fp = []
  | .own T x, c, fp => ∃ L : Loc, c = L.val ∧ L.wf ∧ x.at X w L ∧ ((L.cap = 0 ∧ fp = []) ∨ (L.cap ≠ 0 ∧ fp = [L.b] ∧ ∃ cs : Array Value, w.heap[L.b]? = some (.cells cs T (0, 0)) ∧ L.o + L.cap * x.es ≤ cs.size))
  | .ptr T l, c, fp => ∃ (b : Nat) (us : List Value) (f : List Nat), c = .pointer (some ⟨b, 0, none⟩) ∧ fp = b :: f ∧ w.heap[b]? = some (.cells us.toArray T (0, 0)) ∧ OL.holds X w l us f
  | .arr T k xs, c, fp => ∃ L : Loc, c = .pointer (some ⟨L.b, 0, none⟩) ∧ L = ⟨some ⟨L.b, 0, none⟩, xs.length, xs.length⟩ ∧ (D.ints k xs).at X w L ∧ ((L.cap = 0 ∧ fp = []) ∨ (L.cap ≠ 0 ∧ fp = [L.b] ∧ ∃ cs : Array Value, w.heap[L.b]? = some (.cells cs T (0, 0)) ∧ L.o + L.cap * 1 ≤ cs.size))
  | .map ks vs, c, fp => ∃ (b : Nat) (es : Array MapEntry) (clock : Nat), c = .map (some b) ∧ fp = [b] ∧ w.heap[b]? = some (.map es clock) ∧ MapIs es clock ks vs
  | .agg l, c, fp => ∃ us : List Value, c = .agg us.toArray ∧ OL.holds X w l us fp
  | .va k xs, c, fp => c = .agg (xs.map (Value.int k)).toArray ∧ fp = []
  | .pown T S m ob n f, c, fp => ∃ (L : Loc) (bs : List Nat), c = L.val ∧ POwn X w L T S m bs n f ∧ (∀ l, ob = some l → bs = l) ∧ ((L.cap = 0 ∧ fp = bs) ∨ (L.cap ≠ 0 ∧ fp = L.b :: bs))
  | .ifc t o, c, fp => ∃ u, c = .iface t u ∧ O.holds X w o u fp
  | .mapR ks m f, c, fp => ∃ b : Nat, c = .map (some b) ∧ fp = [b] ∧ MapR X w b ks m f
  | .rsl T len l, c, fp => ∃ (b : Nat) (us : List Value), c = .slice (some ⟨b, 0, none⟩) len len ∧ X b ∧ w.heap[b]? = some (.cells us.toArray T (0, 0)) ∧ OL.holds X w l us fp
def OL.holds (X : Nat → Prop) (w : World) : List O → List Value → List Nat → Prop
  | [], [], fp => fp = []
  | o :: l, v :: vs, fp => ∃ f g, fp = f ++ g ∧ O.holds X w o v f ∧ OL.holds X w l vs g
  | _, _, _ => False
end

def KeepsF (fp : List Nat) (w w' : World) : Prop := ∀ b ∈ fp, w'.heap[b]? = w.heap[b]?

mutual
theorem O.holds_mono {X X' : Nat → Prop} {w w' : World} (hk : Keeps X X' w w') : ∀ (o : O) (v : Value) (fp : List Nat), KeepsF fp w w' → O.holds X w o v fp → O.holds X' w' o v fp
  | .any, v, fp, _, h => by simpa only [O.holds] using h
  | .d x, v, fp, _, h => by simp only [O.holds] at *; exact ⟨D.holds_mono hk x v h.1, h.2⟩
  | .own T x, v, fp, hf, h => by
    simp only [O.holds] at *
    obtain ⟨L, h1, h2, h3, h4⟩ := h
    refine ⟨L, h1, h2, ?_, ?_⟩
    · refine D.at_mono hk (fun hne => ?_) h3
      rcases h4 with ⟨h5, _⟩ | ⟨_, rfl, _⟩
      · have := (D.at_len' h3).2; omega
      · exact hf _ (by simp)
    · rcases h4 with h5 | ⟨h5, rfl, cs, h6, h7⟩
      · exact .inl h5
      · exact .inr ⟨h5, rfl, cs, by rw [hf _ (by simp)]; exact h6, h7⟩
  | .ptr T l, v, fp, hf, h => by
    simp only [O.holds] at *
    obtain ⟨b, us, f, h1, rfl, h2, h3⟩ := h
    exact ⟨b, us, f, h1, rfl, by rw [hf b (by simp)]; exact h2, OL.holds_mono hk l us f (fun c hc => hf c (by simp [hc])) h3⟩
  | .arr T k xs, v, fp, hf, h => by
    simp only [O.holds] at *
    obtain ⟨L, h1, h2, h3, h4⟩ := h
    refine ⟨L, h1, h2, ?_, ?_⟩
    · refine D.at_mono hk (fun hne => ?_) h3
      rcases h4 with ⟨h5, _⟩ | ⟨_, rfl, _⟩
      · have := (D.at_len' h3).2; omega
      · exact hf _ (by simp)
    · rcases h4 with h5 | ⟨h5, rfl, cs, h6, h7⟩
      · exact .inl h5
      · exact .inr ⟨h5, rfl, cs, by rw [hf _ (by simp)]; exact h6, h7⟩
  | .map ks vs, v, fp, hf, h => by
    simp only [O.holds] at *
    obtain ⟨b, es, clock, h1, rfl, h2, h3⟩ := h
    exact ⟨b, es, clock, h1, rfl, by rw [hf b (by simp)]; exact h2, h3⟩
  | .mapR ks m f, v, fp, hf, h => by
    simp only [O.holds] at *
    obtain ⟨b, h1, rfl, h2⟩ := h
    exact ⟨b, h1, rfl, h2.mono hk (hf b (by simp))⟩
  | .rsl T len l, v, fp, hf, h => by
    simp only [O.holds] at *
    obtain ⟨b, us, h1, h2, h3, h4⟩ := h
    have hb := (Array.getElem?_eq_some_iff.1 h3).1
    exact ⟨b, us, h1, (hk _ hb h2).1, by rw [(hk _ hb h2).2]; exact h3, OL.holds_mono hk l us fp hf h4⟩
  | .agg l, v, fp, hf, h => by
    simp only [O.holds] at *
    obtain ⟨us, h1, h2⟩ := h
    exact ⟨us, h1, OL.holds_mono hk l us fp hf h2⟩
  | .va k xs, v, fp, _, h => by simpa only [O.holds] using h
  | .pown T S m ob n f, v, fp, hf, h => by
    simp only [O.holds] at *
    obtain ⟨L, bs, h1, h2, h3, h4⟩ := h
    refine ⟨L, bs, h1, POwn.mono hk (fun b hb => hf b ?_) h2, h3, h4⟩
    rcases h4 with ⟨h5, rfl⟩ | ⟨h5, rfl⟩
    · exact hb.resolve_left (fun h => h.1 h5)
    · rcases hb with ⟨_, rfl⟩ | hb <;> simp [*]
  | .ifc t o, v, fp, hf, h => by
    simp only [O.holds] at *
    obtain ⟨u, h1, h2⟩ := h
    exact ⟨u, h1, O.holds_mono hk o u fp hf h2⟩
theorem OL.holds_mono {X X' : Nat → Prop} {w w' : World} (hk : Keeps X X' w w') : ∀ (l : List O) (vs : List Value) (fp : List Nat), KeepsF fp w w' → OL.holds X w l vs fp → OL.holds X' w' l vs fp
  | [], [], fp, _, h => by simpa only [OL.holds] using h
  | [], _ :: _, _, _, h => by simp [OL.holds] at h
  | _ :: _, [], _, _, h => by simp [OL.holds] at h
  | o :: l, v :: vs, fp, hf, h => by
    simp only [OL.holds] at *
    obtain ⟨f, g, rfl, h1, h2⟩ := h
    exact ⟨f, g, rfl, O.holds_mono hk o v f (fun b hb => hf b (by simp [hb])) h1, OL.holds_mono hk l vs g (fun b hb => hf b (by simp [hb])) h2⟩
end

theorem OL.length {X : Nat → Prop} {w : World} : ∀ {l : List O} {vs : List Value} {fp : List Nat}, OL.holds X w l vs fp → l.length = vs.length
  | [], [], _, _ => rfl
  | [], _ :: _, _, h => by simp [OL.holds] at h
  | _ :: _, [], _, h => by simp [OL.holds] at h
  | o :: l, v :: vs, fp, h => by
    simp only [OL.holds] at h
    obtain ⟨f, g, _, _, h2⟩ := h
    simp [OL.length h2]

mutual
def instO : O → List (Nat × R) → Nat → (SV → List (Nat × R) → Nat → Prop) → Prop
  | .any, h, nx, k => k .unk h nx
  | .d x, h, nx, k => instD x h nx k
  | .own T x, h, nx, k => k (.a nx) ((nx, .own T x) :: h) (nx + 1)
  | .ptr T l, h, nx, k => instOs l h nx fun ss h' nx' => k (.p nx' 0) ((nx', .blk T ss) :: h') (nx' + 1)
  | .arr T kk xs, h, nx, k => k (.q nx) ((nx, .own T (.ints kk xs)) :: h) (nx + 1)
  | .map ks vs, h, nx, k => k (.m nx) ((nx, .map ks vs) :: h) (nx + 1)
  | .agg l, h, nx, k => instOs l h nx fun ss => k (.agg ss)
  | .va kk xs, h, nx, k => k (.arr kk xs) h nx
  | .pown T S m ob n f, h, nx, k => match ob with
    | some bs => k (.a nx) ((nx, .pown T S m bs n f) :: h) (nx + 1)
    | none => ∀ bs : List Nat, bs.length = n → k (.a nx) ((nx, .pown T S m bs n f) :: h) (nx + 1)
  | .ifc t o, h, nx, k => instO o h nx fun s => k (.i t s)
  | .mapR ks m f, h, nx, k => k (.m nx) ((nx, .mapR ks m f) :: h) (nx + 1)
  | .rsl T len l, h, nx, k => instOs l h nx fun ss h' nx' => k (.sl nx' len) ((nx', .rblk T ss) :: h') (nx' + 1)
def instOs : List O → List (Nat × R) → Nat → (List SV → List (Nat × R) → Nat → Prop) → Prop
  | [], h, nx, k => k [] h nx
  | o :: l, h, nx, k => instO o h nx fun s h' nx' => instOs l h' nx' fun ss h'' nx'' => k (s :: ss) h'' nx''
end

def FpOk (K : Ctx) (X : Nat → Prop) (θ : Th) (h : List (Nat × R)) (fp : List Nat) : Prop :=
  fp.Nodup ∧ ∀ b ∈ fp, ¬ X b ∧ (∀ n, ¬ OwnsAt θ h n b) ∧ (K.w0.heap.size ≤ b ∨ K.M b)

structure GivesX (K : Ctx) (X : Nat → Prop) (fp : List Nat) (θ θ' : Th) (h h' : List (Nat × R)) (nx nx' : Nat) (w : World) : Prop where
  sat : SatX K X θ' h' nx' w
  ext : θ.ext θ'
  le : nx ≤ nx'
  agree : ∀ n, n < nx → θ' n = θ n
  find : ∀ n, n < nx → hfind h' n = hfind h n
  own : ∀ n b, OwnsAt θ' h' n b → OwnsAt θ h n b ∨ b ∈ fp

section
variable {K : Ctx} {X : Nat → Prop} {w : World}

theorem AddsX.gives {θ θ' : Th} {h h' : List (Nat × R)} {nx nx' : Nat} (a : AddsX K X θ θ' h h' nx nx' w) (fp : List Nat) : GivesX K X fp θ θ' h h' nx nx' w :=
  ⟨a.sat, a.ext, a.le, a.agree, a.find, fun n b ho => .inl (a.own n b ho)⟩
theorem GivesX.refl {θ : Th} {h : List (Nat × R)} {nx : Nat} (hs : SatX K X θ h nx w) (fp : List Nat) : GivesX K X fp θ θ h h nx nx w := (AddsX.refl hs).gives fp
theorem GivesX.trans {f g : List Nat} {θ θ' θ'' : Th} {h h' h'' : List (Nat × R)} {nx nx' nx'' : Nat} (a : GivesX K X f θ θ' h h' nx nx' w) (b : GivesX K X g θ' θ'' h' h'' nx' nx'' w) :
    GivesX K X (f ++ g) θ θ'' h h'' nx nx'' w :=
  ⟨b.sat, Th.ext_trans a.ext b.ext, Nat.le_trans a.le b.le, fun n hn => (b.agree n (Nat.lt_of_lt_of_le hn a.le)).trans (a.agree n hn),
    fun n hn => (b.find n (Nat.lt_of_lt_of_le hn a.le)).trans (a.find n hn), fun n b' ho => by
      rcases b.own n b' ho with h1 | h1
      · rcases a.own n b' h1 with h2 | h2
        · exact .inl h2
        · exact .inr (by simp [h2])
      · exact .inr (by simp [h1])⟩
theorem GivesX.weaken {f g : List Nat} {θ θ' : Th} {h h' : List (Nat × R)} {nx nx' : Nat} (a : GivesX K X f θ θ' h h' nx nx' w) (hs : ∀ b ∈ f, b ∈ g) : GivesX K X g θ θ' h h' nx nx' w :=
  ⟨a.sat, a.ext, a.le, a.agree, a.find, fun n b ho => (a.own n b ho).imp id (hs b)⟩

theorem FpOk.left {θ : Th} {h : List (Nat × R)} {f g : List Nat} (hf : FpOk K X θ h (f ++ g)) : FpOk K X θ h f :=
  ⟨(List.nodup_append.1 hf.1).1, fun b hb => hf.2 b (by simp [hb])⟩
theorem FpOk.right {θ θ' : Th} {h h' : List (Nat × R)} {nx nx' : Nat} {f g : List Nat} (hf : FpOk K X θ h (f ++ g)) (a : GivesX K X f θ θ' h h' nx nx' w) : FpOk K X θ' h' g := by
  obtain ⟨n1, n2, n3⟩ := List.nodup_append.1 hf.1
  refine ⟨n2, fun b hb => ?_⟩
  obtain ⟨h1, h2, h3⟩ := hf.2 b (by simp [hb])
  refine ⟨h1, fun n hn => ?_, h3⟩
  rcases a.own n b hn with h4 | h4
  · exact h2 n h4
  · exact n3 b h4 b hb rfl

theorem SatX.give_new {θ : Th} {h : List (Nat × R)} {nx : Nat} (hs : SatX K X θ h nx w) {r : R} {L : Loc} {fp : List Nat} (hh : r.holds (θ.add nx L) X w L)
    (hf : FpOk K X θ h fp) (ho : ∀ b, r.has L b → b ∈ fp) : GivesX K X fp θ (θ.add nx L) h ((nx, r) :: h) nx (nx + 1) w := by
  have hnx := hs.fresh nx (Nat.le_refl _)
  obtain ⟨g1, g2⟩ := hs.give (Th.add_ext hnx L) (nx' := nx + 1) (fun n hn => by rw [Th.add_other _ _ (by omega)]; exact hs.fresh n (by omega)) (n := nx) (r := r) (L := L) (Th.add_self _ _ _)
    (fun m hm => Th.add_other _ _ hm) hh (fun b h1 => (hf.2 _ (ho b h1)).1) (fun b h1 => (hf.2 _ (ho b h1)).2.1) (fun b h1 => (hf.2 _ (ho b h1)).2.2)
  refine ⟨g1, Th.add_ext hnx L, by omega, fun n hn => Th.add_other _ _ (by omega), fun n hn => by rw [hfind_cons, if_neg (by omega)], fun n b hn => ?_⟩
  rcases g2 n b hn with h1 | ⟨_, h1⟩
  · exact .inl h1
  · exact .inr (ho b h1)

def ptrLoc (b : Nat) : Loc := ⟨some ⟨b, 0, none⟩, 0, 0⟩
def arrLoc (b n : Nat) : Loc := ⟨some ⟨b, 0, none⟩, n, n⟩

theorem arr_own {θ : Th} {b T : Nat} {k : IntKind} {xs : List Int} (h : w.heap[b]? = some (.cells (xs.map (Value.int k)).toArray T (0, 0))) : (R.own T (.ints k xs)).holds θ X w (arrLoc b xs.length) := by
  refine ⟨⟨rfl, Nat.le_refl _, fun i z hz => ?_⟩, .inr rfl, fun _ => ⟨_, h, ?_⟩⟩
  · show w.cell? ⟨b, 0 + i, none⟩ = _
    rw [Nat.zero_add, cell_of_cells h, List.getElem?_map, hz]; rfl
  · simp [D.es, arrLoc, Loc.o]

mutual
theorem instO_sound : ∀ (o : O) {θ : Th} {h : List (Nat × R)} {nx : Nat} {v : Value} {fp : List Nat} {k : SV → List (Nat × R) → Nat → Prop}, SatX K X θ h nx w → O.holds X w o v fp → FpOk K X θ h fp → instO o h nx k →
    ∃ s h' nx' θ', k s h' nx' ∧ GivesX K X fp θ θ' h h' nx nx' w ∧ V θ' s v
  | .any, θ, h, nx, v, fp, k, hs, hh, hf, hk => by
    simp only [instO] at hk
    exact ⟨_, _, _, θ, hk, .refl hs _, by simp [V]⟩
  | .d x, θ, h, nx, v, fp, k, hs, hh, hf, hk => by
    simp only [instO] at hk
    simp only [O.holds] at hh
    obtain ⟨s, h', nx', θ', a1, a2, a3⟩ := instD_soundX x hs hh.1 hk
    exact ⟨s, h', nx', θ', a1, a2.gives _, a3⟩
  | .own T x, θ, h, nx, v, fp, k, hs, hh, hf, hk => by
    simp only [instO] at hk
    simp only [O.holds] at hh
    obtain ⟨L, rfl, h2, h3, h4⟩ := hh
    refine ⟨_, _, _, θ.add nx L, hk, hs.give_new (r := .own T x) ⟨h3, h2, fun hc => ?_⟩ hf (fun b ho => ?_), by simp only [V]; exact ⟨L, Th.add_self _ _ _, rfl⟩⟩
    · rcases h4 with ⟨h5, _⟩ | ⟨_, _, h5⟩
      · exact absurd h5 hc
      · exact h5
    · rcases h4 with ⟨h5, _⟩ | ⟨_, rfl, _⟩
      · exact absurd h5 ho.1
      · simp [ho.2]
  | .ptr T l, θ, h, nx, v, fp, k, hs, hh, hf, hk => by
    simp only [instO] at hk
    simp only [O.holds] at hh
    obtain ⟨b, us, f, rfl, rfl, h2, h3⟩ := hh
    have hf' : FpOk K X θ h (f ++ [b]) := ⟨by
      have := hf.1
      simp only [List.nodup_cons] at this
      rw [List.nodup_append]
      exact ⟨this.2, by simp, fun x hx y hy => by simp at hy; subst hy; intro e; subst e; exact this.1 hx⟩, fun c hc => hf.2 c (by simp at hc ⊢; exact hc.symm)⟩
    obtain ⟨ss, h1, nx1, θ1, a1, a2, a3⟩ := instOs_sound l hs h3 hf'.left hk
    have g := a2.sat.give_new (r := .blk T ss) (L := ptrLoc b) (fp := [b]) ⟨us, rfl, h2, VL_mono (Th.add_ext (a2.sat.fresh nx1 (Nat.le_refl _)) _) _ _ a3⟩ (hf'.right a2) (fun _ hb => by rw [← show b = _ from hb]; simp)
    refine ⟨_, _, _, _, a1, (a2.trans g).weaken (fun c hc => by simp at hc ⊢; exact hc.symm), ?_⟩
    simp only [V]
    exact ⟨_, Th.add_self _ _ _, rfl⟩
  | .arr T kk xs, θ, h, nx, v, fp, k, hs, hh, hf, hk => by
    simp only [instO] at hk
    simp only [O.holds] at hh
    obtain ⟨L, rfl, h2, h3, h4⟩ := hh
    refine ⟨_, _, _, θ.add nx L, hk, hs.give_new (r := .own T (.ints kk xs)) ⟨h3, .inr (by rw [h2]; rfl), fun hc => ?_⟩ hf (fun b ho => ?_), by simp only [V]; exact ⟨L, Th.add_self _ _ _, by rw [h2]; rfl, rfl⟩⟩
    · rcases h4 with ⟨h5, _⟩ | ⟨_, _, h5⟩
      · exact absurd h5 hc
      · exact h5
    · rcases h4 with ⟨h5, _⟩ | ⟨_, rfl, _⟩
      · exact absurd h5 ho.1
      · simp [ho.2]
  | .map ks vs, θ, h, nx, v, fp, k, hs, hh, hf, hk => by
    simp only [instO] at hk
    simp only [O.holds] at hh
    obtain ⟨b, es, clock, rfl, rfl, h2, h3⟩ := hh
    refine ⟨_, _, _, θ.add nx (ptrLoc b), hk, hs.give_new (r := .map ks vs) ⟨rfl, es, clock, h2, h3⟩ hf (fun _ hb => by rw [← show b = _ from hb]; simp), ?_⟩
    simp only [V]
    exact ⟨_, Th.add_self _ _ _, rfl⟩
  | .mapR ks m f, θ, h, nx, v, fp, k, hs, hh, hf, hk => by
    simp only [instO] at hk
    simp only [O.holds] at hh
    obtain ⟨b, rfl, rfl, h2⟩ := hh
    refine ⟨_, _, _, θ.add nx (ptrLoc b), hk, hs.give_new (r := .mapR ks m f) ⟨rfl, h2⟩ hf (fun _ hb => by rw [← show b = _ from hb]; simp), ?_⟩
    simp only [V]
    exact ⟨_, Th.add_self _ _ _, rfl⟩
  | .rsl T len l, θ, h, nx, v, fp, k, hs, hh, hf, hk => by
    simp only [instO] at hk
    simp only [O.holds] at hh
    obtain ⟨b, us, rfl, h1, h2, h3⟩ := hh
    obtain ⟨ss, h4, nx1, θ1, a1, a2, a3⟩ := instOs_sound l hs h3 hf hk
    have g := a2.sat.add_ref (r := .rblk T ss) (L := ptrLoc b) (fun _ hb => hb.elim) ⟨us, rfl, h1, h2, a3⟩
    refine ⟨_, _, _, _, a1, (a2.trans (g.gives [])).weaken (fun c hc => by simpa using hc), ?_⟩
    simp only [V]
    exact ⟨_, Th.add_self _ _ _, rfl⟩
  | .agg l, θ, h, nx, v, fp, k, hs, hh, hf, hk => by
    simp only [instO] at hk
    simp only [O.holds] at hh
    obtain ⟨us, rfl, h2⟩ := hh
    obtain ⟨ss, h1, nx1, θ1, a1, a2, a3⟩ := instOs_sound l hs h2 hf hk
    exact ⟨_, _, _, _, a1, a2, by simp only [V]; exact ⟨us, rfl, a3⟩⟩
  | .va kk xs, θ, h, nx, v, fp, k, hs, hh, hf, hk => by
    simp only [instO] at hk
    simp only [O.holds] at hh
    exact ⟨_, _, _, θ, hk, .refl hs _, by simp only [V]; exact hh.1⟩
  | .pown T S m ob n f, θ, h, nx, v, fp, k, hs, hh, hf, hk => by
    simp only [O.holds] at hh
    obtain ⟨L, bs, rfl, h2, h3, h4⟩ := hh
    have hk' : k (.a nx) ((nx, .pown T S m bs n f) :: h) (nx + 1) := by
      cases ob with
      | none => simp only [instO] at hk; exact hk bs h2.2.2.2.1
      | some l => simp only [instO] at hk; rw [h3 l rfl]; exact hk
    refine ⟨_, _, _, θ.add nx L, hk', hs.give_new (r := .pown T S m bs n f) h2 hf (fun b ho => ?_), by simp only [V]; exact ⟨L, Th.add_self _ _ _, rfl⟩⟩
    rcases h4 with ⟨h5, rfl⟩ | ⟨_, rfl⟩
    · exact Or.resolve_left ho (fun h => h.1 h5)
    · rcases ho with ⟨_, rfl⟩ | ho <;> simp [*]
  | .ifc t o, θ, h, nx, v, fp, k, hs, hh, hf, hk => by
    simp only [instO] at hk
    simp only [O.holds] at hh
    obtain ⟨u, rfl, h2⟩ := hh
    obtain ⟨s, h1, nx1, θ1, a1, a2, a3⟩ := instO_sound o hs h2 hf hk
    exact ⟨_, _, _, _, a1, a2, by simp only [V]; exact ⟨u, rfl, a3⟩⟩
theorem instOs_sound : ∀ (l : List O) {θ : Th} {h : List (Nat × R)} {nx : Nat} {vs : List Value} {fp : List Nat} {k : List SV → List (Nat × R) → Nat → Prop}, SatX K X θ h nx w → OL.holds X w l vs fp → FpOk K X θ h fp → instOs l h nx k →
    ∃ ss h' nx' θ', k ss h' nx' ∧ GivesX K X fp θ θ' h h' nx nx' w ∧ VL θ' ss vs
  | [], θ, h, nx, [], fp, k, hs, hh, hf, hk => by
    simp only [instOs] at hk
    exact ⟨_, _, _, θ, hk, .refl hs _, by simp [VL]⟩
  | [], _, _, _, _ :: _, _, _, _, hh, _, _ => by simp [OL.holds] at hh
  | _ :: _, _, _, _, [], _, _, _, hh, _, _ => by simp [OL.holds] at hh
  | o :: l, θ, h, nx, v :: vs, fp, k, hs, hh, hf, hk => by
    simp only [instOs] at hk
    simp only [OL.holds] at hh
    obtain ⟨f, g, rfl, h1, h2⟩ := hh
    obtain ⟨s, h', nx', θ', a1, a2, a3⟩ := instO_sound o hs h1 hf.left hk
    obtain ⟨ss, h'', nx'', θ'', b1, b2, b3⟩ := instOs_sound l a2.sat h2 (hf.right a2) a1
    exact ⟨_, _, _, _, b1, a2.trans b2, by simp only [VL]; exact ⟨V_mono b2.ext _ _ a3, b3⟩⟩
end
end
end Go.Z

namespace Go.Z
open Go.RowKit

def cellT (P : Program) : Nat → Nat → Nat → Option Nat
  | 0, _, _ => none
  | f + 1, T, i => match P.underlying T with
    | some (.struct fs) => match pickF fs.toList i none with
      | some (U, o) => cellT P f U (i - o)
      | none => none
    | some (.array _ e) => match P.info? e with
      | some inf => cellT P f e (i % inf.size)
      | none => none
    | some _ => some T
    | none => none
where
  pickF : List Field → Nat → Option (Nat × Nat) → Option (Nat × Nat)
    | [], _, r => r
    | fl :: l, i, r => cond (Nat.ble fl.offset i) (pickF l i (some (fl.type, fl.offset))) r

def nilD (P : Program) (T : Option (Nat × Nat)) : D :=
  match T with
  | some (t, i) => match cellT P 8 t i with
    | some u => match P.underlying u with
      | some (.slice e) => match P.underlying e, P.info? e with
        | some (.int kk), _ => .ints kk []
        | _, some inf => .recs inf.size 0 (fun _ _ => .v undef)
        | _, _ => .v (.slice none 0 0)
      | _ => .v (.slice none 0 0)
    | none => .v (.slice none 0 0)
  | none => .v (.slice none 0 0)

def arrR (ro : Bool) (h : List (Nat × R)) (n : Nat) : Option (D × List Nat) :=
  match hfind h n with
  | some (.ro d) => some (d, [])
  | some (.own _ d) => cond ro none (some (d, [n]))
  | some (.pown _ S m _ len f) => cond ro none (some (.recs 1 len (fun i _ => .ptr S m (f i)), [n]))
  | _ => none

def ptrD (T : Nat) (ds : List D) : D := .ptr T ds.length (fun i => ds.getD i (.v undef))
def fnD (g m : Nat) (ds : List D) : D := .fn g m ds.length (fun i => ds.getD i (.v undef))

def dsF (f : Option (Nat × Nat) → SV → Option (D × List Nat)) (T : Option Nat) : Nat → List SV → Option (List D × List Nat)
  | _, [] => some ([], [])
  | i, s :: l => match f (match T with | some t => some (t, i) | none => none) s, dsF f T (i + 1) l with
    | some (d, ns), some (ds, ms) => some (d :: ds, ns ++ ms)
    | _, _ => none

def dOf (P : Program) (ro : Bool) (h : List (Nat × R)) : Nat → Option (Nat × Nat) → SV → Option (D × List Nat)
  | 0, _, _ => none
  | f + 1, T, s => match s with
    | .b t => some (.v (.bool t), [])
    | .c x => cond x.oneCell' (some (.v x, [])) none
    | .nil => some (nilD P T, [])
    | .a n => arrR ro h n
    | .p n 0 => match hfind h n with
      | some (.rblk U l) => match dsF (dOf P ro h f) (some U) 0 l with
        | some (ds, ns) => some (ptrD U ds, ns)
        | none => none
      | some (.blk U l) => cond ro none (match dsF (dOf P ro h f) (some U) 0 l with
        | some (ds, ns) => some (ptrD U ds, n :: ns)
        | none => none)
      | _ => none
    | .f g m l => match dsF (dOf P ro h f) none 0 l with
      | some (ds, ns) => some (fnD g m ds, ns)
      | none => none
    | .m n => match hfind h n with
      | some (.rmap ks vs) => some (.map ks vs, [])
      | some (.map ks vs) => cond ro none (some (.map ks vs, [n]))
      | _ => none
    | _ => none

def dsOf (P : Program) (T : Nat) (h : List (Nat × R)) (l : List SV) : Option (List D) :=
  match dsF (dOf P true h 8) (some T) 0 l with
  | some (ds, _) => some ds
  | none => none

def treesF (f : Option (Nat × Nat) → SV → Option (O × List Nat)) (T : Option Nat) : Nat → List SV → Option (List O × List Nat)
  | _, [] => some ([], [])
  | i, s :: l => match f (match T with | some t => some (t, i) | none => none) s, treesF f T (i + 1) l with
    | some (d, ns), some (ds, ms) => some (d :: ds, ns ++ ms)
    | _, _ => none

def toD (r : Option (D × List Nat)) : Option (O × List Nat) :=
  match r with
  | some (d, _) => some (.d d, [])
  | none => none

def nilO (P : Program) (T : Option (Nat × Nat)) : O :=
  match T with
  | some (t, i) => match cellT P 8 t i with
    | some u => match P.underlying u with
      | some (.slice e) => match P.underlying e, P.info? e with
        | some (.int .u8), _ => .d (.ints .u8 [])
        | some (.int kk), _ => .own e (.ints kk [])
        | some (.pointer S), some inf => match P.underlying S, P.info? S with
          | some (.struct _), some jnf => .pown e S jnf.size none 0 (fun _ _ => .v undef)
          | _, _ => .own e (.recs inf.size 0 (fun _ _ => .v undef))
        | _, some inf => .own e (.recs inf.size 0 (fun _ _ => .v undef))
        | _, _ => .d (.v (.slice none 0 0))
      | _ => .d (.v (.slice none 0 0))
    | none => .d (.v (.slice none 0 0))
  | none => .d (.v (.slice none 0 0))
def treeN (P : Program) (f : Option (Nat × Nat) → SV → Option (O × List Nat)) (T : Option (Nat × Nat)) (s : SV) : Option (O × List Nat) :=
  match s with
  | .nil => some (nilO P T, [])
  | s => f T s

def treeOf (P : Program) (h : List (Nat × R)) : Nat → Option (Nat × Nat) → SV → Option (O × List Nat)
  | 0, _, _ => none
  | f + 1, T, s => match s with
    | .a n => match hfind h n with
      | some (.own U d) => some (.own U d, [n])
      | some (.ro d) => some (.d d, [])
      | some (.pown U S m bs len g) => some (.pown U S m (some bs) len g, [n])
      | _ => none
    | .p n 0 => match hfind h n with
      | some (.blk U l) => match treesF (treeN P (treeOf P h f)) (some U) 0 l with
        | some (os, ns) => some (.ptr U os, n :: ns)
        | none => none
      | some (.rblk _ _) => toD (dOf P true h f T s)
      | _ => none
    | .q n => match hfind h n with
      | some (.own U (.ints kk xs)) => some (.arr U kk xs, [n])
      | _ => none
    | .m n => match hfind h n with
      | some (.map ks vs) => some (.map ks vs, [n])
      | some (.rmap ks vs) => some (.d (.map ks vs), [])
      | some (.mapR ks m f) => some (.mapR ks m f, [n])
      | _ => none
    | .agg l => match treesF (treeOf P h f) (match T with | some (t, _) => some t | none => none) 0 l with
      | some (os, ns) => some (.agg os, ns)
      | none => none
    | .arr kk xs => some (.va kk xs, [])
    | .i t s => match treeOf P h f none s with
      | some (o, ns) => some (.ifc t o, ns)
      | none => none
    | .sl n len => match hfind h n with
      | some (.rblk U l) => match treesF (treeN P (treeOf P h f)) (some U) 0 l with
        | some (os, ns) => some (.rsl U len os, ns)
        | none => none
      | _ => none
    | .unk => some (.any, [])
    | s => toD (dOf P true h f T s)

def readOf (P : Program) (ro : Bool) (h : List (Nat × R)) (T : Option (Nat × Nat)) (s : SV) : Option (O × List Nat) :=
  match s with
  | .agg l => match dsF (dOf P ro h 8) (match T with | some (t, _) => some t | none => none) 0 l with
    | some (ds, ns) => some (.agg (ds.map .d), ns)
    | none => none
  | .arr kk xs => some (.va kk xs, [])
  | s => match dOf P ro h 8 T s with
    | some (d, ns) => some (.d d, ns)
    | none => none

section
variable {P : Program} {K : Ctx} {θ : Th} {h : List (Nat × R)} {nx : Nat} {w : World}

def nilLoc : Loc := ⟨none, 0, 0⟩
theorem nilD_holds {X : Nat → Prop} (T : Option (Nat × Nat)) : (nilD P T).holds X w (.slice none 0 0) := by
  have hv : (D.v (.slice none 0 0)).holds X w (.slice none 0 0) := ⟨rfl, rfl⟩
  unfold nilD
  split
  · split
    · split
      · split
        · exact ⟨nilLoc, rfl, .inl rfl, fun hne => absurd rfl hne, rfl, Nat.le_refl _, fun i z hz => by simp at hz⟩
        · exact ⟨nilLoc, rfl, .inl rfl, fun hne => absurd rfl hne, rfl, Nat.le_refl _, fun i hi => absurd hi (by omega)⟩
        · exact hv
      · exact hv
    · exact hv
  · exact hv

theorem holds_of_at {X : Nat → Prop} {L : Loc} {d : D} (hd : d.at X w L) (hw : L.wf) (hi : L.inn X w) : d.holds X w L.val := by
  cases d with
  | v _ => exact hd.elim
  | ptr _ _ _ => exact hd.elim
  | fn _ _ _ _ => exact hd.elim
  | map _ _ => exact hd.elim
  | ints k xs => exact D.holds_ints.2 ⟨L, rfl, hw, hi, hd⟩
  | recs es n f => exact D.holds_recs.2 ⟨L, rfl, hw, hi, hd⟩

def Takes (K : Ctx) (θ : Th) (h : List (Nat × R)) (ns : List Nat) (X : Nat → Prop) : Prop := (∀ b, Free K θ h b → X b) ∧ ∀ n ∈ ns, ∀ b, OwnsAt θ h n b → X b

theorem Takes.keeps {ns : List Nat} {X : Nat → Prop} (t : Takes K θ h ns X) : Keeps (Free K θ h) X w w := fun b _ hf => ⟨t.1 b hf, rfl⟩
theorem Takes.left {ns ms : List Nat} {X : Nat → Prop} (t : Takes K θ h (ns ++ ms) X) : Takes K θ h ns X := ⟨t.1, fun n hn => t.2 n (by simp [hn])⟩
theorem Takes.right {ns ms : List Nat} {X : Nat → Prop} (t : Takes K θ h (ns ++ ms) X) : Takes K θ h ms X := ⟨t.1, fun n hn => t.2 n (by simp [hn])⟩

theorem arrR_sound (hs : SatH K θ h nx w) {ro : Bool} {n : Nat} {d : D} {ns : List Nat} (ha : arrR ro h n = some (d, ns)) :
    ∃ L, θ n = some L ∧ L.wf ∧ (ro = true → ns = []) ∧ ∀ X, Takes K θ h ns X → d.at X w L ∧ L.inn X w := by
  unfold arrR at ha
  split at ha
  · rename_i hf
    cases ha
    obtain ⟨L, h1, h2, h3, h4⟩ := hs.res n _ hf
    exact ⟨L, h1, h3, fun _ => rfl, fun X t => ⟨D.at_mono t.keeps (fun _ => rfl) h2, Loc.inn_mono t.keeps h4⟩⟩
  · rename_i T d' hf
    cases ro with
    | true => cases ha
    | false =>
      cases ha
      obtain ⟨L, h1, h2, h3, h4⟩ := hs.res n _ hf
      have hcap : L.len ≠ 0 → L.cap ≠ 0 := by have := D.at_len h2; omega
      refine ⟨L, h1, h3, fun h => (by cases h), fun X t => ⟨D.at_mono t.keeps (fun _ => rfl) h2, fun hne => ?_⟩⟩
      have ho : OwnsAt θ h n L.b := ⟨_, L, hf, h1, hcap hne, rfl⟩
      exact ⟨t.2 n (by simp) _ ho, OwnsAt.lt hs ho⟩
  · rename_i T S m bs len f hf
    cases ro with
    | true => cases ha
    | false =>
      cases ha
      obtain ⟨L, hL, p1, p2, p3, p4, p5, p6, p7⟩ := hs.res n _ hf
      have own : ∀ b, (L.cap ≠ 0 ∧ L.b = b) ∨ b ∈ bs → OwnsAt θ h n b := fun b hb => ⟨_, L, hf, hL, hb⟩
      refine ⟨L, hL, p1, fun h => (by cases h), fun X t => ⟨⟨p2, p3, fun i hi j hj => ?_⟩, fun hne => ?_⟩⟩
      · have hj0 : j = 0 := by omega
        subst hj0
        have hlt : i < bs.length := by omega
        obtain ⟨g1, us, g2, g3, g4⟩ := p7 i _ (List.getElem?_eq_getElem hlt)
        refine ⟨_, by rw [show L.o + (i * 1 + 0) = L.o + i by omega]; exact g1, bs[i], us, rfl, t.2 n (by simp) _ (own _ (.inr (List.getElem_mem hlt))), g2, g3, fun j hj => ?_⟩
        obtain ⟨c, e1, e2⟩ := g4 j hj
        exact ⟨c, e1, D.holds_mono t.keeps _ _ e2⟩
      · have ho := own L.b (.inl ⟨by omega, rfl⟩)
        exact ⟨t.2 n (by simp) _ ho, OwnsAt.lt hs ho⟩
  · cases ha

def DSound (K : Ctx) (θ : Th) (h : List (Nat × R)) (w : World) (ro : Bool) (f : Option (Nat × Nat) → SV → Option (D × List Nat)) : Prop :=
  ∀ (T : Option (Nat × Nat)) (s : SV) (u : Value) (d : D) (ns : List Nat), V θ s u → f T s = some (d, ns) → (ro = true → ns = []) ∧ ∀ X, Takes K θ h ns X → d.holds X w u

theorem dsF_sound {ro : Bool} {f : Option (Nat × Nat) → SV → Option (D × List Nat)} (hf : DSound K θ h w ro f) {T : Option Nat} : ∀ {l : List SV} {i : Nat} {us : List Value} {ds : List D} {ns : List Nat}, VL θ l us → dsF f T i l = some (ds, ns) →
    (ro = true → ns = []) ∧ ∀ X, Takes K θ h ns X → DL.holds X w ds us
  | [], i, [], ds, ns, _, ha => by simp [dsF] at ha; obtain ⟨rfl, rfl⟩ := ha; exact ⟨fun _ => rfl, fun _ _ => trivial⟩
  | [], _, _ :: _, _, _, hv, _ => by simp [VL] at hv
  | _ :: _, _, [], _, _, hv, _ => by simp [VL] at hv
  | s :: l, i, u :: us, ds, ns, hv, ha => by
    simp only [VL] at hv
    unfold dsF at ha
    split at ha <;> cases ha
    rename_i d ns' ds' ms' h1 h2
    obtain ⟨a1, a2⟩ := hf _ _ _ _ _ hv.1 h1
    obtain ⟨b1, b2⟩ := dsF_sound hf hv.2 h2
    exact ⟨fun hr => by rw [a1 hr, b1 hr]; rfl, fun X t => ⟨a2 X t.left, b2 X t.right⟩⟩

theorem DL.length {X : Nat → Prop} : ∀ {l : List D} {us : List Value}, DL.holds X w l us → l.length = us.length
  | [], [], _ => rfl
  | [], _ :: _, h => h.elim
  | _ :: _, [], h => h.elim
  | _ :: _, _ :: _, h => by simp [DL.length h.2]
theorem DL.getD {X : Nat → Prop} : ∀ {l : List D} {us : List Value}, DL.holds X w l us → ∀ i, i < l.length → ∃ c, us[i]? = some c ∧ (l.getD i (.v undef)).holds X w c
  | [], _, _, i, hi => by simp at hi
  | _ :: _, [], h, _, _ => h.elim
  | d :: l, u :: us, h, 0, _ => ⟨u, rfl, by simpa using h.1⟩
  | d :: l, u :: us, h, i + 1, hi => by
    obtain ⟨c, h1, h2⟩ := DL.getD h.2 i (by simpa using hi)
    exact ⟨c, by simpa using h1, by simpa using h2⟩

theorem ptr_zero {n : Nat} {u : Value} {L : Loc} (hv : V θ (.p n 0) u) (hL : θ n = some L) (ha : L.a = some ⟨L.b, 0, none⟩) : u = .pointer (some ⟨L.b, 0, none⟩) := by
  simp only [V] at hv
  obtain ⟨L', hL', rfl⟩ := hv
  obtain rfl := Option.some.inj (hL.symm.trans hL')
  have : L.o = 0 := by unfold Loc.o; rw [ha]
  rw [this]

theorem dOf_sound (hs : SatH K θ h nx w) {ro : Bool} : ∀ (f : Nat), DSound K θ h w ro (dOf P ro h f)
  | 0 => fun _ _ _ _ _ _ ha => by simp [dOf] at ha
  | f + 1 => fun T s u d ns hv ha => by
    have ih : DSound K θ h w ro (dOf P ro h f) := dOf_sound hs f
    unfold dOf at ha
    split at ha
    · cases ha
      simp only [V] at hv; subst hv
      exact ⟨fun _ => rfl, fun _ _ => ⟨rfl, rfl⟩⟩
    · rename_i x
      cases hx : x.oneCell' with
      | false => rw [hx] at ha; cases ha
      | true => rw [hx] at ha; cases ha; simp only [V] at hv; subst hv; exact ⟨fun _ => rfl, fun _ _ => ⟨rfl, hx⟩⟩
    · cases ha
      simp only [V] at hv; subst hv
      exact ⟨fun _ => rfl, fun _ _ => nilD_holds T⟩
    · simp only [V] at hv
      obtain ⟨L, hL, rfl⟩ := hv
      obtain ⟨L', hL', h1, h2, h3⟩ := arrR_sound hs ha
      obtain rfl := Option.some.inj (hL.symm.trans hL')
      exact ⟨h2, fun X t => holds_of_at (h3 X t).1 h1 (h3 X t).2⟩
    · rename_i n
      split at ha
      · rename_i U l hf
        split at ha <;> cases ha
        rename_i ds ns' hd
        obtain ⟨L, hL, us, e1, e2, e3, e4⟩ := hs.res n _ hf
        obtain ⟨a1, a2⟩ := dsF_sound ih e4 hd
        refine ⟨a1, fun X t => ⟨L.b, us, ptr_zero hv hL e1, t.1 _ e2, e3, (DL.length (a2 X t)).symm, fun i hi => DL.getD (a2 X t) i hi⟩⟩
      · rename_i U l hf
        cases ro with
        | true => cases ha
        | false =>
          simp only [cond] at ha
          split at ha <;> cases ha
          rename_i ds ns' hd
          obtain ⟨L, hL, us, e1, e3, e4⟩ := hs.res n _ hf
          obtain ⟨a1, a2⟩ := dsF_sound ih e4 hd
          refine ⟨fun h => (by cases h), fun X t => ?_⟩
          have t' : Takes K θ h ns' X := ⟨t.1, fun m hm => t.2 m (by simp [hm])⟩
          exact ⟨L.b, us, ptr_zero hv hL e1, t.2 n (by simp) _ ⟨_, L, hf, hL, rfl⟩, e3, (DL.length (a2 X t')).symm, fun i hi => DL.getD (a2 X t') i hi⟩
      · cases ha
    · rename_i g m l
      split at ha <;> cases ha
      rename_i ds ns' hd
      simp only [V] at hv
      obtain ⟨us, rfl, e4⟩ := hv
      obtain ⟨a1, a2⟩ := dsF_sound ih e4 hd
      exact ⟨a1, fun X t => ⟨us, rfl, (DL.length (a2 X t)).symm, fun i hi => DL.getD (a2 X t) i hi⟩⟩
    · rename_i n
      simp only [V] at hv
      obtain ⟨L, hL, rfl⟩ := hv
      split at ha
      · cases ha
        rename_i ks vs hf
        obtain ⟨L', hL', e1, e2, es, clock, e3, e4⟩ := hs.res n _ hf
        obtain rfl := Option.some.inj (hL.symm.trans hL')
        exact ⟨fun _ => rfl, fun X t => ⟨L.b, es, clock, rfl, t.1 _ e2, e3, e4⟩⟩
      · rename_i ks vs hf
        cases ro with
        | true => cases ha
        | false =>
          cases ha
          obtain ⟨L', hL', e1, es, clock, e3, e4⟩ := hs.res n _ hf
          obtain rfl := Option.some.inj (hL.symm.trans hL')
          exact ⟨fun h => (by cases h), fun X t => ⟨L.b, es, clock, rfl, t.2 n (by simp) _ ⟨_, L, hf, hL, rfl⟩, e3, e4⟩⟩
      · cases ha
    · cases ha

theorem dsOf_sound (hs : SatH K θ h nx w) {T : Nat} {l : List SV} {us : List Value} {ds : List D} (hv : VL θ l us) (ha : dsOf P T h l = some ds) : DL.holds (Free K θ h) w ds us := by
  unfold dsOf at ha
  split at ha <;> cases ha
  rename_i ns hd
  obtain ⟨a1, a2⟩ := dsF_sound (dOf_sound (P := P) (ro := true) hs 8) hv hd
  rw [a1 rfl] at a2
  exact a2 _ ⟨fun b hb => hb, fun n hn => (by cases hn)⟩

def NamesFp (θ : Th) (h : List (Nat × R)) (ns fp : List Nat) : Prop := (∀ b ∈ fp, ∃ n ∈ ns, OwnsAt θ h n b) ∧ (ns.Nodup → fp.Nodup) ∧ ∀ n ∈ ns, ∃ L, θ n = some L

theorem NamesFp.nil : NamesFp θ h [] [] := ⟨fun b hb => (by cases hb), fun _ => List.nodup_nil, fun b hb => (by cases hb)⟩
theorem NamesFp.append (hs : SatH K θ h nx w) {ns ms f g : List Nat} (a : NamesFp θ h ns f) (b : NamesFp θ h ms g) : NamesFp θ h (ns ++ ms) (f ++ g) := by
  refine ⟨fun c hc => ?_, fun hn => ?_, fun n hn => (List.mem_append.1 hn).elim (a.2.2 n) (b.2.2 n)⟩
  · rcases List.mem_append.1 hc with hc | hc
    · obtain ⟨n, h1, h2⟩ := a.1 c hc; exact ⟨n, by simp [h1], h2⟩
    · obtain ⟨n, h1, h2⟩ := b.1 c hc; exact ⟨n, by simp [h1], h2⟩
  · obtain ⟨n1, n2, n3⟩ := List.nodup_append.1 hn
    rw [List.nodup_append]
    refine ⟨a.2.1 n1, b.2.1 n2, fun x hx y hy e => ?_⟩
    subst e
    obtain ⟨n, h1, h2⟩ := a.1 x hx
    obtain ⟨m, h3, h4⟩ := b.1 x hy
    exact n3 n h1 m h3 (hs.dis n m x h2 h4)
theorem NamesFp.one {n b : Nat} (ho : OwnsAt θ h n b) : NamesFp θ h [n] [b] :=
  ⟨fun c hc => by simp at hc; subst hc; exact ⟨n, by simp, ho⟩, fun _ => by simp, fun m hm => by simp at hm; subst hm; obtain ⟨_, L, _, hL, _⟩ := ho; exact ⟨L, hL⟩⟩
theorem NamesFp.none {n : Nat} {L : Loc} (hL : θ n = some L) : NamesFp θ h [n] [] := ⟨fun b hb => (by cases hb), fun _ => List.nodup_nil, fun m hm => by simp at hm; subst hm; exact ⟨L, hL⟩⟩

def TSound (K : Ctx) (θ : Th) (h : List (Nat × R)) (w : World) (f : Option (Nat × Nat) → SV → Option (O × List Nat)) : Prop :=
  ∀ (T : Option (Nat × Nat)) (s : SV) (u : Value) (o : O) (ns : List Nat), V θ s u → f T s = some (o, ns) → ∃ fp, NamesFp θ h ns fp ∧ ∀ X, (∀ b, Free K θ h b → X b) → O.holds X w o u fp

theorem treesF_sound (hs : SatH K θ h nx w) {f : Option (Nat × Nat) → SV → Option (O × List Nat)} (hf : TSound K θ h w f) {T : Option Nat} : ∀ {l : List SV} {i : Nat} {us : List Value} {os : List O} {ns : List Nat}, VL θ l us → treesF f T i l = some (os, ns) →
    ∃ fp, NamesFp θ h ns fp ∧ ∀ X, (∀ b, Free K θ h b → X b) → OL.holds X w os us fp
  | [], i, [], os, ns, _, ha => by simp [treesF] at ha; obtain ⟨rfl, rfl⟩ := ha; exact ⟨[], .nil, fun _ _ => by simp [OL.holds]⟩
  | [], _, _ :: _, _, _, hv, _ => by simp [VL] at hv
  | _ :: _, _, [], _, _, hv, _ => by simp [VL] at hv
  | s :: l, i, u :: us, os, ns, hv, ha => by
    simp only [VL] at hv
    unfold treesF at ha
    split at ha <;> cases ha
    rename_i o ns' os' ms' h1 h2
    obtain ⟨f1, a1, a2⟩ := hf _ _ _ _ _ hv.1 h1
    obtain ⟨f2, b1, b2⟩ := treesF_sound hs hf hv.2 h2
    exact ⟨f1 ++ f2, a1.append hs b1, fun X hX => by simp only [OL.holds]; exact ⟨f1, f2, rfl, a2 X hX, b2 X hX⟩⟩

theorem own_holds (hs : SatH K θ h nx w) {n T : Nat} {d : D} (hf : hfind h n = some (.own T d)) {u : Value} (hv : V θ (.a n) u) :
    ∃ fp, NamesFp θ h [n] fp ∧ ∀ X, (∀ b, Free K θ h b → X b) → O.holds X w (.own T d) u fp := by
  simp only [V] at hv
  obtain ⟨L, hL, rfl⟩ := hv
  obtain ⟨L', hL', h2, h3, h4⟩ := hs.res n _ hf
  obtain rfl := Option.some.inj (hL.symm.trans hL')
  by_cases hc : L.cap = 0
  · refine ⟨[], .none hL, fun X hX => ?_⟩
    simp only [O.holds]
    exact ⟨L, rfl, h3, D.at_mono (fun b _ hb => ⟨hX b hb, rfl⟩) (fun _ => rfl) h2, .inl ⟨hc, trivial⟩⟩
  · refine ⟨[L.b], .one ⟨_, L, hf, hL, hc, rfl⟩, fun X hX => ?_⟩
    simp only [O.holds]
    exact ⟨L, rfl, h3, D.at_mono (fun b _ hb => ⟨hX b hb, rfl⟩) (fun _ => rfl) h2, .inr ⟨hc, rfl, h4 hc⟩⟩

theorem pown_holds (hs : SatH K θ h nx w) {n T S m len : Nat} {bs : List Nat} {f : Nat → Nat → D} (hf : hfind h n = some (.pown T S m bs len f)) {u : Value} (hv : V θ (.a n) u) :
    ∃ fp, NamesFp θ h [n] fp ∧ ∀ X, (∀ b, Free K θ h b → X b) → O.holds X w (.pown T S m (some bs) len f) u fp := by
  simp only [V] at hv
  obtain ⟨L, hL, rfl⟩ := hv
  obtain ⟨L', hL', hp⟩ := hs.res n _ hf
  obtain rfl := Option.some.inj (hL.symm.trans hL')
  have own : ∀ b, (L.cap ≠ 0 ∧ L.b = b) ∨ b ∈ bs → OwnsAt θ h n b := fun b hb => ⟨_, L, hf, hL, hb⟩
  have hnm : ∀ m ∈ [n], ∃ L, θ m = some L := fun m hm => by simp at hm; subst hm; exact ⟨L, hL⟩
  have hX : ∀ X, (∀ b, Free K θ h b → X b) → POwn X w L T S m bs len f := fun X hX => hp.mono (fun b _ hb => ⟨hX b hb, rfl⟩) (fun _ _ => rfl)
  by_cases hc : L.cap = 0
  · refine ⟨bs, ⟨fun b hb => ⟨n, by simp, own b (.inr hb)⟩, fun _ => hp.2.2.2.2.1, hnm⟩, fun X h1 => ?_⟩
    simp only [O.holds]
    exact ⟨L, bs, rfl, hX X h1, fun l hl => by cases hl; rfl, .inl ⟨hc, rfl⟩⟩
  · refine ⟨L.b :: bs, ⟨fun b hb => ⟨n, by simp, own b ((List.mem_cons.1 hb).imp (fun e => ⟨hc, e.symm⟩) id)⟩, fun _ => List.nodup_cons.2 ⟨(hp.2.2.2.2.2.1 hc).1, hp.2.2.2.2.1⟩, hnm⟩, fun X h1 => ?_⟩
    simp only [O.holds]
    exact ⟨L, bs, rfl, hX X h1, fun l hl => by cases hl; rfl, .inr ⟨hc, rfl⟩⟩

theorem toD_sound (hs : SatH K θ h nx w) {f : Nat} {T : Option (Nat × Nat)} {s : SV} {u : Value} {o : O} {ns : List Nat} (hv : V θ s u) (ha : toD (dOf P true h f T s) = some (o, ns)) :
    ∃ fp, NamesFp θ h ns fp ∧ ∀ X, (∀ b, Free K θ h b → X b) → O.holds X w o u fp := by
  unfold toD at ha
  split at ha <;> cases ha
  rename_i d ns' hd
  obtain ⟨a1, a2⟩ := dOf_sound (P := P) (ro := true) hs f _ _ _ _ _ hv hd
  rw [a1 rfl] at a2
  exact ⟨[], .nil, fun X hX => by simp only [O.holds]; exact ⟨a2 X ⟨hX, fun n hn => (by cases hn)⟩, trivial⟩⟩

theorem arr_holds (hs : SatH K θ h nx w) {n T : Nat} {k : IntKind} {xs : List Int} (hf : hfind h n = some (.own T (.ints k xs))) {u : Value} (hv : V θ (.q n) u) :
    ∃ fp, NamesFp θ h [n] fp ∧ ∀ X, (∀ b, Free K θ h b → X b) → O.holds X w (.arr T k xs) u fp := by
  simp only [V] at hv
  obtain ⟨L, hL, hLL, rfl⟩ := hv
  obtain ⟨L', hL', h2, h3, h4⟩ := hs.res n _ hf
  obtain rfl := Option.some.inj (hL.symm.trans hL')
  have hl := h2.1
  have hLL' : L = ⟨some ⟨L.b, 0, none⟩, xs.length, xs.length⟩ := by rw [← hl]; exact hLL
  by_cases hc : L.cap = 0
  · refine ⟨[], .none hL, fun X hX => ?_⟩
    simp only [O.holds]
    exact ⟨L, rfl, hLL', D.at_mono (fun b _ hb => ⟨hX b hb, rfl⟩) (fun _ => rfl) h2, .inl ⟨hc, trivial⟩⟩
  · refine ⟨[L.b], .one ⟨_, L, hf, hL, hc, rfl⟩, fun X hX => ?_⟩
    simp only [O.holds]
    exact ⟨L, rfl, hLL', D.at_mono (fun b _ hb => ⟨hX b hb, rfl⟩) (fun _ => rfl) h2, .inr ⟨hc, rfl, h4 hc⟩⟩

theorem sl_zero {L : Loc} (h : L.a = some ⟨L.b, 0, none⟩) : L.o = 0 := by unfold Loc.o; rw [h]

theorem nilO_holds {X : Nat → Prop} (T : Option (Nat × Nat)) : O.holds X w (nilO P T) (.slice none 0 0) [] := by
  have hv : O.holds X w (.d (.v (.slice none 0 0))) (.slice none 0 0) [] := by
    simp only [O.holds]
    exact ⟨⟨rfl, rfl⟩, trivial⟩
  unfold nilO
  split
  · split
    · split
      · split
        · simp only [O.holds]
          exact ⟨⟨nilLoc, rfl, .inl rfl, fun hne => absurd rfl hne, rfl, Nat.le_refl _, fun i z hz => by simp at hz⟩, trivial⟩
        · simp only [O.holds]
          exact ⟨nilLoc, rfl, .inl rfl, ⟨rfl, Nat.le_refl _, fun i z hz => by simp at hz⟩, .inl ⟨rfl, trivial⟩⟩
        · split
          · simp only [O.holds]
            exact ⟨nilLoc, [], rfl, ⟨.inl rfl, rfl, Nat.le_refl _, rfl, List.nodup_nil, fun hc => absurd rfl hc, fun i b hi => by simp at hi⟩, (fun l hl => by cases hl), .inl ⟨rfl, rfl⟩⟩
          · simp only [O.holds]
            exact ⟨nilLoc, rfl, .inl rfl, ⟨rfl, Nat.le_refl _, fun i hi => absurd hi (by omega)⟩, .inl ⟨rfl, trivial⟩⟩
        · simp only [O.holds]
          exact ⟨nilLoc, rfl, .inl rfl, ⟨rfl, Nat.le_refl _, fun i hi => absurd hi (by omega)⟩, .inl ⟨rfl, trivial⟩⟩
        · exact hv
      · exact hv
    · exact hv
  · exact hv
theorem treeN_sound {f : Option (Nat × Nat) → SV → Option (O × List Nat)} (hf : TSound K θ h w f) : TSound K θ h w (treeN P f) := by
  intro T s u o ns hv ha
  unfold treeN at ha
  split at ha
  · cases ha
    simp only [V] at hv
    subst hv
    exact ⟨[], .nil, fun X _ => nilO_holds T⟩
  · exact hf T s u o ns hv ha

theorem treeOf_sound (hs : SatH K θ h nx w) : ∀ (f : Nat), TSound K θ h w (treeOf P h f)
  | 0 => fun _ _ _ _ _ _ ha => by simp [treeOf] at ha
  | f + 1 => fun T s u o ns hv ha => by
    have ih : TSound K θ h w (treeOf P h f) := treeOf_sound hs f
    unfold treeOf at ha
    split at ha
    · rename_i n
      split at ha
      · cases ha
        rename_i hf
        exact own_holds hs hf hv
      · cases ha
        rename_i d hf
        simp only [V] at hv
        obtain ⟨L, hL, rfl⟩ := hv
        obtain ⟨L', hL', h2, h3, h4⟩ := hs.res n _ hf
        obtain rfl := Option.some.inj (hL.symm.trans hL')
        refine ⟨[], .nil, fun X hX => ?_⟩
        simp only [O.holds]
        have hk : Keeps (Free K θ h) X w w := fun b _ hb => ⟨hX b hb, rfl⟩
        exact ⟨holds_of_at (D.at_mono hk (fun _ => rfl) h2) h3 (Loc.inn_mono hk h4), trivial⟩
      · cases ha
        rename_i hf
        exact pown_holds hs hf hv
      · cases ha
    · rename_i n
      split at ha
      · rename_i U l hf
        split at ha <;> cases ha
        rename_i os ns' hd
        obtain ⟨L, hL, us, e1, e3, e4⟩ := hs.res n _ hf
        obtain ⟨fp, a1, a2⟩ := treesF_sound hs (treeN_sound ih) e4 hd
        have h1 := NamesFp.append hs (.one (⟨_, L, hf, hL, rfl⟩ : OwnsAt θ h n L.b)) a1
        refine ⟨L.b :: fp, by simpa using h1, fun X hX => ?_⟩
        simp only [O.holds]
        exact ⟨L.b, us, fp, ptr_zero hv hL e1, rfl, e3, a2 X hX⟩
      · exact toD_sound hs hv ha
      · cases ha
    · rename_i n
      split at ha <;> cases ha
      rename_i hf
      exact arr_holds hs hf hv
    · rename_i n
      split at ha
      · cases ha
        rename_i ks vs hf
        simp only [V] at hv
        obtain ⟨L, hL, rfl⟩ := hv
        obtain ⟨L', hL', e1, es, clock, e3, e4⟩ := hs.res n _ hf
        obtain rfl := Option.some.inj (hL.symm.trans hL')
        refine ⟨[L.b], .one ⟨_, L, hf, hL, rfl⟩, fun X hX => ?_⟩
        simp only [O.holds]
        exact ⟨L.b, es, clock, rfl, rfl, e3, e4⟩
      · cases ha
        rename_i ks vs hf
        simp only [V] at hv
        obtain ⟨L, hL, rfl⟩ := hv
        obtain ⟨L', hL', e1, e2, es, clock, e3, e4⟩ := hs.res n _ hf
        obtain rfl := Option.some.inj (hL.symm.trans hL')
        refine ⟨[], .nil, fun X hX => ?_⟩
        simp only [O.holds]
        exact ⟨⟨L.b, es, clock, rfl, hX _ e2, e3, e4⟩, trivial⟩
      · cases ha
        rename_i ks m f hf
        simp only [V] at hv
        obtain ⟨L, hL, rfl⟩ := hv
        obtain ⟨L', hL', e1, e2⟩ := hs.res n _ hf
        obtain rfl := Option.some.inj (hL.symm.trans hL')
        refine ⟨[L.b], .one ⟨_, L, hf, hL, rfl⟩, fun X hX => ?_⟩
        simp only [O.holds]
        exact ⟨L.b, rfl, rfl, e2.mono (fun b _ hb => ⟨hX b hb, rfl⟩) rfl⟩
      · cases ha
    · rename_i l
      split at ha <;> cases ha
      rename_i os ns' hd
      simp only [V] at hv
      obtain ⟨us, rfl, e4⟩ := hv
      obtain ⟨fp, a1, a2⟩ := treesF_sound hs ih e4 hd
      exact ⟨fp, a1, fun X hX => by simp only [O.holds]; exact ⟨us, rfl, a2 X hX⟩⟩
    · cases ha
      simp only [V] at hv
      exact ⟨[], .nil, fun X hX => by simp only [O.holds]; exact ⟨hv, trivial⟩⟩
    · split at ha <;> cases ha
      rename_i o' ns' hd
      simp only [V] at hv
      obtain ⟨u', rfl, e4⟩ := hv
      obtain ⟨fp, a1, a2⟩ := ih none _ _ _ _ e4 hd
      exact ⟨fp, a1, fun X hX => by simp only [O.holds]; exact ⟨u', rfl, a2 X hX⟩⟩
    · rename_i n len
      split at ha
      · rename_i U l hf
        split at ha <;> cases ha
        rename_i os ns' hd
        simp only [V] at hv
        obtain ⟨L, hL, rfl⟩ := hv
        obtain ⟨L', hL', us, e1, e2, e3, e4⟩ := hs.res n _ hf
        obtain rfl := Option.some.inj (hL.symm.trans hL')
        obtain ⟨fp, a1, a2⟩ := treesF_sound hs (treeN_sound ih) e4 hd
        refine ⟨fp, a1, fun X hX => ?_⟩
        simp only [O.holds]
        exact ⟨L.b, us, by rw [sl_zero e1], hX _ e2, e3, a2 X hX⟩
      · cases ha
    · cases ha
      exact ⟨[], .nil, fun X hX => by simp only [O.holds]⟩
    · exact toD_sound hs hv ha

theorem readOf_sound (hs : SatH K θ h nx w) {ro : Bool} {T : Option (Nat × Nat)} {s : SV} {u : Value} {o : O} {ns : List Nat} (hv : V θ s u) (ha : readOf P ro h T s = some (o, ns)) :
    (ro = true → ns = []) ∧ ∀ X, Takes K θ h ns X → O.holds X w o u [] := by
  have dl : ∀ {X : Nat → Prop} {ds : List D} {us : List Value}, DL.holds X w ds us → OL.holds X w (ds.map .d) us [] := by
    intro X ds
    induction ds with
    | nil => intro us h; cases us with
      | nil => simp [OL.holds]
      | cons _ _ => exact h.elim
    | cons d ds ih => intro us h; cases us with
      | nil => exact h.elim
      | cons u us =>
        simp only [List.map_cons, OL.holds, O.holds]
        exact ⟨[], [], rfl, ⟨h.1, rfl⟩, ih h.2⟩
  unfold readOf at ha
  split at ha
  · rename_i l
    split at ha <;> cases ha
    rename_i ds ns' hd
    simp only [V] at hv
    obtain ⟨us, rfl, e4⟩ := hv
    obtain ⟨a1, a2⟩ := dsF_sound (dOf_sound (P := P) hs 8) e4 hd
    exact ⟨a1, fun X t => by simp only [O.holds]; exact ⟨us, rfl, dl (a2 X t)⟩⟩
  · cases ha
    simp only [V] at hv
    exact ⟨fun _ => rfl, fun X t => by simp only [O.holds]; exact ⟨hv, trivial⟩⟩
  · split at ha <;> cases ha
    rename_i d ns' hd
    obtain ⟨a1, a2⟩ := dOf_sound (P := P) hs 8 _ _ _ _ _ hv hd
    exact ⟨a1, fun X t => by simp only [O.holds]; exact ⟨a2 X t, trivial⟩⟩
end
end Go.Z
