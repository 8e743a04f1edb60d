/- Part 21 of what the closing text rests on. -/
import Derived.Test.YtdamnoleoakehaaGreatDoorKO20
set_option maxRecDepth 100000
namespace Go.Q
noncomputable section
open Go.RowKit Go.Proofs
open Go.Z hiding cond_false get resF
theorem CW_fun {ρ : Rh} {θ : Tz} : ∀ {l : List Cl} {vs us : List Value}, CW ρ θ l vs → CW ρ θ l us → us = vs
  | [], _, _, h, h' => by obtain rfl := h; obtain rfl := h'; rfl
  | .v x :: l, _, _, h, h' => by
    obtain ⟨u, us, rfl, h2, _, h3⟩ := h
    obtain ⟨u', us', rfl, h5, _, h6⟩ := h'
    rw [W_fun _ _ _ h2 h5, CW_fun h3 h6]
  | .b i :: l, _, _, h, h' => by
    obtain ⟨us, rfl, h3⟩ := h
    obtain ⟨us', rfl, h6⟩ := h'
    rw [CW_fun h3 h6]
def pairIn (x y : Lin) : List (Lin × Lin) → Bool
  | [] => false
  | (a, b) :: l => (a.eqb x && b.eqb y) || pairIn x y l
def lk (ps : List (Lin × Lin)) (x y : Lin) : Bool := (x.isLit && x.eqb y) || pairIn x y ps
def PsOk (ps : List (Lin × Lin)) (ρ' ρ : Rh) : Prop := ∀ q ∈ ps, q.1.ev ρ'.a = q.2.ev ρ.a
theorem pairIn_ev {ρ' ρ : Rh} {x y : Lin} : ∀ {ps : List (Lin × Lin)}, PsOk ps ρ' ρ → pairIn x y ps = true → x.ev ρ'.a = y.ev ρ.a
  | [], _, h => by cases h
  | (a, b) :: l, hp, h => by
    simp only [pairIn, Bool.or_eq_true, Bool.and_eq_true] at h
    rcases h with h | h
    · rw [← Lin.eqb_eq h.1, ← Lin.eqb_eq h.2]; exact hp (a, b) (.head _)
    · exact pairIn_ev (fun q hq => hp q (.tail _ hq)) h
theorem lk_ev {ps : List (Lin × Lin)} {ρ' ρ : Rh} {x y : Lin} (hp : PsOk ps ρ' ρ) (h : lk ps x y = true) : x.ev ρ'.a = y.ev ρ.a := by
  simp only [lk, Bool.or_eq_true, Bool.and_eq_true] at h
  rcases h with h | h
  · rw [Lin.ev_of_lit h.1, ← Lin.eqb_eq h.2, Lin.ev_of_lit h.1]
  · exact pairIn_ev hp h
def piN : List (Nat × Nat) → Nat → Nat
  | [], n => n
  | (a, b) :: l, n => cond (Nat.beq a n) b (piN l n)
def inN (hi n : Nat) : Bool := Nat.ble 1 n && Nat.blt n hi
def lkS (ps : List (Lin × Lin)) : List Sg → List Sg → Bool
  | [], [] => true
  | .y x :: l, .y z :: r => lk ps x z && lkS ps l r
  | _, _ => false
def lkO (ps : List (Lin × Lin)) : Option Lin → Option Lin → Bool
  | none, none => true
  | some x, some y => lk ps x y
  | _, _ => false
mutual
def likeD (ps : List (Lin × Lin)) (pi : List (Nat × Nat)) (hi : Nat) : DV → DV → Bool
  | .c a, .c b => valB a b
  | .n k x, .n k' y => decide (k = k') && lk ps x y
  | .s l, .s m => lkS ps l m
  | .p n o, .p m q => inN hi n && (Nat.beq (piN pi n) m && lk ps o q)
  | .g n, .g m => Nat.beq n m
  | .l n es o len cp q, .l n' es' o' len' cp' q' => inN hi n && (Nat.beq (piN pi n) n' && (Nat.beq es es' && (lk ps o o' && (lk ps len len' && (lkO ps cp cp' && lk ps q q')))))
  | .m n, .m m => inN hi n && Nat.beq (piN pi n) m
  | .f fn a b, .f fn' a' b' => decide (fn = fn') && (likeL ps pi hi a a' && likeL ps pi hi b b')
  | .i t v, .i t' v' => Nat.beq t t' && likeD ps pi hi v v'
  | .a l, .a m => likeL ps pi hi l m
  | .t l, .t m => likeL ps pi hi l m
  | _, _ => false
def likeL (ps : List (Lin × Lin)) (pi : List (Nat × Nat)) (hi : Nat) : List DV → List DV → Bool
  | [], [] => true
  | a :: l, b :: m => likeD ps pi hi a b && likeL ps pi hi l m
  | _, _ => false
end
section
variable {ρ ρ' : Rh} {θ θ' : Tz} {ps : List (Lin × Lin)} {pi : List (Nat × Nat)} {hi : Nat}
theorem lkS_ev (hp : PsOk ps ρ' ρ) : ∀ {l m : List Sg}, lkS ps l m = true → sgs ρ' l = sgs ρ m
  | [], [], _ => rfl
  | .y x :: l, .y z :: r, h => by
    simp only [lkS, Bool.and_eq_true] at h
    simp only [sgs, Sg.bytes, lk_ev hp h.1, lkS_ev hp h.2]
  | [], .y _ :: _, h => by cases h
  | [], .b _ :: _, h => by cases h
  | .y _ :: _, [], h => by cases h
  | .b _ :: _, [], h => by cases h
  | .b _ :: _, .b _ :: _, h => by cases h
  | .b _ :: _, .y _ :: _, h => by cases h
  | .y _ :: _, .b _ :: _, h => by cases h
theorem inN_spec {hi n : Nat} (h : inN hi n = true) : 1 ≤ n ∧ n < hi := by
  simp only [inN, Bool.and_eq_true] at h
  exact ⟨nble h.1, by have := Nat.le_of_ble_eq_true h.2; omega⟩
mutual
theorem like_W (hp : PsOk ps ρ' ρ) (hθ : ∀ n, 1 ≤ n → n < hi → θ' n = θ (piN pi n)) : ∀ (k d : DV) (v : Value), likeD ps pi hi k d = true → W ρ θ d v → W ρ' θ' k v := by
  intro k d v h hv
  unfold likeD at h
  split at h
  · have := valB_eq h
    subst this; simp only [W] at *; exact hv
  · simp only [Bool.and_eq_true, decide_eq_true_eq] at h
    simp only [W] at *
    rw [lk_ev hp h.2, h.1]; exact hv
  · simp only [W, strOf] at *
    rw [lkS_ev hp h]; exact hv
  · simp only [Bool.and_eq_true] at h
    obtain ⟨h1, h2, h3⟩ := h
    obtain ⟨g1, g2⟩ := inN_spec h1
    simp only [W] at *
    rw [lk_ev hp h3, hθ _ g1 g2, nbeq h2]; exact hv
  · simp only [W] at *
    rw [nbeq h]; exact hv
  · simp only [Bool.and_eq_true] at h
    obtain ⟨h1, h2, h3, h4, h5, h6, h7⟩ := h
    obtain ⟨g1, g2⟩ := inN_spec h1
    have e3 := nbeq h3
    subst e3
    simp only [W] at *
    rw [lk_ev hp h4, lk_ev hp h5, lk_ev hp h7, hθ _ g1 g2, nbeq h2]
    obtain ⟨L, w1, w2, w3, w4, w5, C, w6, w7⟩ := hv
    refine ⟨L, w1, w2, w3, w4, w5, C, ?_, w7⟩
    unfold lkO at h6
    split at h6
    · exact w6
    · rename_i x y
      simp only at w6 ⊢
      rw [lk_ev hp h6]; exact w6
    · cases h6
  · simp only [Bool.and_eq_true] at h
    obtain ⟨g1, g2⟩ := inN_spec h.1
    simp only [W] at *
    rw [hθ _ g1 g2, nbeq h.2]; exact hv
  · simp only [Bool.and_eq_true, decide_eq_true_eq] at h
    obtain ⟨h1, h2, h3⟩ := h
    simp only [W] at *
    obtain ⟨cs, ds, e1, e2, e3⟩ := hv
    exact ⟨cs, ds, by rw [h1]; exact e1, like_WL hp hθ _ _ _ h2 e2, like_WL hp hθ _ _ _ h3 e3⟩
  · simp only [Bool.and_eq_true] at h
    simp only [W] at *
    obtain ⟨u, e1, e2⟩ := hv
    exact ⟨u, by rw [nbeq h.1]; exact e1, like_W hp hθ _ _ _ h.2 e2⟩
  · simp only [W] at *
    obtain ⟨cs, e1, e2⟩ := hv
    exact ⟨cs, e1, like_WL hp hθ _ _ _ h e2⟩
  · simp only [W] at *
    obtain ⟨cs, e1, e2⟩ := hv
    exact ⟨cs, e1, like_WL hp hθ _ _ _ h e2⟩
  · cases h
theorem like_WL (hp : PsOk ps ρ' ρ) (hθ : ∀ n, 1 ≤ n → n < hi → θ' n = θ (piN pi n)) : ∀ (k d : List DV) (v : List Value), likeL ps pi hi k d = true → WL ρ θ d v → WL ρ' θ' k v := by
  intro k d v h hv
  unfold likeL at h
  split at h
  · obtain rfl := WL_nil_left hv
    exact WL_nil
  · simp only [Bool.and_eq_true] at h
    obtain ⟨u, us, rfl, e1, e2⟩ := WL_cons_left hv
    exact ⟨like_W hp hθ _ _ _ h.1 e1, like_WL hp hθ _ _ _ h.2 e2⟩
  · cases h
end
def likeC (ps : List (Lin × Lin)) (pi : List (Nat × Nat)) (hi : Nat) : List Cl → List Cl → Bool
  | [], [] => true
  | .v a :: l, .v b :: m => likeD ps pi hi a b && likeC ps pi hi l m
  | _, _ => false
theorem like_CW (hp : PsOk ps ρ' ρ) (hθ : ∀ n, 1 ≤ n → n < hi → θ' n = θ (piN pi n)) : ∀ (k d : List Cl) (vs : List Value), likeC ps pi hi k d = true → CW ρ θ d vs → CW ρ' θ' k vs := by
  intro k d vs h hv
  unfold likeC at h
  split at h
  · exact hv
  · simp only [Bool.and_eq_true] at h
    obtain ⟨u, us, rfl, h2, h4, h3⟩ := hv
    exact ⟨u, us, rfl, like_W hp hθ _ _ _ h.1 h2, h4, like_CW hp hθ _ _ _ h.2 h3⟩
  · cases h
def likeM (ps : List (Lin × Lin)) (pi : List (Nat × Nat)) (hi : Nat) : List (DV × DV) → List (DV × DV) → Bool
  | [], [] => true
  | a :: l, b :: m => likeD ps pi hi a.1 b.1 && (likeD ps pi hi a.2 b.2 && likeM ps pi hi l m)
  | _, _ => false
theorem like_EW (hp : PsOk ps ρ' ρ) (hθ : ∀ n, 1 ≤ n → n < hi → θ' n = θ (piN pi n)) : ∀ (k d : List (DV × DV)) (vs : List MapEntry), likeM ps pi hi k d = true → EW ρ θ d vs → EW ρ' θ' k vs
  | [], [], [], _, _ => trivial
  | [], [], _ :: _, _, hv => hv.elim
  | (a, a') :: l, (b, b') :: m, [], h, hv => hv.elim
  | (a, a') :: l, (b, b') :: m, e :: es, h, hv => by
    simp only [likeM, Bool.and_eq_true] at h
    exact ⟨like_W hp hθ _ _ _ h.1 hv.1, like_W hp hθ _ _ _ h.2.1 hv.2.1, like_EW hp hθ _ _ _ h.2.2 hv.2.2⟩
  | [], _ :: _, _, h, _ => by cases h
  | _ :: _, [], _, h, _ => by cases h
def likeO (ps : List (Lin × Lin)) (pi : List (Nat × Nat)) (hi : Nat) : Ob → Ob → Bool
  | .cells T cs ex, .cells T' cs' ex' => Nat.beq T T' && (likeC ps pi hi cs cs' && (ex == ex'))
  | .map es ver, .map es' ver' => inN hi ver && (Nat.beq (piN pi ver) ver' && likeM ps pi hi es es')
  | _, _ => false
theorem like_O (hp : PsOk ps ρ' ρ) (hθ : ∀ n, 1 ≤ n → n < hi → θ' n = θ (piN pi n)) {w : World} {L : Ln} {k o : Ob} (h : likeO ps pi hi k o = true) (hv : o.holds ρ θ w L) : k.holds ρ' θ' w L := by
  unfold likeO at h
  split at h
  · simp only [Bool.and_eq_true, beq_iff_eq] at h
    obtain ⟨h1, h2, h3⟩ := h
    obtain ⟨vs, sp, fz, e1, e2, e3, e4, e5⟩ := hv
    refine ⟨vs, sp, fz, by rw [nbeq h1]; exact e1, e2, like_CW hp hθ _ _ _ h2 e3, e4, fun hh => e5 (by rw [← h3]; exact hh)⟩
  · simp only [Bool.and_eq_true] at h
    obtain ⟨h1, h2, h3⟩ := h
    obtain ⟨g1, g2⟩ := inN_spec h1
    obtain ⟨V, e1, e2, ms, e3, e4, e5, e6⟩ := hv
    exact ⟨V, by rw [hθ _ g1 g2, nbeq h2]; exact e1, e2, ms, e3, e4, like_EW hp hθ _ _ _ h3 e5, e6⟩
  · cases h
end
def likeK (ps : List (Lin × Lin)) (pi : List (Nat × Nat)) (hi : Nat) (a b : KV) : Bool := match a with
  | .bad => true
  | a => match a.dv, b.dv with
    | some x, some y => likeD ps pi hi x y
    | _, _ => false
def likeKs (ps : List (Lin × Lin)) (pi : List (Nat × Nat)) (hi : Nat) : List KV → List KV → Bool
  | [], [] => true
  | a :: l, b :: m => likeK ps pi hi a b && likeKs ps pi hi l m
  | _, _ => false
theorem likeKs_get {ps : List (Lin × Lin)} {pi : List (Nat × Nat)} {hi : Nat} : ∀ {l m : List KV}, likeKs ps pi hi l m = true → ∀ p d, (l.getD p .bad).dv = some d → ∃ d', (m.getD p .bad).dv = some d' ∧ likeD ps pi hi d d' = true
  | [], [], _, p, d, h => by simp [KV.dv] at h
  | a :: l, b :: m, h, p, d, hd => by
    simp only [likeKs, Bool.and_eq_true] at h
    cases p with
    | zero =>
      have hd' : a.dv = some d := hd
      have h1 := h.1
      unfold likeK at h1
      split at h1
      · cases hd'
      · split at h1
        · rename_i x y e1 e2
          rw [hd'] at e1; cases e1
          exact ⟨y, e2, h1⟩
        · cases h1
    | succ p => exact likeKs_get h.2 p d hd
  | [], _ :: _, h, _, _, _ => by cases h
  | _ :: _, [], h, _, _, _ => by cases h
def likeH (ps : List (Lin × Lin)) (pi : List (Nat × Nat)) (hi : Nat) (s : St) : List (Nat × Ob) → Bool
  | [] => true
  | (n, o) :: l => (inN hi n && (Nat.ble s.fl (piN pi n) && (match s.get (piN pi n) with
    | some o' => likeO ps pi hi o o'
    | none => false))) && likeH ps pi hi s l
theorem likeH_get {ps : List (Lin × Lin)} {pi : List (Nat × Nat)} {hi : Nat} {s : St} : ∀ {l : List (Nat × Ob)}, likeH ps pi hi s l = true → ∀ n o, (n, o) ∈ l → (1 ≤ n ∧ n < hi) ∧ s.fl ≤ piN pi n ∧ ∃ o', s.get (piN pi n) = some o' ∧ likeO ps pi hi o o' = true
  | (m, x) :: l, h, n, o, hm => by
    simp only [likeH, Bool.and_eq_true] at h
    rcases List.mem_cons.1 hm with e | hm
    · cases e
      obtain ⟨⟨h1, h2, h3⟩, _⟩ := h
      split at h3
      · rename_i o' ho'
        exact ⟨inN_spec h1, nble h2, o', ho', h3⟩
      · cases h3
    · exact likeH_get h.2 n o hm
def memB (n : Nat) : List Nat → Bool
  | [] => false
  | m :: l => Nat.beq n m || memB n l
theorem memB_mem {n : Nat} : ∀ {l : List Nat}, n ∈ l → memB n l = true
  | m :: l, h => by
    simp only [memB, Bool.or_eq_true]
    rcases List.mem_cons.1 h with rfl | h
    · exact .inl (Nat.beq_refl _)
    · exact .inr (memB_mem h)
def distB (f : Nat → Nat) : List (Nat × Ob) → Bool
  | [] => true
  | (n, _) :: l => !(memB (f n) (l.map fun x => f x.1)) && distB f l
theorem distB_inj {f : Nat → Nat} : ∀ {l : List (Nat × Ob)}, distB f l = true → ∀ n m o o', (n, o) ∈ l → (m, o') ∈ l → f n = f m → n = m
  | (k, x) :: l, h, n, m, o, o', hn, hm, e => by
    simp only [distB, Bool.and_eq_true, Bool.not_eq_true'] at h
    rcases List.mem_cons.1 hn with e1 | hn
    · cases e1
      rcases List.mem_cons.1 hm with e2 | hm
      · cases e2; rfl
      · have := memB_mem (l := l.map fun x => f x.1) (n := f k) (by rw [e]; exact List.mem_map.2 ⟨(m, o'), hm, rfl⟩)
        rw [this] at h; cases h.1
    · rcases List.mem_cons.1 hm with e2 | hm
      · cases e2
        have := memB_mem (l := l.map fun x => f x.1) (n := f k) (by rw [← e]; exact List.mem_map.2 ⟨(n, o), hn, rfl⟩)
        rw [this] at h; cases h.1
      · exact distB_inj h.2 n m o o' hn hm e
def likeA (ps : List (Lin × Lin)) (pi : List (Nat × Nat)) (K : Ck) (e : EK) (s : St) : Bool :=
  likeKs ps pi K.nx K.e.toL.tail e.toL.tail && (likeH ps pi K.nx s K.h && distB (piN pi) K.h)
structure Hold (ρ : Rh) (θ : Tz) (w : World) (Own : Nat → Prop) (L0 : Ln) (K : Ck) : Prop where
  zero : θ 0 = some L0
  fresh : ∀ n, K.nx ≤ n → θ n = none
  pos : 1 ≤ K.nx
  res : ∀ n o, (n, o) ∈ K.h → (1 ≤ n ∧ n < K.nx) ∧ ∃ L, θ n = some L ∧ o.holds ρ θ w L ∧ Own L.b
  inj : ∀ n m o o' L M, (n, o) ∈ K.h → (m, o') ∈ K.h → θ n = some L → θ m = some M → L.b = M.b → n = m
def thN (L0 : Ln) (hi : Nat) (pi : List (Nat × Nat)) (θ : Tz) : Tz := fun n => if n = 0 then some L0 else if n < hi then θ (piN pi n) else none
theorem thN_at {L0 : Ln} {hi : Nat} {pi : List (Nat × Nat)} {θ : Tz} (n : Nat) (h1 : 1 ≤ n) (h2 : n < hi) : thN L0 hi pi θ n = θ (piN pi n) := by
  unfold thN; rw [if_neg (by omega), if_pos h2]
section
variable {ρ ρ' : Rh} {θ : Tz} {w : World} {Own : Nat → Prop} {L0 : Ln} {K : Ck} {ps : List (Lin × Lin)} {pi : List (Nat × Nat)} {s : St} {e : EK}
theorem Hold.of (hp : PsOk ps ρ' ρ) (h : likeA ps pi K e s = true) (hpos : 1 ≤ K.nx) (hs : Sat ρ θ s w) (hown : ∀ n o L, s.fl ≤ n → s.get n = some o → θ n = some L → Own L.b) : Hold ρ' (thN L0 K.nx pi θ) w Own L0 K := by
  simp only [likeA, Bool.and_eq_true] at h
  obtain ⟨_, h2, h3⟩ := h
  refine ⟨rfl, fun n hn => ?_, hpos, fun n o hm => ?_, fun n m o o' L M hn hm e1 e2 e3 => ?_⟩
  · unfold thN
    rw [if_neg (by omega), if_neg (by omega)]
  · obtain ⟨g1, g2, o', g3, g4⟩ := likeH_get h2 n o hm
    obtain ⟨L, k1, k2⟩ := hs.res _ _ g3
    exact ⟨g1, L, by rw [thN_at n g1.1 g1.2]; exact k1, like_O hp thN_at g4 k2, hown _ _ _ g2 g3 k1⟩
  · obtain ⟨g1, g2, x, g3, g4⟩ := likeH_get h2 n o hn
    obtain ⟨f1, f2, y, f3, f4⟩ := likeH_get h2 m o' hm
    rw [thN_at n g1.1 g1.2] at e1
    rw [thN_at m f1.1 f1.2] at e2
    exact distB_inj h3 n m o o' hn hm (hs.inj _ _ _ _ _ _ g3 f3 e1 e2 e3)
theorem Hold.sat {b : Tr Ob} (h : Hold ρ θ w Own L0 K) (hb : GroundOk b 1) (hg : ∀ o, b.get 0 = some o → o.holds ρ θ w L0 ∧ ¬ Own L0.b) : Sat ρ θ ⟨b, hOf K.h, K.nx, 1⟩ w := by
  have cut : ∀ n o, (⟨b, hOf K.h, K.nx, 1⟩ : St).get n = some o → (n, o) ∈ K.h ∨ n = 0 ∧ b.get 0 = some o := fun n o hn => by
    have h1 : (match (hOf K.h).get n with | some x => x | none => b.get n) = some o := hn
    split at h1
    · rename_i x hx
      obtain ⟨o', e1, e2⟩ := hOf_get hx
      subst e1
      cases h1
      exact .inl e2
    · by_cases hn0 : n = 0
      · subst hn0; exact .inr ⟨rfl, h1⟩
      · rw [hb n (by omega)] at h1; cases h1
  refine ⟨h.pos, h.fresh, fun n o hn => ?_, fun n m o o' L M hn hm e1 e2 e3 => ?_⟩
  · rcases cut n o hn with g | ⟨rfl, g⟩
    · obtain ⟨_, L, k1, k2, _⟩ := h.res n o g
      exact ⟨L, k1, k2⟩
    · exact ⟨L0, h.zero, (hg o g).1⟩
  · rcases cut n o hn with g | ⟨q, g⟩
    · rcases cut m o' hm with f | ⟨r, f⟩
      · exact h.inj n m o o' L M g f e1 e2 e3
      · obtain ⟨_, L', k1, _, k3⟩ := h.res n o g
        rw [k1] at e1; cases e1
        rw [r, h.zero] at e2; cases e2
        exact absurd (by rw [← e3]; exact k3) (hg o' f).2
    · rcases cut m o' hm with f | ⟨r, f⟩
      · obtain ⟨_, L', k1, _, k3⟩ := h.res m o' f
        rw [k1] at e2; cases e2
        rw [q, h.zero] at e1; cases e1
        exact absurd (by rw [e3]; exact k3) (hg o g).2
      · rw [q, r]
theorem Hold.own {b : Tr Ob} (h : Hold ρ θ w Own L0 K) (hb : GroundOk b 1) : ∀ n o L, 1 ≤ n → (⟨b, hOf K.h, K.nx, 1⟩ : St).get n = some o → θ n = some L → Own L.b := fun n o L hn ho hL => by
  have h1 : (match (hOf K.h).get n with | some x => x | none => b.get n) = some o := ho
  split at h1
  · rename_i x hx
    obtain ⟨o', e1, e2⟩ := hOf_get hx
    subst e1
    cases h1
    obtain ⟨_, L', k1, _, k3⟩ := h.res n o e2
    rw [k1] at hL; cases hL
    exact k3
  · rw [hb n hn] at h1; cases h1
end
end
end Go.Q

set_option maxRecDepth 100000
namespace Go.Q
noncomputable section
open Go.RowKit Go.Proofs
open Go.Z hiding cond_false get resF
noncomputable section
structure Stays (w w' : World) : Prop where
  env : w'.os = w.os ∧ w'.tape = w.tape ∧ w'.output = w.output
  size : w.heap.size ≤ w'.heap.size
  still : ∀ b, b < w.heap.size → w'.heap[b]? = w.heap[b]?
theorem Stays.refl (w : World) : Stays w w := ⟨⟨rfl, rfl, rfl⟩, Nat.le_refl _, fun _ _ => rfl⟩
structure Sl where
  e : DV → Lin → Lin → EK
  h0 : ∀ d i l, (e d i l).a0 = .d d
def aB (i len : Int) : Nat → Int
  | 0 => i
  | 2 => len
  | _ => 0
def rhoB (i len : Int) (vs : Value) : Rh := ⟨aB i len, fun _ => [], fun _ => vs⟩
def iG : Lin := ⟨0, [(0, 1)]⟩
def lG : Lin := ⟨0, [(2, 1)]⟩
def lR : Lin := ⟨1, [(0, 1), (2, 1)]⟩
structure BInv (sl : Sl) (vis0 : Vs) (w : World) (vs : Value) (len : Int) (i : Nat) (a : Act) (w' : World) : Prop where
  ok : EnvOk (rhoB i len vs) (fun _ => none) (visE vis0 (sl.e (.x 0) iG lG)) a
  kept : Stays w w'
def grB (x : Lin) : Tr Ob := match Tr.put 64 (.nil : Tr Ob) 0 (.win ⟨0, [(4, 1)]⟩ [.b 0, .v (.n .u8 x), .b 1]) with
  | some b => b
  | none => .nil
def syR : DV := .l 0 1 ⟨0, [(4, 1)]⟩ lR (some ⟨0, [(5, 1)]⟩) (lit 0)
def sameE (ps : List (Lin × Lin)) (k e : EK) : Bool := likeKs ps [] 1 k.toL.tail e.toL.tail
theorem same_env {ps : List (Lin × Lin)} {ρ ρ' : Rh} {θ θ' : Tz} {k e : EK} {vis0 : Vs} {a : Act} (hp : PsOk ps ρ' ρ) (h : sameE ps k e = true) (he : EnvOk ρ θ (visE vis0 e) a) (h0 : ∀ t d, posOf vis0 t = some 0 → (k.get 0).dv = some d → ∃ v, a.tmps[t]? = some v ∧ W ρ' θ' d v) : EnvOk ρ' θ' (visE vis0 k) a := by
  intro t d hd
  unfold visE at hd
  split at hd
  · rename_i p hp0
    cases p with
    | zero => exact h0 t d hp0 hd
    | succ p =>
      have hd' : (k.toL.tail.getD p .bad).dv = some d := hd
      obtain ⟨d', g1, g2⟩ := likeKs_get h p d hd'
      obtain ⟨v, k1, k2⟩ := he t d' (by unfold visE; rw [hp0]; exact g1)
      exact ⟨v, k1, like_W hp (fun n h1 h2 => absurd h2 (by omega)) _ _ _ g2 k2⟩
  · cases hd
def isF : DV → Bool
  | .c (.bool t) => !t
  | _ => false
theorem isF_eq {d : DV} (h : isF d = true) : d = .c (.bool false) := by
  unfold isF at h
  split at h
  · rename_i t
    cases t with
    | true => cases h
    | false => rfl
  · cases h
def goB (f r : Nat) (sl : Sl) (Γ : Cx) (x : Lin) : Bool := @O3.rec (fun _ => Bool) false (fun e _ => sameE [(iG, ⟨1, [(0, 1)]⟩), (lG, lR)] (sl.e (.x 0) iG lG) e && (match e.a0 with | .d d => d.eqb syR | _ => false)) (fun _ _ _ => false) (fun _ _ => false) (fun _ => false) ((bodyAt Γ f r).r (cS Γ) (sl.e syR iG lR) ⟨grB x, .nil, 1, 1⟩)
def retB (f r : Nat) (sl : Sl) (Γ : Cx) (x : Lin) : Bool := @O3.rec (fun _ => Bool) false (fun _ _ => false) (fun _ _ _ => false) (fun d _ => isF d) (fun _ => false) ((bodyAt Γ f r).r (cS Γ) (sl.e syR iG lR) ⟨grB x, .nil, 1, 1⟩)
def inB (sl : Sl) : Bool := sameE [(iG, iG), (lR, lG)] (sl.e syR iG lR) (sl.e (.x 0) iG lG)
theorem grB_get (x : Lin) : ∀ m, (grB x).get m = match m with | 0 => some (Ob.win ⟨0, [(4, 1)]⟩ [.b 0, .v (.n .u8 x), .b 1]) | _ + 1 => none := by
  intro m
  have hp : Tr.put 64 (.nil : Tr Ob) 0 (Ob.win ⟨0, [(4, 1)]⟩ [.b 0, .v (.n .u8 x), .b 1]) = some (grB x) := rfl
  obtain ⟨h1, h2⟩ := Tr.get_put _ _ _ _ _ hp
  cases m with
  | zero => exact h1
  | succ m => rw [h2 (m + 1) (by omega)]; exact Tr.get_nil _
theorem grB_ground (x : Lin) : GroundOk (grB x) 1 := fun m hm => by
  rw [grB_get]
  cases m with
  | zero => omega
  | succ m => rfl
def rhoBr (i r y : Int) (o c : Nat) (u v : List Int) (vs : Value) : Rh :=
  ⟨fun | 0 => i | 2 => r | 3 => y | 4 => o | 5 => c | _ => 0, fun | 0 => u | 1 => v | _ => [], fun _ => vs⟩
def gamB (top : Int) : Cx := ⟨[4096, 0, 4096, top, -1, -1], [⟨0, [(0, 1)]⟩, ⟨0, [(2, 1)]⟩], [], [], [], []⟩
theorem gamB_ok {top i r y : Int} {o c : Nat} {u v : List Int} {vs : Value} (hi : 0 ≤ i ∧ i ≤ 4096) (hr : 0 ≤ r ∧ r ≤ 4096) (hy : 0 ≤ y ∧ y ≤ top) (hu : (u.length : Int) = i) (hv : (v.length : Int) = r) (hub : ∀ z ∈ u, 0 ≤ z ∧ z < 256) (hvb : ∀ z ∈ v, 0 ≤ z ∧ z < 256) : CxOk (gamB top) (rhoBr i r y o c u v vs) := by
  refine plainCx (fun j => ?_) (fun j => ?_) (fun j z hz => ?_) rfl rfl rfl rfl
  · unfold Cx.hiOf
    match j with
    | 0 => exact ⟨hi.1, fun _ => hi.2⟩
    | 1 => exact ⟨Int.le_refl 0, fun _ => Int.le_refl 0⟩
    | 2 => exact ⟨hr.1, fun _ => hr.2⟩
    | 3 => exact ⟨hy.1, fun _ => hy.2⟩
    | 4 => exact ⟨Int.natCast_nonneg o, fun h => absurd (show (0 : Int) ≤ -1 from h) (by decide)⟩
    | 5 => exact ⟨Int.natCast_nonneg c, fun h => absurd (show (0 : Int) ≤ -1 from h) (by decide)⟩
    | j + 6 => exact ⟨Int.le_refl 0, fun _ => Int.le_refl 0⟩
  · match j with
    | 0 => show (u.length : Int) = 0 + (1 * i + 0); omega
    | 1 => show (v.length : Int) = 0 + (1 * r + 0); omega
    | j + 2 => show (0 : Int) = (lit 0).ev _; rw [ev_lit]
  · match j, hz with
    | 0, hz => exact hub z hz
    | 1, hz => exact hvb z hz
    | _ + 2, hz => cases hz
section
variable {f r N : Nat} {sl : Sl} {fn : Func} {vis0 : Vs} {c : Code} {w w' : World} {a : Act}
structure LpB (f r : Nat) (fn : Func) (vis0 : Vs) (N : Nat) (c : Code) : Prop where
  vis : posOf vis0 0 = some 0
  uniq : ∀ t, posOf vis0 t = some 0 → t = 0
  body : ∀ Γ ρ, CxOk Γ ρ → Snd ρ tP fn vis0 N vis0 (bodyAt Γ f r) (fun Q a w => c.wp tP Q a w)
theorem b_in (hl : LpB f r fn vis0 N c) (hin : inB sl = true) {top y : Int} {x : Lin} {b o cp i : Nat} {l : List Int} (hlt : i < l.length) (hmax : l.length ≤ 4096) (hlc : l.length ≤ cp) (hby : ∀ z ∈ l, 0 ≤ z ∧ z < 256) (hL : LiesAt w b o l) (hy : 0 ≤ y ∧ y ≤ top)
    (hx : x.ev (rhoBr i ((l.length - i - 1 : Nat) : Int) y o cp (l.take i) (l.drop (i + 1)) (.slice (some ⟨b, o, none⟩) l.length cp)).a = l[i]) (h : BInv sl vis0 w (.slice (some ⟨b, o, none⟩) l.length cp) l.length i a w') :
    ∃ ρ θ, CxOk (gamB top) ρ ∧ Sat ρ θ ⟨grB x, .nil, 1, 1⟩ w' ∧ EnvOk ρ θ (visE vis0 (sl.e syR iG lR)) a ∧ ρ.a 0 = i ∧ ρ.a 2 = ((l.length - i - 1 : Nat) : Int) ∧ (∀ θ' : Tz, θ' 0 = θ 0 → W ρ θ' syR (.slice (some ⟨b, o, none⟩) l.length cp)) := by
  generalize hρ : rhoBr i ((l.length - i - 1 : Nat) : Int) y o cp (l.take i) (l.drop (i + 1)) (.slice (some ⟨b, o, none⟩) l.length cp) = ρ at hx
  have hΓ : CxOk (gamB top) ρ := by
    rw [← hρ]
    exact gamB_ok ⟨by omega, by omega⟩ ⟨by omega, by omega⟩ hy (by rw [List.length_take]; omega) (by rw [List.length_drop]; omega) (fun z hz => hby z (List.mem_of_mem_take hz)) (fun z hz => hby z (List.mem_of_mem_drop hz))
  have a0 : ρ.a 0 = i := by rw [← hρ]; rfl
  have a2 : ρ.a 2 = ((l.length - i - 1 : Nat) : Int) := by rw [← hρ]; rfl
  have a4 : ρ.a 4 = o := by rw [← hρ]; rfl
  have a5 : ρ.a 5 = cp := by rw [← hρ]; rfl
  have e4 : (⟨0, [(4, 1)]⟩ : Lin).ev ρ.a = o := by simp only [Lin.ev, evT, a4]; omega
  have e2 : lR.ev ρ.a = l.length := by simp only [lR, Lin.ev, evT, a0, a2]; omega
  have e5 : (⟨0, [(5, 1)]⟩ : Lin).ev ρ.a = cp := by simp only [Lin.ev, evT, a5]; omega
  have hW : ∀ θ' : Tz, θ' 0 = thL b o cp 0 → W ρ θ' syR (.slice (some ⟨b, o, none⟩) l.length cp) := fun θ' h0 => by
    simp only [syR, W]
    rw [e4, e2, e5, ev_lit]
    refine ⟨_, h0, Nat.one_pos, by omega, by omega, Int.le_refl 0, cp, ⟨rfl, by rw [Int.toNat_natCast]; show o + cp * 1 ≤ o + cp; omega⟩, by rw [Int.toNat_natCast]; exact hlc, ?_⟩
    rw [if_neg (by omega), Int.toNat_natCast, Int.toNat_natCast]
  have hp : PsOk [(iG, iG), (lR, lG)] ρ (rhoB i l.length (.slice (some ⟨b, o, none⟩) l.length cp)) := fun q hq => by
    rcases List.mem_cons.1 hq with rfl | hq
    · show iG.ev ρ.a = iG.ev (aB i l.length)
      simp only [iG, Lin.ev, evT, a0, aB]
    · obtain rfl := List.mem_singleton.1 hq
      show lR.ev ρ.a = lG.ev (aB i l.length)
      rw [e2]; simp only [lG, Lin.ev, evT, aB]; omega
  have hL' : LiesAt w' b o l := by
    obtain ⟨pre, post, T, fz, h1, h2⟩ := hL
    exact ⟨pre, post, T, fz, by rw [h.kept.still b (Array.getElem?_eq_some_iff.1 h1).1]; exact h1, h2⟩
  refine ⟨ρ, thL b o cp, hΓ, ⟨Nat.le_refl _, fun n hn => ?_, fun n ob hob => ?_, fun n m ob ob' L M hn hm _ _ _ => ?_⟩, same_env hp hin h.ok fun t d ht hd => ?_, a0, a2, hW⟩
  · match n, hn with
    | 0, hn => exact absurd (show (1 : Nat) ≤ 0 from hn) (by decide)
    | n + 1, _ => rfl
  · rw [st0_get, grB_get] at hob
    match n, hob with
    | 0, hob =>
      obtain rfl := Option.some.inj hob
      obtain ⟨pre, post, T, fz, g1, g2⟩ := hL'
      refine ⟨_, rfl, pre, l.map (Value.int .u8), post, T, fz, g1, ?_, by rw [e4, g2]⟩
      have hs : l = l.take i ++ (l[i] :: l.drop (i + 1)) := by rw [List.getElem_cons_drop, List.take_append_drop]
      have b0 : ρ.b 0 = l.take i := by rw [← hρ]; rfl
      have b1 : ρ.b 1 = l.drop (i + 1) := by rw [← hρ]; rfl
      refine ⟨(l[i] :: l.drop (i + 1)).map (Value.int .u8), ?_, _, _, rfl, ?_, rfl, [], ?_, rfl⟩
      · unfold blobV; rw [b0, ← List.map_append, ← hs]
      · simp only [W]; rw [hx]
      · unfold blobV; rw [b1, List.append_nil]
    | n + 1, hob => cases hob
  · rw [st0_get, grB_get] at hn hm
    match n, m, hn, hm with
    | 0, 0, _, _ => rfl
    | n + 1, _, hn, _ => cases hn
    | 0, m + 1, _, hm => cases hm
  · obtain rfl := hl.uniq t ht
    have hd' : (sl.e syR iG lR).a0.dv = some d := hd
    rw [sl.h0] at hd'
    cases hd'
    obtain ⟨v, k1, k2⟩ := h.ok 0 (.x 0) (by unfold visE; rw [hl.vis]; show (sl.e (.x 0) iG lG).a0.dv = _; rw [sl.h0]; rfl)
    simp only [W] at k2
    subst k2
    exact ⟨_, k1, hW _ rfl⟩
theorem stays_go {ρ : Rh} {θ θ1 : Tz} {s1 : St} {w1 : World} {g : Tr Ob} (hg : GroundOk g 1) (hk : Stays w w') (h : Gon ρ θ ⟨g, .nil, 1, 1⟩ w' θ1 s1 w1) : Stays w w1 := by
  refine ⟨⟨h.env.1.trans hk.env.1, h.env.2.1.trans hk.env.2.1, h.env.2.2.trans hk.env.2.2⟩, Nat.le_trans hk.size h.size, fun b hb => ?_⟩
  rw [h.still b (Nat.lt_of_lt_of_le hb hk.size) fun n o L h1 h2 _ => by rw [st0_get, hg n h1] at h2; cases h2]
  exact hk.still b hb
theorem b_round (hl : LpB f r fn vis0 N c) (hin : inB sl = true) {top y : Int} {x : Lin} (hgo : goB f r sl (gamB top) x = true) {b o cp i : Nat} {l : List Int} (hlt : i < l.length) (hmax : l.length ≤ 4096) (hlc : l.length ≤ cp) (hby : ∀ z ∈ l, 0 ≤ z ∧ z < 256) (hL : LiesAt w b o l) (hy : 0 ≤ y ∧ y ≤ top)
    (hx : x.ev (rhoBr i ((l.length - i - 1 : Nat) : Int) y o cp (l.take i) (l.drop (i + 1)) (.slice (some ⟨b, o, none⟩) l.length cp)).a = l[i]) (h : BInv sl vis0 w (.slice (some ⟨b, o, none⟩) l.length cp) l.length i a w') (hN : SzOk N a)
    {Q : Exit → Act → World → Prop} (hQ : ∀ a1 w1, BInv sl vis0 w (.slice (some ⟨b, o, none⟩) l.length cp) l.length (i + 1) a1 w1 → SzOk N a1 → Q .normal a1 w1) : c.wp tP Q a w' := by
  obtain ⟨ρ, θ, hΓ, hs, he, a0, a2, hW⟩ := b_in hl hin hlt hmax hlc hby hL hy hx h
  unfold goB at hgo
  cases hr : (bodyAt (gamB top) f r).r (cS (gamB top)) (sl.e syR iG lR) ⟨grB x, .nil, 1, 1⟩ with
  | n e1 s1 =>
    rw [hr] at hgo
    replace hgo : (sameE [(iG, ⟨1, [(0, 1)]⟩), (lG, lR)] (sl.e (.x 0) iG lG) e1 && (match e1.a0 with | .d d => d.eqb syR | _ => false)) = true := hgo
    simp only [Bool.and_eq_true] at hgo
    obtain ⟨hl1, h0⟩ := hgo
    refine hl.body _ _ hΓ (cS (gamB top)) (cS_ok hΓ) (sl.e syR iG lR) θ _ a w' [.n e1 s1] _ hs he hN (by rw [hr]; rfl) ⟨fun e2 s2 hin2 θ2 a2' w2 g2 he2 hN2 => ?_, fun i2 e2 s2 hin2 => (by simp at hin2), fun d2 s2 hin2 => (by simp at hin2)⟩
    simp only [List.mem_singleton, XK.n.injEq] at hin2
    obtain ⟨rfl, rfl⟩ := hin2
    have hp : PsOk [(iG, ⟨1, [(0, 1)]⟩), (lG, lR)] (rhoB (i + 1 : Nat) l.length (.slice (some ⟨b, o, none⟩) l.length cp)) ρ := fun q hq => by
      rcases List.mem_cons.1 hq with rfl | hq
      · show iG.ev (aB (i + 1 : Nat) l.length) = (⟨1, [(0, 1)]⟩ : Lin).ev ρ.a
        simp only [iG, Lin.ev, evT, a0, aB]; push_cast; omega
      · obtain rfl := List.mem_singleton.1 hq
        show lG.ev (aB (i + 1 : Nat) l.length) = lR.ev ρ.a
        simp only [lG, lR, Lin.ev, evT, a0, a2, aB]; omega
    refine hQ _ _ ⟨same_env hp hl1 he2 fun t d ht hd => ?_, stays_go (grB_ground x) h.kept g2⟩ hN2
    obtain rfl := hl.uniq t ht
    have hd' : (sl.e (.x 0) iG lG).a0.dv = some d := hd
    rw [sl.h0] at hd'
    cases hd'
    split at h0
    · rename_i d hd0
      have e0 := DV.eqb_eq _ _ h0
      subst e0
      obtain ⟨v, k1, k2⟩ := he2 0 syR (by unfold visE; rw [hl.vis]; show e2.a0.dv = _; rw [hd0]; rfl)
      refine ⟨v, k1, ?_⟩
      show v = _
      exact W_fun _ _ _ (hW θ2 (g2.agree 0 (show 0 < 1 by decide))) k2
    · cases h0
  | _ => rw [hr] at hgo; cases hgo
theorem b_ret (hl : LpB f r fn vis0 N c) (hin : inB sl = true) {top y : Int} {x : Lin} (hgo : retB f r sl (gamB top) x = true) {b o cp i : Nat} {l : List Int} (hlt : i < l.length) (hmax : l.length ≤ 4096) (hlc : l.length ≤ cp) (hby : ∀ z ∈ l, 0 ≤ z ∧ z < 256) (hL : LiesAt w b o l) (hy : 0 ≤ y ∧ y ≤ top)
    (hx : x.ev (rhoBr i ((l.length - i - 1 : Nat) : Int) y o cp (l.take i) (l.drop (i + 1)) (.slice (some ⟨b, o, none⟩) l.length cp)).a = l[i]) (h : BInv sl vis0 w (.slice (some ⟨b, o, none⟩) l.length cp) l.length i a w') (hN : SzOk N a)
    {Q : Exit → Act → World → Prop} (hQ : ∀ a1 w1, Stays w w1 → (results fn a1.tmps).run tP w1 = .ok (.bool false) w1 → SzOk N a1 → Q .ret a1 w1) : c.wp tP Q a w' := by
  obtain ⟨ρ, θ, hΓ, hs, he, a0, a2, hW⟩ := b_in hl hin hlt hmax hlc hby hL hy hx h
  unfold retB at hgo
  cases hr : (bodyAt (gamB top) f r).r (cS (gamB top)) (sl.e syR iG lR) ⟨grB x, .nil, 1, 1⟩ with
  | r d1 s1 =>
    rw [hr] at hgo
    obtain rfl := isF_eq (show isF d1 = true from hgo)
    refine hl.body _ _ hΓ (cS (gamB top)) (cS_ok hΓ) (sl.e syR iG lR) θ _ a w' [.r (.c (.bool false)) s1] _ hs he hN (by rw [hr]; rfl) ⟨fun e2 s2 hin2 => (by simp at hin2), fun i2 e2 s2 hin2 => (by simp at hin2), fun d2 s2 hin2 θ2 a2' w2 v g2 hv hres hN2 => ?_⟩
    simp only [List.mem_singleton, XK.r.injEq] at hin2
    obtain ⟨rfl, rfl⟩ := hin2
    simp only [W] at hv
    subst hv
    exact hQ _ _ (stays_go (grB_ground x) h.kept g2) hres hN2
  | _ => rw [hr] at hgo; cases hgo
end
end
end
end Go.Q

set_option maxRecDepth 100000
namespace Go.Q
noncomputable section
open Go.RowKit Go.Proofs
open Go.Z hiding cond_false get resF
noncomputable section
def badT : KV → KV → KV → KV → KV → KV → EK := fun a b c d e f => ⟨a, b, c, d, e, f, .bad, .bad, .bad, .bad, .bad, .bad, .bad, .bad, .bad, .bad, .bad, .bad, .bad, .bad, .bad, .bad, .bad, .bad, .bad, .bad, .bad, .bad, .bad, .bad, .bad, .bad, .bad, .bad, .bad, .bad, .bad, .bad, .bad, .bad⟩
def sl24 : Sl := ⟨fun d i _ => badT (.d d) (.b false) (.d (.n .i64 i)) .bad .bad .bad, fun _ _ _ => rfl⟩
def sl196 : Sl := ⟨fun d i l => badT (.d d) (.d (.f (.func 139) [] [])) (.i .i64 0) .bad (.d (.n .i64 l)) (.d (.n .i64 i)), fun _ _ _ => rfl⟩
def syX : DV := .l 0 1 ⟨0, [(4, 1)]⟩ lG (some ⟨0, [(5, 1)]⟩) ⟨0, [(4, 1)]⟩
def gamX : Cx := ⟨[0, 0, -1, 0, -1, -1], [], [], [], [], []⟩
end
theorem in24 : inB sl24 = true := by kernel_rfl
theorem in196 : inB sl196 = true := by kernel_rfl
theorem go24a : goB 24 2 sl24 (gamB 25) ⟨97, [(3, 1)]⟩ = true := by kernel_rfl
theorem go24b : goB 24 2 sl24 (gamB 9) ⟨48, [(3, 1)]⟩ = true := by kernel_rfl
theorem go24c : goB 24 2 sl24 (gamB 0) (lit 46) = true := by kernel_rfl
theorem go24d : goB 24 2 sl24 (gamB 0) (lit 45) = true := by kernel_rfl
theorem ret24a : retB 24 2 sl24 (gamB 44) ⟨0, [(3, 1)]⟩ = true := by kernel_rfl
theorem ret24b : retB 24 2 sl24 (gamB 0) (lit 47) = true := by kernel_rfl
theorem ret24c : retB 24 2 sl24 (gamB 38) ⟨58, [(3, 1)]⟩ = true := by kernel_rfl
theorem ret24d : retB 24 2 sl24 (gamB 132) ⟨123, [(3, 1)]⟩ = true := by kernel_rfl
theorem go196a : goB 196 2 sl196 (gamB 25) ⟨97, [(3, 1)]⟩ = true := by kernel_rfl
theorem go196b : goB 196 2 sl196 (gamB 9) ⟨48, [(3, 1)]⟩ = true := by kernel_rfl
theorem go196c : goB 196 2 sl196 (gamB 0) (lit 46) = true := by kernel_rfl
theorem go196d : goB 196 2 sl196 (gamB 0) (lit 45) = true := by kernel_rfl
theorem one24 : oneL 24 2 = true := by kernel_rfl
theorem one196 : oneL 196 2 = true := by kernel_rfl
end
end Go.Q

set_option maxRecDepth 100000
namespace Go.Q
noncomputable section
open Go.RowKit Go.Proofs
open Go.Z hiding cond_false get resF
noncomputable section
def NameC (z : Int) : Prop := (97 ≤ z ∧ z ≤ 122) ∨ (48 ≤ z ∧ z ≤ 57) ∨ z = 46 ∨ z = 45
instance (z : Int) : Decidable (NameC z) := by unfold NameC; infer_instance
def nameB (l : List Int) : Bool := decide (1 ≤ l.length ∧ l.length ≤ 32) && l.all (fun z => decide (NameC z))
def ke24 (d : DV) : EK := badT (.d d) (.b false) .bad .bad .bad .bad
def ke196 (d : DV) : EK := badT (.d d) (.d (.f (.func 139) [] [])) (.i .i64 0) .bad .bad .bad
def endB (f r : Nat) (sl : Sl) (ke : EK) : Bool := sameE [(lG, iG), (lG, lG)] (sl.e syX lG lG) (sl.e (.x 0) iG lG) && @O3.rec (fun _ => Bool) false (fun _ _ => false) (fun j e _ => Nat.beq 0 j && (sameE [] ke e && (match e.a0 with | .d d => d.eqb syX | _ => false))) (fun _ _ => false) (fun _ => false) ((bodyAt gamX f r).r (cS gamX) (sl.e syX lG lG) ⟨.nil, .nil, 1, 1⟩)
end
theorem end24 : endB 24 2 sl24 (ke24 (.x 0)) = true := by kernel_rfl
theorem end196 : endB 196 2 sl196 (ke196 (.x 0)) = true := by kernel_rfl
noncomputable section
section
variable {f r N : Nat} {sl : Sl} {ke : EK} {fn : Func} {vis0 : Vs} {c : Code} {w w' : World} {a : Act}
def rhoE (len : Int) (o c : Nat) (vs : Value) : Rh := ⟨fun | 2 => len | 4 => o | 5 => c | _ => 0, fun _ => [], fun _ => vs⟩
theorem gamX_ok {len : Int} {o c : Nat} {vs : Value} (hl : 0 ≤ len) : CxOk gamX (rhoE len o c vs) := by
  refine plainCx (fun j => ?_) (fun j => ?_) (fun j z hz => by cases hz) rfl rfl rfl rfl
  · unfold Cx.hiOf
    match j with
    | 0 => exact ⟨Int.le_refl 0, fun _ => Int.le_refl 0⟩
    | 1 => exact ⟨Int.le_refl 0, fun _ => Int.le_refl 0⟩
    | 2 => exact ⟨hl, fun h => absurd (show (0 : Int) ≤ -1 from h) (by decide)⟩
    | 3 => exact ⟨Int.le_refl 0, fun _ => Int.le_refl 0⟩
    | 4 => exact ⟨Int.natCast_nonneg o, fun h => absurd (show (0 : Int) ≤ -1 from h) (by decide)⟩
    | 5 => exact ⟨Int.natCast_nonneg c, fun h => absurd (show (0 : Int) ≤ -1 from h) (by decide)⟩
    | j + 6 => exact ⟨Int.le_refl 0, fun _ => Int.le_refl 0⟩
  · show (0 : Int) = (lit 0).ev _; rw [ev_lit]
theorem b_out (hl : LpB f r fn vis0 N c) (he0 : endB f r sl ke = true) (hke : ke.a0 = .d (.x 0)) {b o cp : Nat} {l : List Int} (hlc : l.length ≤ cp) (h : BInv sl vis0 w (.slice (some ⟨b, o, none⟩) l.length cp) l.length l.length a w') (hN : SzOk N a)
    {Q : Exit → Act → World → Prop} (hQ : ∀ a1 w1, EnvOk (rhoB 0 0 (.slice (some ⟨b, o, none⟩) l.length cp)) (fun _ => none) (visE vis0 ke) a1 → Stays w w1 → SzOk N a1 → Q (.exit 0) a1 w1) : c.wp tP Q a w' := by
  simp only [endB, Bool.and_eq_true] at he0
  obtain ⟨hin, hgo⟩ := he0
  have hΓ : CxOk gamX (rhoE l.length o cp (.slice (some ⟨b, o, none⟩) l.length cp)) := gamX_ok (by omega)
  have e4 : (⟨0, [(4, 1)]⟩ : Lin).ev (rhoE l.length o cp (.slice (some ⟨b, o, none⟩) l.length cp)).a = o := by show (0 : Int) + (1 * (o : Int) + 0) = o; omega
  have e2 : lG.ev (rhoE l.length o cp (.slice (some ⟨b, o, none⟩) l.length cp)).a = l.length := by show (0 : Int) + (1 * (l.length : Int) + 0) = _; omega
  have e5 : (⟨0, [(5, 1)]⟩ : Lin).ev (rhoE l.length o cp (.slice (some ⟨b, o, none⟩) l.length cp)).a = cp := by show (0 : Int) + (1 * (cp : Int) + 0) = cp; omega
  have hW : ∀ θ' : Tz, θ' 0 = thL b o cp 0 → W (rhoE l.length o cp (.slice (some ⟨b, o, none⟩) l.length cp)) θ' syX (.slice (some ⟨b, o, none⟩) l.length cp) := fun θ' h0 => by
    simp only [syX, W]
    rw [e4, e2, e5]
    refine ⟨_, h0, Nat.one_pos, by omega, by omega, by omega, cp, ⟨rfl, by rw [Int.toNat_natCast]; show o + cp * 1 ≤ o + cp; omega⟩, by rw [Int.toNat_natCast]; exact hlc, ?_⟩
    rw [Int.toNat_natCast, Int.toNat_natCast, ite_self]
  have hp : PsOk [(lG, iG), (lG, lG)] (rhoE l.length o cp (.slice (some ⟨b, o, none⟩) l.length cp)) (rhoB l.length l.length (.slice (some ⟨b, o, none⟩) l.length cp)) := fun q hq => by
    rcases List.mem_cons.1 hq with rfl | hq
    · show lG.ev _ = iG.ev (aB l.length l.length)
      rw [e2]; simp only [iG, Lin.ev, evT, aB]; omega
    · obtain rfl := List.mem_singleton.1 hq
      show lG.ev _ = lG.ev (aB l.length l.length)
      rw [e2]; simp only [lG, Lin.ev, evT, aB]; omega
  have hs : Sat (rhoE l.length o cp (.slice (some ⟨b, o, none⟩) l.length cp)) (thL b o cp) ⟨.nil, .nil, 1, 1⟩ w' := sat_nil
  have he : EnvOk (rhoE l.length o cp (.slice (some ⟨b, o, none⟩) l.length cp)) (thL b o cp) (visE vis0 (sl.e syX lG lG)) a := same_env hp hin h.ok fun t d ht hd => by
    obtain rfl := hl.uniq t ht
    have hd' : (sl.e syX lG lG).a0.dv = some d := hd
    rw [sl.h0] at hd'
    cases hd'
    obtain ⟨v, k1, k2⟩ := h.ok 0 (.x 0) (by unfold visE; rw [hl.vis]; show (sl.e (.x 0) iG lG).a0.dv = _; rw [sl.h0]; rfl)
    simp only [W] at k2
    subst k2
    exact ⟨_, k1, hW _ rfl⟩
  cases hr : (bodyAt gamX f r).r (cS gamX) (sl.e syX lG lG) ⟨.nil, .nil, 1, 1⟩ with
  | x j e1 s1 =>
    rw [hr] at hgo
    replace hgo : (Nat.beq 0 j && (sameE [] ke e1 && (match e1.a0 with | .d d => d.eqb syX | _ => false))) = true := hgo
    simp only [Bool.and_eq_true] at hgo
    obtain ⟨hj, hl1, h0⟩ := hgo
    obtain rfl := nbeq hj
    refine hl.body _ _ hΓ (cS gamX) (cS_ok hΓ) (sl.e syX lG lG) _ _ a w' [.x 0 e1 s1] _ hs he hN (by rw [hr]; rfl) ⟨fun e2 s2 hin2 => (by simp at hin2), fun i2 e2 s2 hin2 θ2 a2' w2 g2 he2 hN2 => ?_, fun d2 s2 hin2 => (by simp at hin2)⟩
    simp only [List.mem_singleton, XK.x.injEq] at hin2
    obtain ⟨rfl, rfl, rfl⟩ := hin2
    refine hQ _ _ (same_env (fun q hq => by cases hq) hl1 he2 fun t d ht hd => ?_) (stays_go (fun m _ => Tr.get_nil m) h.kept g2) hN2
    obtain rfl := hl.uniq t ht
    have hd' : ke.a0.dv = some d := hd
    rw [hke] at hd'
    cases hd'
    split at h0
    · rename_i d hd0
      have e0 := DV.eqb_eq _ _ h0
      subst e0
      obtain ⟨v, k1, k2⟩ := he2 0 syX (by unfold visE; rw [hl.vis]; show e2.a0.dv = _; rw [hd0]; rfl)
      refine ⟨v, k1, ?_⟩
      show v = _
      exact W_fun _ _ _ (hW θ2 (g2.agree 0 (show 0 < 1 by decide))) k2
    · cases h0
  | _ => rw [hr] at hgo; cases hgo
structure GoodGo (f r : Nat) (sl : Sl) : Prop where
  inn : inB sl = true
  a : goB f r sl (gamB 25) ⟨97, [(3, 1)]⟩ = true
  b : goB f r sl (gamB 9) ⟨48, [(3, 1)]⟩ = true
  c : goB f r sl (gamB 0) (lit 46) = true
  d : goB f r sl (gamB 0) (lit 45) = true
theorem good_round (hl : LpB f r fn vis0 N c) (hg : GoodGo f r sl) {b o cp i : Nat} {l : List Int} (hlt : i < l.length) (hmax : l.length ≤ 4096) (hlc : l.length ≤ cp) (hby : ∀ z ∈ l, 0 ≤ z ∧ z < 256) (hL : LiesAt w b o l) (hgood : NameC l[i])
    (h : BInv sl vis0 w (.slice (some ⟨b, o, none⟩) l.length cp) l.length i a w') (hN : SzOk N a)
    {Q : Exit → Act → World → Prop} (hQ : ∀ a1 w1, BInv sl vis0 w (.slice (some ⟨b, o, none⟩) l.length cp) l.length (i + 1) a1 w1 → SzOk N a1 → Q .normal a1 w1) : c.wp tP Q a w' := by
  rcases hgood with hz | hz | hz | hz
  · exact b_round hl hg.inn hg.a (y := l[i] - 97) hlt hmax hlc hby hL ⟨by omega, by omega⟩ (by show (97 : Int) + (1 * (l[i] - 97) + 0) = l[i]; omega) h hN hQ
  · exact b_round hl hg.inn hg.b (y := l[i] - 48) hlt hmax hlc hby hL ⟨by omega, by omega⟩ (by show (48 : Int) + (1 * (l[i] - 48) + 0) = l[i]; omega) h hN hQ
  · exact b_round hl hg.inn hg.c (y := 0) hlt hmax hlc hby hL ⟨by omega, by omega⟩ (by rw [ev_lit]; omega) h hN hQ
  · exact b_round hl hg.inn hg.d (y := 0) hlt hmax hlc hby hL ⟨by omega, by omega⟩ (by rw [ev_lit]; omega) h hN hQ
theorem good_loop (hl : LpB f r fn vis0 N c) (hg : GoodGo f r sl) (he0 : endB f r sl ke = true) (hke : ke.a0 = .d (.x 0)) {b o cp : Nat} {l : List Int} (hmax : l.length ≤ 4096) (hlc : l.length ≤ cp) (hby : ∀ z ∈ l, 0 ≤ z ∧ z < 256) (hL : LiesAt w b o l) (hall : ∀ z ∈ l, NameC z)
    (h : BInv sl vis0 w (.slice (some ⟨b, o, none⟩) l.length cp) l.length 0 a w') (hN : SzOk N a)
    {Q : Exit → Act → World → Prop} (hQ : ∀ a1 w1, EnvOk (rhoB 0 0 (.slice (some ⟨b, o, none⟩) l.length cp)) (fun _ => none) (visE vis0 ke) a1 → Stays w w1 → SzOk N a1 → Q (.exit 0) a1 w1) : (Code.loop c).wp tP Q a w' := by
  refine wp_loop_ghost (fun m a' w' => ∃ i, i + m = l.length ∧ BInv sl vis0 w (.slice (some ⟨b, o, none⟩) l.length cp) l.length i a' w' ∧ SzOk N a') l.length ⟨0, by omega, h, hN⟩ ?_
  rintro m a' w'' ⟨i, hm, hI, hN'⟩
  cases m with
  | zero =>
    obtain rfl : i = l.length := by omega
    exact b_out hl he0 hke hlc hI hN' hQ
  | succ m =>
    have hlt : i < l.length := by omega
    exact good_round hl hg hlt hmax hlc hby hL (hall _ (List.getElem_mem hlt)) hI hN' fun a1 w1 h1 h2 => ⟨m, Nat.lt_succ_self m, i + 1, by omega, h1, h2⟩
structure BadRet (f r : Nat) (sl : Sl) : Prop where
  a : retB f r sl (gamB 44) ⟨0, [(3, 1)]⟩ = true
  b : retB f r sl (gamB 0) (lit 47) = true
  c : retB f r sl (gamB 38) ⟨58, [(3, 1)]⟩ = true
  d : retB f r sl (gamB 132) ⟨123, [(3, 1)]⟩ = true
theorem bad_loop (hl : LpB f r fn vis0 N c) (hg : GoodGo f r sl) (hb : BadRet f r sl) {b o cp : Nat} {l : List Int} (hmax : l.length ≤ 4096) (hlc : l.length ≤ cp) (hby : ∀ z ∈ l, 0 ≤ z ∧ z < 256) (hL : LiesAt w b o l) {k : Nat} (hk : k < l.length) (hbad : ¬ NameC l[k])
    (h : BInv sl vis0 w (.slice (some ⟨b, o, none⟩) l.length cp) l.length 0 a w') (hN : SzOk N a)
    {Q : Exit → Act → World → Prop} (hQ : ∀ a1 w1, Stays w w1 → (results fn a1.tmps).run tP w1 = .ok (.bool false) w1 → SzOk N a1 → Q .ret a1 w1) : (Code.loop c).wp tP Q a w' := by
  refine wp_loop_ghost (fun m a' w' => ∃ i, i + m = l.length ∧ i ≤ k ∧ BInv sl vis0 w (.slice (some ⟨b, o, none⟩) l.length cp) l.length i a' w' ∧ SzOk N a') l.length ⟨0, by omega, Nat.zero_le k, h, hN⟩ ?_
  rintro m a' w'' ⟨i, hm, hik, hI, hN'⟩
  cases m with
  | zero => omega
  | succ m =>
    have hlt : i < l.length := by omega
    by_cases hgood : NameC l[i]
    · have hne : i ≠ k := fun e => by subst e; exact hbad hgood
      exact good_round hl hg hlt hmax hlc hby hL hgood hI hN' fun a1 w1 h1 h2 => ⟨m, Nat.lt_succ_self m, i + 1, by omega, by omega, h1, h2⟩
    · have h256 := hby _ (List.getElem_mem hlt)
      have hc : l[i] ≤ 44 ∨ l[i] = 47 ∨ (58 ≤ l[i] ∧ l[i] ≤ 96) ∨ 123 ≤ l[i] := by
        unfold NameC at hgood
        omega
      rcases hc with hz | hz | hz | hz
      · exact b_ret hl hg.inn hb.a (y := l[i]) hlt hmax hlc hby hL ⟨by omega, by omega⟩ (by show (0 : Int) + (1 * l[i] + 0) = l[i]; omega) hI hN' hQ
      · exact b_ret hl hg.inn hb.b (y := 0) hlt hmax hlc hby hL ⟨by omega, by omega⟩ (by rw [ev_lit]; omega) hI hN' hQ
      · exact b_ret hl hg.inn hb.c (y := l[i] - 58) hlt hmax hlc hby hL ⟨by omega, by omega⟩ (by show (58 : Int) + (1 * (l[i] - 58) + 0) = l[i]; omega) hI hN' hQ
      · exact b_ret hl hg.inn hb.d (y := l[i] - 123) hlt hmax hlc hby hL ⟨by omega, by omega⟩ (by show (123 : Int) + (1 * (l[i] - 123) + 0) = l[i]; omega) hI hN' hQ
end
theorem good24 : GoodGo 24 2 sl24 := ⟨in24, go24a, go24b, go24c, go24d⟩
theorem good196 : GoodGo 196 2 sl196 := ⟨in196, go196a, go196b, go196c, go196d⟩
theorem bad24 : BadRet 24 2 sl24 := ⟨ret24a, ret24b, ret24c, ret24d⟩
end
end
end Go.Q

set_option maxRecDepth 100000
namespace Go.Q
noncomputable section
open Go.RowKit Go.Proofs
open Go.Z hiding cond_false get resF
noncomputable section
def orcN (b : Tr Ob) (r : Nat) (e0 ke : EK) (good : Bool) : Orc := fun j => @Bool.rec (fun _ => Option ((Nat → KF) → KF)) none (some fun ex => ⟨fun call e s => @Bool.rec (fun _ => O3) .no (@Bool.rec (fun _ => O3) (.r (.c (.bool false)) ⟨b, .nil, 1, 1⟩) ((ex 0).r call ke ⟨b, .nil, 1, 1⟩) good) (eqbT eqw s.b b && (Nat.beq s.fl 1 && subC ⟨e0, [], 1⟩ e s))⟩) (Nat.beq j r)
def runN (Γ : Cx) (f r : Nat) (b : Tr Ob) (e0 ke : EK) (good : Bool) (args : List DV) : R (List (DV × St)) := match tI f with
  | some F => (fnS Γ tP 100000 (orcN b r e0 ke good) F).go (cS Γ) args ⟨b, .nil, 1, 1⟩
  | none => fail "function" [f]
def outIs (d : DV) : R (List (DV × St)) → Bool
  | .ok l => l.all fun x => x.1.eqb d
  | _ => false
theorem stay_gon {ρ : Rh} {θ : Tz} {b : Tr Ob} {w w1 : World} (hb : GroundOk b 1) (hs : Sat ρ θ ⟨b, .nil, 1, 1⟩ w) (hk : Stays w w1) : Gon ρ θ ⟨b, .nil, 1, 1⟩ w θ ⟨b, .nil, 1, 1⟩ w1 := by
  refine ⟨⟨hs.fln, hs.fresh, fun n o hn => ?_, hs.inj⟩, Tz.ext_refl _, Nat.le_refl _, fun _ _ => rfl, rfl, rfl, fun _ _ => rfl, hk.env, hk.size, fun x hx _ => hk.still x hx, fun n o L h1 h2 h3 => ?_⟩
  · obtain ⟨L, k1, k2⟩ := hs.res n o hn
    exact ⟨L, k1, Ob.holds_mono (Tz.ext_refl _) (hk.still L.b (Ob.holds_lt k2)) k2⟩
  · rw [st0_get, hb n h1] at h2; cases h2
def LoopN (ρ : Rh) (f r : Nat) (b : Tr Ob) (e0 ke : EK) (good : Bool) : Prop :=
  ∀ (fn : Func) (vis0 : Vs) (N : Nat) (c : Code), LpB f r fn vis0 N c → ∀ (θ : Tz) (w : World) (a : Act), Sat ρ θ ⟨b, .nil, 1, 1⟩ w → EnvOk ρ θ (visE vis0 e0) a → SzOk N a → ∀ Q : Exit → Act → World → Prop,
    (good = true → ∀ a1 w1, EnvOk ρ θ (visE vis0 ke) a1 → Stays w w1 → SzOk N a1 → Q (.exit 0) a1 w1) →
    (good = false → ∀ a1 w1, Stays w w1 → (results fn a1.tmps).run tP w1 = .ok (.bool false) w1 → SzOk N a1 → Q .ret a1 w1) → (Code.loop c).wp tP Q a w
theorem runN_sound {Γ : Cx} {ρ : Rh} (hΓ : CxOk Γ ρ) {f r : Nat} {b : Tr Ob} {e0 ke : EK} {good : Bool} {args : List DV} {d : DV} {θ : Tz} {w : World} {us : List Value} (hb : GroundOk b 1) (h1 : oneL f r = true) (hks0 : ∀ F, tI f = some F → ∃ l, F.ks = 0 :: l) (hL : LoopN ρ f r b e0 ke good) (h2 : outIs d (runN Γ f r b e0 ke good args) = true)
    (hs : Sat ρ θ ⟨b, .nil, 1, 1⟩ w) (hv : WL ρ θ args us) : EntersOk tP f ∧ Calls tP f us.toArray w fun e w' => ∃ v s' θ', e = .returned v ∧ W ρ θ' d v ∧ Gon ρ θ ⟨b, .nil, 1, 1⟩ w θ' s' w' := by
  unfold oneL at h1
  unfold runN at h2
  cases hF : tI f with
  | none => rw [hF] at h1; cases h1
  | some F =>
    rw [hF] at h1 h2
    simp only [Bool.and_eq_true] at h1
    obtain ⟨h3, h4⟩ := h1
    cases hl : loopAt r F.code with
    | none => rw [hl] at h4; cases h4
    | some c0 =>
      simp only [hl] at h4
      obtain ⟨fn, f1, f2, f3, f4, f5⟩ := tI_ok f F hF
      have hks := tI_ks f F hF
      have hgood : Good (visOf F.ks 0) (visOf F.ks 0).length := by have := visOf_good F.ks 0; rw [Nat.zero_add] at this; rw [visOf_length]; exact this
      obtain ⟨kl, hkl⟩ := hks0 F hF
      have hlp : LpB f r fn (visOf F.ks 0) F.N c0 := by
        refine ⟨by rw [hkl]; rfl, fun t ht => ?_, fun Γ' ρ' hΓ' => ?_⟩
        · rw [hkl] at ht
          have ht' : posOf ((0, 0) :: visOf kl 1) t = some 0 := ht
          rw [posOf_cons] at ht'
          cases hb0 : Nat.beq 0 t with
          | true => exact (nbeq hb0).symm
          | false =>
            rw [hb0] at ht'
            have := visOf_ge (show posOf (visOf kl 1) t = some 0 from ht')
            omega
        · have hret : Snd ρ' tP fn (visOf F.ks 0) F.N (visOf F.ks 0) (retF tP (visOf F.ks 0) F.rv) (fun Q a w => Q .ret a w) := by
            rw [← f4]; exact retF_snd
          have e0 : bodyAt Γ' f r = stK Γ' tP F.N (visOf F.ks 0) F.dr 100000 (fun _ => none) (retF tP (visOf F.ks 0) F.rv) c0 normF exitF := by
            unfold bodyAt; rw [hF]; simp only [hl]
          rw [e0]
          intro call hC env θ s a w L Q hs he hN h ho
          have := stK_snd hgood (visOf_pos hks) mixed hΓ' (dr := F.dr) (rounds := 100000) hret (orc := fun _ => none) c0 normF exitF (fun Q a w => Q .normal a w) (fun i Q a w => Q (.exit i) a w) (fun c _ i _ O hO => by cases hO)
            (fun call hC env θ s a w L Q hs he hN h ho => by cases h; exact ho.n _ _ (.head _) θ a w (Gon.refl hs) he hN)
            (fun i call hC env θ s a w L Q hs he hN h ho => by cases h; exact ho.x _ _ _ (.head _) θ a w (Gon.refl hs) he hN) call hC env θ s a w L Q hs he hN h ho
          refine wp_mono this fun e a w hq => ?_
          cases e <;> first | exact hq | exact hq.elim
      have hO : OrcAll ρ tP fn (visOf F.ks 0) F.N (orcN b r e0 ke good) F.code := by
        intro c hin j hj O hO ex Ge hex
        unfold orcN at hO
        cases hbj : Nat.beq j r with
        | false => rw [hbj] at hO; cases hO
        | true =>
          rw [hbj] at hO
          cases hO
          have hjr : j = r := Nat.eq_of_beq_eq_true hbj
          subst hjr
          obtain rfl := loopAt_only hj (nble h3) hl hin
          intro call' hC' env θ s a w L Q hs he hN h ho
          have h0 : (@Bool.rec (fun _ => O3) .no (@Bool.rec (fun _ => O3) (.r (.c (.bool false)) ⟨b, .nil, 1, 1⟩) ((ex 0).r call' ke ⟨b, .nil, 1, 1⟩) good) (eqbT eqw s.b b && (Nat.beq s.fl 1 && subC ⟨e0, [], 1⟩ env s))).L = some L := h
          cases hc2 : (eqbT eqw s.b b && (Nat.beq s.fl 1 && subC ⟨e0, [], 1⟩ env s)) with
          | false => rw [hc2] at h0; cases h0
          | true =>
            rw [hc2] at h0
            simp only [Bool.and_eq_true] at hc2
            obtain ⟨e1, e2, e3⟩ := hc2
            have hbb : s.b = b := eqbT_eq eqw_eq e1
            have hf : s.fl = 1 := nbeq e2
            have g := sub_gon (by rw [hbb, hf]; exact hb) e3 hs
            rw [hbb, hf] at g
            have gs : Sat ρ θ ⟨b, .nil, 1, 1⟩ w := g.sat
            have he' : EnvOk ρ θ (visE _ e0) a := sub_env e3 he
            refine hL fn _ _ _ hlp θ w a gs he' hN _ (fun hg a1 w1 k1 k2 k3 => ?_) (fun hg a1 w1 k2 k4 k3 => ?_)
            · subst hg
              exact hex 0 call' hC' ke θ _ a1 w1 L Q (stay_gon hb gs k2).sat k1 k3 h0 (ho.go (g.trans (stay_gon hb gs k2)) fun _ hz => hz)
            · subst hg
              have hL1 : L = [.r (.c (.bool false)) ⟨b, .nil, 1, 1⟩] := (Option.some.inj h0).symm
              subst hL1
              exact ho.r _ _ (.head _) θ a1 w1 (.bool false) (g.trans (stay_gon hb gs k2)) (by simp only [W]) k4 k3
      cases hgo : (fnS Γ tP 100000 (orcN b r e0 ke good) F).go (cS Γ) args ⟨b, .nil, 1, 1⟩ with
      | error x => simp only [hgo] at h2; cases h2
      | ok l =>
        simp only [hgo] at h2
        obtain ⟨g1, g2⟩ := fnS_sound mixed hΓ (cS_ok hΓ) f1 f2 f3 f4 f5 hks hO hs hv hgo
        refine ⟨g1, g2.mono fun e w' hq => ?_⟩
        obtain ⟨d', s', θ', v, rfl, hm, hG, hW⟩ := hq
        have h7 := List.all_eq_true.1 (show l.all (fun x => x.1.eqb d) = true from h2) _ hm
        have e7 := DV.eqb_eq _ _ h7
        exact ⟨v, s', θ', rfl, by rw [← e7]; exact hW, hG⟩
end
end
end Go.Q

set_option maxRecDepth 100000
namespace Go.Q
noncomputable section
open Go.RowKit Go.Proofs
open Go.Z hiding cond_false get resF
noncomputable section
def syN (k : Int) : DV := .l 0 1 ⟨0, [(4, 1)]⟩ ⟨k, [(2, 1)]⟩ (some ⟨0, [(5, 1)]⟩) ⟨0, [(4, 1)]⟩
def e24 (k : Int) : EK := badT (.d (syN k)) (.b false) (.i .i64 0) .bad .bad .bad
def e196 : EK := badT (.d (syN 1)) (.d (.f (.func 139) [] [])) (.i .i64 0) .bad (.d (.n .i64 ⟨1, [(2, 1)]⟩)) (.i .i64 0)
def grN : Tr Ob := match Tr.put 64 (.nil : Tr Ob) 0 (.win ⟨0, [(4, 1)]⟩ [.b 0]) with
  | some b => b
  | none => .nil
def gamN (k top : Int) : Cx := ⟨[0, 0, top, 0, -1, -1], [⟨k, [(2, 1)]⟩], [], [], [], []⟩
end
theorem r24t : outIs (.c (.bool true)) (runN (gamN 1 31) 24 2 grN (e24 1) (ke24 (syN 1)) true [syN 1]) = true := by kernel_rfl
theorem r24l : outIs (.c (.bool false)) (runN (gamN 33 4063) 24 2 grN (e24 33) (ke24 (syN 33)) true [syN 33]) = true := by kernel_rfl
theorem r24b : outIs (.c (.bool false)) (runN (gamN 1 4095) 24 2 grN (e24 1) (ke24 (syN 1)) false [syN 1]) = true := by kernel_rfl
theorem r196 : outIs (.n .i64 (lit (-1))) (runN (gamN 1 31) 196 2 grN e196 (ke196 (syN 1)) true [syN 1, .f (.func 139) [] []]) = true := by kernel_rfl
theorem at24 (k : Int) : sameE [(iG, lit 0)] (sl24.e (.x 0) iG lG) (e24 k) = true := rfl
theorem at196 : sameE [(iG, lit 0), (lG, ⟨1, [(2, 1)]⟩)] (sl196.e (.x 0) iG lG) e196 = true := by kernel_rfl
theorem ks24 {F : Fd} (h : tI 24 = some F) : ∃ l, F.ks = 0 :: l := by
  unfold tI at h
  split at h <;> try (cases h; done)
  split at h <;> cases h
  exact ⟨_, rfl⟩
theorem ks196 {F : Fd} (h : tI 196 = some F) : ∃ l, F.ks = 0 :: l := by
  unfold tI at h
  split at h <;> try (cases h; done)
  split at h <;> cases h
  exact ⟨_, rfl⟩
noncomputable section
theorem grN_get : ∀ m, grN.get m = match m with | 0 => some (Ob.win ⟨0, [(4, 1)]⟩ [.b 0]) | _ + 1 => none := by
  intro m
  have hp : Tr.put 64 (.nil : Tr Ob) 0 (Ob.win ⟨0, [(4, 1)]⟩ [.b 0]) = some grN := rfl
  obtain ⟨h1, h2⟩ := Tr.get_put _ _ _ _ _ hp
  cases m with
  | zero => exact h1
  | succ m => rw [h2 (m + 1) (by omega)]; exact Tr.get_nil _
theorem grN_ground : GroundOk grN 1 := fun m hm => by
  rw [grN_get]
  cases m with
  | zero => omega
  | succ m => rfl
def rhoN (len1 : Int) (o c : Nat) (l : List Int) : Rh := ⟨fun | 2 => len1 | 4 => o | 5 => c | _ => 0, fun | 0 => l | _ => [], fun _ => .bool true⟩
theorem cxN {k top len1 : Int} {o c : Nat} {l : List Int} (hl : 0 ≤ len1 ∧ len1 ≤ top) (hk : k + len1 = l.length) (hb : ∀ z ∈ l, 0 ≤ z ∧ z < 256) : CxOk (gamN k top) (rhoN len1 o c l) :=
  plainCx (fun i => by
    unfold Cx.hiOf
    match i with
    | 0 => exact ⟨Int.le_refl 0, fun _ => Int.le_refl 0⟩
    | 1 => exact ⟨Int.le_refl 0, fun _ => Int.le_refl 0⟩
    | 2 => exact ⟨hl.1, fun _ => hl.2⟩
    | 3 => exact ⟨Int.le_refl 0, fun _ => Int.le_refl 0⟩
    | 4 => exact ⟨Int.natCast_nonneg o, fun h => absurd (show (0 : Int) ≤ -1 from h) (by decide)⟩
    | 5 => exact ⟨Int.natCast_nonneg c, fun h => absurd (show (0 : Int) ≤ -1 from h) (by decide)⟩
    | n + 6 => exact ⟨Int.le_refl 0, fun _ => Int.le_refl 0⟩) (fun i => by
    match i with
    | 0 => show (l.length : Int) = k + (1 * len1 + 0); omega
    | i + 1 => show (0 : Int) = (lit 0).ev _; rw [ev_lit]) (fun i z hz => by
    match i, hz with
    | 0, hz => exact hb z hz
    | _ + 1, hz => cases hz) rfl rfl rfl rfl
theorem sat_grN {len1 : Int} {w : World} {b o c : Nat} {l : List Int} (h : LiesAt w b o l) : Sat (rhoN len1 o c l) (thL b o c) ⟨grN, .nil, 1, 1⟩ w := by
  refine ⟨Nat.le_refl _, fun n hn => ?_, fun n x hx => ?_, fun n m x y L M hx hy _ _ _ => ?_⟩
  · match n, hn with
    | 0, hn => exact absurd (show (1 : Nat) ≤ 0 from hn) (by decide)
    | n + 1, _ => rfl
  · rw [st0_get, grN_get] at hx
    match n, hx with
    | 0, hx =>
      obtain rfl := Option.some.inj hx
      obtain ⟨pre, post, T, fz, h1, h2⟩ := h
      refine ⟨_, rfl, pre, _, post, T, fz, h1, ⟨[], ?_, rfl⟩, ?_⟩
      · show l.map (Value.int .u8) = blobV (rhoN len1 o c l) 0 ++ []
        rw [List.append_nil]; rfl
      · show (pre.length : Int) = 0 + (1 * (o : Int) + 0); omega
    | n + 1, hx => cases hx
  · rw [st0_get, grN_get] at hx hy
    match n, m, hx, hy with
    | 0, 0, _, _ => rfl
    | n + 1, _, hx, _ => cases hx
    | 0, m + 1, _, hy => cases hy
theorem w_syN {len1 : Int} {b o c len : Nat} {l : List Int} {k : Int} (hk : k + len1 = len) (hlc : len ≤ c) : W (rhoN len1 o c l) (thL b o c) (syN k) (.slice (some ⟨b, o, none⟩) len c) := by
  have e4 : (⟨0, [(4, 1)]⟩ : Lin).ev (rhoN len1 o c l).a = o := by show (0 : Int) + (1 * (o : Int) + 0) = o; omega
  have e2 : (⟨k, [(2, 1)]⟩ : Lin).ev (rhoN len1 o c l).a = len := by show k + (1 * len1 + 0) = len; omega
  have e5 : (⟨0, [(5, 1)]⟩ : Lin).ev (rhoN len1 o c l).a = c := by show (0 : Int) + (1 * (c : Int) + 0) = c; omega
  simp only [syN, W]
  rw [e4, e2, e5]
  refine ⟨_, rfl, Nat.one_pos, by omega, by omega, by omega, c, ⟨rfl, ?_⟩, by rw [Int.toNat_natCast]; exact hlc, ?_⟩
  · rw [Int.toNat_natCast]; show o + c * 1 ≤ o + c; omega
  · rw [Int.toNat_natCast, Int.toNat_natCast, ite_self]
theorem syN_at {len1 : Int} {o c : Nat} {l : List Int} {k : Int} (hk : k + len1 = l.length) {θ : Tz} {w : World} {v : Value} (hs : Sat (rhoN len1 o c l) θ ⟨grN, .nil, 1, 1⟩ w) (h : W (rhoN len1 o c l) θ (syN k) v) :
    ∃ b, v = .slice (some ⟨b, o, none⟩) l.length c ∧ l.length ≤ c ∧ LiesAt w b o l := by
  have e4 : (⟨0, [(4, 1)]⟩ : Lin).ev (rhoN len1 o c l).a = o := by show (0 : Int) + (1 * (o : Int) + 0) = o; omega
  have e2 : (⟨k, [(2, 1)]⟩ : Lin).ev (rhoN len1 o c l).a = l.length := by show k + (1 * len1 + 0) = _; omega
  have e5 : (⟨0, [(5, 1)]⟩ : Lin).ev (rhoN len1 o c l).a = c := by show (0 : Int) + (1 * (c : Int) + 0) = c; omega
  simp only [syN, W] at h
  rw [e4, e2, e5] at h
  obtain ⟨L, h1, _, _, _, _, C, ⟨h2, h3⟩, h4, rfl⟩ := h
  obtain rfl : c = C := by omega
  rw [Int.toNat_natCast] at h4
  rw [Int.toNat_natCast, Int.toNat_natCast, ite_self]
  refine ⟨L.b, rfl, h4, ?_⟩
  obtain ⟨L', k1, k2⟩ := hs.res 0 _ (by rw [st0_get, grN_get])
  rw [h1] at k1; cases k1
  obtain ⟨pre, ms, post, T, fz, q1, ⟨us, q2, q3⟩, q4⟩ := k2
  refine ⟨pre, post, T, fz, ?_, ?_⟩
  · have e : ms = l.map (Value.int .u8) := by
      rw [q2, show us = [] from q3, List.append_nil]; rfl
    rw [← e]; exact q1
  · have : (pre.length : Int) = 0 + (1 * (o : Int) + 0) := q4
    omega
end
end
end Go.Q

set_option maxRecDepth 100000
namespace Go.Q
noncomputable section
open Go.RowKit Go.Proofs
open Go.Z hiding cond_false get resF
noncomputable section
section
variable {len1 : Int} {o c : Nat} {l : List Int} {k : Int}
theorem start_b {sl : Sl} {e0 : EK} {ps : List (Lin × Lin)} {vis0 : Vs} {θ : Tz} {w : World} {a : Act} {v : Value} (_hvis : posOf vis0 0 = some 0) (huniq : ∀ t, posOf vis0 t = some 0 → t = 0) (hse : sameE ps (sl.e (.x 0) iG lG) e0 = true) (hp : PsOk ps (rhoB (0 : Nat) l.length v) (rhoN len1 o c l))
    (he : EnvOk (rhoN len1 o c l) θ (visE vis0 e0) a) (hv : a.tmps[0]? = some v) : BInv sl vis0 w v l.length 0 a w := by
  refine ⟨same_env hp hse he fun t d ht hd => ?_, Stays.refl w⟩
  obtain rfl := huniq t ht
  have hd' : (sl.e (.x 0) iG lG).a0.dv = some d := hd
  rw [sl.h0] at hd'
  cases hd'
  exact ⟨v, hv, rfl⟩
theorem ps24 {v : Value} : PsOk [(iG, lit 0)] (rhoB (0 : Nat) l.length v) (rhoN len1 o c l) := fun q hq => by
  obtain rfl := List.mem_singleton.1 hq
  show iG.ev (aB (0 : Nat) l.length) = (lit 0).ev _
  rw [ev_lit]; rfl
theorem loop24 (hk : k + len1 = l.length) (hby : ∀ z ∈ l, 0 ≤ z ∧ z < 256) (hmax : l.length ≤ 4096) (hall : ∀ z ∈ l, NameC z) : LoopN (rhoN len1 o c l) 24 2 grN (e24 k) (ke24 (syN k)) true := by
  intro fn vis0 N cd hl θ w a hs he hN Q hg _
  obtain ⟨v, k1, k2⟩ := he 0 (syN k) (by unfold visE; rw [hl.vis]; rfl)
  obtain ⟨b, rfl, hlc, hL⟩ := syN_at hk hs k2
  have hI : BInv sl24 vis0 w (.slice (some ⟨b, o, none⟩) l.length c) l.length 0 a w := start_b hl.vis hl.uniq (at24 k) ps24 he k1
  refine good_loop hl good24 end24 rfl hmax hlc hby hL hall hI hN fun a1 w1 h1 h2 h3 => hg rfl a1 w1 ?_ h2 h3
  refine same_env (ps := []) (fun q hq => by cases hq) (show sameE [] (ke24 (syN k)) (ke24 (.x 0)) = true from rfl) h1 fun t d ht hd => ?_
  obtain rfl := hl.uniq t ht
  have hd' : some (syN k) = some d := hd
  cases hd'
  obtain ⟨v', q1, q2⟩ := h1 0 (.x 0) (by unfold visE; rw [hl.vis]; rfl)
  simp only [W] at q2
  subst q2
  exact ⟨_, q1, k2⟩
theorem loop24b (hk : k + len1 = l.length) (hby : ∀ z ∈ l, 0 ≤ z ∧ z < 256) (hmax : l.length ≤ 4096) {j : Nat} (hj : j < l.length) (hbad : ¬ NameC l[j]) : LoopN (rhoN len1 o c l) 24 2 grN (e24 k) (ke24 (syN k)) false := by
  intro fn vis0 N cd hl θ w a hs he hN Q _ hg
  obtain ⟨v, k1, k2⟩ := he 0 (syN k) (by unfold visE; rw [hl.vis]; rfl)
  obtain ⟨b, rfl, hlc, hL⟩ := syN_at hk hs k2
  have hI : BInv sl24 vis0 w (.slice (some ⟨b, o, none⟩) l.length c) l.length 0 a w := start_b hl.vis hl.uniq (at24 k) ps24 he k1
  exact bad_loop hl good24 bad24 hmax hlc hby hL hj hbad hI hN fun a1 w1 h1 h2 h3 => hg rfl a1 w1 h1 h2 h3
theorem loop196 (hk : 1 + len1 = l.length) (hby : ∀ z ∈ l, 0 ≤ z ∧ z < 256) (hmax : l.length ≤ 4096) (hall : ∀ z ∈ l, NameC z) : LoopN (rhoN len1 o c l) 196 2 grN e196 (ke196 (syN 1)) true := by
  intro fn vis0 N cd hl θ w a hs he hN Q hg _
  obtain ⟨v, k1, k2⟩ := he 0 (syN 1) (by unfold visE; rw [hl.vis]; rfl)
  obtain ⟨b, rfl, hlc, hL⟩ := syN_at hk hs k2
  have hp : PsOk [(iG, lit 0), (lG, ⟨1, [(2, 1)]⟩)] (rhoB (0 : Nat) l.length (.slice (some ⟨b, o, none⟩) l.length c)) (rhoN len1 o c l) := fun q hq => by
    rcases List.mem_cons.1 hq with rfl | hq
    · show iG.ev (aB (0 : Nat) l.length) = (lit 0).ev _
      rw [ev_lit]; rfl
    · obtain rfl := List.mem_singleton.1 hq
      show (0 : Int) + (1 * (l.length : Int) + 0) = 1 + (1 * len1 + 0)
      omega
  have hI : BInv sl196 vis0 w (.slice (some ⟨b, o, none⟩) l.length c) l.length 0 a w := start_b hl.vis hl.uniq at196 hp he k1
  refine good_loop hl good196 end196 rfl hmax hlc hby hL hall hI hN fun a1 w1 h1 h2 h3 => hg rfl a1 w1 ?_ h2 h3
  refine same_env (ps := []) (fun q hq => by cases hq) (show sameE [] (ke196 (syN 1)) (ke196 (.x 0)) = true from rfl) h1 fun t d ht hd => ?_
  obtain rfl := hl.uniq t ht
  have hd' : some (syN 1) = some d := hd
  cases hd'
  obtain ⟨v', q1, q2⟩ := h1 0 (.x 0) (by unfold visE; rw [hl.vis]; rfl)
  simp only [W] at q2
  subst q2
  exact ⟨_, q1, k2⟩
end
theorem name_calls {w : World} {b o c : Nat} {l : List Int} (hby : ∀ z ∈ l, 0 ≤ z ∧ z < 256) (hmax : l.length ≤ 4096) (hpos : 1 ≤ l.length) (hlc : l.length ≤ c) (hL : LiesAt w b o l) :
    EntersOk tP 24 ∧ Calls tP 24 #[.slice (some ⟨b, o, none⟩) l.length c] w fun e w' => e = .returned (.bool (nameB l)) ∧ Stays w w' := by
  by_cases hall : ∀ z ∈ l, NameC z
  · have ha : l.all (fun z => decide (NameC z)) = true := List.all_eq_true.2 fun z hz => decide_eq_true (hall z hz)
    by_cases h32 : l.length ≤ 32
    · have hΓ : CxOk (gamN 1 31) (rhoN ((l.length - 1 : Nat) : Int) o c l) := cxN ⟨by omega, by omega⟩ (by omega) hby
      obtain ⟨g1, g2⟩ := runN_sound hΓ grN_ground one24 (fun F => ks24) (loop24 (k := 1) (by omega) hby hmax hall) r24t (sat_grN hL) (us := [.slice (some ⟨b, o, none⟩) l.length c]) ⟨w_syN (by omega) hlc, trivial⟩
      refine ⟨g1, g2.mono fun e w' ⟨v, s', θ', he, hv, hG⟩ => ⟨?_, stays_go grN_ground (Stays.refl w) hG⟩⟩
      simp only [W] at hv
      rw [he, hv]
      have : nameB l = true := by simp only [nameB, ha, Bool.and_true, decide_eq_true_eq]; omega
      rw [this]
    · have hΓ : CxOk (gamN 33 4063) (rhoN ((l.length - 33 : Nat) : Int) o c l) := cxN ⟨by omega, by omega⟩ (by omega) hby
      obtain ⟨g1, g2⟩ := runN_sound hΓ grN_ground one24 (fun F => ks24) (loop24 (k := 33) (by omega) hby hmax hall) r24l (sat_grN hL) (us := [.slice (some ⟨b, o, none⟩) l.length c]) ⟨w_syN (by omega) hlc, trivial⟩
      refine ⟨g1, g2.mono fun e w' ⟨v, s', θ', he, hv, hG⟩ => ⟨?_, stays_go grN_ground (Stays.refl w) hG⟩⟩
      simp only [W] at hv
      rw [he, hv]
      have : nameB l = false := by
        have : ¬ (1 ≤ l.length ∧ l.length ≤ 32) := by omega
        simp only [nameB, decide_eq_false this, Bool.false_and]
      rw [this]
  · have hex : ∃ j, ∃ hj : j < l.length, ¬ NameC l[j] := by
      apply Classical.byContradiction
      intro hno
      apply hall
      intro z hz
      obtain ⟨j, hj, rfl⟩ := List.getElem_of_mem hz
      exact Classical.byContradiction fun hb => hno ⟨j, hj, hb⟩
    obtain ⟨j, hj, hbad⟩ := hex
    have hΓ : CxOk (gamN 1 4095) (rhoN ((l.length - 1 : Nat) : Int) o c l) := cxN ⟨by omega, by omega⟩ (by omega) hby
    obtain ⟨g1, g2⟩ := runN_sound hΓ grN_ground one24 (fun F => ks24) (loop24b (k := 1) (by omega) hby hmax hj hbad) r24b (sat_grN hL) (us := [.slice (some ⟨b, o, none⟩) l.length c]) ⟨w_syN (by omega) hlc, trivial⟩
    refine ⟨g1, g2.mono fun e w' ⟨v, s', θ', he, hv, hG⟩ => ⟨?_, stays_go grN_ground (Stays.refl w) hG⟩⟩
    simp only [W] at hv
    rw [he, hv]
    have : nameB l = false := by
      have h1 : l.all (fun z => decide (NameC z)) = false := by
        cases hh : l.all (fun z => decide (NameC z)) with
        | false => rfl
        | true => exact absurd (of_decide_eq_true (List.all_eq_true.1 hh _ (List.getElem_mem hj))) hbad
      simp only [nameB, h1, Bool.and_false]
    rw [this]
theorem idx_calls {w : World} {b o c : Nat} {l : List Int} (hby : ∀ z ∈ l, 0 ≤ z ∧ z < 256) (hn : nameB l = true) (hlc : l.length ≤ c) (hL : LiesAt w b o l) :
    EntersOk tP 196 ∧ Calls tP 196 #[.slice (some ⟨b, o, none⟩) l.length c, .func (.func 139) #[] #[]] w fun e w' => e = .returned (.int .i64 (-1)) ∧ Stays w w' := by
  simp only [nameB, Bool.and_eq_true, decide_eq_true_eq] at hn
  obtain ⟨⟨h1, h32⟩, h2⟩ := hn
  have hall : ∀ z ∈ l, NameC z := fun z hz => of_decide_eq_true (List.all_eq_true.1 h2 z hz)
  have hΓ : CxOk (gamN 1 31) (rhoN ((l.length - 1 : Nat) : Int) o c l) := cxN ⟨by omega, by omega⟩ (by omega) hby
  obtain ⟨g1, g2⟩ := runN_sound hΓ grN_ground one196 (fun F => ks196) (loop196 (by omega) hby (by omega) hall) r196 (sat_grN hL) (us := [.slice (some ⟨b, o, none⟩) l.length c, .func (.func 139) #[] #[]]) ⟨w_syN (by omega) hlc, by simp only [W]; exact ⟨[], [], rfl, WL_nil, WL_nil⟩, trivial⟩
  refine ⟨g1, g2.mono fun e w' ⟨v, s', θ', he, hv, hG⟩ => ⟨?_, stays_go grN_ground (Stays.refl w) hG⟩⟩
  simp only [W, ev_lit] at hv
  rw [he, hv]
end
end
end Go.Q

set_option maxRecDepth 100000
namespace Go.Q
noncomputable section
open Go.RowKit Go.Proofs
open Go.Z hiding cond_false get resF
noncomputable section
def goodI (z : Int) : Bool := (intLe 97 z && intLe z 122) || ((intLe 48 z && intLe z 57) || (intB z 46 || intB z 45))
theorem goodI_ok {z : Int} (h : goodI z = true) : NameC z := by
  simp only [goodI, Bool.or_eq_true, Bool.and_eq_true] at h
  rcases h with h | h | h | h
  · exact .inl ⟨intLe_iff.1 h.1, intLe_iff.1 h.2⟩
  · exact .inr (.inl ⟨intLe_iff.1 h.1, intLe_iff.1 h.2⟩)
  · exact .inr (.inr (.inl (intB_eq h)))
  · exact .inr (.inr (.inr (intB_eq h)))
def goodRow : List Cl → Bool
  | [] => true
  | .v (.n .u8 x) :: l => x.isLit && (goodI x.c && goodRow l)
  | _ :: _ => false
theorem goodRow_ok {ρ : Rh} {θ : Tz} : ∀ {cs : List Cl} {vs : List Value}, goodRow cs = true → CW ρ θ cs vs → ∃ l : List Int, vs = l.map (Value.int .u8) ∧ l.length = cs.length ∧ ∀ z ∈ l, NameC z
  | [], vs, _, h => ⟨[], h, rfl, fun z hz => by cases hz⟩
  | .v (.n .u8 x) :: cs, vs, h, hc => by
    simp only [goodRow, Bool.and_eq_true] at h
    obtain ⟨u, us, rfl, h1, _, h2⟩ := hc
    obtain ⟨l, rfl, e2, e3⟩ := goodRow_ok h.2.2 h2
    simp only [W] at h1
    refine ⟨x.ev ρ.a :: l, by rw [h1]; rfl, by simp [e2], fun z hz => ?_⟩
    rcases List.mem_cons.1 hz with rfl | hz
    · rw [Lin.ev_of_lit h.1]; exact goodI_ok h.2.1
    · exact e3 z hz
def nameH (Γ : Cx) (nm : Bool) (args : List DV) (s : St) : RS := match args with
  | [.l n 1 o len _ _] => match midD Γ s n 1 o len with
    | some [.b 0] => one (.c (.bool nm)) s
    | _ => fail "name" [n]
  | _ => fail "name" []
def idxH (Γ : Cx) (nm : Bool) (args : List DV) (s : St) : RS := match args with
  | [.l n 1 o len _ _, .f (.func g) [] []] => cond (Nat.beq g 139) (match midD Γ s n 1 o len with
    | some [.b 0] => cond nm (one (.n .i64 (lit (-1))) s) (fail "index" [n])
    | some cs => cond (goodRow cs && (Nat.ble 1 cs.length && Nat.ble cs.length 32)) (one (.n .i64 (lit (-1))) s) (fail "index" [n])
    | none => fail "index" [n]) (fail "index" [n])
  | _ => fail "index" []
def hookN (Γ : Cx) (nm : Bool) (call : CallF) (f : Nat) : Option (List DV → St → RS) :=
  cond (Nat.beq f 24) (some (nameH Γ nm)) (cond (Nat.beq f 196) (some (idxH Γ nm)) (hookT Γ call f))
structure NmOk (ρ : Rh) (nm : Bool) : Prop where
  is : nm = nameB (ρ.b 0)
  pos : 1 ≤ (ρ.b 0).length
  max : (ρ.b 0).length ≤ 4096
theorem stays_gon {ρ : Rh} {θ : Tz} {s : St} {w w1 : World} (hs : Sat ρ θ s w) (hk : Stays w w1) : Gon ρ θ s w θ s w1 := by
  refine ⟨⟨hs.fln, hs.fresh, fun n o hn => ?_, hs.inj⟩, Tz.ext_refl _, Nat.le_refl _, fun _ _ => rfl, rfl, rfl, fun _ _ => rfl, hk.env, hk.size, fun x hx _ => hk.still x hx, fun n o L h1 h2 h3 => .inr ⟨n, o, L, h1, h2, h3, rfl⟩⟩
  obtain ⟨L, k1, k2⟩ := hs.res n o hn
  exact ⟨L, k1, Ob.holds_mono (Tz.ext_refl _) (hk.still L.b (Ob.holds_lt k2)) k2⟩
theorem slice_lies {Γ : Cx} {ρ : Rh} (hΓ : CxOk Γ ρ) {θ : Tz} {s : St} {w : World} (hs : Sat ρ θ s w) {n : Nat} {o len q : Lin} {cp : Option Lin} {m : List Cl} {v : Value} (hv : W ρ θ (.l n 1 o len cp q) v) (hm : midD Γ s n 1 o len = some m) {l : List Int} (hl : ∀ vs, CW ρ θ m vs → vs = l.map (Value.int .u8)) (hne : 1 ≤ l.length) :
    ∃ b o' C, v = .slice (some ⟨b, o', none⟩) l.length C ∧ l.length ≤ C ∧ LiesAt w b o' l := by
  simp only [W] at hv
  obtain ⟨L, hL, _, ho, hlen, _, C, _, h4, rfl⟩ := hv
  obtain ⟨pre, ms, post, T, fz, e1, e2, e3, e4⟩ := mid_sound hΓ hs.toR hL hm
  have e5 := hl ms e2
  subst e5
  rw [List.length_map] at e4
  have hll : (len.ev ρ.a).toNat = l.length := by omega
  rw [hll] at h4
  refine ⟨L.b, (o.ev ρ.a).toNat, C, ?_, h4, pre, post, T, fz, e1, by omega⟩
  rw [hll, if_neg (by omega)]
theorem hookN_ok {Γ : Cx} {ρ : Rh} {nm : Bool} (hP : Tryz.prog.follows .mixedOrders = true) (hΓ : CxOk Γ ρ) (hn : NmOk ρ nm) : HookOk ρ Tryz.prog (hookN Γ nm) := by
  intro call hC f k hk args s l θ w us hs hv h
  unfold hookN at hk
  have blob : ∀ vs, CW ρ θ [.b 0] vs → vs = (ρ.b 0).map (Value.int .u8) := fun vs hvs => by
    obtain ⟨us, e1, e2⟩ := hvs
    rw [e1, show us = [] from e2, List.append_nil]; rfl
  cases h1 : Nat.beq f 24 with
  | true =>
    rw [h1] at hk; cases hk
    obtain rfl := Nat.eq_of_beq_eq_true h1
    unfold nameH at h
    split at h <;> try exact (fail_ok h).elim
    rename_i n o len cp q
    split at h <;> try exact (fail_ok h).elim
    rename_i hm
    cases h
    obtain ⟨v, us', rfl, hv1, hv2⟩ := WL_cons_left hv
    obtain rfl := WL_nil_left hv2
    obtain ⟨b, o', C, rfl, hlc, hL⟩ := slice_lies hΓ hs hv1 hm blob hn.pos
    obtain ⟨g1, g2⟩ := name_calls (hΓ.byte 0) hn.max hn.pos hlc hL
    exact ⟨g1, g2.mono fun e w' ⟨he, hk⟩ => ⟨_, s, θ, _, he, .head _, stays_gon hs hk, by simp only [W]; rw [hn.is]⟩⟩
  | false =>
    rw [h1] at hk
    cases h2 : Nat.beq f 196 with
    | true =>
      rw [h2] at hk; cases hk
      obtain rfl := Nat.eq_of_beq_eq_true h2
      unfold idxH at h
      split at h <;> try exact (fail_ok h).elim
      rename_i n o len cp q g
      obtain ⟨hg, hA⟩ := cond_fail h
      clear h
      obtain rfl := Nat.eq_of_beq_eq_true hg
      obtain ⟨v, us', rfl, hv1, hv2⟩ := WL_cons_left hv
      obtain ⟨v2, us'', rfl, hv3, hv4⟩ := WL_cons_left hv2
      obtain rfl := WL_nil_left hv4
      simp only [W] at hv3
      obtain ⟨cs1, ds1, rfl, hc1, hc2⟩ := hv3
      obtain rfl := WL_nil_left hc1
      obtain rfl := WL_nil_left hc2
      split at hA
      · rename_i hm
        obtain ⟨hnm, h9⟩ := cond_fail hA
        obtain rfl := Except.ok.inj (show Except.ok [(DV.n .i64 (lit (-1)), s)] = Except.ok l from h9)
        obtain ⟨b, o', C, rfl, hlc, hL⟩ := slice_lies hΓ hs hv1 hm blob hn.pos
        obtain ⟨g1, g2⟩ := idx_calls (hΓ.byte 0) (by rw [← hn.is]; exact hnm) hlc hL
        exact ⟨g1, g2.mono fun e w' ⟨he, hk⟩ => ⟨_, s, θ, _, he, .head _, stays_gon hs hk, by simp only [W, ev_lit]⟩⟩
      · rename_i cs _ hm
        obtain ⟨hgd, h9⟩ := cond_fail hA
        obtain rfl := Except.ok.inj (show Except.ok [(DV.n .i64 (lit (-1)), s)] = Except.ok l from h9)
        simp only [Bool.and_eq_true] at hgd
        obtain ⟨k1, k2, k3⟩ := hgd
        obtain ⟨L0, hL0⟩ : ∃ L, θ n = some L := by
          simp only [W] at hv1
          obtain ⟨L, hL, _⟩ := hv1
          exact ⟨L, hL⟩
        obtain ⟨pre, ms, post, T, fz, e1, e2, e3, e4⟩ := mid_sound hΓ hs.toR hL0 hm
        obtain ⟨z, r1, r2, r3⟩ := goodRow_ok k1 e2
        have k2 := nble k2
        have k3 := nble k3
        obtain ⟨b, o', C, rfl, hlc, hL⟩ := slice_lies hΓ hs hv1 hm (l := z) (fun vs hvs => by rw [CW_fun e2 hvs, r1]) (by omega)
        obtain ⟨g1, g2⟩ := idx_calls (fun y hy => by have := r3 y hy; unfold NameC at this; omega) (by
          have : z.all (fun y => decide (NameC y)) = true := List.all_eq_true.2 fun y hy => decide_eq_true (r3 y hy)
          simp only [nameB, this, Bool.and_true, decide_eq_true_eq]; omega) hlc hL
        exact ⟨g1, g2.mono fun e w' ⟨he, hk⟩ => ⟨_, s, θ, _, he, .head _, stays_gon hs hk, by simp only [W, ev_lit]⟩⟩
      · exact (fail_ok hA).elim
    | false =>
      rw [h2] at hk
      exact hookT_ok hP hΓ call hC f k hk args s l θ w us hs hv h
def cN (Γ : Cx) (nm : Bool) : CallF := callS Γ tP tI (hookN Γ nm) 100000 60
theorem cN_ok {Γ : Cx} {ρ : Rh} {nm : Bool} (hΓ : CxOk Γ ρ) (hn : NmOk ρ nm) : CallOk ρ tP (cN Γ nm) := callS_sound mixed hΓ tI_ok (hookN_ok mixed hΓ hn) tI_ks 60
end
end
end Go.Q

set_option maxRecDepth 100000
namespace Go.Q
noncomputable section
open Go.RowKit Go.Proofs
open Go.Z hiding cond_false get resF
noncomputable section
def mgHit (b : Tr Ob) (fl : Nat) (m : Mm) (f : Nat) (args : List DV) (s : St) : Bool :=
  Nat.beq f m.f && (eqbL args m.args && (eqbT eqw s.b b && (Nat.beq s.fl fl && subG m.k0 badE s)))
def memoG (b : Tr Ob) (fl : Nat) (call : CallF) : List Mm → CallF
  | [] => call
  | m :: l => fun f args s => @Bool.rec (fun _ => RS) (memoG b fl call l f args s) (.ok [(m.d, m.k1.st b fl)]) (mgHit b fl m f args s)
def MgsOk (ρ : Rh) (b : Tr Ob) (fl : Nat) : List Mm → Prop
  | [] => True
  | m :: l => (∃ call, CallOk ρ tP call ∧ mmOk b fl call m = true) ∧ MgsOk ρ b fl l
theorem memoG_ok {ρ : Rh} {b : Tr Ob} {fl : Nat} {call : CallF} (hg : GroundOk b fl) (hC : CallOk ρ tP call) : ∀ {l : List Mm}, MgsOk ρ b fl l → CallOk ρ tP (memoG b fl call l)
  | [], _ => hC
  | m :: l, h => fun f args s r θ w us hs hv hr => by
    have h0 : @Bool.rec (fun _ => RS) (memoG b fl call l f args s) (.ok [(m.d, m.k1.st b fl)]) (mgHit b fl m f args s) = .ok r := hr
    cases hh : mgHit b fl m f args s with
    | false => rw [hh] at h0; exact memoG_ok hg hC h.2 f args s r θ w us hs hv h0
    | true =>
      rw [hh] at h0
      obtain rfl : [(m.d, m.k1.st b fl)] = r := Except.ok.inj h0
      unfold mgHit at hh
      simp only [Bool.and_eq_true] at hh
      obtain ⟨e1, e3, e4, e5, e6⟩ := hh
      have hb : s.b = b := eqbT_eq eqw_eq e4
      have hf : s.fl = fl := nbeq e5
      have hff : f = m.f := nbeq e1
      have ha : args = m.args := eqbL_eq _ _ e3
      subst hff ha
      have g := subG_gon (by rw [hb, hf]; exact hg) e6 hs
      rw [hb, hf] at g
      obtain ⟨call', hC', hm⟩ := h.1
      unfold mmOk at hm
      split at hm
      · rename_i d s1 hc
        simp only [Bool.and_eq_true] at hm
        obtain ⟨q1, q2⟩ := hC' _ _ _ _ θ w us g.sat hv hc
        refine ⟨q1, q2.mono fun e w' hq => ?_⟩
        obtain ⟨d', s', θ', v, e0, hmem, hG, hW⟩ := hq
        obtain ⟨rfl, rfl⟩ : d' = d ∧ s' = s1 := by simpa using hmem
        have hb1 : s'.b = b := hG.bs
        have hf1 : s'.fl = fl := hG.fl
        have g2 := sub_gon (by rw [hb1, hf1]; exact hg) hm.2 hG.sat
        rw [hb1, hf1] at g2
        refine ⟨m.d, _, θ', v, e0, .head _, (g.trans hG).trans g2, ?_⟩
        rw [← DV.eqb_eq _ _ hm.1]; exact hW
      · cases hm
def runG (Γ : Cx) (f : Nat) (call : CallF) (args : List DV) (s : St) : R (List (DV × St)) := match tI f with
  | some F => (fnS Γ tP 100000 (fun _ => none) F).go call args s
  | none => fail "function" [f]
theorem runG_sound {Γ : Cx} {ρ : Rh} (hΓ : CxOk Γ ρ) {f : Nat} {call : CallF} {args : List DV} {s : St} {θ : Tz} {w : World} {us : List Value} (hC : CallOk ρ tP call) (h2 : tvO (runG Γ f call args s) = true)
    (hs : Sat ρ θ s w) (hv : WL ρ θ args us) : EntersOk tP f ∧ Calls tP f us.toArray w fun e w' => e = .returned (.bool true) ∧ ∃ s' θ', Gon ρ θ s w θ' s' w' := by
  unfold runG at h2
  cases hF : tI f with
  | none => rw [hF] at h2; cases h2
  | some F =>
    rw [hF] at h2
    obtain ⟨fn, f1, f2, f3, f4, f5⟩ := tI_ok f F hF
    have hks := tI_ks f F hF
    cases hgo : (fnS Γ tP 100000 (fun _ => none) F).go call args s with
    | error x => simp only [hgo] at h2; cases h2
    | ok l =>
      simp only [hgo] at h2
      obtain ⟨g1, g2⟩ := fnS_sound mixed hΓ hC f1 f2 f3 f4 f5 hks (fun c _ i _ O hO => by cases hO) hs hv hgo
      refine ⟨g1, g2.mono fun e w' hq => ?_⟩
      obtain ⟨d, s', θ', v, rfl, hm, hG, hW⟩ := hq
      have h6 : l.all (fun x => match x.1 with | .c (.bool b) => b | _ => false) = true := h2
      have h7 := List.all_eq_true.1 h6 _ hm
      refine ⟨?_, s', θ', hG⟩
      cases d with
      | c v' =>
        simp only [W] at hW
        subst hW
        cases v with
        | bool t => cases t with
          | true => rfl
          | false => cases h7
        | _ => cases h7
      | _ => cases h7
end
end
end Go.Q

set_option maxRecDepth 100000
namespace Go.Q
noncomputable section
open Go.RowKit Go.Proofs
open Go.Z hiding cond_false get resF
def ysO (ls : List Int) (j : Int) : List Int := (atomsOf ls j ++ [0, 0, 0, 0]).take 4
def lsO (j b0 b1 b2 b3 : Int) (ys : List Int) (l0 l1 : Int) : List Int := j :: b0 :: b1 :: b2 :: b3 :: (ys ++ [l0, l1])
def aO (j b0 b1 b2 b3 : Int) (ys : List Int) (l0 l1 : Int) : Nat → Int := fun n => (lsO j b0 b1 b2 b3 ys l0 l1).getD n 0
def hiO : List Int → List Int → Bool
  | [], _ => true
  | a :: l, [] => intB a 0 && hiO l []
  | a :: l, b :: m => intLe 0 a && ((intLe b (-1) || intLe a b) && hiO l m)
theorem hiO_get : ∀ {l m : List Int}, hiO l m = true → ∀ i, 0 ≤ l.getD i 0 ∧ (0 ≤ m.getD i 0 → l.getD i 0 ≤ m.getD i 0)
  | [], m, _, i => by simp
  | a :: l, [], h, i => by
    simp only [hiO, Bool.and_eq_true] at h
    have h1 := intB_eq h.1
    cases i with
    | zero => simp [h1]
    | succ i => have := hiO_get h.2 i; simpa using this
  | a :: l, b :: m, h, i => by
    simp only [hiO, Bool.and_eq_true, Bool.or_eq_true] at h
    obtain ⟨h1, h2, h3⟩ := h
    have h1 := intLe_iff.1 h1
    cases i with
    | zero =>
      refine ⟨h1, fun h0 => ?_⟩
      rcases h2 with h2 | h2
      · have := intLe_iff.1 h2
        have h0' : 0 ≤ b := h0
        omega
      · exact intLe_iff.1 h2
    | succ i => simpa using hiO_get h3 i
def freeO : List (Nat × Int) → Bool
  | [] => true
  | (i, _) :: l => (Nat.beq i 0 || (Nat.ble 5 i && Nat.ble i 8)) && freeO l
theorem freeO_ev {j b0 b1 b2 b3 l0 l1 : Int} {ys : List Int} (h4 : ys.length = 4) : ∀ {t : List (Nat × Int)}, freeO t = true → evT (aO j b0 b1 b2 b3 ys l0 l1) t = evT (aO j 0 0 0 0 ys 0 0) t
  | [], _ => rfl
  | (i, z) :: l, h => by
    simp only [freeO, Bool.and_eq_true, Bool.or_eq_true] at h
    have h3 := freeO_ev (j := j) (b0 := b0) (b1 := b1) (b2 := b2) (b3 := b3) (l0 := l0) (l1 := l1) h4 h.2
    simp only [evT, h3]
    have e : aO j b0 b1 b2 b3 ys l0 l1 i = aO j 0 0 0 0 ys 0 0 i := by
      rcases h.1 with h | h
      · rw [nbeq h]; rfl
      · have g1 := nble h.1
        have g2 := nble h.2
        obtain ⟨m, rfl⟩ : ∃ m, i = m + 5 := ⟨i - 5, by omega⟩
        show (ys ++ [l0, l1]).getD m 0 = (ys ++ [0, 0]).getD m 0
        rw [List.getD_eq_getElem?_getD, List.getD_eq_getElem?_getD, List.getElem?_append_left (by omega), List.getElem?_append_left (by omega)]
    rw [e]
theorem freeO_lin {j b0 b1 b2 b3 l0 l1 : Int} {ys : List Int} (h4 : ys.length = 4) {x : Lin} (h : freeO x.t = true) : x.ev (aO j b0 b1 b2 b3 ys l0 l1) = x.ev (aO j 0 0 0 0 ys 0 0) := by unfold Lin.ev; rw [freeO_ev h4 h]
def opAtO (a : Nat → Int) (x : BinOp × IntKind × Lin × Lin × Option Lin × Bool) : Bool :=
  freeO x.2.2.1.t && (freeO x.2.2.2.1.t && (match x.2.2.2.2.1 with
    | some r => freeO r.t && (match intBin x.1 x.2.1 x.2.1 (x.2.2.1.ev a) (x.2.2.2.1.ev a) with
      | some (.int k n) => decide (k = x.2.1) && intB n (r.ev a)
      | _ => false)
    | none => false))
def cvAtO (a : Nat → Int) (x : IntKind × Lin × Lin) : Bool := freeO x.2.1.t && (freeO x.2.2.t && intB (x.1.wrap (x.2.1.ev a)) (x.2.2.ev a))
def openOk (Γ : Cx) (ls : List Int) (n : Nat) : Bool :=
  Γ.ops.all (fun x => symOp Γ x.1 x.2.1 x.2.2.1 x.2.2.2.1 x.2.2.2.2.1 || allK (fun j => opAtO (aO j 0 0 0 0 (ysO ls j) 0 0) x) n) &&
  Γ.cv.all (fun x => symCv Γ x.1 x.2.1 x.2.2 || allK (fun j => cvAtO (aO j 0 0 0 0 (ysO ls j) 0 0) x) n)
theorem ysO_len (ls : List Int) (j : Int) : (ysO ls j).length = 4 := by
  unfold ysO
  rw [List.length_take, List.length_append]
  simp only [List.length_cons, List.length_nil]
  omega
theorem openCx {Γ : Cx} {ls : List Int} {n j : Nat} {b0 b1 b2 b3 : Int} {b : Nat → List Int} {x : Nat → Value} (h : openOk Γ ls n = true) (hj : j < n) (hb : Bnds Γ (aO j b0 b1 b2 b3 (ysO ls j) (b 0).length (b 1).length))
    (hlen : ∀ i, ((b i).length : Int) = (Γ.bl.getD i (lit 0)).ev (aO j b0 b1 b2 b3 (ysO ls j) (b 0).length (b 1).length)) (hby : ∀ i, ∀ n ∈ b i, 0 ≤ n ∧ n < 256)
    (hsq : ∀ y ∈ Γ.sq, decide (sgs ⟨aO j b0 b1 b2 b3 (ysO ls j) (b 0).length (b 1).length, b, x⟩ y.1 = sgs ⟨aO j b0 b1 b2 b3 (ysO ls j) (b 0).length (b 1).length, b, x⟩ y.2.1) = y.2.2) (hz : Γ.zs = []) :
    CxOk Γ ⟨aO j b0 b1 b2 b3 (ysO ls j) (b 0).length (b 1).length, b, x⟩ := by
  simp only [openOk, Bool.and_eq_true] at h
  obtain ⟨t2, t3⟩ := h
  have h4 := ysO_len ls j
  refine ⟨hb, hlen, hby, fun x hx => ?_, fun x hx => ?_, hsq, fun x hx => by rw [hz] at hx; cases hx⟩
  · have h6 := List.all_eq_true.1 t2 x hx
    simp only [Bool.or_eq_true] at h6
    rcases h6 with h6 | h6
    · obtain ⟨q, e1, e2⟩ := symOp_sound hb h6
      obtain ⟨c', w1, w2⟩ := intBin_sound (P := default) (T := 0) e2
      exact ⟨c', by rw [e1]; exact w1, w2⟩
    · have h6 := allK_get h6 j hj
      unfold opAtO at h6
      simp only [Bool.and_eq_true] at h6
      obtain ⟨f1, f2, h7⟩ := h6
      split at h7
      · rename_i q hq
        simp only [Bool.and_eq_true] at h7
        obtain ⟨f3, h8⟩ := h7
        split at h8
        · rename_i kk n hi
          simp only [Bool.and_eq_true, decide_eq_true_eq] at h8
          obtain ⟨e1, e2⟩ := h8
          have e3 := intB_eq e2
          subst e1
          obtain ⟨c', w1, w2⟩ := intBin_sound (P := default) (T := 0) hi
          refine ⟨c', ?_, w2⟩
          show binV default x.1 0 (.int x.2.1 (x.2.2.1.ev (aO j b0 b1 b2 b3 (ysO ls j) (b 0).length (b 1).length))) (.int x.2.1 (x.2.2.2.1.ev (aO j b0 b1 b2 b3 (ysO ls j) (b 0).length (b 1).length))) = _
          rw [freeO_lin h4 f1, freeO_lin h4 f2, w1, hq]
          show some (c', Value.int x.2.1 n) = some (c', Value.int x.2.1 (q.ev (aO j b0 b1 b2 b3 (ysO ls j) (b 0).length (b 1).length)))
          rw [freeO_lin h4 f3, e3]
        · cases h8
      · cases h7
  · have h6 := List.all_eq_true.1 t3 x hx
    simp only [Bool.or_eq_true] at h6
    rcases h6 with h6 | h6
    · exact symCv_sound hb h6
    · have h6 := allK_get h6 j hj
      unfold cvAtO at h6
      simp only [Bool.and_eq_true] at h6
      obtain ⟨f1, f2, h7⟩ := h6
      show x.1.wrap (x.2.1.ev (aO j b0 b1 b2 b3 (ysO ls j) (b 0).length (b 1).length)) = x.2.2.ev (aO j b0 b1 b2 b3 (ysO ls j) (b 0).length (b 1).length)
      rw [freeO_lin h4 f1, freeO_lin h4 f2]
      exact intB_eq h7
end
end Go.Q

