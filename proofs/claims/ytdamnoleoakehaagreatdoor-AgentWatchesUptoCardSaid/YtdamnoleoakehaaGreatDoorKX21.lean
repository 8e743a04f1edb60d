/- Part 21 of what the closing text rests on. -/
import Derived.Test.YtdamnoleoakehaaGreatDoorKX20
set_option maxRecDepth 100000
namespace Go.Q
noncomputable section
open Go.RowKit Go.Proofs
open Go.Z hiding cond_false get resF
def pairIn (x y : Lin) : List (Lin × Lin) → Bool
  | [] => false
  | (a, b) :: l => (a.eqb x && b.eqb y) || pairIn x y l
def lk (ps : List (Lin × Lin)) (x y : Lin) : Bool := (x.isLit && x.eqb y) || pairIn x y ps
def PsOk (ps : List (Lin × Lin)) (ρ' ρ : Rh) : Prop := ∀ q ∈ ps, q.1.ev ρ'.a = q.2.ev ρ.a
theorem pairIn_ev {ρ' ρ : Rh} {x y : Lin} : ∀ {ps : List (Lin × Lin)}, PsOk ps ρ' ρ → pairIn x y ps = true → x.ev ρ'.a = y.ev ρ.a
  | [], _, h => by cases h
  | (a, b) :: l, hp, h => by
    simp only [pairIn, Bool.or_eq_true, Bool.and_eq_true] at h
    rcases h with h | h
    · rw [← Lin.eqb_eq h.1, ← Lin.eqb_eq h.2]; exact hp (a, b) (.head _)
    · exact pairIn_ev (fun q hq => hp q (.tail _ hq)) h
theorem lk_ev {ps : List (Lin × Lin)} {ρ' ρ : Rh} {x y : Lin} (hp : PsOk ps ρ' ρ) (h : lk ps x y = true) : x.ev ρ'.a = y.ev ρ.a := by
  simp only [lk, Bool.or_eq_true, Bool.and_eq_true] at h
  rcases h with h | h
  · rw [Lin.ev_of_lit h.1, ← Lin.eqb_eq h.2, Lin.ev_of_lit h.1]
  · exact pairIn_ev hp h
def piN : List (Nat × Nat) → Nat → Nat
  | [], n => n
  | (a, b) :: l, n => cond (Nat.beq a n) b (piN l n)
def inN (hi n : Nat) : Bool := Nat.ble 1 n && Nat.blt n hi
def lkS (ps : List (Lin × Lin)) : List Sg → List Sg → Bool
  | [], [] => true
  | .y x :: l, .y z :: r => lk ps x z && lkS ps l r
  | _, _ => false
def lkO (ps : List (Lin × Lin)) : Option Lin → Option Lin → Bool
  | none, none => true
  | some x, some y => lk ps x y
  | _, _ => false
mutual
def likeD (ps : List (Lin × Lin)) (pi : List (Nat × Nat)) (hi : Nat) : DV → DV → Bool
  | .c a, .c b => valB a b
  | .n k x, .n k' y => decide (k = k') && lk ps x y
  | .s l, .s m => lkS ps l m
  | .p n o, .p m q => inN hi n && (Nat.beq (piN pi n) m && lk ps o q)
  | .g n, .g m => Nat.beq n m
  | .l n es o len cp q, .l n' es' o' len' cp' q' => inN hi n && (Nat.beq (piN pi n) n' && (Nat.beq es es' && (lk ps o o' && (lk ps len len' && (lkO ps cp cp' && lk ps q q')))))
  | .m n, .m m => inN hi n && Nat.beq (piN pi n) m
  | .f fn a b, .f fn' a' b' => decide (fn = fn') && (likeL ps pi hi a a' && likeL ps pi hi b b')
  | .i t v, .i t' v' => Nat.beq t t' && likeD ps pi hi v v'
  | .a l, .a m => likeL ps pi hi l m
  | .t l, .t m => likeL ps pi hi l m
  | _, _ => false
def likeL (ps : List (Lin × Lin)) (pi : List (Nat × Nat)) (hi : Nat) : List DV → List DV → Bool
  | [], [] => true
  | a :: l, b :: m => likeD ps pi hi a b && likeL ps pi hi l m
  | _, _ => false
end
section
variable {ρ ρ' : Rh} {θ θ' : Tz} {ps : List (Lin × Lin)} {pi : List (Nat × Nat)} {hi : Nat}
theorem lkS_ev (hp : PsOk ps ρ' ρ) : ∀ {l m : List Sg}, lkS ps l m = true → sgs ρ' l = sgs ρ m
  | [], [], _ => rfl
  | .y x :: l, .y z :: r, h => by
    simp only [lkS, Bool.and_eq_true] at h
    simp only [sgs, Sg.bytes, lk_ev hp h.1, lkS_ev hp h.2]
  | [], .y _ :: _, h => by cases h
  | [], .b _ :: _, h => by cases h
  | .y _ :: _, [], h => by cases h
  | .b _ :: _, [], h => by cases h
  | .b _ :: _, .b _ :: _, h => by cases h
  | .b _ :: _, .y _ :: _, h => by cases h
  | .y _ :: _, .b _ :: _, h => by cases h
theorem inN_spec {hi n : Nat} (h : inN hi n = true) : 1 ≤ n ∧ n < hi := by
  simp only [inN, Bool.and_eq_true] at h
  exact ⟨nble h.1, by have := Nat.le_of_ble_eq_true h.2; omega⟩
mutual
theorem like_W (hp : PsOk ps ρ' ρ) (hθ : ∀ n, 1 ≤ n → n < hi → θ' n = θ (piN pi n)) : ∀ (k d : DV) (v : Value), likeD ps pi hi k d = true → W ρ θ d v → W ρ' θ' k v := by
  intro k d v h hv
  unfold likeD at h
  split at h
  · have := valB_eq h
    subst this; simp only [W] at *; exact hv
  · simp only [Bool.and_eq_true, decide_eq_true_eq] at h
    simp only [W] at *
    rw [lk_ev hp h.2, h.1]; exact hv
  · simp only [W, strOf] at *
    rw [lkS_ev hp h]; exact hv
  · simp only [Bool.and_eq_true] at h
    obtain ⟨h1, h2, h3⟩ := h
    obtain ⟨g1, g2⟩ := inN_spec h1
    simp only [W] at *
    rw [lk_ev hp h3, hθ _ g1 g2, nbeq h2]; exact hv
  · simp only [W] at *
    rw [nbeq h]; exact hv
  · simp only [Bool.and_eq_true] at h
    obtain ⟨h1, h2, h3, h4, h5, h6, h7⟩ := h
    obtain ⟨g1, g2⟩ := inN_spec h1
    have e3 := nbeq h3
    subst e3
    simp only [W] at *
    rw [lk_ev hp h4, lk_ev hp h5, lk_ev hp h7, hθ _ g1 g2, nbeq h2]
    obtain ⟨L, w1, w2, w3, w4, w5, C, w6, w7⟩ := hv
    refine ⟨L, w1, w2, w3, w4, w5, C, ?_, w7⟩
    unfold lkO at h6
    split at h6
    · exact w6
    · rename_i x y
      simp only at w6 ⊢
      rw [lk_ev hp h6]; exact w6
    · cases h6
  · simp only [Bool.and_eq_true] at h
    obtain ⟨g1, g2⟩ := inN_spec h.1
    simp only [W] at *
    rw [hθ _ g1 g2, nbeq h.2]; exact hv
  · simp only [Bool.and_eq_true, decide_eq_true_eq] at h
    obtain ⟨h1, h2, h3⟩ := h
    simp only [W] at *
    obtain ⟨cs, ds, e1, e2, e3⟩ := hv
    exact ⟨cs, ds, by rw [h1]; exact e1, like_WL hp hθ _ _ _ h2 e2, like_WL hp hθ _ _ _ h3 e3⟩
  · simp only [Bool.and_eq_true] at h
    simp only [W] at *
    obtain ⟨u, e1, e2⟩ := hv
    exact ⟨u, by rw [nbeq h.1]; exact e1, like_W hp hθ _ _ _ h.2 e2⟩
  · simp only [W] at *
    obtain ⟨cs, e1, e2⟩ := hv
    exact ⟨cs, e1, like_WL hp hθ _ _ _ h e2⟩
  · simp only [W] at *
    obtain ⟨cs, e1, e2⟩ := hv
    exact ⟨cs, e1, like_WL hp hθ _ _ _ h e2⟩
  · cases h
theorem like_WL (hp : PsOk ps ρ' ρ) (hθ : ∀ n, 1 ≤ n → n < hi → θ' n = θ (piN pi n)) : ∀ (k d : List DV) (v : List Value), likeL ps pi hi k d = true → WL ρ θ d v → WL ρ' θ' k v := by
  intro k d v h hv
  unfold likeL at h
  split at h
  · obtain rfl := WL_nil_left hv
    exact WL_nil
  · simp only [Bool.and_eq_true] at h
    obtain ⟨u, us, rfl, e1, e2⟩ := WL_cons_left hv
    exact ⟨like_W hp hθ _ _ _ h.1 e1, like_WL hp hθ _ _ _ h.2 e2⟩
  · cases h
end
def likeC (ps : List (Lin × Lin)) (pi : List (Nat × Nat)) (hi : Nat) : List Cl → List Cl → Bool
  | [], [] => true
  | .v a :: l, .v b :: m => likeD ps pi hi a b && likeC ps pi hi l m
  | _, _ => false
theorem like_CW (hp : PsOk ps ρ' ρ) (hθ : ∀ n, 1 ≤ n → n < hi → θ' n = θ (piN pi n)) : ∀ (k d : List Cl) (vs : List Value), likeC ps pi hi k d = true → CW ρ θ d vs → CW ρ' θ' k vs := by
  intro k d vs h hv
  unfold likeC at h
  split at h
  · exact hv
  · simp only [Bool.and_eq_true] at h
    obtain ⟨u, us, rfl, h2, h4, h3⟩ := hv
    exact ⟨u, us, rfl, like_W hp hθ _ _ _ h.1 h2, h4, like_CW hp hθ _ _ _ h.2 h3⟩
  · cases h
def likeM (ps : List (Lin × Lin)) (pi : List (Nat × Nat)) (hi : Nat) : List (DV × DV) → List (DV × DV) → Bool
  | [], [] => true
  | a :: l, b :: m => likeD ps pi hi a.1 b.1 && (likeD ps pi hi a.2 b.2 && likeM ps pi hi l m)
  | _, _ => false
theorem like_EW (hp : PsOk ps ρ' ρ) (hθ : ∀ n, 1 ≤ n → n < hi → θ' n = θ (piN pi n)) : ∀ (k d : List (DV × DV)) (vs : List MapEntry), likeM ps pi hi k d = true → EW ρ θ d vs → EW ρ' θ' k vs
  | [], [], [], _, _ => trivial
  | [], [], _ :: _, _, hv => hv.elim
  | (a, a') :: l, (b, b') :: m, [], h, hv => hv.elim
  | (a, a') :: l, (b, b') :: m, e :: es, h, hv => by
    simp only [likeM, Bool.and_eq_true] at h
    exact ⟨like_W hp hθ _ _ _ h.1 hv.1, like_W hp hθ _ _ _ h.2.1 hv.2.1, like_EW hp hθ _ _ _ h.2.2 hv.2.2⟩
  | [], _ :: _, _, h, _ => by cases h
  | _ :: _, [], _, h, _ => by cases h
def likeO (ps : List (Lin × Lin)) (pi : List (Nat × Nat)) (hi : Nat) : Ob → Ob → Bool
  | .cells T cs ex, .cells T' cs' ex' => Nat.beq T T' && (likeC ps pi hi cs cs' && (ex == ex'))
  | .map es ver, .map es' ver' => inN hi ver && (Nat.beq (piN pi ver) ver' && likeM ps pi hi es es')
  | _, _ => false
theorem like_O (hp : PsOk ps ρ' ρ) (hθ : ∀ n, 1 ≤ n → n < hi → θ' n = θ (piN pi n)) {w : World} {L : Ln} {k o : Ob} (h : likeO ps pi hi k o = true) (hv : o.holds ρ θ w L) : k.holds ρ' θ' w L := by
  unfold likeO at h
  split at h
  · simp only [Bool.and_eq_true, beq_iff_eq] at h
    obtain ⟨h1, h2, h3⟩ := h
    obtain ⟨vs, sp, fz, e1, e2, e3, e4, e5⟩ := hv
    refine ⟨vs, sp, fz, by rw [nbeq h1]; exact e1, e2, like_CW hp hθ _ _ _ h2 e3, e4, fun hh => e5 (by rw [← h3]; exact hh)⟩
  · simp only [Bool.and_eq_true] at h
    obtain ⟨h1, h2, h3⟩ := h
    obtain ⟨g1, g2⟩ := inN_spec h1
    obtain ⟨V, e1, e2, ms, e3, e4, e5, e6⟩ := hv
    exact ⟨V, by rw [hθ _ g1 g2, nbeq h2]; exact e1, e2, ms, e3, e4, like_EW hp hθ _ _ _ h3 e5, e6⟩
  · cases h
end
def likeK (ps : List (Lin × Lin)) (pi : List (Nat × Nat)) (hi : Nat) (a b : KV) : Bool := match a with
  | .bad => true
  | a => match a.dv, b.dv with
    | some x, some y => likeD ps pi hi x y
    | _, _ => false
def likeKs (ps : List (Lin × Lin)) (pi : List (Nat × Nat)) (hi : Nat) : List KV → List KV → Bool
  | [], [] => true
  | a :: l, b :: m => likeK ps pi hi a b && likeKs ps pi hi l m
  | _, _ => false
theorem likeKs_get {ps : List (Lin × Lin)} {pi : List (Nat × Nat)} {hi : Nat} : ∀ {l m : List KV}, likeKs ps pi hi l m = true → ∀ p d, (l.getD p .bad).dv = some d → ∃ d', (m.getD p .bad).dv = some d' ∧ likeD ps pi hi d d' = true
  | [], [], _, p, d, h => by simp [KV.dv] at h
  | a :: l, b :: m, h, p, d, hd => by
    simp only [likeKs, Bool.and_eq_true] at h
    cases p with
    | zero =>
      have hd' : a.dv = some d := hd
      have h1 := h.1
      unfold likeK at h1
      split at h1
      · cases hd'
      · split at h1
        · rename_i x y e1 e2
          rw [hd'] at e1; cases e1
          exact ⟨y, e2, h1⟩
        · cases h1
    | succ p => exact likeKs_get h.2 p d hd
  | [], _ :: _, h, _, _, _ => by cases h
  | _ :: _, [], h, _, _, _ => by cases h
def likeH (ps : List (Lin × Lin)) (pi : List (Nat × Nat)) (hi : Nat) (s : St) : List (Nat × Ob) → Bool
  | [] => true
  | (n, o) :: l => (inN hi n && (Nat.ble s.fl (piN pi n) && (match s.get (piN pi n) with
    | some o' => likeO ps pi hi o o'
    | none => false))) && likeH ps pi hi s l
theorem likeH_get {ps : List (Lin × Lin)} {pi : List (Nat × Nat)} {hi : Nat} {s : St} : ∀ {l : List (Nat × Ob)}, likeH ps pi hi s l = true → ∀ n o, (n, o) ∈ l → (1 ≤ n ∧ n < hi) ∧ s.fl ≤ piN pi n ∧ ∃ o', s.get (piN pi n) = some o' ∧ likeO ps pi hi o o' = true
  | (m, x) :: l, h, n, o, hm => by
    simp only [likeH, Bool.and_eq_true] at h
    rcases List.mem_cons.1 hm with e | hm
    · cases e
      obtain ⟨⟨h1, h2, h3⟩, _⟩ := h
      split at h3
      · rename_i o' ho'
        exact ⟨inN_spec h1, nble h2, o', ho', h3⟩
      · cases h3
    · exact likeH_get h.2 n o hm
def memB (n : Nat) : List Nat → Bool
  | [] => false
  | m :: l => Nat.beq n m || memB n l
theorem memB_mem {n : Nat} : ∀ {l : List Nat}, n ∈ l → memB n l = true
  | m :: l, h => by
    simp only [memB, Bool.or_eq_true]
    rcases List.mem_cons.1 h with rfl | h
    · exact .inl (Nat.beq_refl _)
    · exact .inr (memB_mem h)
def distB (f : Nat → Nat) : List (Nat × Ob) → Bool
  | [] => true
  | (n, _) :: l => !(memB (f n) (l.map fun x => f x.1)) && distB f l
theorem distB_inj {f : Nat → Nat} : ∀ {l : List (Nat × Ob)}, distB f l = true → ∀ n m o o', (n, o) ∈ l → (m, o') ∈ l → f n = f m → n = m
  | (k, x) :: l, h, n, m, o, o', hn, hm, e => by
    simp only [distB, Bool.and_eq_true, Bool.not_eq_true'] at h
    rcases List.mem_cons.1 hn with e1 | hn
    · cases e1
      rcases List.mem_cons.1 hm with e2 | hm
      · cases e2; rfl
      · have := memB_mem (l := l.map fun x => f x.1) (n := f k) (by rw [e]; exact List.mem_map.2 ⟨(m, o'), hm, rfl⟩)
        rw [this] at h; cases h.1
    · rcases List.mem_cons.1 hm with e2 | hm
      · cases e2
        have := memB_mem (l := l.map fun x => f x.1) (n := f k) (by rw [← e]; exact List.mem_map.2 ⟨(n, o), hn, rfl⟩)
        rw [this] at h; cases h.1
      · exact distB_inj h.2 n m o o' hn hm e
def likeA (ps : List (Lin × Lin)) (pi : List (Nat × Nat)) (K : Ck) (e : EK) (s : St) : Bool :=
  likeKs ps pi K.nx K.e.toL.tail e.toL.tail && (likeH ps pi K.nx s K.h && distB (piN pi) K.h)
structure Hold (ρ : Rh) (θ : Tz) (w : World) (Own : Nat → Prop) (L0 : Ln) (K : Ck) : Prop where
  zero : θ 0 = some L0
  fresh : ∀ n, K.nx ≤ n → θ n = none
  pos : 1 ≤ K.nx
  res : ∀ n o, (n, o) ∈ K.h → (1 ≤ n ∧ n < K.nx) ∧ ∃ L, θ n = some L ∧ o.holds ρ θ w L ∧ Own L.b
  inj : ∀ n m o o' L M, (n, o) ∈ K.h → (m, o') ∈ K.h → θ n = some L → θ m = some M → L.b = M.b → n = m
def thN (L0 : Ln) (hi : Nat) (pi : List (Nat × Nat)) (θ : Tz) : Tz := fun n => if n = 0 then some L0 else if n < hi then θ (piN pi n) else none
theorem thN_at {L0 : Ln} {hi : Nat} {pi : List (Nat × Nat)} {θ : Tz} (n : Nat) (h1 : 1 ≤ n) (h2 : n < hi) : thN L0 hi pi θ n = θ (piN pi n) := by
  unfold thN; rw [if_neg (by omega), if_pos h2]
section
variable {ρ ρ' : Rh} {θ : Tz} {w : World} {Own : Nat → Prop} {L0 : Ln} {K : Ck} {ps : List (Lin × Lin)} {pi : List (Nat × Nat)} {s : St} {e : EK}
theorem Hold.of (hp : PsOk ps ρ' ρ) (h : likeA ps pi K e s = true) (hpos : 1 ≤ K.nx) (hs : Sat ρ θ s w) (hown : ∀ n o L, s.fl ≤ n → s.get n = some o → θ n = some L → Own L.b) : Hold ρ' (thN L0 K.nx pi θ) w Own L0 K := by
  simp only [likeA, Bool.and_eq_true] at h
  obtain ⟨_, h2, h3⟩ := h
  refine ⟨rfl, fun n hn => ?_, hpos, fun n o hm => ?_, fun n m o o' L M hn hm e1 e2 e3 => ?_⟩
  · unfold thN
    rw [if_neg (by omega), if_neg (by omega)]
  · obtain ⟨g1, g2, o', g3, g4⟩ := likeH_get h2 n o hm
    obtain ⟨L, k1, k2⟩ := hs.res _ _ g3
    exact ⟨g1, L, by rw [thN_at n g1.1 g1.2]; exact k1, like_O hp thN_at g4 k2, hown _ _ _ g2 g3 k1⟩
  · obtain ⟨g1, g2, x, g3, g4⟩ := likeH_get h2 n o hn
    obtain ⟨f1, f2, y, f3, f4⟩ := likeH_get h2 m o' hm
    rw [thN_at n g1.1 g1.2] at e1
    rw [thN_at m f1.1 f1.2] at e2
    exact distB_inj h3 n m o o' hn hm (hs.inj _ _ _ _ _ _ g3 f3 e1 e2 e3)
theorem env_of {vis0 : Vs} {a : Act} (hp : PsOk ps ρ' ρ) (h : likeA ps pi K e s = true) (he : EnvOk ρ θ (visE vis0 e) a) (h0 : ∀ t d, posOf vis0 t = some 0 → (K.e.get 0).dv = some d → ∃ v, a.tmps[t]? = some v ∧ W ρ' (thN L0 K.nx pi θ) d v) :
    EnvOk ρ' (thN L0 K.nx pi θ) (visE vis0 K.e) a := by
  simp only [likeA, Bool.and_eq_true] at h
  intro t d hd
  unfold visE at hd
  split at hd
  · rename_i p hp0
    cases p with
    | zero => exact h0 t d hp0 hd
    | succ p =>
      have hd' : (K.e.toL.tail.getD p .bad).dv = some d := hd
      obtain ⟨d', g1, g2⟩ := likeKs_get h.1 p d hd'
      obtain ⟨v, k1, k2⟩ := he t d' (by unfold visE; rw [hp0]; exact g1)
      exact ⟨v, k1, like_W hp thN_at _ _ _ g2 k2⟩
  · cases hd
theorem Hold.sat {b : Tr Ob} (h : Hold ρ θ w Own L0 K) (hb : GroundOk b 1) (hg : ∀ o, b.get 0 = some o → o.holds ρ θ w L0 ∧ ¬ Own L0.b) : Sat ρ θ ⟨b, hOf K.h, K.nx, 1⟩ w := by
  have cut : ∀ n o, (⟨b, hOf K.h, K.nx, 1⟩ : St).get n = some o → (n, o) ∈ K.h ∨ n = 0 ∧ b.get 0 = some o := fun n o hn => by
    have h1 : (match (hOf K.h).get n with | some x => x | none => b.get n) = some o := hn
    split at h1
    · rename_i x hx
      obtain ⟨o', e1, e2⟩ := hOf_get hx
      subst e1
      cases h1
      exact .inl e2
    · by_cases hn0 : n = 0
      · subst hn0; exact .inr ⟨rfl, h1⟩
      · rw [hb n (by omega)] at h1; cases h1
  refine ⟨h.pos, h.fresh, fun n o hn => ?_, fun n m o o' L M hn hm e1 e2 e3 => ?_⟩
  · rcases cut n o hn with g | ⟨rfl, g⟩
    · obtain ⟨_, L, k1, k2, _⟩ := h.res n o g
      exact ⟨L, k1, k2⟩
    · exact ⟨L0, h.zero, (hg o g).1⟩
  · rcases cut n o hn with g | ⟨q, g⟩
    · rcases cut m o' hm with f | ⟨r, f⟩
      · exact h.inj n m o o' L M g f e1 e2 e3
      · obtain ⟨_, L', k1, _, k3⟩ := h.res n o g
        rw [k1] at e1; cases e1
        rw [r, h.zero] at e2; cases e2
        exact absurd (by rw [← e3]; exact k3) (hg o' f).2
    · rcases cut m o' hm with f | ⟨r, f⟩
      · obtain ⟨_, L', k1, _, k3⟩ := h.res m o' f
        rw [k1] at e2; cases e2
        rw [q, h.zero] at e1; cases e1
        exact absurd (by rw [e3]; exact k3) (hg o g).2
      · rw [q, r]
theorem Hold.own {b : Tr Ob} (h : Hold ρ θ w Own L0 K) (hb : GroundOk b 1) : ∀ n o L, 1 ≤ n → (⟨b, hOf K.h, K.nx, 1⟩ : St).get n = some o → θ n = some L → Own L.b := fun n o L hn ho hL => by
  have h1 : (match (hOf K.h).get n with | some x => x | none => b.get n) = some o := ho
  split at h1
  · rename_i x hx
    obtain ⟨o', e1, e2⟩ := hOf_get hx
    subst e1
    cases h1
    obtain ⟨_, L', k1, _, k3⟩ := h.res n o e2
    rw [k1] at hL; cases hL
    exact k3
  · rw [hb n hn] at h1; cases h1
end
end
end Go.Q

set_option maxRecDepth 100000
namespace Go.Q
noncomputable section
open Go.RowKit Go.Proofs
open Go.Z hiding cond_false get resF
noncomputable section
def nowG : Lin := ⟨2, [(0, 1)]⟩
def alG : Lin := ⟨0, [(1, 1)]⟩
def hW (p : Bool) (A : Lin) : List (Nat × Ob) := [(29, .map [((.n .i64 (lit 1)), (.p 50 (lit 0)))] 51),
  (31, .map [((.n .i64 (lit 1)), (.n .i64 (lit 0)))] 125),
  (32, .cells 173 [.v (.l 105 2 (lit 0) (lit 1) none (lit 0)), .v (.m 31)] true),
  (34, .map [((.n .u32 (lit 1)), (.a [(.n .i64 (lit (-1))), (.n .u32 (lit 0)), (.n .i64 (lit 1)), (.n .i64 (lit 1)), (.n .i64 (lit 41)), (.c (.bool true)), (.c (.bool true)), (.c (.bool false)), (.c (.bool false)), (.n .u32 (lit 9300)), (.n .u32 (lit 9400)), (.n .u32 (lit 0)), (.n .u32 (lit 5242881)), (.l 944 5 (lit 0) (lit 4) none (lit 0)), (.n .i64 (lit 1))]))] 953),
  (35, .cells 176 [.v (.m 34), .v (.n .u32 (lit 1)), .v (.n .i64 (lit 1))] true),
  (36, .cells 105 [.v (.s [y 97]), .v (.s [y 108, y 101, y 102, y 116]), .v (.c (.bool false)), .v (.l 38 1 (lit 0) (lit 1) none (lit 0)), .v (.l 40 2 (lit 0) (lit 1) none (lit 0)), .v (.c (.slice none 0 0)), .v (.n .i64 (lit 100)), .v (.n .i64 (lit 50)), .v (.n .i64 (lit 40)), .v (.n .i64 (lit 20)), .v (.n .i64 (lit 0)), .v (.n .i64 (lit 5)), .v (.l 49 1 (lit 0) (lit 2) none (lit 0)), .v (.m 29), .v (.p 32 (lit 0)), .v (.p 35 (lit 0)), .v (.p 52 (lit 0)), .v (.c (.bool true)), .v (.n .i64 (lit 1)), .v (.c (.slice none 0 0)), .v (.c (.slice none 0 0)), .v (.c (.slice none 0 0)), .v (.c (.slice none 0 0))] true),
  (38, .cells 3 [.v (.n .i64 (lit 1))] false),
  (40, .cells 91 [.v (.s [y 114, y 105, y 103, y 104, y 116]), .v (.l 43 1 (lit 0) (lit 1) none (lit 0))] false),
  (43, .cells 3 [.v (.n .i64 (lit 1))] false),
  (49, .cells 9 [.v (.s [y 97]), .v (.s [y 98])] false),
  (50, .cells 111 [.v (.n .i64 (lit 1)), .v (.c (.bool p)), .v (.n .i64 (lit 0)), .v (.c (.bool true)), .v (.n .i64 (lit 5)), .v (.n .i64 (lit 1)), .v (.c (.bool false)), .v (.c (.bool false)), .v (.c (.bool false)), .v (.c (.bool false)), .v (.n .u32 (lit 0)), .v (.n .u32 (lit 0)), .v (.n .u32 (lit 0)), .v (.n .u32 (lit 0)), .v (.c (.slice none 0 0)), .v (.c (.bool false)), .v (.c (.bool false)), .v (.c (.bool false)), .v (.c (.bool false)), .v (.n .u32 (lit 0)), .v (.n .u32 (lit 0)), .v (.n .u32 (lit 0)), .v (.n .u32 (lit 0)), .v (.c (.slice none 0 0))] true),
  (52, .cells 179 [.v (.n .i64 (lit 100)), .v (.n .i64 (lit 50)), .v (.c (.slice none 0 0)), .v (.n .i64 (lit 0))] true),
  (82, .map [((.n .i64 (lit 0)), (.p 98 (lit 0)))] 99),
  (84, .map [((.n .i64 (lit 0)), (.n .i64 (lit 0)))] 155),
  (85, .cells 173 [.v (.l 135 2 (lit 0) (lit 1) none (lit 0)), .v (.m 84)] true),
  (87, .map [] 86),
  (88, .cells 176 [.v (.m 87), .v (.n .u32 (lit 0)), .v (.n .i64 (lit 0))] true),
  (89, .cells 105 [.v (.s [y 98]), .v (.s [y 114, y 105, y 103, y 104, y 116]), .v (.c (.bool true)), .v (.l 91 1 (lit 0) (lit 1) none (lit 0)), .v (.c (.slice none 0 0)), .v (.c (.slice none 0 0)), .v (.n .i64 (lit 100)), .v (.n .i64 (lit 50)), .v (.n .i64 (lit 40)), .v (.n .i64 (lit 20)), .v (.n .i64 (lit 1)), .v (.n .i64 (lit 6)), .v (.l 97 1 (lit 0) (lit 2) none (lit 0)), .v (.m 82), .v (.p 85 (lit 0)), .v (.p 88 (lit 0)), .v (.p 100 (lit 0)), .v (.c (.bool true)), .v (.n .i64 (lit 0)), .v (.c (.slice none 0 0)), .v (.c (.slice none 0 0)), .v (.c (.slice none 0 0)), .v (.c (.slice none 0 0))] true),
  (91, .cells 3 [.v (.n .i64 (lit 0))] false),
  (97, .cells 9 [.v (.s [y 97]), .v (.s [y 98])] false),
  (98, .cells 111 [.v (.n .i64 (lit 1)), .v (.c (.bool false)), .v (.n .i64 (lit 0)), .v (.c (.bool true)), .v (.n .i64 (lit 6)), .v (.n .i64 (lit 1)), .v (.c (.bool true)), .v (.c (.bool false)), .v (.c (.bool false)), .v (.c (.bool false)), .v (.n .u32 (lit 257)), .v (.n .u32 (lit 0)), .v (.n .u32 (lit 0)), .v (.n .u32 (lit 0)), .v (.l 370 5 (lit 0) (lit 3) none (lit 0)), .v (.c (.bool false)), .v (.c (.bool false)), .v (.c (.bool false)), .v (.c (.bool false)), .v (.n .u32 (lit 0)), .v (.n .u32 (lit 0)), .v (.n .u32 (lit 0)), .v (.n .u32 (lit 0)), .v (.c (.slice none 0 0))] true),
  (100, .cells 179 [.v (.n .i64 (lit 100)), .v (.n .i64 (lit 50)), .v (.c (.slice none 0 0)), .v (.n .i64 (lit 0))] true),
  (105, .cells 148 [.v (.n .i64 (lit 1)), .v (.n .i64 A)] false),
  (135, .cells 148 [.v (.n .i64 (lit 0)), .v (.n .i64 (lit 21))] false),
  (347, .cells 5 [u 97] false),
  (357, .cells 5 [u 108, u 101, u 102, u 116] false),
  (367, .cells 5 [u 0, u 0, u 0, u 5] false),
  (370, .cells 43 [.v (.n .u32 (lit 264)), .v (.n .u32 (lit 0)), .v (.c (.bool true)), .v (.c (.bool false)), .v (.l 347 1 (lit 0) (lit 1) none (lit 0)), .v (.n .u32 (lit 296)), .v (.n .u32 (lit 0)), .v (.c (.bool true)), .v (.c (.bool false)), .v (.l 357 1 (lit 0) (lit 4) none (lit 0)), .v (.n .u32 (lit 278)), .v (.n .u32 (lit 0)), .v (.c (.bool true)), .v (.c (.bool false)), .v (.l 367 1 (lit 0) (lit 4) none (lit 0))] false),
  (944, .cells 43 [.v (.n .u32 (lit 264)), .v (.n .u32 (lit 0)), .v (.c (.bool true)), .v (.c (.bool false)), .v (.l 946 1 (lit 0) (lit 1) none (lit 0)), .v (.n .u32 (lit 296)), .v (.n .u32 (lit 0)), .v (.c (.bool true)), .v (.c (.bool false)), .v (.l 948 1 (lit 0) (lit 4) none (lit 0)), .v (.n .u32 (lit 283)), .v (.n .u32 (lit 0)), .v (.c (.bool true)), .v (.c (.bool false)), .v (.l 950 1 (lit 0) (lit 5) none (lit 0)), .v (.n .u32 (lit 9100)), .v (.n .u32 (lit 0)), .v (.c (.bool true)), .v (.c (.bool false)), .v (.l 952 1 (lit 0) (lit 1) none (lit 0))] false),
  (946, .cells 5 [u 97] false),
  (948, .cells 5 [u 108, u 101, u 102, u 116] false),
  (950, .cells 5 [u 114, u 105, u 103, u 104, u 116] false),
  (952, .cells 5 [u 120] false),
  (1118, .cells 5 [u 97] true),
  (1119, .cells 5 [u 108, u 101, u 102, u 116] true),
  (1120, .cells 43 [.v (.n .u32 (lit 264)), .v (.n .u32 (lit 0)), .v (.c (.bool true)), .v (.c (.bool false)), .v (.l 1118 1 (lit 0) (lit 1) none (lit 0)), .v (.n .u32 (lit 296)), .v (.n .u32 (lit 0)), .v (.c (.bool true)), .v (.c (.bool false)), .v (.l 1119 1 (lit 0) (lit 4) none (lit 0))] true),
  (1121, .cells 5 [u 98] true),
  (1122, .cells 5 [u 114, u 105, u 103, u 104, u 116] true),
  (1123, .cells 43 [.v (.n .u32 (lit 264)), .v (.n .u32 (lit 0)), .v (.c (.bool true)), .v (.c (.bool false)), .v (.l 1121 1 (lit 0) (lit 1) none (lit 0)), .v (.n .u32 (lit 296)), .v (.n .u32 (lit 0)), .v (.c (.bool true)), .v (.c (.bool false)), .v (.l 1122 1 (lit 0) (lit 5) none (lit 0))] true),
  (1124, .cells 83 [.v (.n .i64 (lit 1)), .v (.c (.bool p)), .v (.n .i64 (lit 0))] true)]
def kW (p : Bool) (A : Lin) (sy : KV) : Ck := ⟨⟨sy, .b false, .d (.p 36 (lit 0)), .d (.p 89 (lit 0)), .d (.l 1120 5 (lit 0) (lit 2) none (lit 0)), .d (.l 1123 5 (lit 0) (lit 2) none (lit 0)), .d (.p 1124 (lit 0)), .d (.n .i64 A), .d (.n .i64 nowG), .bad, .bad, .bad, .bad, .bad, .bad, .bad, .bad, .bad, .bad, .bad, .bad, .bad, .bad, .bad, .bad, .bad, .bad, .bad, .bad, .bad, .bad, .bad, .bad, .bad, .bad, .bad, .bad, .bad, .bad, .bad⟩, hW p A, 1125⟩
def kG (p : Bool) : Ck := kW p alG (.d (.x 0))
def k0W (sy : KV) : Ck := ⟨⟨sy, .b false, .d (.p 37 (lit 0)), .d (.p 90 (lit 0)), .d (.l 1121 5 (lit 0) (lit 2) none (lit 0)), .d (.l 1124 5 (lit 0) (lit 2) none (lit 0)), .d (.p 1125 (lit 0)), .i .i64 21, .i .i64 2, .bad, .bad, .bad, .bad, .bad, .bad, .bad, .bad, .bad, .bad, .b false, .bad, .bad, .bad, .bad, .bad, .bad, .bad, .bad, .bad, .bad, .bad, .bad, .bad, .bad, .bad, .bad, .bad, .bad, .bad, .bad⟩, [(30, .map [((.n .i64 (lit 1)), (.p 51 (lit 0)))] 52),
  (32, .map [((.n .i64 (lit 1)), (.n .i64 (lit 0)))] 126),
  (33, .cells 173 [.v (.l 106 2 (lit 0) (lit 1) none (lit 0)), .v (.m 32)] true),
  (35, .map [((.n .u32 (lit 1)), (.a [(.n .i64 (lit (-1))), (.n .u32 (lit 0)), (.n .i64 (lit 1)), (.n .i64 (lit 1)), (.n .i64 (lit 41)), (.c (.bool true)), (.c (.bool true)), (.c (.bool false)), (.c (.bool false)), (.n .u32 (lit 9300)), (.n .u32 (lit 9400)), (.n .u32 (lit 0)), (.n .u32 (lit 5242881)), (.l 945 5 (lit 0) (lit 4) none (lit 0)), (.n .i64 (lit 1))]))] 954),
  (36, .cells 176 [.v (.m 35), .v (.n .u32 (lit 1)), .v (.n .i64 (lit 1))] true),
  (37, .cells 105 [.v (.s [y 97]), .v (.s [y 108, y 101, y 102, y 116]), .v (.c (.bool false)), .v (.l 39 1 (lit 0) (lit 1) none (lit 0)), .v (.l 41 2 (lit 0) (lit 1) none (lit 0)), .v (.c (.slice none 0 0)), .v (.n .i64 (lit 100)), .v (.n .i64 (lit 50)), .v (.n .i64 (lit 40)), .v (.n .i64 (lit 20)), .v (.n .i64 (lit 0)), .v (.n .i64 (lit 5)), .v (.l 50 1 (lit 0) (lit 2) none (lit 0)), .v (.m 30), .v (.p 33 (lit 0)), .v (.p 36 (lit 0)), .v (.p 53 (lit 0)), .v (.c (.bool true)), .v (.n .i64 (lit 1)), .v (.c (.slice none 0 0)), .v (.c (.slice none 0 0)), .v (.c (.slice none 0 0)), .v (.c (.slice none 0 0))] true),
  (39, .cells 3 [.v (.n .i64 (lit 1))] false),
  (41, .cells 91 [.v (.s [y 114, y 105, y 103, y 104, y 116]), .v (.l 44 1 (lit 0) (lit 1) none (lit 0))] false),
  (44, .cells 3 [.v (.n .i64 (lit 1))] false),
  (50, .cells 9 [.v (.s [y 97]), .v (.s [y 98])] false),
  (51, .cells 111 [.v (.n .i64 (lit 1)), .v (.c (.bool false)), .v (.n .i64 (lit 0)), .v (.c (.bool true)), .v (.n .i64 (lit 5)), .v (.n .i64 (lit 1)), .v (.c (.bool false)), .v (.c (.bool false)), .v (.c (.bool false)), .v (.c (.bool false)), .v (.n .u32 (lit 0)), .v (.n .u32 (lit 0)), .v (.n .u32 (lit 0)), .v (.n .u32 (lit 0)), .v (.c (.slice none 0 0)), .v (.c (.bool false)), .v (.c (.bool false)), .v (.c (.bool false)), .v (.c (.bool false)), .v (.n .u32 (lit 0)), .v (.n .u32 (lit 0)), .v (.n .u32 (lit 0)), .v (.n .u32 (lit 0)), .v (.c (.slice none 0 0))] true),
  (53, .cells 179 [.v (.n .i64 (lit 100)), .v (.n .i64 (lit 50)), .v (.c (.slice none 0 0)), .v (.n .i64 (lit 0))] true),
  (83, .map [((.n .i64 (lit 0)), (.p 99 (lit 0)))] 100),
  (85, .map [((.n .i64 (lit 0)), (.n .i64 (lit 0)))] 156),
  (86, .cells 173 [.v (.l 136 2 (lit 0) (lit 1) none (lit 0)), .v (.m 85)] true),
  (88, .map [] 87),
  (89, .cells 176 [.v (.m 88), .v (.n .u32 (lit 0)), .v (.n .i64 (lit 0))] true),
  (90, .cells 105 [.v (.s [y 98]), .v (.s [y 114, y 105, y 103, y 104, y 116]), .v (.c (.bool true)), .v (.l 92 1 (lit 0) (lit 1) none (lit 0)), .v (.c (.slice none 0 0)), .v (.c (.slice none 0 0)), .v (.n .i64 (lit 100)), .v (.n .i64 (lit 50)), .v (.n .i64 (lit 40)), .v (.n .i64 (lit 20)), .v (.n .i64 (lit 1)), .v (.n .i64 (lit 6)), .v (.l 98 1 (lit 0) (lit 2) none (lit 0)), .v (.m 83), .v (.p 86 (lit 0)), .v (.p 89 (lit 0)), .v (.p 101 (lit 0)), .v (.c (.bool true)), .v (.n .i64 (lit 0)), .v (.c (.slice none 0 0)), .v (.c (.slice none 0 0)), .v (.c (.slice none 0 0)), .v (.c (.slice none 0 0))] true),
  (92, .cells 3 [.v (.n .i64 (lit 0))] false),
  (98, .cells 9 [.v (.s [y 97]), .v (.s [y 98])] false),
  (99, .cells 111 [.v (.n .i64 (lit 1)), .v (.c (.bool false)), .v (.n .i64 (lit 0)), .v (.c (.bool true)), .v (.n .i64 (lit 6)), .v (.n .i64 (lit 1)), .v (.c (.bool true)), .v (.c (.bool false)), .v (.c (.bool false)), .v (.c (.bool false)), .v (.n .u32 (lit 257)), .v (.n .u32 (lit 0)), .v (.n .u32 (lit 0)), .v (.n .u32 (lit 0)), .v (.l 371 5 (lit 0) (lit 3) none (lit 0)), .v (.c (.bool false)), .v (.c (.bool false)), .v (.c (.bool false)), .v (.c (.bool false)), .v (.n .u32 (lit 0)), .v (.n .u32 (lit 0)), .v (.n .u32 (lit 0)), .v (.n .u32 (lit 0)), .v (.c (.slice none 0 0))] true),
  (101, .cells 179 [.v (.n .i64 (lit 100)), .v (.n .i64 (lit 50)), .v (.c (.slice none 0 0)), .v (.n .i64 (lit 0))] true),
  (106, .cells 148 [.v (.n .i64 (lit 1)), .v (.n .i64 (lit 21))] false),
  (136, .cells 148 [.v (.n .i64 (lit 0)), .v (.n .i64 (lit 21))] false),
  (348, .cells 5 [u 97] false),
  (358, .cells 5 [u 108, u 101, u 102, u 116] false),
  (368, .cells 5 [u 0, u 0, u 0, u 5] false),
  (371, .cells 43 [.v (.n .u32 (lit 264)), .v (.n .u32 (lit 0)), .v (.c (.bool true)), .v (.c (.bool false)), .v (.l 348 1 (lit 0) (lit 1) none (lit 0)), .v (.n .u32 (lit 296)), .v (.n .u32 (lit 0)), .v (.c (.bool true)), .v (.c (.bool false)), .v (.l 358 1 (lit 0) (lit 4) none (lit 0)), .v (.n .u32 (lit 278)), .v (.n .u32 (lit 0)), .v (.c (.bool true)), .v (.c (.bool false)), .v (.l 368 1 (lit 0) (lit 4) none (lit 0))] false),
  (945, .cells 43 [.v (.n .u32 (lit 264)), .v (.n .u32 (lit 0)), .v (.c (.bool true)), .v (.c (.bool false)), .v (.l 947 1 (lit 0) (lit 1) none (lit 0)), .v (.n .u32 (lit 296)), .v (.n .u32 (lit 0)), .v (.c (.bool true)), .v (.c (.bool false)), .v (.l 949 1 (lit 0) (lit 4) none (lit 0)), .v (.n .u32 (lit 283)), .v (.n .u32 (lit 0)), .v (.c (.bool true)), .v (.c (.bool false)), .v (.l 951 1 (lit 0) (lit 5) none (lit 0)), .v (.n .u32 (lit 9100)), .v (.n .u32 (lit 0)), .v (.c (.bool true)), .v (.c (.bool false)), .v (.l 953 1 (lit 0) (lit 1) none (lit 0))] false),
  (947, .cells 5 [u 97] false),
  (949, .cells 5 [u 108, u 101, u 102, u 116] false),
  (951, .cells 5 [u 114, u 105, u 103, u 104, u 116] false),
  (953, .cells 5 [u 120] false),
  (1119, .cells 5 [u 97] true),
  (1120, .cells 5 [u 108, u 101, u 102, u 116] true),
  (1121, .cells 43 [.v (.n .u32 (lit 264)), .v (.n .u32 (lit 0)), .v (.c (.bool true)), .v (.c (.bool false)), .v (.l 1119 1 (lit 0) (lit 1) none (lit 0)), .v (.n .u32 (lit 296)), .v (.n .u32 (lit 0)), .v (.c (.bool true)), .v (.c (.bool false)), .v (.l 1120 1 (lit 0) (lit 4) none (lit 0))] true),
  (1122, .cells 5 [u 98] true),
  (1123, .cells 5 [u 114, u 105, u 103, u 104, u 116] true),
  (1124, .cells 43 [.v (.n .u32 (lit 264)), .v (.n .u32 (lit 0)), .v (.c (.bool true)), .v (.c (.bool false)), .v (.l 1122 1 (lit 0) (lit 1) none (lit 0)), .v (.n .u32 (lit 296)), .v (.n .u32 (lit 0)), .v (.c (.bool true)), .v (.c (.bool false)), .v (.l 1123 1 (lit 0) (lit 5) none (lit 0))] true),
  (1125, .cells 83 [.v (.n .i64 (lit 1)), .v (.c (.bool false)), .v (.n .i64 (lit 0))] true)], 1126⟩
def piW : List (Nat × Nat) := [(29, 30), (31, 32), (32, 33), (34, 35), (35, 36), (36, 37), (38, 39), (40, 41), (43, 44), (49, 50), (50, 51), (51, 52), (52, 53), (82, 83), (84, 85), (85, 86), (86, 87), (87, 88), (88, 89), (89, 90), (91, 92), (97, 98), (98, 99), (99, 100), (100, 101), (105, 106), (125, 126), (135, 136), (155, 156), (347, 348), (357, 358), (367, 368), (370, 371), (944, 945), (946, 947), (948, 949), (950, 951), (952, 953), (953, 954), (1118, 1119), (1119, 1120), (1120, 1121), (1121, 1122), (1122, 1123), (1123, 1124), (1124, 1125)]
def grd : Tr Ob := match Tr.put 64 (.nil : Tr Ob) 0 (.win ⟨0, [(4, 1)]⟩ [.b 0, .v (.n .u8 ⟨0, [(3, 1)]⟩), .b 1]) with
  | some b => b
  | none => .nil
def grdW : Tr Ob := match Tr.put 64 (.nil : Tr Ob) 0 (.win ⟨0, [(4, 1)]⟩ [.b 0]) with
  | some b => b
  | none => .nil
end
end
end Go.Q

set_option maxRecDepth 100000
namespace Go.Q
noncomputable section
open Go.RowKit Go.Proofs
open Go.Z hiding cond_false get resF
noncomputable section
def aW (n A : Int) : Nat → Int
  | 0 => n
  | 1 => A
  | _ => 0
def rhoG (n A : Int) (vs : Value) : Rh := ⟨aW n A, fun _ => [], fun _ => vs⟩
structure KeptW (w : World) (Own : Nat → Prop) (w' : World) : Prop where
  env : w'.os = w.os ∧ w'.tape = w.tape ∧ w'.output = w.output
  size : w.heap.size ≤ w'.heap.size
  still : ∀ b, b < w.heap.size → ¬ Own b → w'.heap[b]? = w.heap[b]?
structure WInv (vis0 : Vs) (w : World) (Own : Nat → Prop) (L0 : Ln) (vs : Value) (n : Nat) (p : Bool) (A : Int) (a : Act) (w' : World) : Prop where
  ok : ∃ θ, Hold (rhoG n A vs) θ w' Own L0 (kG p) ∧ EnvOk (rhoG n A vs) θ (visE vis0 (kG p).e) a
  kept : KeptW w Own w'
theorem likeA_eq {ps : List (Lin × Lin)} {pi : List (Nat × Nat)} {K : Ck} {e : EK} {b b' : Tr Ob} {h : List (Nat × Ob)} {nx : Nat} (hb : GroundOk b 1) (hb' : GroundOk b' 1) (hl : likeA ps pi K e ⟨b, hOf h, nx, 1⟩ = true) : likeA ps pi K e ⟨b', hOf h, nx, 1⟩ = true := by
  simp only [likeA, Bool.and_eq_true] at hl ⊢
  obtain ⟨h1, h2, h3⟩ := hl
  refine ⟨h1, ?_, h3⟩
  have key : ∀ l, likeH ps pi K.nx ⟨b, hOf h, nx, 1⟩ l = true → likeH ps pi K.nx ⟨b', hOf h, nx, 1⟩ l = true := by
    intro l
    induction l with
    | nil => intro _; rfl
    | cons x l ih =>
      obtain ⟨n, o⟩ := x
      intro hh
      simp only [likeH, Bool.and_eq_true] at hh ⊢
      obtain ⟨⟨g1, g2, g3⟩, g4⟩ := hh
      refine ⟨⟨g1, g2, ?_⟩, ih g4⟩
      have e1 : (⟨b', hOf h, nx, 1⟩ : St).get (piN pi n) = (⟨b, hOf h, nx, 1⟩ : St).get (piN pi n) := by
        have hn : 1 ≤ piN pi n := nble g2
        show (match (hOf h).get (piN pi n) with | some x => x | none => b'.get (piN pi n)) = (match (hOf h).get (piN pi n) with | some x => x | none => b.get (piN pi n))
        rw [hb _ hn, hb' _ hn]
      rw [e1]; exact g3
  exact key _ h2
structure Rn where
  Γ : Cx
  b : Tr Ob
  sy : DV
  p : Bool
  A : Lin
  p' : Bool
  A' : Lin
  pi : List (Nat × Nat)
def Rn.k (r : Rn) : Ck := kW r.p r.A (.d r.sy)
def Rn.st (r : Rn) : St := ⟨r.b, hOf r.k.h, 1125, 1⟩
def Rn.cv (r : Rn) : Bool := likeA [(nowG, nowG), (r.A, alG)] [] r.k (kG r.p).e ⟨.nil, hOf (kG r.p).h, 1125, 1⟩
def Rn.go (r : Rn) : Bool := @O3.rec (fun _ => Bool) false (fun e s => likeA [(nowG, ⟨3, [(0, 1)]⟩), (alG, r.A')] r.pi (kG r.p') e s && (match e.a0 with | .d x => x.eqb r.sy | _ => false)) (fun _ _ _ => false) (fun _ _ => false) (fun _ => false) ((bodyAt r.Γ 11 13).r (cS r.Γ) r.k.e r.st)
def Rn.out (r : Rn) : Bool := @O3.rec (fun _ => Bool) false (fun _ _ => false) (fun j _ _ => Nat.beq 0 j) (fun _ _ => false) (fun _ => false) ((bodyAt r.Γ 11 13).r (cS r.Γ) r.k.e r.st)
section
variable {fn : Func} {vis0 : Vs} {N : Nat} {c : Code} {w : World} {Own : Nat → Prop} {L0 : Ln} {vs : Value} {ρr : Rh} {r : Rn} {n : Nat} {A A' : Int} {a : Act} {w' : World}
theorem w_in (hvis : posOf vis0 0 = some 0) (huniq : ∀ t, posOf vis0 t = some 0 → t = 0) (hb : GroundOk r.b 1) (hcv : r.cv = true) (hn : ρr.a 0 = n) (hA : r.A.ev ρr.a = A)
    (hsy : ∀ θ : Tz, θ 0 = some L0 → W ρr θ r.sy vs) (hg : ∀ θ o, r.b.get 0 = some o → o.holds ρr θ w' L0 ∧ ¬ Own L0.b) (h : WInv vis0 w Own L0 vs n r.p A a w') :
    ∃ θ, θ 0 = some L0 ∧ Sat ρr θ r.st w' ∧ EnvOk ρr θ (visE vis0 r.k.e) a ∧ ∀ m o L, 1 ≤ m → r.st.get m = some o → θ m = some L → Own L.b := by
  obtain ⟨θ0, h1, h2⟩ := h.ok
  have hp : PsOk [(nowG, nowG), (r.A, alG)] ρr (rhoG n A vs) := fun q hq => by
    rcases List.mem_cons.1 hq with rfl | hq
    · show nowG.ev ρr.a = nowG.ev (aW n A)
      simp only [nowG, Lin.ev, evT, hn, aW]
    · obtain rfl := List.mem_singleton.1 hq
      show r.A.ev ρr.a = alG.ev (aW n A)
      rw [hA]; simp only [alG, Lin.ev, evT, aW]; omega
  have hs : Sat (rhoG n A vs) θ0 ⟨.nil, hOf (kG r.p).h, 1125, 1⟩ w' := h1.sat (fun m _ => Tr.get_nil m) fun o ho => by rw [Tr.get_nil] at ho; cases ho
  have hown := h1.own (b := .nil) (fun m _ => Tr.get_nil m)
  have hh : Hold ρr (thN L0 r.k.nx [] θ0) w' Own L0 r.k := Hold.of hp hcv (show 1 ≤ 1125 by decide) hs hown
  refine ⟨_, rfl, hh.sat hb (hg _), env_of hp hcv h2 fun t d ht hd => ?_, hh.own hb⟩
  obtain rfl := huniq t ht
  have hd' : some r.sy = some d := hd
  cases hd'
  obtain ⟨v, k1, k2⟩ := h2 0 (.x 0) (by unfold visE; rw [hvis]; rfl)
  simp only [W] at k2
  subst k2
  exact ⟨_, k1, hsy _ rfl⟩
theorem kept_go {θ θ1 : Tz} {s s1 : St} {w1 : World} (hk : KeptW w Own w') (hown : ∀ b, w.heap.size ≤ b → Own b) (g : Gon ρr θ s w' θ1 s1 w1) (hfl : s.fl = 1) (ho : ∀ m o L, 1 ≤ m → s.get m = some o → θ m = some L → Own L.b) :
    KeptW w Own w1 ∧ ∀ m o L, 1 ≤ m → s1.get m = some o → θ1 m = some L → Own L.b := by
  refine ⟨⟨⟨g.env.1.trans hk.env.1, g.env.2.1.trans hk.env.2.1, g.env.2.2.trans hk.env.2.2⟩, Nat.le_trans hk.size g.size, fun b hb hno => ?_⟩, fun m o L hm h1 h2 => ?_⟩
  · rw [g.still b (Nat.lt_of_lt_of_le hb hk.size) fun m o L h1 h2 h3 e => hno (by rw [← e]; exact ho m o L (by omega) h2 h3)]
    exact hk.still b hb hno
  · rcases g.own m o L (by omega) h1 h2 with h3 | ⟨m', o', M, h3, h4, h5, h6⟩
    · exact hown _ (Nat.le_trans hk.size h3)
    · rw [← h6]; exact ho m' o' M (by omega) h4 h5
theorem w_round (hvis : posOf vis0 0 = some 0) (huniq : ∀ t, posOf vis0 t = some 0 → t = 0) (hC : CallOk ρr tP (cS r.Γ)) (hB : Snd ρr tP fn vis0 N vis0 (bodyAt r.Γ 11 13) (fun Q a w => c.wp tP Q a w)) (hown : ∀ b, w.heap.size ≤ b → Own b)
    (hb : GroundOk r.b 1) (hcv : r.cv = true) (hgo : r.go = true) (hn : ρr.a 0 = n) (hA : r.A.ev ρr.a = A) (hA' : r.A'.ev ρr.a = A') (hsy : ∀ θ : Tz, θ 0 = some L0 → W ρr θ r.sy vs)
    (hg : ∀ θ o, r.b.get 0 = some o → o.holds ρr θ w' L0 ∧ ¬ Own L0.b) (h : WInv vis0 w Own L0 vs n r.p A a w') (hN : SzOk N a) {Q : Exit → Act → World → Prop} (hQ : ∀ a1 w1, WInv vis0 w Own L0 vs (n + 1) r.p' A' a1 w1 → SzOk N a1 → Q .normal a1 w1) : c.wp tP Q a w' := by
  obtain ⟨θ, hz0, hs, he, ho⟩ := w_in hvis huniq hb hcv hn hA hsy hg h
  unfold Rn.go at hgo
  cases hr : (bodyAt r.Γ 11 13).r (cS r.Γ) r.k.e r.st with
  | n e1 s1 =>
    rw [hr] at hgo
    replace hgo : (likeA [(nowG, ⟨3, [(0, 1)]⟩), (alG, r.A')] r.pi (kG r.p') e1 s1 && (match e1.a0 with | .d x => x.eqb r.sy | _ => false)) = true := hgo
    simp only [Bool.and_eq_true] at hgo
    obtain ⟨hl, h0⟩ := hgo
    refine hB (cS r.Γ) hC r.k.e θ r.st a w' [.n e1 s1] _ hs he hN (by rw [hr]; rfl) ⟨fun e2 s2 hin θ2 a2 w2 g2 he2 hN2 => ?_, fun i2 e2 s2 hin => (by simp at hin), fun d2 s2 hin => (by simp at hin)⟩
    simp only [List.mem_singleton, XK.n.injEq] at hin
    obtain ⟨rfl, rfl⟩ := hin
    obtain ⟨hk1, ho1⟩ := kept_go h.kept hown g2 rfl ho
    have hp : PsOk [(nowG, ⟨3, [(0, 1)]⟩), (alG, r.A')] (rhoG (n + 1 : Nat) A' vs) ρr := fun q hq => by
      rcases List.mem_cons.1 hq with rfl | hq
      · show nowG.ev (aW (n + 1 : Nat) A') = (⟨3, [(0, 1)]⟩ : Lin).ev ρr.a
        simp only [nowG, Lin.ev, evT, hn, aW]; push_cast; omega
      · obtain rfl := List.mem_singleton.1 hq
        show alG.ev (aW (n + 1 : Nat) A') = r.A'.ev ρr.a
        rw [hA']; simp only [alG, Lin.ev, evT, aW]; omega
    have hfl : s2.fl = 1 := g2.fl
    have hz : θ2 0 = some L0 := by rw [g2.agree 0 (by show 0 < 1125; decide)]; exact hz0
    exact hQ _ _ ⟨⟨_, Hold.of hp hl (show 1 ≤ 1125 by decide) g2.sat (fun m o L hm h1 h2 => ho1 m o L (by omega) h1 h2), env_of hp hl he2 fun t d ht hd => by
      obtain rfl := huniq t ht
      have hd' : some (DV.x 0) = some d := hd
      cases hd'
      split at h0
      · rename_i x hx
        have e0 := DV.eqb_eq _ _ h0
        subst e0
        obtain ⟨v, k1, k2⟩ := he2 0 r.sy (by unfold visE; rw [hvis]; show (EK.get e2 0).dv = _; show e2.a0.dv = _; rw [hx]; rfl)
        refine ⟨v, k1, ?_⟩
        show v = vs
        exact W_fun _ _ _ (hsy θ2 hz) k2
      · cases h0⟩, hk1⟩ hN2
  | _ => rw [hr] at hgo; cases hgo
end
end
end
end Go.Q

