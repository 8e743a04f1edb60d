/- Code, symbolically: sound. -/
import Derived.Test.YtgnfpcjndhnglaaX22
import Derived.Deep.LoopGhost
namespace Go.X
open Go.RowKit

theorem nodupB_ren : ∀ {ρ : Ren} {i j m : Nat}, nodupB (ownMs ρ) = true → ρ[i]? = some (some m, true) → ρ[j]? = some (some m, true) → i = j := by
  have mem : ∀ {ρ : Ren} {i m : Nat}, ρ[i]? = some (some m, true) → m ∈ ownMs ρ := by
    intro ρ
    induction ρ with
    | nil => intro i m h; simp at h
    | cons x ρ ih =>
      intro i m h
      have sub : ∀ n, n ∈ ownMs ρ → n ∈ ownMs (x :: ρ) := by
        intro n hn
        obtain ⟨a, b⟩ := x
        cases a with
        | none => exact hn
        | some a => cases b with
          | false => exact hn
          | true => exact .tail _ hn
      cases i with
      | zero => simp at h; subst h; exact .head _
      | succ i => simp at h; exact sub _ (ih h)
  intro ρ
  induction ρ with
  | nil => intro i j m _ h; simp at h
  | cons x ρ ih =>
    intro i j m hn hi hj
    have hn' : nodupB (ownMs ρ) = true := by
      obtain ⟨a, b⟩ := x
      cases a with
      | none => exact hn
      | some a => cases b with
        | false => exact hn
        | true =>
          have : nodupB (a :: ownMs ρ) = true := hn
          simp only [nodupB, Bool.and_eq_true] at this
          exact this.2
    have hd : x = (some m, true) → m ∉ ownMs ρ := by
      rintro rfl
      have : nodupB (m :: ownMs ρ) = true := hn
      simp only [nodupB, Bool.and_eq_true] at this
      intro hc
      have h1 := this.1
      simp only [List.all_eq_true] at h1
      have := h1 m hc
      simp at this
    cases i with
    | zero => cases j with
      | zero => rfl
      | succ j => simp at hi hj; exact absurd (mem hj) (hd hi)
    | succ i => cases j with
      | zero => simp at hi hj; exact absurd (mem hi) (hd hj)
      | succ j => simp at hi hj; rw [ih hn' hi hj]

theorem okMs_ren {base : Nat} {D : List Nat} : ∀ {ρ : Ren} {i m : Nat}, okMs base D (ownMs ρ) = true → ρ[i]? = some (some m, true) → base ≤ m ∨ m ∈ D
  | [], i, m, _, h => by simp at h
  | (a, b) :: ρ, i, m, hk, h => by
    have tail : okMs base D (ownMs ρ) = true := by
      cases a with
      | none => exact hk
      | some a => cases b with
        | false => exact hk
        | true =>
          have : okMs base D (a :: ownMs ρ) = true := hk
          simp only [okMs, Bool.and_eq_true] at this
          exact this.2
    cases i with
    | zero =>
      simp at h
      obtain ⟨rfl, rfl⟩ := h
      have : okMs base D (m :: ownMs ρ) = true := hk
      simp only [okMs, Bool.and_eq_true, Bool.or_eq_true] at this
      exact this.1.imp Nat.le_of_ble_eq_true memB_iff.1
    | succ i => simp at h; exact okMs_ren tail h

theorem blksI_bound {env1 : List (Nat × SV)} {h1 : List (Nat × R)} {n : Nat} : ∀ {is : List Item}, n ∈ blksI env1 h1 is → ∃ r, hfind h1 n = some r
  | [], h => by simp [blksI] at h
  | (t, .c x) :: is, h => blksI_bound (is := is) h
  | (t, .blk l) :: is, h => by
    simp only [blksI] at h
    split at h
    · rename_i m T cs hb
      rcases List.mem_cons.1 h with rfl | h
      · unfold blkAt at hb
        split at hb <;> try (cases hb; done)
        split at hb <;> try (cases hb; done)
        rename_i hf
        cases hb
        exact ⟨_, hf⟩
      · exact blksI_bound h
    · exact blksI_bound h

section
variable {K : Ctx} {θ1 θ3 : Th} {env1 env3 : List (Nat × SV)} {h1 h3 : List (Nat × R)} {base nx3 : Nat} {a1 a3 : Act} {w1 w3 : World}

theorem R.holds_back {θ θ' θ2 : Th} {X X' X2 : Nat → Prop} {w w' : World} {L : Loc} {r : R} (hx : θ.ext θ') (hx2 : θ.ext θ2) (hk : Keeps X' X2 w' w')
    (h : r.holds θ X w L) (h' : r.holds θ' X' w' L) : r.holds θ2 X2 w' L := by
  cases r with
  | dead => trivial
  | ro d =>
    obtain ⟨g1, g2, g3⟩ := h'
    exact ⟨D.at_mono hk (fun _ => rfl) g1, g2, Loc.inn_mono hk g3⟩
  | own T d =>
    obtain ⟨g1, g2, g3⟩ := h'
    exact ⟨D.at_mono hk (fun _ => rfl) g1, g2, g3⟩
  | blk T l =>
    obtain ⟨cs, _, _, e3⟩ := h
    obtain ⟨cs', g1, g2, g3⟩ := h'
    exact ⟨cs', g1, g2, VL_mono hx2 _ _ (VL_back hx l cs cs' e3 g3)⟩

/-- What is known at the head of a round. -/
theorem headSat (hs1 : SatH K θ1 h1 base w1) (he1 : SatE K θ1 env1 a1) (hx : θ1.ext θ3) (hs3 : SatH K θ3 h3 nx3 w3) (he3 : SatE K θ3 env3 a3)
    {is : List Item} {es : List (Nat × SV)} {hs : List (Nat × R)} {nx2 : Nat} (hh : headI env1 h1 is base = some (es, hs, nx2)) (hi : intoHead env1 h1 base is env3 h3)
    {W : List Nat} (hkE : keptE env3 (filterEnv W env1)) (hkH : keptH h3 (filterH (dropsI env1 h1 is ++ blksI env1 h1 is) h1)) :
    ∃ θ2, SatH K θ2 (hs ++ filterH (dropsI env1 h1 is ++ blksI env1 h1 is) h1) nx2 w3 ∧ θ1.ext θ2 ∧ SatE K θ2 (es ++ filterEnv W env1) a3 := by
  obtain ⟨ρ, r1, rfl, r3, r4⟩ := matchI_sound (θ3 := θ3) hh hi
  simp only [Bool.and_eq_true] at r1
  obtain ⟨rn, ro⟩ := r1
  generalize hD : dropsI env1 h1 is = drops at *
  generalize hB : blksI env1 h1 is = blks at *
  let θ2 : Th := fun n => if n < base then θ1 n else match ρ[n - base]? with | some x => tgt θ3 x.1 | none => none
  have hlt : ∀ n, n < base → θ2 n = θ1 n := fun n hn => if_pos hn
  have hreads : Reads θ2 θ3 base ρ := fun i x hi => by
    show (if base + i < base then θ1 (base + i) else match ρ[base + i - base]? with | some x => tgt θ3 x.1 | none => none) = _
    rw [if_neg (by omega), show base + i - base = i by omega, hi]
  have hext : θ1.ext θ2 := fun n L hn => by rw [hlt n (hs1.named_lt hn)]; exact hn
  have hblk : ∀ {n}, n ∈ blks → ∃ L, θ1 n = some L ∧ n < base := fun hn => by
    rw [← hB] at hn
    obtain ⟨r, hr⟩ := blksI_bound hn
    obtain ⟨L, hL, _⟩ := hs1.res _ r hr
    exact ⟨L, hL, hs1.named_lt hL⟩
  let H := hs ++ filterH (drops ++ blks) h1
  have hmem : ∀ {n r}, hfind H n = some r → (FromRen h3 base ρ n r) ∨ (∃ T ss' ss, r = .blk T ss' ∧ n ∈ blks ∧ hfind h3 n = some (.blk T ss) ∧ ∀ θ2, Reads θ2 θ3 base ρ → ∀ vs, VL θ3 ss vs → VL θ2 ss' vs) ∨
      (hfind h1 n = some r ∧ n ∉ drops ∧ n ∉ blks ∧ hfind h3 n = some r) := by
    intro n r hr
    rcases List.mem_append.1 (mem_of_hfind hr) with hm | hm
    · rcases r4 n r hm with h | h
      · exact .inl h
      · exact .inr (.inl h)
    · obtain ⟨g1, g2⟩ := mem_filterH hm
      exact .inr (.inr ⟨g1, fun h => g2 (List.mem_append.2 (.inl h)), fun h => g2 (List.mem_append.2 (.inr h)), keptH_mem hkH hm⟩)
  -- who owns what
  have src : ∀ {n b}, OwnsAt θ2 H n b → (∃ i m T d, n = base + i ∧ ρ[i]? = some (some m, true) ∧ OwnsAt θ3 h3 m b ∧ hfind h3 m = some (.own T d)) ∨
      (n < base ∧ OwnsAt θ3 h3 n b ∧ ((∃ T l, hfind h3 n = some (.blk T l)) ∨ n ∉ drops)) := by
    rintro n b ⟨r, L, e1, e2, e3, e4⟩
    rcases hmem e1 with ⟨i, m, o, rfl, g2, g3⟩ | ⟨T, ss', ss, rfl, g2, g3, _⟩ | ⟨g1, g2, _, g4⟩
    · rw [hreads i _ g2] at e2
      cases g3 with
      | own k1 k2 => exact .inl ⟨i, _, _, _, rfl, g2, ⟨_, L, k1, e2, e3, e4⟩, k1⟩
      | onil k1 => cases e2; exact absurd rfl e3
      | fro k1 k2 => exact e3.elim
      | ro k1 k2 => exact e3.elim
      | rnil k1 => exact e3.elim
    · obtain ⟨L', k1, k2⟩ := hblk g2
      rw [hlt n k2] at e2
      exact .inr ⟨k2, ⟨_, L, g3, hx _ _ e2, trivial, e4⟩, .inl ⟨_, _, g3⟩⟩
    · obtain ⟨L', k1, _⟩ := hs1.res n r g1
      have k2 := hs1.named_lt k1
      rw [hlt n k2] at e2
      exact .inr ⟨k2, ⟨r, L, g4, hx _ _ e2, e3, e4⟩, .inr g2⟩
  have carriedOne : ∀ {m T d n}, hfind h3 m = some (.own T d) → (base ≤ m ∨ m ∈ drops) → n < base → ((∃ T l, hfind h3 n = some (.blk T l)) ∨ n ∉ drops) → m = n → False := by
    rintro m T d n k1 k2 k3 k4 rfl
    rcases k2 with k2 | k2
    · omega
    · rcases k4 with ⟨T', l, k4⟩ | k4
      · rw [k1] at k4; cases k4
      · exact k4 k2
  have hown : ∀ {n b}, OwnsAt θ2 H n b → ∃ m, OwnsAt θ3 h3 m b := fun ho => by
    rcases src ho with ⟨i, m, T, d, _, _, h, _⟩ | ⟨_, h, _⟩
    · exact ⟨_, h⟩
    · exact ⟨_, h⟩
  have hfree : ∀ b, Free K θ3 h3 b → Free K θ2 H b := fun b hf => ⟨fun n hn => let ⟨m, hm⟩ := hown hn; hf.1 m hm, hf.2⟩
  have hkeep : Keeps (Free K θ3 h3) (Free K θ2 H) w3 w3 := fun b _ hb => ⟨hfree b hb, rfl⟩
  refine ⟨θ2, ⟨fun n hn => ?_, fun n r hr => ?_, fun n m b hn hm => ?_, fun n b hn => ?_, hs3.frame⟩, hext, ?_⟩
  · show (if n < base then θ1 n else match ρ[n - base]? with | some x => tgt θ3 x.1 | none => none) = none
    rw [if_neg (by omega), List.getElem?_eq_none (by omega)]
  · rcases hmem hr with ⟨i, m, o, rfl, g2, g3⟩ | ⟨T, ss', ss, rfl, g2, g3, g4⟩ | ⟨g1, g2, _, g4⟩
    · have e2 := hreads i _ g2
      cases g3 with
      | own k1 k2 =>
        obtain ⟨L, hL, l1, l2, l3⟩ := hs3.res _ _ k1
        obtain ⟨d1, d2⟩ := D.at_eqv k2 l1
        exact ⟨L, e2.trans hL, D.at_mono hkeep (fun _ => rfl) d1, l2, fun hc => let ⟨cs, q1, q2⟩ := l3 hc; ⟨cs, q1, by rw [← d2]; exact q2⟩⟩
      | onil k1 => exact ⟨nilLoc, e2, D.at_nil k1, .inl rfl, fun hc => absurd rfl hc⟩
      | fro k1 k2 =>
        rename_i m T d d'
        obtain ⟨L, hL, l1, l2, l3⟩ := hs3.res _ _ k1
        obtain ⟨d1, d2⟩ := D.at_eqv k2 l1
        refine ⟨L, e2.trans hL, D.at_mono hkeep (fun _ => rfl) d1, l2, fun hne => ?_⟩
        have hcap : L.cap ≠ 0 := by
          cases d' with
          | v x => exact l1.elim
          | ints k xs => have := l1.2.1; omega
          | recs es n f => have := l1.2.1; omega
        have hme : OwnsAt θ3 h3 m L.b := ⟨_, L, k1, hL, hcap, rfl⟩
        refine ⟨⟨fun n' hn' => ?_, (hs3.new m L.b hme).imp id (K.ma _)⟩, OwnsAt.lt hs3 hme⟩
        rcases src hn' with ⟨i', m', T', d'', rfl, q2, q3, q4⟩ | ⟨q1, q2, q3⟩
        · obtain rfl := hs3.dis _ _ _ hme q3
          obtain rfl := nodupB_ren rn g2 q2
          obtain ⟨r', L', z1, z2, z3, z4⟩ := hn'
          rw [show hfind H (base + i) = some (R.ro d) from hr] at z1
          cases z1
          exact z3.elim
        · exact carriedOne k1 (okMs_ren ro g2) q1 q3 (hs3.dis _ _ _ hme q2)
      | ro k1 k2 =>
        obtain ⟨L, hL, l1, l2, l3⟩ := hs3.res _ _ k1
        obtain ⟨d1, _⟩ := D.at_eqv k2 l1
        exact ⟨L, e2.trans hL, D.at_mono hkeep (fun _ => rfl) d1, l2, Loc.inn_mono hkeep l3⟩
      | rnil k1 => exact ⟨nilLoc, e2, D.at_nil k1, .inl rfl, fun hne => absurd rfl hne⟩
    · obtain ⟨L, k1, k2⟩ := hblk g2
      obtain ⟨L', l1, cs, l2, l3, l4⟩ := hs3.res n _ g3
      obtain rfl := Option.some.inj ((hx _ _ k1).symm.trans l1)
      exact ⟨L, hext _ _ k1, cs, l2, l3, g4 θ2 hreads cs l4⟩
    · obtain ⟨L, k1, k2⟩ := hs1.res n r g1
      obtain ⟨L', l1, l2⟩ := hs3.res n r g4
      obtain rfl := Option.some.inj ((hx _ _ k1).symm.trans l1)
      exact ⟨L, hext _ _ k1, R.holds_back hx hext hkeep k2 l2⟩
  · rcases src hn with ⟨i, m1, T, d, rfl, p2, p3, p4⟩ | ⟨p1, p2, p3⟩ <;> rcases src hm with ⟨j, m2, T', d', rfl, q2, q3, q4⟩ | ⟨q1, q2, q3⟩
    · obtain rfl := hs3.dis _ _ _ p3 q3
      rw [nodupB_ren rn p2 q2]
    · exact (carriedOne p4 (okMs_ren ro p2) q1 q3 (hs3.dis _ _ _ p3 q2)).elim
    · exact (carriedOne q4 (okMs_ren ro q2) p1 p3 (hs3.dis _ _ _ q3 p2)).elim
    · exact hs3.dis _ _ _ p2 q2
  · obtain ⟨m, hm⟩ := hown hn
    exact hs3.new m b hm
  · refine ⟨he3.size, he3.defers, fun t s hts => ?_⟩
    rcases List.mem_append.1 (mem_of_efind hts) with hm | hm
    · obtain ⟨s3, q1, q2⟩ := r3 θ2 hreads t s hm
      obtain ⟨v, q3, q4⟩ := he3.val t s3 q1
      exact ⟨v, q3, q2 v q4⟩
    · obtain ⟨q1, _⟩ := mem_filterEnv hm
      obtain ⟨v1, _, q3⟩ := he1.val t s q1
      obtain ⟨v, q4, q5⟩ := he3.val t s (keptE_mem hkE hm)
      exact ⟨v, q4, V_mono hext _ _ (V_back hx s v1 v q3 q5)⟩
end

def Ex.exit' : Ex → Exit
  | .normal => .normal
  | .exit i => .exit i
  | .ret => .ret

section
variable {P : Program} {C : Nat → Option Ctr} {K : Ctx} {ann : Nat → Option LoopAnn}

theorem exec_sound (hP : P.follows .mixedOrders = true) (hC : COk P C) : ∀ (c : Code) {θ0 θ : Th} {env : List (Nat × SV)} {h : List (Nat × R)} {nx : Nat} {a : Act} {w : World}
    {k : Ex → List (Nat × SV) → List (Nat × R) → Nat → Prop} {Q : Exit → Act → World → Prop}, θ0.ext θ → SatH K θ h nx w → SatE K θ env a → exec P C K.N ann c env h nx k →
    (∀ e env' h' nx' θ' a' w', k e env' h' nx' → θ0.ext θ' → SatH K θ' h' nx' w' → SatE K θ' env' a' → Q e.exit' a' w') → c.wp P Q a w
  | .skip, θ0, θ, env, h, nx, a, w, k, Q, hx, hs, he, hq, hk => wp_skip (hk _ _ _ _ _ _ _ hq hx hs he)
  | .label _, θ0, θ, env, h, nx, a, w, k, Q, hx, hs, he, hq, hk => wp_label (hk _ _ _ _ _ _ _ hq hx hs he)
  | .ret, θ0, θ, env, h, nx, a, w, k, Q, hx, hs, he, hq, hk => wp_ret (hk _ _ _ _ _ _ _ hq hx hs he)
  | .exit _, θ0, θ, env, h, nx, a, w, k, Q, hx, hs, he, hq, hk => wp_exit (hk _ _ _ _ _ _ _ hq hx hs he)
  | .region id ops draw, θ0, θ, env, h, nx, a, w, k, Q, hx, hs, he, hq, hk => by
    unfold exec at hq
    cases draw with
    | false => exact wp_region_list (execOps_sound hC _ hx hs he hq fun env' h' nx' θ' a' w' g1 g2 g3 g4 => hk _ _ _ _ _ _ _ g1 g2 g3 g4)
    | true =>
      rcases cond_cases (cond_cases hq |>.elim And.right (fun h => by cases h.1)) with ⟨_, hq⟩ | ⟨_, hq⟩
      case inr =>
        obtain ⟨hsel, hq⟩ := cond_false hq
        exact wp_region_anyC hP hC hsel hx hs he hq fun env' h' nx' θ' a' w' g1 g2 g3 g4 => hk _ _ _ _ _ _ _ g1 g2 g3 g4
      obtain ⟨hB, hq⟩ := cond_false hq
      refine wp_region_quiet (C := Below w.heap.size w) hP hB ⟨rfl, rfl, rfl, Nat.le_refl _, fun _ _ => rfl⟩ ?_
      exact execOps_quiet hC _ hx hs he hq fun env' h' nx' θ' a' g1 g2 g3 g4 w' hw' => hk _ _ _ _ _ _ _ g1 g2 (g3.below hw') g4
  | .seq x y, θ0, θ, env, h, nx, a, w, k, Q, hx, hs, he, hq, hk => by
    unfold exec at hq
    refine wp_seq (exec_sound hP hC x hx hs he hq ?_)
    intro e env' h' nx' θ' a' w' g1 g2 g3 g4
    cases e with
    | normal => exact exec_sound hP hC y g2 g3 g4 g1 hk
    | exit i => exact hk (.exit i) _ _ _ _ _ _ g1 g2 g3 g4
    | ret => exact hk .ret _ _ _ _ _ _ g1 g2 g3 g4
  | .cond c x y, θ0, θ, env, h, nx, a, w, k, Q, hx, hs, he, hq, hk => by
    unfold exec at hq
    split at hq <;> try exact hq.elim
    · rename_i hg
      have hv := V_get he c _ hg
      simp only [V] at hv
      exact wp_cond_true hv (exec_sound hP hC x hx hs he hq hk)
    · rename_i hg
      have hv := V_get he c _ hg
      simp only [V] at hv
      exact wp_cond_false hv (exec_sound hP hC y hx hs he hq hk)
    · rename_i t hg
      have hv := V_get he c _ hg
      simp only [V] at hv
      exact wp_cond_split hv (fun ht => exec_sound hP hC x hx hs he (hq.1 ht) hk) (fun ht => exec_sound hP hC (Q := Q) y hx hs he (hq.2 ht) hk)
  | .block id x, θ0, θ, env, h, nx, a, w, k, Q, hx, hs, he, hq, hk => by
    unfold exec at hq
    refine wp_block (exec_sound hP hC x hx hs he hq ?_)
    intro e env' h' nx' θ' a' w' g1 g2 g3 g4
    cases e with
    | normal => exact hk .normal _ _ _ _ _ _ g1 g2 g3 g4
    | exit i =>
      show if i = id then Q .normal a' w' else Q (.exit i) a' w'
      rcases cond_cases g1 with ⟨e, g1⟩ | ⟨e, g1⟩
      · rw [if_pos (Nat.eq_of_beq_eq_true e)]; exact hk .normal _ _ _ _ _ _ g1 g2 g3 g4
      · rw [if_neg (fun h => by subst h; rw [Nat.beq_refl] at e; cases e)]; exact hk (.exit i) _ _ _ _ _ _ g1 g2 g3 g4
    | ret => exact hk .ret _ _ _ _ _ _ g1 g2 g3 g4
  | .loop c, θ0, θ, env, h, nx, a, w, k, Q, hx, hs, he, hq, hk => by
    unfold exec at hq
    split at hq <;> try exact hq.elim
    split at hq <;> try exact hq.elim
    rename_i A _
    obtain ⟨g0, hp, hi, hb⟩ := hq
    refine wp_loop_ghost (fun n a' w' => ∃ g : A.γ, A.pre g ∧ A.μ g = n ∧ ∃ es hs' nx2, headI env h (fixI env h (A.items g)) nx = some (es, hs', nx2) ∧
      ∃ θ2, SatH K θ2 (hs' ++ filterH (dropsI env h (fixI env h (A.items g)) ++ blksI env h (fixI env h (A.items g))) h) nx2 w' ∧ θ.ext θ2 ∧ SatE K θ2 (es ++ filterEnv (slotsI (fixI env h (A.items g)) ++ dsts c) env) a') (A.μ g0) ?_ ?_
    · have hb0 := hb g0 hp
      split at hb0 <;> try exact hb0.elim
      rename_i es hs' nx2 hh
      exact ⟨g0, hp, rfl, es, hs', nx2, hh, headSat hs he (Th.ext_refl _) hs he hh hi (keptE_of fun t s hm => (mem_filterEnv hm).1) (keptH_of fun t s hm => (mem_filterH hm).1)⟩
    · rintro n a' w' ⟨g, hpg, rfl, es, hs', nx2, hh, θ2, q1, q2, q3⟩
      have hbg := hb g hpg
      rw [hh] at hbg
      simp only at hbg
      refine exec_sound hP hC c q2 q1 q3 hbg ?_
      intro e env' h' nx' θ' a'' w'' g1 g2 g3 g4
      cases e with
      | normal =>
        obtain ⟨g', k1, k2, k3, k4, k5⟩ := g1
        have hb' := hb g' k1
        split at hb' <;> try exact hb'.elim
        rename_i es2 hs2 nx2' hh2
        exact ⟨_, k2, g', k1, rfl, es2, hs2, nx2', hh2, headSat hs he g2 g3 g4 hh2 k3 k4 k5⟩
      | exit i => exact hk (.exit i) _ _ _ _ _ _ g1 (Th.ext_trans hx g2) g3 g4
      | ret => exact hk .ret _ _ _ _ _ _ g1 (Th.ext_trans hx g2) g3 g4
  | .rangeFunc _ _ _ _, θ0, θ, env, h, nx, a, w, k, Q, hx, hs, he, hq, hk => by exact (show False from hq).elim
  | .scope _, θ0, θ, env, h, nx, a, w, k, Q, hx, hs, he, hq, hk => by exact (show False from hq).elim
  | .goto _, θ0, θ, env, h, nx, a, w, k, Q, hx, hs, he, hq, hk => by exact (show False from hq).elim
  | .refuse _, θ0, θ, env, h, nx, a, w, k, Q, hx, hs, he, hq, hk => by exact (show False from hq).elim
end
end Go.X
