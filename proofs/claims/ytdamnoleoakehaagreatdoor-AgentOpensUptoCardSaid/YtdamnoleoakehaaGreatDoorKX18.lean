/- Part 18 of what the closing text rests on. -/
import Derived.Test.YtdamnoleoakehaaGreatDoorKX11
import Derived.Test.YtdamnoleoakehaaGreatDoorKX17
import Derived.KernelRfl
import Derived.ProofKit
namespace Go.Q
noncomputable section
open Go.RowKit
open Go.Z hiding cond_false get resF

def listE (env : EK) : Vs → E
  | [] => []
  | (t, p) :: l => match (env.get p).dv with
    | some d => (t, d) :: listE env l
    | none => listE env l
theorem listE_get {env : EK} {vis0 : Vs} : ∀ {l : Vs}, (∀ t p, (t, p) ∈ l → posOf vis0 t = some p) → ∀ t d, E.get (listE env l) t = some d → visE vis0 env t = some d
  | [], _, _, _, h => by cases h
  | (m, p) :: l, hl, t, d, h => by
    unfold listE at h
    have hl2 : ∀ t p, (t, p) ∈ l → posOf vis0 t = some p := fun t p hm => hl t p (.tail _ hm)
    split at h
    · rename_i d' hd'
      unfold E.get at h
      cases hb : Nat.beq m t with
      | false => rw [hb] at h; exact listE_get hl2 t d h
      | true =>
        rw [hb] at h; cases h
        obtain rfl := Nat.eq_of_beq_eq_true hb
        simp only [visE, hl m p (.head _), hd']
    · exact listE_get hl2 t d h
theorem listE_get' {env : EK} {vis0 : Vs} : ∀ {l : Vs}, (∀ t p, (t, p) ∈ l → posOf vis0 t = some p) → ∀ t p d, (t, p) ∈ l → (env.get p).dv = some d → E.get (listE env l) t = some d
  | [], _, _, _, _, h, _ => by cases h
  | (m, q) :: l, hl, t, p, d, h, hd => by
    have hl2 : ∀ t p, (t, p) ∈ l → posOf vis0 t = some p := fun t p hm => hl t p (.tail _ hm)
    unfold listE
    by_cases hm : m = t
    · subst hm
      have e1 := hl m q (.head _)
      have e2 := hl m p h
      rw [e1] at e2; cases e2
      rw [hd]
      simp only [E.get, Nat.beq_refl, _root_.cond_true]
    · have hin : (t, p) ∈ l := by
        rcases List.mem_cons.1 h with e | h
        · cases e; exact absurd rfl hm
        · exact h
      have hb : Nat.beq m t = false := by
        cases hc : Nat.beq m t with
        | true => exact absurd (Nat.eq_of_beq_eq_true hc) hm
        | false => rfl
      split
      · simp only [E.get, hb, _root_.cond_false]; exact listE_get' hl2 t p d hin hd
      · exact listE_get' hl2 t p d hin hd
theorem posOf_mem : ∀ {l : Vs} {t p : Nat}, posOf l t = some p → (t, p) ∈ l
  | [], _, _, h => by cases h
  | (m, q) :: l, t, p, h => by
    rw [posOf_cons] at h
    cases hb : Nat.beq m t with
    | true => rw [hb] at h; cases h; rw [Nat.eq_of_beq_eq_true hb]; exact .head _
    | false => rw [hb] at h; exact .tail _ (posOf_mem h)
def visOf : List Nat → Nat → Vs
  | [], _ => []
  | t :: l, p => (t, p) :: visOf l (p + 1)
theorem visOf_ge : ∀ {ks : List Nat} {i t p : Nat}, posOf (visOf ks i) t = some p → i ≤ p ∧ p < i + ks.length
  | [], _, _, _, h => by cases h
  | k :: ks, i, t, p, h => by
    unfold visOf at h
    rw [posOf_cons] at h
    cases hb : Nat.beq k t with
    | true => rw [hb] at h; cases h; simp
    | false =>
      rw [hb] at h
      have := visOf_ge h
      simp only [List.length_cons]; omega
theorem visOf_good : ∀ (ks : List Nat) (i : Nat), Good (visOf ks i) (i + ks.length)
  | [], i => ⟨fun _ _ h => (by cases h), fun _ _ _ h => (by cases h)⟩
  | k :: ks, i => by
    have ih := visOf_good ks (i + 1)
    refine ⟨fun t p h => (visOf_ge h).2, fun m m' q h1 h2 => ?_⟩
    unfold visOf at h1 h2
    by_cases hm : m = k <;> by_cases hm' : m' = k
    · rw [hm, hm']
    · subst hm
      rw [posOf_self] at h1; cases h1
      rw [posOf_other hm'] at h2
      have := (visOf_ge h2).1; omega
    · subst hm'
      rw [posOf_self] at h2; cases h2
      rw [posOf_other hm] at h1
      have := (visOf_ge h1).1; omega
    · rw [posOf_other hm] at h1; rw [posOf_other hm'] at h2
      exact ih.inj m m' q h1 h2
theorem visOf_mem : ∀ {ks : List Nat} {i t p : Nat}, (t, p) ∈ visOf ks i → t ∈ ks
  | k :: ks, i, t, p, h => by
    unfold visOf at h
    rcases List.mem_cons.1 h with e | h
    · cases e; exact .head _
    · exact .tail _ (visOf_mem h)
theorem visOf_pos : ∀ {ks : List Nat} {i : Nat}, ks.Nodup → ∀ t p, (t, p) ∈ visOf ks i → posOf (visOf ks i) t = some p
  | k :: ks, i, hn, t, p, h => by
    unfold visOf at h ⊢
    have hn' := List.nodup_cons.1 hn
    rcases List.mem_cons.1 h with e | h2
    · cases e; exact posOf_self _ _ _
    · have hne : t ≠ k := fun e => hn'.1 (e ▸ visOf_mem h2)
      rw [posOf_other hne]
      exact visOf_pos hn'.2 t p h2
theorem visOf_length : ∀ (ks : List Nat) (i : Nat), (visOf ks i).length = ks.length
  | [], _ => rfl
  | _ :: ks, i => by simp [visOf, visOf_length ks]

noncomputable section
structure LE where
  l : EK → (E → O3) → O3
def leOf (vis : Vs) : LE := @List.rec (Nat × Nat) (fun _ => LE) ⟨fun _ k => k []⟩ (fun x _ ih => @GP.rec (fun _ => LE) (fun g => @LE.rec (fun _ => LE) (fun l => ⟨fun e k => g e fun v =>
  @KV.rec (fun _ => O3) (l e k) (fun kk n => l e fun m => k ((x.1, .n kk ⟨.ofNat n, []⟩) :: m)) (fun t => l e fun m => k ((x.1, .c (.bool t)) :: m)) (fun d => l e fun m => k ((x.1, d) :: m)) v⟩) ih) (natG x.2 getP)) vis
theorem leOf_L {env : EK} {L : List XK} : ∀ {vis : Vs} {k : E → O3}, ((leOf vis).l env k).L = some L → (k (listE env vis)).L = some L
  | [], k, h => h
  | (t, p) :: l, k, h => by
    have h0 : ((natG p getP).g env fun v => @KV.rec (fun _ => O3) ((leOf l).l env k) (fun kk n => (leOf l).l env fun m => k ((t, .n kk ⟨.ofNat n, []⟩) :: m)) (fun b => (leOf l).l env fun m => k ((t, .c (.bool b)) :: m)) (fun d => (leOf l).l env fun m => k ((t, d) :: m)) v).L = some L := h
    rw [natG_eq] at h0
    have h2 := getP_L (k := fun v => @KV.rec (fun _ => O3) ((leOf l).l env k) (fun kk n => (leOf l).l env fun m => k ((t, .n kk ⟨.ofNat n, []⟩) :: m)) (fun b => (leOf l).l env fun m => k ((t, .c (.bool b)) :: m)) (fun d => (leOf l).l env fun m => k ((t, d) :: m)) v) h0
    unfold listE
    cases hv : env.get p with
    | bad => rw [hv] at h2; exact leOf_L h2
    | i kk n => rw [hv] at h2; exact leOf_L (k := fun m => k ((t, .n kk ⟨.ofNat n, []⟩) :: m)) h2
    | b t' => rw [hv] at h2; exact leOf_L (k := fun m => k ((t, .c (.bool t')) :: m)) h2
    | d d => rw [hv] at h2; exact leOf_L (k := fun m => k ((t, d) :: m)) h2
def backK (vis0 : Vs) (l' : E) : List Oper → EK → (EK → O3) → O3
  | [], env, k => k env
  | o :: os, env, k => match o.dst with
    | none => backK vis0 l' os env k
    | some t => match posOf vis0 t with
      | none => backK vis0 l' os env k
      | some p => match E.get l' t with
        | some d => pK d fun v => (natS p setP).s env v fun env' => backK vis0 l' os env' k
        | none => (natS p setP).s env .bad fun env' => backK vis0 l' os env' k
theorem backK_L {vis0 : Vs} (h1 : ∀ t p, posOf vis0 t = some p → StepP vis0 vis0 t p) {l' : E} {L : List XK} : ∀ {os : List Oper} {env : EK} {k : EK → O3}, (∀ t d, visE vis0 env t = some d → E.get l' t = some d ∨ ∃ o ∈ os, o.dst = some t) →
    (backK vis0 l' os env k).L = some L → ∃ env', (k env').L = some L ∧ ∀ t d, visE vis0 env' t = some d → E.get l' t = some d
  | [], env, k, hi, h => ⟨env, h, fun t d hd => by
    rcases hi t d hd with h | ⟨o, ho, _⟩
    · exact h
    · cases ho⟩
  | o :: os, env, k, hi, h => by
    unfold backK at h
    split at h
    · rename_i hd
      refine backK_L h1 (fun t d hv => ?_) h
      rcases hi t d hv with h | ⟨o', ho, hd'⟩
      · exact .inl h
      · rcases List.mem_cons.1 ho with rfl | ho
        · rw [hd] at hd'; cases hd'
        · exact .inr ⟨o', ho, hd'⟩
    · rename_i t hd
      split at h
      · rename_i hp
        refine backK_L h1 (fun m d hv => ?_) h
        rcases hi m d hv with h | ⟨o', ho, hd'⟩
        · exact .inl h
        · rcases List.mem_cons.1 ho with rfl | ho
          · rw [hd] at hd'; cases hd'
            simp only [visE, hp] at hv; cases hv
          · exact .inr ⟨o', ho, hd'⟩
      · rename_i p hp
        have next : ∀ {v : KV}, (∀ d, v.dv = some d → E.get l' t = some d) → p < 40 → ∀ m d, visE vis0 (env.set p v) m = some d → E.get l' m = some d ∨ ∃ o ∈ os, o.dst = some m := by
          intro v hv hp' m d hm
          rcases visE_set hp' (h1 t p hp) hm with ⟨rfl, e⟩ | ⟨e1, e2⟩
          · exact .inl (hv d e)
          · rcases hi m d e2 with h | ⟨o', ho, hd'⟩
            · exact .inl h
            · rcases List.mem_cons.1 ho with rfl | ho
              · rw [hd] at hd'; cases hd'; exact absurd rfl e1
              · exact .inr ⟨o', ho, hd'⟩
        rw [natS_eq] at h
        split at h
        · rename_i d hg
          obtain ⟨v, e1, e2⟩ := pK_L h
          obtain ⟨e3, e4⟩ := setP_L e2
          exact backK_L h1 (next (fun d' hd' => by rw [e1] at hd'; cases hd'; exact hg) e3) e4
        · obtain ⟨e3, e4⟩ := setP_L h
          exact backK_L h1 (next (fun d' hd' => by cases hd') e3) e4
def esS (r : R (List ES)) (k : E → St → O3) : O3 :=
  @Except.rec Er (List ES) (fun _ => (E → St → O3) → O3) (fun _ _ => .no)
    (fun l k => @List.rec ES (fun _ => (E → St → O3) → O3) (fun _ => .many []) (fun x l' _ k => @List.rec ES (fun _ => O3) (@Prod.rec E St (fun _ => O3) (fun e s => stN s (k e)) x) (fun _ _ _ => forkO (fun x => k x.1 x.2) (x :: l')) l') l k) r k
theorem esS_L {r : R (List ES)} {k : E → St → O3} {L : List XK} (h : (esS r k).L = some L) : ∃ outs, r = .ok outs ∧ ∀ x ∈ outs, ∃ L', (k x.1 x.2).L = some L' ∧ ∀ z ∈ L', z ∈ L := by
  cases r with
  | error e => cases h
  | ok l =>
    refine ⟨l, rfl, ?_⟩
    match l, h with
    | [], h => intro x hx; cases hx
    | [(d, s)], h =>
      intro x hx
      simp only [List.mem_singleton] at hx
      subst hx
      have h2 : (stN s (k d)).L = some L := h
      rw [stN_eq] at h2
      exact ⟨L, h2, fun _ hz => hz⟩
    | x :: y :: l, h => exact forkO_mem (k := fun x : ES => k x.1 x.2) (l := x :: y :: l) (L := L) h
def rawL (Γ : Cx) (P : Program) (call : CallF) (N : Nat) (d : Bool) (id : Nat) (ops : Array Oper) (l : E) (s : St) : R (List ES) :=
  @Bool.rec (fun _ => R (List ES)) (opsD Γ P call N id ops ops.toList 0 l s) (drawD Γ P call N id ops l s) d
def rawF (Γ : Cx) (P : Program) (N : Nat) (vis0 : Vs) (d : Bool) (id : Nat) (ops : Array Oper) (nx : KF) : KF :=
  (@LE.rec (fun _ => KF) (fun le => ⟨fun call env s => le env fun l => esS (rawL Γ P call N d id ops l s) fun l' s' => backK vis0 l' ops.toList env fun env' => nx.r call env' s'⟩) (leOf vis0))

def xkGo (ex : Nat → KF) (call : CallF) (ih : EK → St → O3) (x : XK) : O3 := @XK.rec (fun _ => O3) ih (fun i e s => (ex i).r call e s) (fun d s => .r d s) x
def afterK (ex : Nat → KF) (call : CallF) (ih : EK → St → O3) (r : O3) : O3 :=
  @O3.rec (fun _ => O3) .no ih (fun i e s => (ex i).r call e s) (fun d s => .r d s) (fun l => forkO (xkGo ex call ih) l) r
theorem afterK_L {ex : Nat → KF} {call : CallF} {ih : EK → St → O3} {r : O3} {L : List XK} (h : (afterK ex call ih r).L = some L) : ∃ l, r.L = some l ∧ ∀ x ∈ l, ∃ L', (xkGo ex call ih x).L = some L' ∧ ∀ z ∈ L', z ∈ L := by
  have one : ∀ {y : XK}, (xkGo ex call ih y).L = some L → ∀ x ∈ [y], ∃ L', (xkGo ex call ih x).L = some L' ∧ ∀ z ∈ L', z ∈ L := by
    intro y hy x hx
    simp only [List.mem_singleton] at hx
    subst hx
    exact ⟨L, hy, fun _ hz => hz⟩
  cases r with
  | no => cases h
  | n e s => exact ⟨_, rfl, one (y := .n e s) h⟩
  | x i e s => exact ⟨_, rfl, one (y := .x i e s) h⟩
  | r d s => exact ⟨_, rfl, one (y := .r d s) h⟩
  | many l => exact ⟨l, rfl, forkO_mem h⟩
def normF : KF := ⟨fun _ e s => .n e s⟩
def exitF (i : Nat) : KF := ⟨fun _ e s => .x i e s⟩
def loopGo (B : KF) (ex : Nat → KF) (call : CallF) (n : Nat) : EK → St → O3 := @Nat.rec (fun _ => EK → St → O3) (fun _ _ => .no) (fun _ ih e s => afterK ex call ih (B.r call e s)) n
def loopF (B : KF) (ex : Nat → KF) (rounds : Nat) : KF := ⟨fun call e s => loopGo B ex call rounds e s⟩
end

section
variable {Γ : Cx} {ρ : Rh} {P : Program} {θ θ' : Tz} {s s' : St} {w w' : World} {N : Nat} {fn : Func} {vis0 : Vs}
theorem rawF_snd (hP : P.follows .mixedOrders = true) (hΓ : CxOk Γ ρ) {id : Nat} {ops : Array Oper} {d : Bool} {nx : KF} {Gn : (Exit → Act → World → Prop) → Act → World → Prop} (hnx : Snd ρ P fn vis0 N vis0 nx Gn) {Z : (Exit → Act → World → Prop) → Exit → Act → World → Prop} {fr : Nat} (hgood : Good vis0 fr) (hpos : ∀ t p, (t, p) ∈ vis0 → posOf vis0 t = some p) :
    Snd ρ P fn vis0 N vis0 (rawF Γ P N vis0 d id ops nx) (fun Q a w => (Code.region id ops d).wp P (Beh Gn Z Q) a w) := by
  intro call hC env θ s a w L Q hs he hN h ho
  have h2 := leOf_L (k := fun l => esS (rawL Γ P call N d id ops l s) fun l' s' => backK vis0 l' ops.toList env fun env' => nx.r call env' s') h
  obtain ⟨outs, h3, h4⟩ := esS_L h2
  have he2 : EnvOk ρ θ (E.get (listE env vis0)) a := fun t d hd => he t d (listE_get hpos t d hd)
  have fin : ∀ l' s' θ' a' w', (l', s') ∈ outs → Gon ρ θ s w θ' s' w' → EnvOk ρ θ' (E.get l') a' → SzOk N a' → Kept ops.toList (listE env vis0) l' → Beh Gn Z Q .normal a' w' := by
    intro l' s' θ' a' w' hin g he' hN' hK
    obtain ⟨L', h5, h6⟩ := h4 _ hin
    obtain ⟨env', h7, h8⟩ := backK_L (fun t p hp => hgood.step hp) (fun t d hd => by
      by_cases hx : ∃ o ∈ ops.toList, o.dst = some t
      · exact .inr hx
      · left
        rw [hK t fun o ho e => hx ⟨o, ho, e⟩]
        unfold visE at hd
        split at hd
        · rename_i p hp
          exact listE_get' hpos t p d (posOf_mem hp) hd
        · cases hd) h5
    exact hnx call hC env' θ' s' a' w' L' Q g.sat (fun t d hd => he' t d (h8 t d hd)) hN' h7 (ho.go g h6)
  cases d with
  | false => exact wp_region_list (opsD_sound hΓ hC ops.toList 0 hs he2 hN h3 fin)
  | true => exact drawD_sound hP hΓ hC hs he2 hN h3 fin
theorem loopF_snd {B : KF} {ex : Nat → KF} {rounds : Nat} {c : Code} {Ge : Nat → (Exit → Act → World → Prop) → Act → World → Prop}
    (hB : Snd ρ P fn vis0 N vis0 B (fun Q a w => c.wp P Q a w)) (hex : ∀ i, Snd ρ P fn vis0 N vis0 (ex i) (Ge i)) :
    Snd ρ P fn vis0 N vis0 (loopF B ex rounds) (fun Q a w => (Code.loop c).wp P (fun x a w => match x with | .exit i => Ge i Q a w | .ret => Q .ret a w | _ => False) a w) := by
  intro call hC env θ s a w L Q hs he hN h ho
  refine wp_loop_ghost (fun n a' w' => ∃ env' s' θ' L', (loopGo B ex call n env' s').L = some L' ∧ (∀ z ∈ L', z ∈ L) ∧ Gon ρ θ s w θ' s' w' ∧ EnvOk ρ θ' (visE vis0 env') a' ∧ SzOk N a') rounds
    ⟨env, s, θ, L, h, fun _ hz => hz, Gon.refl hs, he, hN⟩ ?_
  rintro m a' w' ⟨env', s', θ', L', h1, h2, g, he', hN'⟩
  cases m with
  | zero => cases h1
  | succ m =>
    obtain ⟨l, h3, h4⟩ := afterK_L (h1 : (afterK ex call (loopGo B ex call m) (B.r call env' s')).L = some L')
    refine hB call hC env' θ' s' a' w' l _ g.sat he' hN' h3 ⟨fun e1 s1 hin θ1 a1 w1 g1 he1 hN1 => ?_, fun i e1 s1 hin θ1 a1 w1 g1 he1 hN1 => ?_, fun d s1 hin θ1 a1 w1 v g1 hv hr hN1 => ?_⟩
    · obtain ⟨L1, h5, h6⟩ := h4 _ hin
      exact ⟨m, Nat.lt_succ_self m, e1, s1, θ1, L1, h5, fun z hz => h2 z (h6 z hz), g.trans g1, he1, hN1⟩
    · obtain ⟨L1, h5, h6⟩ := h4 _ hin
      exact hex i call hC e1 θ1 s1 a1 w1 L1 Q g1.sat he1 hN1 h5 (ho.go (g.trans g1) fun z hz => h2 z (h6 z hz))
    · obtain ⟨L1, h5, h6⟩ := h4 _ hin
      cases h5
      exact ho.r d s1 (h2 _ (h6 _ (.head _))) θ1 a1 w1 v (g.trans g1) hv hr hN1
end
end
end Go.Q

namespace Go.Q
noncomputable section
open Go.RowKit
open Go.Z hiding cond_false get resF
noncomputable section

def KV.eqb : KV → KV → Bool
  | .bad, .bad => true
  | .i k n, .i k' n' => Nat.beq (kIx k) (kIx k') && Nat.beq n n'
  | .b t, .b t' => t == t'
  | .d x, .d y => x.eqb y
  | _, _ => false
theorem KV.eqb_eq {a b : KV} (h : a.eqb b = true) : a = b := by
  cases a <;> cases b <;> simp only [KV.eqb] at h <;> first | rfl | (cases h; done) | skip
  · simp only [Bool.and_eq_true] at h
    rw [kIx_inj h.1, Nat.eq_of_beq_eq_true h.2]
  · rw [eq_of_beq h]
  · rw [DV.eqb_eq _ _ h]
def eqbKL : List KV → List KV → Bool
  | [], [] => true
  | a :: l, b :: m => a.eqb b && eqbKL l m
  | _, _ => false
theorem eqbKL_eq : ∀ {l m : List KV}, eqbKL l m = true → l = m
  | [], [], _ => rfl
  | [], _ :: _, h => by cases h
  | _ :: _, [], h => by cases h
  | a :: l, b :: m, h => by
    simp only [eqbKL, Bool.and_eq_true] at h
    rw [KV.eqb_eq h.1, eqbKL_eq h.2]
def EK.eqb (a b : EK) : Bool := eqbKL a.toL b.toL
theorem EK.eqb_eq {a b : EK} (h : a.eqb b = true) : a = b := by
  have h2 := congrArg EK.ofL (eqbKL_eq h)
  exact h2
def XK.eqb : XK → XK → Bool
  | .n e s, .n e' s' => e.eqb e' && s.eqb s'
  | .x i e s, .x i' e' s' => Nat.beq i i' && (e.eqb e' && s.eqb s')
  | .r d s, .r d' s' => d.eqb d' && s.eqb s'
  | _, _ => false
def XK.st : XK → St
  | .n _ s => s
  | .x _ _ s => s
  | .r _ s => s
def XK.map (f : St → St) : XK → XK
  | .n e s => .n e (f s)
  | .x i e s => .x i e (f s)
  | .r d s => .r d (f s)
theorem st_on {s0 s s' : St} (h : On s0 s) (h' : On s0 s') (e : s.eqb s' = true) : s = s' := St.on_eq h h' e
theorem XK.eqb_eq {s0 : St} {a b : XK} (ha : On s0 a.st) (hb : On s0 b.st) (h : a.eqb b = true) : a = b := by
  cases a <;> cases b <;> simp only [XK.eqb] at h <;> first | (cases h; done) | skip
  · simp only [Bool.and_eq_true] at h
    rw [EK.eqb_eq h.1, st_on (s0 := s0) (by exact ha) (by exact hb) h.2]
  · simp only [Bool.and_eq_true] at h
    rw [Nat.eq_of_beq_eq_true h.1, EK.eqb_eq h.2.1, st_on (s0 := s0) (by exact ha) (by exact hb) h.2.2]
  · simp only [Bool.and_eq_true] at h
    rw [DV.eqb_eq _ _ h.1, st_on (s0 := s0) (by exact ha) (by exact hb) h.2]
def hasK (x : XK) : List XK → Bool
  | [] => false
  | y :: l => x.eqb y || hasK x l
def uniqK : List XK → List XK
  | [] => []
  | [x] => [x]
  | x :: l => cond (hasK x l) (uniqK l) (x :: uniqK l)
theorem hasK_mem {s0 : St} {x : XK} (hx : On s0 x.st) : ∀ {l : List XK}, (∀ y ∈ l, On s0 y.st) → hasK x l = true → x ∈ l
  | [], _, h => by cases h
  | y :: l, hl, h => by
    simp only [hasK, Bool.or_eq_true] at h
    rcases h with h | h
    · rw [XK.eqb_eq hx (hl y (.head _)) h]; exact .head _
    · exact .tail _ (hasK_mem hx (fun y hy => hl y (.tail _ hy)) h)
theorem uniqK_mem {s0 : St} : ∀ {l : List XK}, (∀ y ∈ l, On s0 y.st) → ∀ x ∈ l, x ∈ uniqK l
  | [], _, x, hx => by cases hx
  | [y], _, x, hx => hx
  | y :: z :: l, hl, x, hx => by
    have hl2 : ∀ x ∈ z :: l, On s0 x.st := fun x hx => hl x (.tail _ hx)
    have ih := uniqK_mem hl2
    show x ∈ cond (hasK y (z :: l)) (uniqK (z :: l)) (y :: uniqK (z :: l))
    cases hb : hasK y (z :: l) with
    | true =>
      rcases List.mem_cons.1 hx with rfl | hx
      · exact ih _ (hasK_mem (hl x (.head _)) hl2 hb)
      · exact ih _ hx
    | false =>
      rcases List.mem_cons.1 hx with rfl | hx
      · exact .head _
      · exact .tail _ (ih _ hx)
def onS (s0 s : St) : St := { s with b := s0.b, fl := s0.fl }
theorem onS_on (s0 s : St) : On s0 (onS s0 s) := ⟨rfl, rfl⟩
theorem onS_eq {s0 s : St} (h : On s0 s) : onS s0 s = s := by
  obtain ⟨h1, h2⟩ := h
  cases s
  simp only at h1 h2
  simp [onS, h1, h2]
def goers : List XK → List XK
  | [] => []
  | .n e s :: l => .n e s :: goers l
  | _ :: l => goers l
def stops : List XK → List XK
  | [] => []
  | .n _ _ :: l => stops l
  | x :: l => x :: stops l
theorem goers_mem {e : EK} {s : St} : ∀ {l : List XK}, XK.n e s ∈ l → XK.n e s ∈ goers l
  | .n e' s' :: l, h => by
    rcases List.mem_cons.1 h with h | h
    · rw [h]; exact .head _
    · exact .tail _ (goers_mem h)
  | .x _ _ _ :: l, h => by
    rcases List.mem_cons.1 h with h | h
    · cases h
    · exact goers_mem (l := l) h
  | .r _ _ :: l, h => by
    rcases List.mem_cons.1 h with h | h
    · cases h
    · exact goers_mem (l := l) h
theorem stops_mem {x : XK} (hx : ∀ e s, x ≠ .n e s) : ∀ {l : List XK}, x ∈ l → x ∈ stops l
  | .n e' s' :: l, h => by
    rcases List.mem_cons.1 h with h | h
    · exact absurd h (hx _ _)
    · exact stops_mem hx (l := l) h
  | .x _ _ _ :: l, h => by
    rcases List.mem_cons.1 h with h | h
    · rw [h]; exact .head _
    · exact .tail _ (stops_mem hx h)
  | .r _ _ :: l, h => by
    rcases List.mem_cons.1 h with h | h
    · rw [h]; exact .head _
    · exact .tail _ (stops_mem hx h)
def badOut (q : SP) (nx : KF) : KF := @SP.rec (fun _ => KF) (fun q => ⟨fun call e s => q e .bad fun e' => nx.r call e' s⟩) q
def giveF (vis0 : Vs) (nx : KF) : List Nat → KF
  | [] => nx
  | t :: l => match posOf vis0 t with
    | some p => badOut (natS p setP) (giveF vis0 nx l)
    | none => giveF vis0 nx l
theorem giveF_snd {ρ : Rh} {P : Program} {fn : Func} {vis0 : Vs} {N : Nat} {nx : KF} {G : (Exit → Act → World → Prop) → Act → World → Prop} (hnx : Snd ρ P fn vis0 N vis0 nx G) : ∀ l, Snd ρ P fn vis0 N vis0 (giveF vis0 nx l) G
  | [] => hnx
  | t :: l => by
    unfold giveF
    split
    · rename_i p hp
      intro call hC env θ s a w L Q hs he hN h ho
      have h0 : ((natS p setP).s env .bad fun e' => (giveF vis0 nx l).r call e' s).L = some L := h
      rw [natS_eq] at h0
      obtain ⟨h1, h2⟩ := setP_L h0
      refine giveF_snd hnx l call hC _ θ s a w L Q hs (fun m d hd => he m d ?_) hN h2 ho
      unfold visE at hd ⊢
      split at hd
      · rw [EK.get_set _ _ _ _ h1] at hd
        split at hd
        · cases hd
        · exact hd
      · cases hd
    · exact giveF_snd hnx l
def onX (s0 : St) (x : XK) : XK := x.map (onS s0)
theorem onX_on {s0 : St} (x : XK) : On s0 (onX s0 x).st := by cases x <;> exact onS_on _ _

section
def bodyX (B : KF) (call : CallF) (x : XK) : O3 := @XK.rec (fun _ => O3) (fun e s => B.r call e s) (fun _ _ _ => .no) (fun _ _ => .no) x
def wGo (s0 : St) (B : KF) (call : CallF) : Nat → List XK → Option (List XK)
  | 0, _ => none
  | _ + 1, [] => some []
  | n + 1, l => match forkL (bodyX B call) l with
    | none => none
    | some outs => match wGo s0 B call n (uniqK ((goers outs).map (onX s0))) with
      | none => none
      | some r => some (stops outs ++ r)
def unS (s s2 : St) : St := { s2 with b := s.b, h := layO s2.h s.h }
def fork1 (k : XK → O3) (l : List XK) : O3 := match l with
  | [x] => k x
  | l => forkO k l
theorem fork1_mem {k : XK → O3} {l : List XK} {L : List XK} (h : (fork1 k l).L = some L) : ∀ x ∈ l, ∃ L', (k x).L = some L' ∧ ∀ z ∈ L', z ∈ L := by
  unfold fork1 at h
  split at h
  · intro x hx
    simp only [List.mem_singleton] at hx
    subst hx
    exact ⟨L, h, fun _ hz => hz⟩
  · exact forkO_mem h
def walkF (B : KF) (ex : Nat → KF) (rounds : Nat) : KF := ⟨fun call e s => match wGo (rebase s) B call rounds [.n e (rebase s)] with
  | some R => fork1 (fun x => xkGo ex call (fun _ _ => .no) (x.map (unS s))) (uniqK (R.map (XK.map (onS (rebase s)))))
  | none => .no⟩
end

section
variable {Γ : Cx} {ρ : Rh} {P : Program} {θ θ' : Tz} {s s' : St} {w w' : World} {N : Nat} {fn : Func} {vis0 : Vs}
theorem walkF_snd {B : KF} {ex : Nat → KF} {rounds : Nat} {c : Code} {Ge : Nat → (Exit → Act → World → Prop) → Act → World → Prop}
    (hB : Snd ρ P fn vis0 N vis0 B (fun Q a w => c.wp P Q a w)) (hex : ∀ i, Snd ρ P fn vis0 N vis0 (ex i) (Ge i)) :
    Snd ρ P fn vis0 N vis0 (walkF B ex rounds) (fun Q a w => (Code.loop c).wp P (fun x a w => match x with | .exit i => Ge i Q a w | .ret => Q .ret a w | _ => False) a w) := by
  intro call hC env θ s a w L Q hs he hN h ho
  have h0 : (match wGo (rebase s) B call rounds [.n env (rebase s)] with
    | some R => fork1 (fun x => xkGo ex call (fun _ _ => .no) (x.map (unS s))) (uniqK (R.map (XK.map (onS (rebase s)))))
    | none => .no : O3).L = some L := h
  clear h
  split at h0 <;> try (cases h0; done)
  rename_i R hR
  have h4 := fork1_mem h0
  have hs2 : Sat ρ θ (rebase s) w := hs.congr (rebase_get s) rfl rfl
  -- what stops is among those that go on behind
  have stop : ∀ x ∈ R, On (rebase s) x.st → ∃ L', (xkGo ex call (fun _ _ => .no) (x.map (unS s))).L = some L' ∧ ∀ z ∈ L', z ∈ L := fun x hx hon => by
    have e : XK.map (onS (rebase s)) x = x := by cases x <;> simp only [XK.map] <;> rw [onS_eq (by exact hon)]
    have hin : x ∈ R.map (XK.map (onS (rebase s))) := List.mem_map.2 ⟨x, hx, e⟩
    refine h4 x (uniqK_mem (s0 := rebase s) (fun y hy => ?_) x hin)
    obtain ⟨z, _, rfl⟩ := List.mem_map.1 hy
    cases z <;> exact onS_on _ _
  refine wp_loop_ghost (fun n a' w' => ∃ (l r : List XK), wGo (rebase s) B call n l = some r ∧ (∀ z ∈ r, z ∈ R) ∧ ∃ env' s' θ', XK.n env' s' ∈ l ∧ Gon ρ θ (rebase s) w θ' s' w' ∧ EnvOk ρ θ' (visE vis0 env') a' ∧ SzOk N a') rounds
    ⟨_, R, hR, fun _ hz => hz, env, rebase s, θ, .head _, Gon.refl hs2, he, hN⟩ ?_
  rintro m a' w' ⟨l, r, h1, h2, env', s', θ', hin, g, he', hN'⟩
  cases m with
  | zero => cases h1
  | succ m =>
    cases l with
    | nil => cases hin
    | cons y l =>
      unfold wGo at h1
      split at h1 <;> try (cases h1; done)
      rename_i outs hf
      split at h1 <;> cases h1
      rename_i r' hr'
      obtain ⟨L1, h5, h6⟩ := forkL_mem hf _ hin
      have h5' : (B.r call env' s').L = some L1 := h5
      have back : ∀ {θ1 : Tz} {s1 : St} {w1 : World}, Gon ρ θ' s' w' θ1 s1 w1 → Gon ρ θ s w θ1 (unS s s1) w1 := fun {θ1 s1 w1} g1 => by
        have g2 := g.trans g1
        exact g2.congr (fun n => (rebase_get s n).symm) rfl rfl (fun n => unbase_get s s1 n g2.bs) rfl rfl rfl
      refine hB call hC env' θ' s' a' w' L1 _ g.sat he' hN' h5' ⟨fun e1 s1 hin1 θ1 a1 w1 g1 he1 hN1 => ?_, fun i e1 s1 hin1 θ1 a1 w1 g1 he1 hN1 => ?_, fun d s1 hin1 θ1 a1 w1 v g1 hv hr hN1 => ?_⟩
      · have g2 := g.trans g1
        have hon : On (rebase s) s1 := ⟨g2.bs, g2.fl⟩
        refine ⟨m, Nat.lt_succ_self m, _, _, hr', fun z hz => h2 z (List.mem_append_right _ hz), e1, s1, θ1, ?_, g2, he1, hN1⟩
        refine uniqK_mem (s0 := rebase s) (fun y hy => ?_) _ (List.mem_map.2 ⟨.n e1 s1, goers_mem (h6 _ hin1), by simp only [onX, XK.map]; rw [onS_eq hon]⟩)
        obtain ⟨z, _, rfl⟩ := List.mem_map.1 hy
        exact onX_on z
      · have g2 := g.trans g1
        have hon : On (rebase s) s1 := ⟨g2.bs, g2.fl⟩
        obtain ⟨L2, h7, h8⟩ := stop (.x i e1 s1) (h2 _ (List.mem_append_left _ (stops_mem (fun e s h => by cases h) (h6 _ hin1)))) hon
        have g3 := back g1
        exact hex i call hC e1 θ1 _ a1 w1 L2 Q g3.sat he1 hN1 h7 (ho.go g3 h8)
      · have g2 := g.trans g1
        have hon : On (rebase s) s1 := ⟨g2.bs, g2.fl⟩
        obtain ⟨L2, h7, h8⟩ := stop (.r d s1) (h2 _ (List.mem_append_left _ (stops_mem (fun e s h => by cases h) (h6 _ hin1)))) hon
        cases h7
        exact ho.r d _ (h8 _ (.head _)) θ1 a1 w1 v (back g1) hv hr hN1
end

section
def condF (x : GP) (a b : KF) : KF := @GP.rec (fun _ => KF) (fun g => ⟨fun call e s => g e fun v => kvB v fun t => @Bool.rec (fun _ => O3) (b.r call e s) (a.r call e s) t⟩) x
theorem condF_eq (x : GP) (a b : KF) (call : CallF) (e : EK) (s : St) : (condF x a b).r call e s = x.g e fun v => kvB v fun t => @Bool.rec (fun _ => O3) (b.r call e s) (a.r call e s) t := rfl
def regF (Γ : Cx) (P : Program) (N : Nat) (vis0 : Vs) (id : Nat) (ops : Array Oper) (d : Bool) (nx : KF) : KF :=
  @Bool.rec (fun _ => KF) (@Bool.rec (fun _ => KF) (rawF Γ P N vis0 false id ops nx) (opsS Γ P N ops vis0 nx ops.toList vis0.length vis0) (Nat.ble (vis0.length + ops.size) 40)) (rawF Γ P N vis0 true id ops nx) d
abbrev Orc := Nat → Option ((Nat → KF) → KF)
def orcAt (orc : Orc) (r : Option Nat) : Option ((Nat → KF) → KF) := match r with
  | some i => orc i
  | none => none
def stK (Γ : Cx) (P : Program) (N : Nat) (vis0 : Vs) (dr : List (Nat × List Nat)) (rounds : Nat) (orc : Orc) (R : KF) (c : Code) : KF → (Nat → KF) → KF :=
  @Code.rec (fun _ => KF → (Nat → KF) → KF)
    (fun nx _ => nx)
    (fun id ops d nx _ => regF Γ P N vis0 id ops d nx)
    (fun _ _ iha ihb nx ex => iha (ihb nx ex) ex)
    (fun c _ _ iha ihb nx ex => condF (opdG vis0 c) (iha nx ex) (ihb nx ex))
    (fun id _ ih nx ex => ih nx (fun i => @Bool.rec (fun _ => KF) (ex i) nx (Nat.beq i id)))
    (fun c ih _ ex => @Option.rec ((Nat → KF) → KF) (fun _ => KF) (@Bool.rec (fun _ => KF) (loopF (ih normF exitF) ex rounds) (walkF (ih (giveF vis0 normF (drops dr (firstRegion c))) exitF) ex rounds) (walks c)) (fun O => O ex) (orcAt orc (firstRegion c)))
    (fun _ _ _ _ _ _ _ _ => badF)
    (fun i _ ex => ex i)
    (fun _ _ _ _ => badF)
    (fun _ nx _ => nx)
    (fun _ _ _ => badF)
    (fun _ _ => R)
    (fun _ _ _ => badF)
    c
end
section
variable {Γ : Cx} {ρ : Rh} {P : Program} {N : Nat} {fn : Func} {vis0 : Vs} {dr : List (Nat × List Nat)} {rounds : Nat}
abbrev Tf := (Exit → Act → World → Prop) → Act → World → Prop
def LoopIn (c : Code) : Code → Prop
  | .seq a b => LoopIn c a ∨ LoopIn c b
  | .cond _ a b => LoopIn c a ∨ LoopIn c b
  | .block _ a => LoopIn c a
  | .loop a => a = c ∨ LoopIn c a
  | _ => False
def OrcAll (ρ : Rh) (P : Program) (fn : Func) (vis0 : Vs) (N : Nat) (orc : Orc) (code : Code) : Prop := ∀ c, LoopIn c code → ∀ i, firstRegion c = some i → ∀ O, orc i = some O → ∀ (ex : Nat → KF) (Ge : Nat → Tf), (∀ i, Snd ρ P fn vis0 N vis0 (ex i) (Ge i)) →
    Snd ρ P fn vis0 N vis0 (O ex) (fun Q a w => (Code.loop c).wp P (fun x a w => match x with | .exit i => Ge i Q a w | .ret => Q .ret a w | _ => False) a w)
def Xp (Gn : Tf) (Ge : Nat → Tf) (Q : Exit → Act → World → Prop) : Exit → Act → World → Prop
  | .normal, a, w => Gn Q a w
  | .exit i, a, w => Ge i Q a w
  | .ret, a, w => Q .ret a w
  | _, _, _ => False
theorem Xp_then (Gn Gn' : Tf) (Ge : Nat → Tf) (Q : Exit → Act → World → Prop) : Exit.then (Gn' Q) (Xp Gn Ge Q) = Xp Gn' Ge Q := by
  funext x a w
  cases x <;> rfl
theorem regF_snd (hgood : Good vis0 vis0.length) (hpos : ∀ t p, (t, p) ∈ vis0 → posOf vis0 t = some p) (hP : P.follows .mixedOrders = true) (hΓ : CxOk Γ ρ) {id : Nat} {ops : Array Oper} {d : Bool} {nx : KF} {Gn : Tf} (hnx : Snd ρ P fn vis0 N vis0 nx Gn) {Z : (Exit → Act → World → Prop) → Exit → Act → World → Prop} :
    Snd ρ P fn vis0 N vis0 (regF Γ P N vis0 id ops d nx) (fun Q a w => (Code.region id ops d).wp P (Beh Gn Z Q) a w) := by
  unfold regF
  cases d with
  | true => exact rawF_snd hP hΓ hnx hgood hpos
  | false =>
    cases Nat.ble (vis0.length + ops.size) 40 with
    | false => exact rawF_snd hP hΓ hnx hgood hpos
    | true =>
      intro call hC env θ s a w L Q hs he hN h ho
      exact wp_region_list (opsS_snd hΓ hnx ops.toList _ vis0 hgood (fun _ _ h => h) call hC env θ s a w L Q hs he hN h ho)
theorem stK_snd (hgood : Good vis0 vis0.length) (hpos : ∀ t p, (t, p) ∈ vis0 → posOf vis0 t = some p) (hP : P.follows .mixedOrders = true) (hΓ : CxOk Γ ρ) {R : KF} (hR : Snd ρ P fn vis0 N vis0 R (fun Q a w => Q .ret a w)) {orc : Orc} : ∀ (c : Code) (nx : KF) (ex : Nat → KF) (Gn : Tf) (Ge : Nat → Tf), OrcAll ρ P fn vis0 N orc c → Snd ρ P fn vis0 N vis0 nx Gn → (∀ i, Snd ρ P fn vis0 N vis0 (ex i) (Ge i)) →
    Snd ρ P fn vis0 N vis0 (stK Γ P N vis0 dr rounds orc R c nx ex) (fun Q a w => c.wp P (Xp Gn Ge Q) a w)
  | .skip, nx, ex, Gn, Ge, ho', hn, hx => fun call hC env θ s a w L Q hs he hN h ho => wp_skip (hn call hC env θ s a w L Q hs he hN h ho)
  | .label _, nx, ex, Gn, Ge, ho', hn, hx => fun call hC env θ s a w L Q hs he hN h ho => wp_label (hn call hC env θ s a w L Q hs he hN h ho)
  | .ret, nx, ex, Gn, Ge, ho', hn, hx => fun call hC env θ s a w L Q hs he hN h ho => wp_ret (hR call hC env θ s a w L Q hs he hN h ho)
  | .exit i, nx, ex, Gn, Ge, ho', hn, hx => fun call hC env θ s a w L Q hs he hN h ho => wp_exit (hx i call hC env θ s a w L Q hs he hN h ho)
  | .region id ops d, nx, ex, Gn, Ge, ho', hn, hx => fun call hC env θ s a w L Q hs he hN h ho => by
    have h1 : (Code.region id ops d).wp P (Exit.then (Gn Q) (Xp Gn Ge Q)) a w := regF_snd hgood hpos hP hΓ (id := id) (ops := ops) (d := d) hn (Z := Xp Gn Ge) call hC env θ s a w L Q hs he hN h ho
    rw [Xp_then] at h1
    exact h1
  | .seq x y, nx, ex, Gn, Ge, ho', hn, hx => fun call hC env θ s a w L Q hs he hN h ho => by
    have hy := stK_snd hgood hpos hP hΓ hR y nx ex Gn Ge (fun c hc => ho' c (.inr hc)) hn hx
    have := stK_snd hgood hpos hP hΓ hR x _ ex _ Ge (fun c hc => ho' c (.inl hc)) hy hx call hC env θ s a w L Q hs he hN h ho
    refine wp_seq ?_
    have e := Xp_then Gn (fun Q a w => y.wp P (Xp Gn Ge Q) a w) Ge Q
    rw [e]
    exact this
  | .cond c x y, nx, ex, Gn, Ge, ho', hn, hx => fun call hC env θ s a w L Q hs he hN h ho => by
    have h0 : ((condF (opdG vis0 c) (stK Γ P N vis0 dr rounds orc R x nx ex) (stK Γ P N vis0 dr rounds orc R y nx ex)).r call env s).L = some L := h
    rw [condF_eq] at h0
    obtain ⟨v, h1, h2⟩ := opdG_L h0
    obtain ⟨t, h3, h4⟩ := kvB_L h1
    have hv := getF_sound he (h2 _ h3)
    simp only [W] at hv
    cases t with
    | true => exact wp_cond_true hv (stK_snd hgood hpos hP hΓ hR x nx ex Gn Ge (fun c hc => ho' c (.inl hc)) hn hx call hC env θ s a w L Q hs he hN h4 ho)
    | false => exact wp_cond_false hv (stK_snd hgood hpos hP hΓ hR y nx ex Gn Ge (fun c hc => ho' c (.inr hc)) hn hx call hC env θ s a w L Q hs he hN h4 ho)
  | .block id x, nx, ex, Gn, Ge, ho', hn, hx => fun call hC env θ s a w L Q hs he hN h ho => by
    have ih := stK_snd hgood hpos hP hΓ hR x nx (fun i => @Bool.rec (fun _ => KF) (ex i) nx (Nat.beq i id)) Gn (fun i => if i = id then Gn else Ge i) (fun c hc => ho' c hc) hn (fun i => by
      by_cases hi : i = id
      · subst hi
        rw [if_pos rfl, Nat.beq_refl]; exact hn
      · have hb : Nat.beq i id = false := by
          cases hc : Nat.beq i id with
          | true => exact absurd (Nat.eq_of_beq_eq_true hc) hi
          | false => rfl
        rw [if_neg hi, hb]; exact hx i) call hC env θ s a w L Q hs he hN h ho
    refine wp_block (wp_mono ih fun e a w hq => ?_)
    cases e with
    | normal => exact hq
    | exit i =>
      show if i = id then Gn Q a w else Ge i Q a w
      have hq' : (if i = id then Gn else Ge i) Q a w := hq
      by_cases hi : i = id
      · rw [if_pos hi] at hq' ⊢; exact hq'
      · rw [if_neg hi] at hq' ⊢; exact hq'
    | ret => exact hq
    | _ => exact hq.elim
  | .loop c, nx, ex, Gn, Ge, ho', hn, hx => fun call hC env θ s a w L Q hs he hN h ho => by
    have hnorm : Snd ρ P fn vis0 N vis0 normF (fun Q a w => Q .normal a w) := fun call hC env θ s a w L Q hs he hN h ho => by cases h; exact ho.n _ _ (.head _) θ a w (Gon.refl hs) he hN
    have hB : ∀ {nx : KF}, Snd ρ P fn vis0 N vis0 nx (fun Q a w => Q .normal a w) → Snd ρ P fn vis0 N vis0 (stK Γ P N vis0 dr rounds orc R c nx exitF) (fun Q a w => c.wp P Q a w) := fun {nx} hnx call hC env θ s a w L Q hs he hN h ho => by
      have := stK_snd hgood hpos hP hΓ hR c nx exitF (fun Q a w => Q .normal a w) (fun i Q a w => Q (.exit i) a w) (fun c hc => ho' c (.inr hc)) hnx
        (fun i call hC env θ s a w L Q hs he hN h ho => by cases h; exact ho.x _ _ _ (.head _) θ a w (Gon.refl hs) he hN) call hC env θ s a w L Q hs he hN h ho
      refine wp_mono this fun e a w hq => ?_
      cases e <;> first | exact hq | exact hq.elim
    have h1 : ((@Option.rec ((Nat → KF) → KF) (fun _ => KF) (@Bool.rec (fun _ => KF) (loopF (stK Γ P N vis0 dr rounds orc R c normF exitF) ex rounds) (walkF (stK Γ P N vis0 dr rounds orc R c (giveF vis0 normF (drops dr (firstRegion c))) exitF) ex rounds) (walks c)) (fun O => O ex) (orcAt orc (firstRegion c))).r call env s).L = some L := h
    have fin : (Code.loop c).wp P (fun x a w => match x with | .exit i => Ge i Q a w | .ret => Q .ret a w | _ => False) a w := by
      cases hO : orcAt orc (firstRegion c) with
      | some O =>
        rw [hO] at h1
        unfold orcAt at hO
        split at hO
        · rename_i i hi
          exact ho' c (.inl rfl) i hi O hO ex Ge hx call hC env θ s a w L Q hs he hN h1 ho
        · cases hO
      | none =>
        rw [hO] at h1
        have h0 : ((@Bool.rec (fun _ => KF) (loopF (stK Γ P N vis0 dr rounds orc R c normF exitF) ex rounds) (walkF (stK Γ P N vis0 dr rounds orc R c (giveF vis0 normF (drops dr (firstRegion c))) exitF) ex rounds) (walks c)).r call env s).L = some L := h1
        cases hw : walks c with
        | false => rw [hw] at h0; exact loopF_snd (hB hnorm) hx call hC env θ s a w L Q hs he hN h0 ho
        | true => rw [hw] at h0; exact walkF_snd (hB (giveF_snd hnorm _)) hx call hC env θ s a w L Q hs he hN h0 ho
    refine wp_mono fin fun e a w hq => ?_
    cases e <;> first | exact hq | exact hq.elim
  | .rangeFunc _ _ _ _, nx, ex, Gn, Ge, ho', hn, hx => fun call hC env θ s a w L Q hs he hN h ho => by cases h
  | .scope _, nx, ex, Gn, Ge, ho', hn, hx => fun call hC env θ s a w L Q hs he hN h ho => by cases h
  | .goto _, nx, ex, Gn, Ge, ho', hn, hx => fun call hC env θ s a w L Q hs he hN h ho => by cases h
  | .refuse _, nx, ex, Gn, Ge, ho', hn, hx => fun call hC env θ s a w L Q hs he hN h ho => by cases h
end
end
end
end Go.Q

namespace Go.Q
noncomputable section
open Go.RowKit
open Go.Z hiding cond_false get resF
noncomputable section

structure RA where
  a : EK → St → (List DV → O3) → O3
def cellR (P : Program) (T : Nat) (d : DV) (s : St) : R DV := match d with
  | .p n o => cond (o.eqb (lit 0)) (match rowAt s n with
    | some (_, cs, _) => match ldRow P T cs with
      | some d => .ok d
      | none => fail "result" []
    | none => fail "result" []) (fail "result" [])
  | _ => fail "result" []
def slotG (vis0 : Vs) (t : Nat) : GP := match posOf vis0 t with
  | some p => natG p getP
  | none => badG
theorem slotG_L {vis0 : Vs} {t : Nat} {env : EK} {k : KV → O3} {L : List XK} (h : ((slotG vis0 t).g env k).L = some L) : ∃ v, (k v).L = some L ∧ ∀ d, v.dv = some d → visE vis0 env t = some d := by
  unfold slotG at h
  split at h
  · rename_i p hp
    rw [natG_eq] at h
    exact ⟨_, getP_L h, fun d hd => by simp only [visE, hp, hd]⟩
  · cases h
def raTmp (g : GP) (r : RA) : RA := @GP.rec (fun _ => RA) (fun g => @RA.rec (fun _ => RA) (fun a => ⟨fun e s k => g e fun v => dvK v fun d => a e s fun ds => k (d :: ds)⟩) r) g
def raCell (P : Program) (T : Nat) (g : GP) (r : RA) : RA := @GP.rec (fun _ => RA) (fun g => @RA.rec (fun _ => RA) (fun a => ⟨fun e s k => g e fun v => dvK v fun d => rK (cellR P T d s) fun d => a e s fun ds => k (d :: ds)⟩) r) g
theorem raTmp_eq (g : GP) (r : RA) (e : EK) (s : St) (k : List DV → O3) : (raTmp g r).a e s k = g.g e fun v => dvK v fun d => r.a e s fun ds => k (d :: ds) := rfl
theorem raCell_eq (P : Program) (T : Nat) (g : GP) (r : RA) (e : EK) (s : St) (k : List DV → O3) : (raCell P T g r).a e s k = g.g e fun v => dvK v fun d => rK (cellR P T d s) fun d => r.a e s fun ds => k (d :: ds) := rfl
def raOf (P : Program) (vis0 : Vs) : List ResultVar → RA
  | [] => ⟨fun _ _ k => k []⟩
  | .tmp t :: l => raTmp (slotG vis0 t) (raOf P vis0 l)
  | .cell t T :: l => raCell P T (slotG vis0 t) (raOf P vis0 l)
theorem raOf_L {P : Program} {vis0 : Vs} {env : EK} {s : St} {L : List XK} : ∀ {rv : List ResultVar} {k : List DV → O3}, ((raOf P vis0 rv).a env s k).L = some L →
    ∃ ds, (∀ e : E, (∀ t d, t ∈ rvSlots rv → visE vis0 env t = some d → E.get e t = some d) → resD P e s rv = .ok ds) ∧ (k ds).L = some L
  | [], k, h => ⟨[], fun _ _ => rfl, h⟩
  | .tmp t :: l, k, h => by
    unfold raOf at h
    rw [raTmp_eq] at h
    obtain ⟨v, h1, h2⟩ := slotG_L h
    obtain ⟨d, h3, h4⟩ := dvK_L h1
    obtain ⟨ds, h5, h6⟩ := raOf_L h4
    refine ⟨d :: ds, fun e he => ?_, h6⟩
    have e1 := he t d (by simp [rvSlots]) (h2 d h3)
    have e2 := h5 e (fun t' d' ht hd => he t' d' (by simp [rvSlots, ht]) hd)
    simp only [resD, e1, e2]
  | .cell t T :: l, k, h => by
    unfold raOf at h
    rw [raCell_eq] at h
    obtain ⟨v, h1, h2⟩ := slotG_L h
    obtain ⟨a, h3, h4⟩ := dvK_L h1
    obtain ⟨d, h7, h8⟩ := rK_L h4
    obtain ⟨ds, h5, h6⟩ := raOf_L h8
    refine ⟨d :: ds, fun e he => ?_, h6⟩
    have e1 := he t a (by simp [rvSlots]) (h2 a h3)
    have e2 := h5 e (fun t' d' ht hd => he t' d' (by simp [rvSlots, ht]) hd)
    unfold cellR at h7
    split at h7
    · rename_i n o
      obtain ⟨hc, h7⟩ := cond_fail h7
      split at h7
      · rename_i T' cs ex hr
        split at h7
        · rename_i d' hl
          cases h7
          simp only [resD, e1, hc, _root_.cond_true, hr, hl, e2]
        · exact (fail_ok h7).elim
      · exact (fail_ok h7).elim
    · exact (fail_ok h7).elim
def retF (P : Program) (vis0 : Vs) (rv : List ResultVar) : KF := @RA.rec (fun _ => KF) (fun a => ⟨fun _ e s => a e s fun ds => .r (retD ds) s⟩) (raOf P vis0 rv)
def mkE (f : Nat → Option DV) : List Nat → E
  | [] => []
  | t :: l => match f t with
    | some d => (t, d) :: mkE f l
    | none => mkE f l
theorem mkE_get {f : Nat → Option DV} : ∀ {l : List Nat} {t : Nat} {d : DV}, E.get (mkE f l) t = some d → f t = some d
  | [], _, _, h => by cases h
  | m :: l, t, d, h => by
    unfold mkE at h
    split at h
    · rename_i d' hd
      unfold E.get at h
      cases hb : Nat.beq m t with
      | true => rw [hb] at h; cases h; rw [← Nat.eq_of_beq_eq_true hb]; exact hd
      | false => rw [hb] at h; exact mkE_get h
    · exact mkE_get h
theorem mkE_mem {f : Nat → Option DV} : ∀ {l : List Nat} {t : Nat} {d : DV}, t ∈ l → f t = some d → E.get (mkE f l) t = some d
  | m :: l, t, d, ht, hd => by
    unfold mkE
    by_cases hm : m = t
    · subst hm
      rw [hd]
      simp only [E.get, Nat.beq_refl, _root_.cond_true]
    · have hin : t ∈ l := by
        rcases List.mem_cons.1 ht with e | h
        · exact absurd e.symm hm
        · exact h
      have hb : Nat.beq m t = false := by
        cases hc : Nat.beq m t with
        | true => exact absurd (Nat.eq_of_beq_eq_true hc) hm
        | false => rfl
      split
      · simp only [E.get, hb, _root_.cond_false]; exact mkE_mem hin hd
      · exact mkE_mem hin hd
theorem retF_snd {ρ : Rh} {P : Program} {fn : Func} {vis0 : Vs} {N : Nat} : Snd ρ P fn vis0 N vis0 (retF P vis0 fn.results.toList) (fun Q a w => Q .ret a w) := by
  intro call hC env θ s a w L Q hs he hN h ho
  obtain ⟨ds, h1, h2⟩ := raOf_L (k := fun ds => .r (retD ds) s) (h : ((raOf P vis0 fn.results.toList).a env s fun ds => .r (retD ds) s).L = some L)
  cases h2
  have h3 := h1 (mkE (visE vis0 env) (rvSlots fn.results.toList)) (fun t d ht hd => mkE_mem ht hd)
  obtain ⟨v, h4, h5⟩ := results_sound hs.toR (fun t d hd => he t d (mkE_get hd)) h3
  exact ho.r _ _ (.head _) θ a w v (Gon.refl hs) h4 h5 hN

def argsGo (vis0 : Vs) (args : List DV) : Nat → EK → (EK → O3) → O3 :=
  @List.rec DV (fun _ => Nat → EK → (EK → O3) → O3) (fun _ env k => k env) (fun d _ ih j env k => @Option.rec Nat (fun _ => O3) (ih (Nat.succ j) env k)
    (fun p => pK d fun v => (natS p setP).s env v fun env' => ih (Nat.succ j) env' k) (posOf vis0 j)) args
theorem argsGo_L {vis0 : Vs} {fr : Nat} (hgood : Good vis0 fr) {L : List XK} {all : List DV} : ∀ {args : List DV} {j : Nat} {env : EK} {k : EK → O3}, args = all.drop j → (∀ t d, visE vis0 env t = some d → t < j ∧ all[t]? = some d) → (argsGo vis0 args j env k).L = some L →
    ∃ env', (k env').L = some L ∧ ∀ t d, visE vis0 env' t = some d → all[t]? = some d
  | [], j, env, k, ha, hv, h => ⟨env, h, fun t d hd => (hv t d hd).2⟩
  | a :: args, j, env, k, ha, hv, h => by
    have hget : all[j]? = some a := by
      have h0 : (all.drop j)[0]? = some a := by rw [← ha]; rfl
      simpa using h0
    have hdrop : args = all.drop (j + 1) := by
      have : (all.drop j).drop 1 = args := by rw [← ha]; rfl
      rw [List.drop_drop] at this
      exact this.symm
    have h0 : (@Option.rec Nat (fun _ => O3) (argsGo vis0 args (j + 1) env k) (fun p => pK a fun v => (natS p setP).s env v fun env' => argsGo vis0 args (j + 1) env' k) (posOf vis0 j)).L = some L := h
    cases hp : posOf vis0 j with
    | none =>
      rw [hp] at h0
      exact argsGo_L hgood hdrop (fun t d hd => ⟨Nat.lt_succ_of_lt (hv t d hd).1, (hv t d hd).2⟩) h0
    | some p =>
      rw [hp] at h0
      obtain ⟨v, h1, h2⟩ := pK_L h0
      rw [natS_eq] at h2
      obtain ⟨h3, h4⟩ := setP_L h2
      refine argsGo_L hgood hdrop (fun t d hd => ?_) h4
      rcases visE_set h3 (hgood.step hp) hd with ⟨rfl, e⟩ | ⟨_, e⟩
      · rw [h1] at e; cases e
        exact ⟨Nat.lt_succ_self _, hget⟩
      · exact ⟨Nat.lt_succ_of_lt (hv t d e).1, (hv t d e).2⟩

def retsOf : List XK → Option (List (DV × St))
  | [] => some []
  | .r d s :: l => match retsOf l with
    | some m => some ((d, s) :: m)
    | none => none
  | _ :: _ => none
theorem retsOf_mem : ∀ {l : List XK} {m : List (DV × St)}, retsOf l = some m → ∀ x ∈ l, ∃ d s, x = .r d s ∧ (d, s) ∈ m
  | [], _, _, x, hx => by cases hx
  | .r d s :: l, m, h, x, hx => by
    unfold retsOf at h
    split at h <;> cases h
    rename_i m' hm
    rcases List.mem_cons.1 hx with rfl | hx
    · exact ⟨d, s, rfl, .head _⟩
    · obtain ⟨d', s', h1, h2⟩ := retsOf_mem hm x hx
      exact ⟨d', s', h1, .tail _ h2⟩
  | .n _ _ :: l, m, h, x, hx => by cases h
  | .x _ _ _ :: l, m, h, x, hx => by cases h
def finS (s0 : St) (r : O3) : RS :=
  @O3.rec (fun _ => RS) (.error (.msg "K" [])) (fun _ _ => .error (.msg "K" [])) (fun _ _ _ => .error (.msg "K" [])) (fun d s => .ok [(d, { s with b := s0.b, fl := s0.fl })])
    (fun l => match retsOf l with
      | some m => .ok (uniqV (m.map fun x => (x.1, { x.2 with b := s0.b, fl := s0.fl })))
      | none => .error (.msg "K" [])) r
theorem finS_spec {s0 : St} {r : O3} {l : List (DV × St)} (h : finS s0 r = .ok l) : ∃ L, r.L = some L ∧ ∃ m, retsOf L = some m ∧ l = uniqV (m.map fun x => (x.1, { x.2 with b := s0.b, fl := s0.fl })) := by
  cases r with
  | no => cases h
  | n e s => cases h
  | x i e s => cases h
  | r d s => cases h; exact ⟨_, rfl, [(d, s)], rfl, rfl⟩
  | many L =>
    have h2 : (match retsOf L with
      | some m => .ok (uniqV (m.map fun x => (x.1, { x.2 with b := s0.b, fl := s0.fl })))
      | none => .error (.msg "K" []) : RS) = .ok l := h
    split at h2 <;> cases h2
    rename_i m hm
    exact ⟨L, rfl, m, hm, rfl⟩
structure FN where
  go : CallF → List DV → St → RS
def bodyF (Γ : Cx) (P : Program) (rounds : Nat) (orc : Orc) (F : Fd) : KF :=
  stK Γ P F.N (visOf F.ks 0) F.dr rounds orc (retF P (visOf F.ks 0) F.rv) F.code (retF P (visOf F.ks 0) F.rv) (fun _ => badF)
def fnS (Γ : Cx) (P : Program) (rounds : Nat) (orc : Orc) (F : Fd) : FN :=
  ⟨fun call args s => @Bool.rec (fun _ => RS) (.error (.msg "arguments" [])) (finS s (argsGo (visOf F.ks 0) args 0 badE fun env => (bodyF Γ P rounds orc F).r call env s)) (Nat.ble args.length F.N)⟩
def fnOf (Γ : Cx) (P : Program) (I : Nat → Option Fd) (rounds f : Nat) : FN := @Option.rec Fd (fun _ => FN) ⟨fun _ _ _ => .error (.msg "function" [f])⟩ (fun F => fnS Γ P rounds (fun _ => none) F) (I f)
def callS (Γ : Cx) (P : Program) (I : Nat → Option Fd) (hook : CallF → Nat → Option (List DV → St → RS)) (rounds : Nat) : Nat → CallF :=
  @Nat.rec (fun _ => CallF) (fun _ _ _ => .error (.msg "too deep" [])) (fun _ ih f args s => @Option.rec (List DV → St → RS) (fun _ => RS) ((fnOf Γ P I rounds f).go ih args s) (fun k => k args s) (hook ih f))
theorem fnS_sound {Γ : Cx} {ρ : Rh} {P : Program} (hP : P.follows .mixedOrders = true) (hΓ : CxOk Γ ρ) {call : CallF} (hC : CallOk ρ P call) {f : Nat} {F : Fd} {fn : Func} (f1 : P.funcs[f]? = some fn) (f2 : fn.body = some F.code) (f3 : fn.ntmps = F.N) (f4 : fn.results.toList = F.rv) (f5 : (fn.name == "runtime.NumGoroutine") = false)
    (hks : F.ks.Nodup) {rounds : Nat} {orc : Orc} (hO : OrcAll ρ P fn (visOf F.ks 0) F.N orc F.code) {args : List DV} {s : St} {l : List (DV × St)} {θ : Tz} {w : World} {us : List Value} (hs : Sat ρ θ s w) (hv : WL ρ θ args us) (h1 : (fnS Γ P rounds orc F).go call args s = .ok l) :
    EntersOk P f ∧ Calls P f us.toArray w fun e w' => ∃ d s' θ' v, e = .returned v ∧ (d, s') ∈ l ∧ Gon ρ θ s w θ' s' w' ∧ W ρ θ' d v := by
  have h2 : @Bool.rec (fun _ => RS) (.error (.msg "arguments" [])) (finS s (argsGo (visOf F.ks 0) args 0 badE fun env => (bodyF Γ P rounds orc F).r call env s)) (Nat.ble args.length F.N) = .ok l := h1
  cases hc : Nat.ble args.length F.N with
  | false => rw [hc] at h2; cases h2
  | true =>
    rw [hc] at h2
    obtain ⟨L, hL, m, hm, rfl⟩ := finS_spec (h2 : finS s (argsGo (visOf F.ks 0) args 0 badE fun env => (bodyF Γ P rounds orc F).r call env s) = .ok l)
    have hgood : Good (visOf F.ks 0) (visOf F.ks 0).length := by have := visOf_good F.ks 0; rw [Nat.zero_add] at this; rw [visOf_length]; exact this
    obtain ⟨env, hB, hvis⟩ := argsGo_L hgood (all := args) (by simp) (fun t d hd => by
      unfold visE at hd
      split at hd
      · rw [badE_get] at hd; cases hd
      · cases hd) hL
    refine ⟨entersOk f1 (by rw [f2]; rfl) f5, ?_⟩
    have hlen := WL_length hv
    have hle : args.length ≤ fn.ntmps := by rw [f3]; exact nble hc
    have hret : Snd ρ P fn (visOf F.ks 0) F.N (visOf F.ks 0) (retF P (visOf F.ks 0) F.rv) (fun Q a w => Q .ret a w) := by
      rw [← f4]; exact retF_snd
    have hbody := stK_snd hgood (visOf_pos hks) hP hΓ (dr := F.dr) (rounds := rounds) hret F.code (retF P (visOf F.ks 0) F.rv) (fun _ => badF) (fun Q a w => Q .ret a w) (fun _ _ _ _ => False) hO hret (fun _ => badF_snd)
      call hC env θ s { tmps := us.toArray ++ Array.replicate (fn.ntmps - us.toArray.size) undef, defers := [] } w L
      (fun x a1 w1 => match x with
        | .ret => a1.defers = [] ∧ ∃ v, (results fn a1.tmps).run P w1 = .ok v w1 ∧ ∃ d s' θ' v', Ending.returned v = .returned v' ∧ (d, s') ∈ uniqV (m.map fun x => (x.1, { x.2 with b := s.b, fl := s.fl })) ∧ Gon ρ θ s w θ' s' w1 ∧ W ρ θ' d v'
        | _ => False) hs
      (fun t d' hd => by
        have hi := hvis t d' hd
        obtain ⟨v, h1, h2⟩ := WL_get hv hi
        refine ⟨v, ?_, h2⟩
        have := get_lt h1
        rw [Array.getElem?_append_left (by simpa using this)]
        simpa using h1) ⟨by simp; omega, rfl⟩ hB
      (OutsK.mk (fun e s1 hin => (by obtain ⟨_, _, h3, _⟩ := retsOf_mem hm _ hin; cases h3))
       (fun i e s1 hin => (by obtain ⟨_, _, h3, _⟩ := retsOf_mem hm _ hin; cases h3))
       fun d1 s1 hin θ1 a1 w1 v g hv1 hr hN1 => by
        obtain ⟨d2, s2, h3, h4⟩ := retsOf_mem hm _ hin
        cases h3
        have hon : On s s1 := ⟨g.bs, g.fl⟩
        have hmem : (d1, s1) ∈ m.map fun x => (x.1, { x.2 with b := s.b, fl := s.fl }) := by
          refine List.mem_map.2 ⟨(d1, s1), h4, ?_⟩
          obtain ⟨o1, o2⟩ := hon
          cases s1
          simp only at o1 o2
          simp [o1, o2]
        have hu := uniqV_mem (s0 := s) (fun x hx => by
          obtain ⟨y, _, rfl⟩ := List.mem_map.1 hx
          exact ⟨rfl, rfl⟩) _ hmem
        exact ⟨hN1.2, v, hr, d1, s1, θ1, v, rfl, hu, g, hv1⟩)
    refine calls_of_wp f1 f2 (wp_mono hbody fun e a1 w1 hq => ?_)
    cases e <;> first | exact hq | exact hq.elim
theorem callS_sound {Γ : Cx} {ρ : Rh} {P : Program} (hP : P.follows .mixedOrders = true) (hΓ : CxOk Γ ρ) {I : Nat → Option Fd} (hI : IOk P I) {hook : CallF → Nat → Option (List DV → St → RS)} (hH : HookOk ρ P hook) (hks : ∀ f F, I f = some F → F.ks.Nodup) {rounds : Nat} : ∀ d, CallOk ρ P (callS Γ P I hook rounds d)
  | 0 => fun f args s l θ w us hs hv h => by cases h
  | d + 1 => fun f args s l θ w us hs hv h => by
    have ih := callS_sound hP hΓ hI hH hks (rounds := rounds) d
    have h0 : @Option.rec (List DV → St → RS) (fun _ => RS) ((fnOf Γ P I rounds f).go (callS Γ P I hook rounds d) args s) (fun k => k args s) (hook (callS Γ P I hook rounds d) f) = .ok l := h
    cases hk : hook (callS Γ P I hook rounds d) f with
    | some k => rw [hk] at h0; exact hH _ ih f k hk args s l θ w us hs hv h0
    | none =>
      rw [hk] at h0
      have h1 : (fnOf Γ P I rounds f).go (callS Γ P I hook rounds d) args s = .ok l := h0
      unfold fnOf at h1
      cases hF : I f with
      | none => rw [hF] at h1; cases h1
      | some F =>
        rw [hF] at h1
        obtain ⟨fn, f1, f2, f3, f4, f5⟩ := hI f F hF
        exact fnS_sound hP hΓ ih f1 f2 f3 f4 f5 (hks f F hF) (orc := fun _ => none) (fun c _ i _ O hO => by cases hO) hs hv h1
end
end
end Go.Q

namespace Go.Q
noncomputable section
open Go.RowKit
open Go.Z hiding cond_false get resF
noncomputable section

structure Ck where
  e : EK
  h : List (Nat × Ob)
  nx : Nat
def hOf : List (Nat × Ob) → Tr (Option Ob)
  | [] => .nil
  | (n, o) :: l => match Tr.put 64 (hOf l) n (some o) with
    | some t => t
    | none => hOf l
theorem hOf_get : ∀ {l : List (Nat × Ob)} {n : Nat} {x : Option Ob}, (hOf l).get n = some x → ∃ o, x = some o ∧ (n, o) ∈ l
  | [], n, x, h => by
    have := Tr.get_nil (α := Option Ob) n
    rw [show hOf [] = Tr.nil from rfl, this] at h; cases h
  | (m, o) :: l, n, x, h => by
    unfold hOf at h
    split at h
    · rename_i t ht
      obtain ⟨h1, h2⟩ := Tr.get_put _ _ _ _ _ ht
      by_cases hm : n = m
      · subst hm
        rw [h1] at h; cases h
        exact ⟨o, rfl, .head _⟩
      · rw [h2 n hm] at h
        obtain ⟨o', e1, e2⟩ := hOf_get h
        exact ⟨o', e1, .tail _ e2⟩
    · obtain ⟨o', e1, e2⟩ := hOf_get h
      exact ⟨o', e1, .tail _ e2⟩
def Ck.st (b : Tr Ob) (fl : Nat) (c : Ck) : St := ⟨b, hOf c.h, c.nx, fl⟩
def subV (a b : KV) : Bool := match a with
  | .bad => true
  | a => a.eqb b
def subKL : List KV → List KV → Bool
  | [], [] => true
  | a :: l, b :: m => subV a b && subKL l m
  | _, _ => false
theorem subKL_get : ∀ {l m : List KV}, subKL l m = true → ∀ p d, (l.getD p .bad).dv = some d → (m.getD p .bad).dv = some d
  | [], [], _, p, d, h => by simpa using h
  | a :: l, b :: m, h, p, d, hd => by
    simp only [subKL, Bool.and_eq_true] at h
    cases p with
    | zero =>
      have hd' : a.dv = some d := hd
      show b.dv = some d
      have h1 := h.1
      unfold subV at h1
      split at h1
      · cases hd'
      · rw [← KV.eqb_eq h1]; exact hd'
    | succ p => exact subKL_get h.2 p d hd
  | [], _ :: _, h, _, _, _ => by cases h
  | _ :: _, [], h, _, _, _ => by cases h
def lowOk (s : St) : Nat → Bool
  | 0 => true
  | n + 1 => (match s.h.get n with
    | none => true
    | some _ => false) && lowOk s n
theorem lowOk_get {s : St} : ∀ {m : Nat}, lowOk s m = true → ∀ n, n < m → s.h.get n = none
  | 0, _, n, h => by omega
  | m + 1, h, n, hn => by
    simp only [lowOk, Bool.and_eq_true] at h
    by_cases e : n = m
    · subst e
      have h1 := h.1
      split at h1
      · assumption
      · cases h1
    · exact lowOk_get h.2 n (by omega)
def allIn (s : St) : List (Nat × Ob) → Bool
  | [] => true
  | (n, o) :: l => (Nat.ble s.fl n && eqbO (s.get n) (some o)) && allIn s l
theorem allIn_get {s : St} : ∀ {l : List (Nat × Ob)}, allIn s l = true → ∀ n o, (n, o) ∈ l → s.fl ≤ n ∧ s.get n = some o
  | (m, o') :: l, h, n, o, hm => by
    simp only [allIn, Bool.and_eq_true] at h
    rcases List.mem_cons.1 hm with e | hm
    · cases e
      exact ⟨nble h.1.1, eqbO_eq h.1.2⟩
    · exact allIn_get h.2 n o hm
def subC (c : Ck) (e : EK) (s : St) : Bool := subKL c.e.toL e.toL && (Nat.beq c.nx s.nx && (allIn s c.h && lowOk s s.fl))

section
variable {ρ : Rh} {P : Program} {θ θ' : Tz} {s s' : St} {w w' : World} {N : Nat} {fn : Func} {vis0 : Vs} {b : Tr Ob} {fl : Nat}
theorem st_get {c : Ck} (hs : allIn s c.h = true) {n : Nat} {o : Ob} (hn : s.fl ≤ n) (h : (c.st s.b s.fl).get n = some o) (hb : ∀ m, s.fl ≤ m → s.b.get m = none) : s.get n = some o := by
  have h1 : (match (hOf c.h).get n with | some x => x | none => s.b.get n) = some o := h
  split at h1
  · rename_i x hx
    obtain ⟨o', e1, e2⟩ := hOf_get hx
    subst e1
    cases h1
    exact (allIn_get hs n o e2).2
  · rw [hb n hn] at h1; cases h1
def GroundOk (b : Tr Ob) (fl : Nat) : Prop := ∀ m, fl ≤ m → b.get m = none
theorem sub_gon {c : Ck} {e : EK} (hg : GroundOk s.b s.fl) (h : subC c e s = true) (hs : Sat ρ θ s w) : Gon ρ θ s w θ (c.st s.b s.fl) w := by
  simp only [subC, Bool.and_eq_true] at h
  obtain ⟨_, h2, h3, h4⟩ := h
  have hnx : c.nx = s.nx := nbeq h2
  have low : ∀ n, n < s.fl → (c.st s.b s.fl).get n = s.get n := fun n hn => by
    show (match (hOf c.h).get n with | some x => x | none => s.b.get n) = (match s.h.get n with | some x => x | none => s.b.get n)
    rw [lowOk_get h4 n hn]
    cases hx : (hOf c.h).get n with
    | none => rfl
    | some x =>
      obtain ⟨o, _, e2⟩ := hOf_get hx
      have := (allIn_get h3 n o e2).1
      omega
  have sub : ∀ n o, (c.st s.b s.fl).get n = some o → s.get n = some o := fun n o hn => by
    by_cases hl : n < s.fl
    · rw [low n hl] at hn; exact hn
    · exact st_get h3 (by omega) hn hg
  exact ⟨⟨by show s.fl ≤ c.nx; rw [hnx]; exact hs.fln, fun n hn => hs.fresh n (by rw [← hnx]; exact hn), fun n o hn => hs.res n o (sub n o hn), fun n m o o' L M h1 h2 => hs.inj n m o o' L M (sub n o h1) (sub m o' h2)⟩,
    Tz.ext_refl _, by show s.nx ≤ c.nx; omega, fun _ _ => rfl, rfl, rfl, low, ⟨rfl, rfl, rfl⟩, Nat.le_refl _, fun _ _ _ => rfl, fun n o L h1 h2 h3 => .inr ⟨n, o, L, h1, sub n o h2, h3, rfl⟩⟩
theorem sub_env {c : Ck} {e : EK} {a : Act} (h : subC c e s = true) (he : EnvOk ρ θ (visE vis0 e) a) : EnvOk ρ θ (visE vis0 c.e) a := by
  simp only [subC, Bool.and_eq_true] at h
  intro t d hd
  refine he t d ?_
  unfold visE at hd ⊢
  split at hd
  · exact subKL_get h.1 _ _ hd
  · cases hd

def rOk (r : O3) (c : Ck) : Bool := @O3.rec (fun _ => Bool) false (fun e s => subC c e s) (fun _ _ _ => false) (fun _ _ => false) (fun _ => false) r
def xOk (i : Nat) (r : O3) (c : Ck) : Bool := @O3.rec (fun _ => Bool) false (fun _ _ => false) (fun j e s => Nat.beq i j && subC c e s) (fun _ _ => false) (fun _ => false) r
def goK (B : KF) (call : CallF) (t : O3 → Bool) (n : Nat) : EK → St → Bool :=
  @Nat.rec (fun _ => EK → St → Bool) (fun e s => t (B.r call e s)) (fun _ ih e s => @O3.rec (fun _ => Bool) false (fun e s => ih e s) (fun _ _ _ => false) (fun _ _ => false) (fun _ => false) (B.r call e s)) n
def Ch (B : KF) (call : CallF) (b : Tr Ob) (fl i : Nat) (ce : Ck) : Nat → EK → St → Prop
  | 0, e, s => xOk i (B.r call e s) ce = true
  | n + 1, e, s => (∃ e1 s1, B.r call e s = .n e1 s1 ∧ Ch B call b fl i ce n e1 s1) ∨ (∃ k' : Ck, rOk (B.r call e s) k' = true ∧ Ch B call b fl i ce n k'.e (k'.st b fl))
theorem Ch.mid {B : KF} {call : CallF} {i m : Nat} {ce k' : Ck} (h : Ch B call b fl i ce m k'.e (k'.st b fl)) : ∀ {n : Nat} {e : EK} {s : St}, goK B call (fun r => rOk r k') n e s = true → Ch B call b fl i ce (m + n + 1) e s
  | 0, e, s, h2 => .inr ⟨k', h2, h⟩
  | n + 1, e, s, h2 => by
    have h3 : @O3.rec (fun _ => Bool) false (fun e s => goK B call (fun r => rOk r k') n e s) (fun _ _ _ => false) (fun _ _ => false) (fun _ => false) (B.r call e s) = true := h2
    cases hr : B.r call e s with
    | n e1 s1 => rw [hr] at h3; exact .inl ⟨e1, s1, hr, Ch.mid h h3⟩
    | _ => rw [hr] at h3; cases h3
theorem Ch.last {B : KF} {call : CallF} {i : Nat} {ce : Ck} : ∀ {n : Nat} {e : EK} {s : St}, goK B call (fun r => xOk i r ce) n e s = true → Ch B call b fl i ce n e s
  | 0, e, s, h2 => h2
  | n + 1, e, s, h2 => by
    have h3 : @O3.rec (fun _ => Bool) false (fun e s => goK B call (fun r => xOk i r ce) n e s) (fun _ _ _ => false) (fun _ _ => false) (fun _ => false) (B.r call e s) = true := h2
    cases hr : B.r call e s with
    | n e1 s1 => rw [hr] at h3; exact .inl ⟨e1, s1, hr, Ch.last h3⟩
    | _ => rw [hr] at h3; cases h3
def eqw : Ob → Ob → Bool
  | .win o cs, .win o' cs' => o.eqb o' && eqbC cs cs'
  | x, y => x.eqb y
theorem eqw_eq : ∀ x y : Ob, eqw x y = true → x = y := by
  intro x y h
  unfold eqw at h
  split at h
  · simp only [Bool.and_eq_true] at h
    rw [Lin.eqb_eq h.1, eqbC_eq h.2]
  · exact Ob.eqb_eq h
def orcF (b : Tr Ob) (fl i : Nat) (k0 ce : Ck) (ex : Nat → KF) : KF :=
  ⟨fun call e s => @Bool.rec (fun _ => O3) .no ((ex i).r call ce.e (ce.st b fl)) (eqbT eqw s.b b && (Nat.beq s.fl fl && subC k0 e s))⟩
end
end
end
end Go.Q

namespace Go.Z
open Go.RowKit

structure InlF where
  code : Code
  N : Nat
  rv : List ResultVar
  ann : Ann

end Go.Z

namespace Go.Z
open Go.ChangeShapes Go.WideShapes Go.ChangeAt Go.RowKit

section
variable {H : Type} {enc : TypeId × Value → H} {P : Program}

def readables (P : Program) (ts : List TypeId) : Bool := ts.all fun t => P.readableRec t && decide (t < P.types.size)

theorem trodAll_below (hl : laidOutB P = true) {W W' : World} (hb : Below W.heap.size W W') {sp : Nat → Bool} : ∀ {ts : List TypeId} {vs : List Value} {ds : List (DataW H)} {ps : List MemPlace},
    readables P ts = true → DataW.TrodAll enc P W 0 (fun _ => true) true ts vs ds ps → (∀ x ∈ ps, x.block < W.heap.size) → (∀ x ∈ ps, sp x.block = true) → DataW.TrodAll enc P W' 0 sp true ts vs ds ps
  | [], [], [], _, _, h, _, _ => h
  | [], [], _ :: _, _, _, h, _, _ => h.elim
  | [], _ :: _, _, _, _, h, _, _ => h.elim
  | _ :: _, [], _, _, _, h, _, _ => h.elim
  | _ :: _, _ :: _, [], _, _, h, _, _ => h.elim
  | t :: ts, v :: vs, d :: ds, ps, hr, h, hlt, hsp => by
    obtain ⟨p, q, h1, h2, rfl⟩ := h
    simp only [readables, List.all_cons, Bool.and_eq_true, decide_eq_true_eq] at hr
    refine ⟨p, q, WideElems.Trod_stays hl hr.1.1 hr.1.2 h1 (fun x hx => hb.same (hlt x (List.mem_append.2 (.inl hx)))) (fun x hx => hsp x (List.mem_append.2 (.inl hx))),
      trodAll_below hl hb (by simpa [readables] using hr.2) h2 (fun x hx => hlt x (List.mem_append.2 (.inr hx))) (fun x hx => hsp x (List.mem_append.2 (.inr hx))), rfl⟩

theorem post_true {f : Func} {s : ChangeSpec} {apart fresh handsOn again : Bool} {W W' : World} {args : Array Value} {ds gs : List (DataW H)} {before : List MemPlace} {t : TypeId}
    (hl : laidOutB P = true) (hrd : readables P f.params.toList = true) (hvs : s.vars = []) (hrt : f.resultTypes = #[t]) (ht : P.underlying t = some .bool)
    (hW : DataW.Whole enc P f.params.toList s.vars apart W args.toList ds gs before)
    (hfn : (s.fn H (ds ++ gs)).results = [.lit (.bool true)] ∧ (s.fn H (ds ++ gs)).args = ds ∧ (s.fn H (ds ++ gs)).vars = [])
    (hb : Below W.heap.size W W') : s.post enc P f apart fresh handsOn again W args (.bool true) W' := by
  have hlt := hW.lt
  have hW' := hW
  obtain ⟨p, q, hA, hV, rfl, hz, hn⟩ := hW
  rw [hvs] at hV
  have hq : q = [] := by
    cases gs with
    | nil => exact hV
    | cons _ _ => exact hV.elim
  subst hq
  have hargs : ∀ sp : Nat → Bool, (∀ x ∈ p ++ [], sp x.block = true) → DataW.TrodAll enc P W' 0 sp true f.params.toList args.toList (s.fn H (ds ++ gs)).args p := fun sp hsp => by
    rw [hfn.2.1]
    exact trodAll_below hl hb hrd hA (fun x hx => hlt x (by simpa using hx)) (fun x hx => hsp x (by simpa using hx))
  have hvars : ∀ sp : Nat → Bool, DataW.TrodVars enc P W' sp s.vars (s.fn H (ds ++ gs)).vars [] := fun sp => by rw [hvs, hfn.2.2]; rfl
  have hres : ∀ (b : Nat) (sp : Nat → Bool) (hd : Bool), DataW.TrodAll enc P W' b sp hd f.resultTypes.toList ((Value.bool true).resultList f.resultTypes.size) (s.fn H (ds ++ gs)).results [] := fun b sp hd => by
    rw [hrt, hfn.1]
    exact trodAll_mk1 (shut_bool ht true)
  have hold : ∀ x ∈ p ++ [], (fun b => decide (b < W.heap.size)) x.block = true := fun x hx => by simpa using hlt x hx
  refine ⟨ds, gs, p ++ [], [], p, [], hW', hres _ _ _, hargs _ hold, hvars _, hb.frame _, fun _ => ?_⟩
  refine ⟨ok_one hrt rfl (okWide_bool_mk ht true), _, _, ([] ++ p) ++ [], ⟨[] ++ p, [], trodAll_append (hargs _ (fun _ _ => rfl)) (hres _ _ _), hvars _, rfl, ?_, ?_⟩, ?_⟩
  · intro b off hp
    have hp' : MemPlace.cell b off ∈ p ++ [] := by simpa using hp
    rw [hb.frozen (p := ⟨b, off, none⟩) (hlt _ hp')]
    exact hz b off hp'
  · intro ha
    have := hn ha
    simpa using this
  · intro x hx _
    simpa using hx

end
end Go.Z

namespace Go.Z
open Go.ChangeShapes Go.WideShapes Go.ChangeAt Go.RowKit

section
variable {H : Type} {enc : TypeId × Value → H} {P : Program}

theorem spot_none {w : World} {a : Addr} {v : Value} (h : w.cell? a = some v) : a = ⟨a.block, a.off, none⟩ := by
  obtain ⟨b, o, s⟩ := a
  cases s with
  | none => rfl
  | some s =>
    unfold World.cell? at h
    split at h
    · simp at h
    · cases h

theorem add_spot (b o i : Nat) : Addr.add ⟨b, o, none⟩ i = ⟨b, o + i, none⟩ := by
  unfold Addr.add
  split
  · rename_i h; subst h; rfl
  · rfl

end
end Go.Z

