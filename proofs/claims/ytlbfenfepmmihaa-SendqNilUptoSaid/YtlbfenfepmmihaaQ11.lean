/- Part 11 of what the closing text rests on. -/
import Derived.Test.YtlbfenfepmmihaaQ10
namespace Go.Z
open Go.RowKit

section
variable {P : Program} {C : CE} {K : Ctx} {θ0 : Th} {ops : Array Oper}

def ProtOk (θ : Th) (pr : List (Nat × List SV)) (prB : Prot) : Prop := ∀ x ∈ prB, ∃ rds, (x.1, rds) ∈ pr ∧ ∀ b, x.2 b → ∃ s, s ∈ rds ∧ rdB θ s b

theorem rdB_mono {θ θ' : Th} (hx : θ.ext θ') {s : SV} {b : Nat} (h : rdB θ s b) : rdB θ' s b := by
  cases s <;> simp only [rdB] at h ⊢ <;> first | exact h | (obtain ⟨L, h1, h2⟩ := h; exact ⟨L, hx _ _ h1, h2⟩)

theorem ProtOk.mono {θ θ' : Th} (hx : θ.ext θ') {pr : List (Nat × List SV)} {prB : Prot} (h : ProtOk θ pr prB) : ProtOk θ' pr prB := fun x hm => by
  obtain ⟨rds, h1, h2⟩ := h x hm
  refine ⟨rds, h1, fun b hb => ?_⟩
  obtain ⟨s, h3, h4⟩ := h2 b hb
  exact ⟨s, h3, rdB_mono hx h4⟩

theorem mem_protOf {j i : Nat} {l : List SV} (ha : anc ops ops.size j i = false) : ∀ {pr : List (Nat × List SV)}, (i, l) ∈ pr → ∀ s, s ∈ l → s ∈ protOf ops j pr
  | [], h, _, _ => by cases h
  | (i', l') :: pr, h, s, hs => by
    unfold protOf
    rcases List.mem_cons.1 h with e | h
    · cases e
      rw [ha]
      exact List.mem_append.2 (.inl hs)
    · have := mem_protOf ha h s hs
      cases anc ops ops.size j i' with
      | true => exact this
      | false => exact List.mem_append.2 (.inr this)

theorem okSVs_mem {h : List (Nat × R)} {s : SV} : ∀ {l : List SV}, okSVs h l = true → s ∈ l → okSV h s = true
  | [], _, hm => by cases hm
  | t :: l, hk, hm => by
    simp only [okSVs, Bool.and_eq_true] at hk
    rcases List.mem_cons.1 hm with rfl | hm
    · exact hk.1
    · exact okSVs_mem hk.2 hm

theorem hid_of {h : List (Nat × R)} {n : Nat} {r : R} {s : SV} (h1 : hid1 h s = some (n, r)) : ∀ {l : List SV}, s ∈ l → isHid h l n
  | [], hm => by cases hm
  | t :: l, hm => by
    rcases List.mem_cons.1 hm with rfl | hm
    · refine ⟨r, ?_⟩
      unfold hid
      rw [h1]
      exact .head _
    · obtain ⟨r', hr⟩ := hid_of h1 hm
      refine ⟨r', ?_⟩
      unfold hid
      split
      · exact .tail _ hr
      · exact hr
theorem okPx_spec {h : List (Nat × R)} {k : Prop} : ∀ {l : List SV}, okPx h l k → k ∧ ∀ S i b o, SV.px S i b o ∈ l → ∃ q T m bs n f, pfind h S h = some (q, T, m, bs, n, f) ∧ bs[i]? = some b
  | [], hk => ⟨hk, fun _ _ _ _ hm => by cases hm⟩
  | s :: l, hk => by
    have other : (∀ S i b o, s ≠ .px S i b o) → okPx h l k → k ∧ ∀ S i b o, SV.px S i b o ∈ s :: l → ∃ q T m bs n f, pfind h S h = some (q, T, m, bs, n, f) ∧ bs[i]? = some b := fun hs hk => by
      obtain ⟨h1, h2⟩ := okPx_spec hk
      exact ⟨h1, fun S i b o hm => (List.mem_cons.1 hm).elim (fun e => absurd e.symm (hs S i b o)) (h2 S i b o)⟩
    cases s <;> simp only [okPx] at hk <;> first
      | exact other (fun _ _ _ _ e => by cases e) hk
      | skip
    rename_i S i b o
    split at hk <;> try exact hk.elim
    rename_i q T m bs n f hp
    obtain ⟨h1, h2⟩ := okPx_spec hk.2
    refine ⟨h1, fun S' i' b' o' hm => ?_⟩
    rcases List.mem_cons.1 hm with e | hm
    · cases e; exact ⟨q, T, m, bs, n, f, hp, hk.1⟩
    · exact h2 S' i' b' o' hm

theorem prot_block {θ : Th} {h : List (Nat × R)} {nx : Nat} {w : World} (hs : SatH K θ h nx w) {l : List SV} (hk : okSVs h l = true) (hpx : ∀ S i b o, SV.px S i b o ∈ l → ∃ q T m bs n f, pfind h S h = some (q, T, m, bs, n, f) ∧ bs[i]? = some b) {s : SV} (hm : s ∈ l) {b : Nat} (hb : rdB θ s b) :
    ∀ n, OwnsAt θ h n b → isHid h l n := by
  intro n hn
  have h1 := okSVs_mem hk hm
  have arr : ∀ {m : Nat}, (s = .a m ∨ s = .q m ∨ ∃ es i o, s = .e m es i o) → (∃ L, θ m = some L ∧ L.len ≠ 0 ∧ L.b = b) →
      (match hfind h m with | some (.own _ _) => true | some (.ro _) => true | some (.pown ..) => true | _ => false) = true → isHid h l n := by
    rintro m hsm ⟨L, g1, g2, rfl⟩ hk'
    have h1s : hid1 h s = hidA h m := by rcases hsm with rfl | rfl | ⟨_, _, _, rfl⟩ <;> rfl
    split at hk' <;> try (cases hk'; done)
    · rename_i T d hf
      obtain ⟨L', l1, l2, _⟩ := hs.res m _ hf
      obtain rfl := Option.some.inj (g1.symm.trans l1)
      have hcap : L.cap ≠ 0 := by have := D.at_len l2; omega
      obtain rfl := hs.dis n m _ hn ⟨_, L, hf, g1, hcap, rfl⟩
      exact hid_of (by rw [h1s]; simp only [hidA, hf]; rfl) hm
    · rename_i d hf
      obtain ⟨L', l1, l2, l3, l4⟩ := hs.res m _ hf
      obtain rfl := Option.some.inj (g1.symm.trans l1)
      exact absurd hn ((l4 g2).1.1 n)
    · rename_i T S' m' bs len f hf
      obtain ⟨L', l1, p1, p2, p3, _⟩ := hs.res m _ hf
      obtain rfl := Option.some.inj (g1.symm.trans l1)
      obtain rfl := hs.dis n m _ hn ⟨_, L, hf, g1, .inl ⟨by omega, rfl⟩⟩
      exact hid_of (by rw [h1s]; simp only [hidA, hf]; rfl) hm
  cases s <;> simp only [rdB] at hb
  · rename_i m o
    obtain ⟨L, g1, rfl⟩ := hb
    simp only [okSV] at h1
    split at h1 <;> try (cases h1; done)
    · rename_i T c hf
      obtain rfl := hs.dis n m _ hn ⟨_, L, hf, g1, rfl⟩
      exact hid_of (by simp only [hid1, hf]; rfl) hm
    · rename_i T c hf
      obtain ⟨L', l1, cs, l2, l3, _⟩ := hs.res m _ hf
      obtain rfl := Option.some.inj (g1.symm.trans l1)
      exact absurd hn (l3.1 n)
  · exact arr (.inr (.inr ⟨_, _, _, rfl⟩)) hb h1
  · exact arr (.inl rfl) hb h1
  · rename_i m
    obtain ⟨L, g1, rfl⟩ := hb
    simp only [okSV] at h1
    split at h1 <;> try (cases h1; done)
    rename_i T d hf
    have hlt := nblt h1
    obtain ⟨L', l1, l2, _⟩ := hs.res m _ hf
    obtain rfl := Option.some.inj (g1.symm.trans l1)
    have hcap : L.cap ≠ 0 := by have := D.at_len l2; omega
    obtain rfl := hs.dis n m _ hn ⟨_, L, hf, g1, hcap, rfl⟩
    exact hid_of (by simp only [hid1, hidA, hf]; rfl) hm
  · rename_i m
    obtain ⟨L, g1, rfl⟩ := hb
    simp only [okSV] at h1
    split at h1 <;> try (cases h1; done)
    · rename_i ks vs hf
      obtain rfl := hs.dis n m _ hn ⟨_, L, hf, g1, rfl⟩
      exact hid_of (by simp only [hid1, hf]; rfl) hm
    · rename_i ks vs hf
      obtain ⟨L', l1, l2, l3, _⟩ := hs.res m _ hf
      obtain rfl := Option.some.inj (g1.symm.trans l1)
      exact absurd hn (l3.1 n)
  · rename_i S i b' o
    subst hb
    obtain ⟨q, T, m, bs, len, f, hp, hbi⟩ := hpx S i b' o hm
    obtain ⟨hf, L, hL, hpo⟩ := pfind_sound hs hp
    obtain rfl := hs.dis n q _ hn ⟨_, L, hf, hL, .inr (List.mem_of_getElem? hbi)⟩
    exact hid_of (by simp only [hid1, hp]; rfl) hm

theorem allL_mem {p : Nat → Prop} {j : Nat} : ∀ {l : List Nat}, allL l p → j ∈ l → p j
  | [], _, h => by cases h
  | _ :: _, hp, h => by
    rcases List.mem_cons.1 h with rfl | h
    · exact hp.1
    · exact allL_mem hp.2 h

theorem pickStill_spec {listed : Array Bool} {env : List (Nat × SV)} {i : Nat} {o : Oper} : ∀ {l : List Nat}, pickStill P C ops listed env l = some (i, o) →
    i ∈ l ∧ ops[i]? = some o ∧ runs ops env o.guard = true ∧ Region.free .any ops listed i = true
  | [], h => by simp [pickStill] at h
  | j :: js, h => by
    unfold pickStill at h
    split at h
    · rename_i oj hoj
      cases hc : (runs ops env oj.guard && stillK oj.op && isQuiet P C oj.op env && Region.free .any ops listed j) with
      | true =>
        rw [hc] at h
        cases h
        simp only [Bool.and_eq_true] at hc
        exact ⟨.head _, hoj, hc.1.1.1, hc.2⟩
      | false =>
        rw [hc] at h
        obtain ⟨h1, h2⟩ := pickStill_spec (l := js) h
        exact ⟨.tail _ h1, h2⟩
    · obtain ⟨h1, h2⟩ := pickStill_spec (l := js) h
      exact ⟨.tail _ h1, h2⟩

theorem runs_spec {θ : Th} {env : List (Nat × SV)} {a : Act} (he : SatE K θ env a) {o : Oper} (hr : runs ops env o.guard = true) : Region.wanted o (yielded ops a.tmps) = true := by
  unfold runs at hr
  split at hr
  · rename_i hg
    exact guardM_sound he hg
  · cases hr
theorem stepAny_sound (hC : COk P C) (hsel : Region.noSelect ops = true) {Q : Act → World → Prop} : ∀ (f : Nat) {listed : Array Bool} {pr : List (Nat × List SV)} {prB : Prot} {θ : Th}
    {env : List (Nat × SV)} {h : List (Nat × R)} {nx : Nat} {a : Act} {w : World} {k : List (Nat × SV) → List (Nat × R) → Nat → Prop},
    θ0.ext θ → SatH K θ h nx w → SatE K θ env a → ClosedL ops listed → ProtOk θ pr prB → stepAny P C K.N ops f listed pr env h nx k →
    (∀ env' h' nx' θ' a' w', k env' h' nx' → θ0.ext θ' → SatH K θ' h' nx' w' → SatE K θ' env' a' → Q a' w') → wpAnyC P ops prB Q f listed a w
  | 0, listed, pr, prB, θ, env, h, nx, a, w, k, hx, hs, he, hcl, hpr, hq, hk => by
    obtain ⟨h1, h2⟩ := cond_false hq
    exact ⟨by simpa using h1, hk _ _ _ _ _ _ h2 hx hs he⟩
  | f + 1, listed, pr, prB, θ, env, h, nx, a, w, k, hx, hs, he, hcl, hpr, hq, hk => by
    unfold stepAny at hq
    split at hq
    · rename_i i o hpick
      obtain ⟨p1, p2, p3, p4⟩ := pickStill_spec hpick
      obtain ⟨vs, h1, h2⟩ := resolveL_sound he (fun t ht => by cases ht) hq
      obtain ⟨r, h', nx', θ', v', e1, e2, e3, e4⟩ := stepQ_sound hs h2 h1
      obtain ⟨env', c1, c2⟩ := putS_sound (he.mono e2.ext) e3 e1
      refine wpAnyC_first (B := fun b => ∃ s, s ∈ readsOf o.op vs ∧ rdB θ s b) p2 (Region.noSelect_spec hsel) f listed a w hcl (Region.free_spec p2 p4) p1 (runs_spec he p3)
        (fun w' hw' => e4 w' fun s hsm b hb hr => hw'.2 b hb ⟨s, hsm, hr⟩) ?_
      refine stepAny_sound hC hsel f (Th.ext_trans hx e2.ext) e2.sat c2 (hcl.set p1) ?_ c1 hk
      intro x hxm
      rcases List.mem_cons.1 hxm with rfl | hxm
      · exact ⟨_, .head _, fun b hb => let ⟨s, g1, g2⟩ := hb; ⟨s, g1, rdB_mono e2.ext g2⟩⟩
      · obtain ⟨rds, g1, g2⟩ := hpr.mono e2.ext x hxm
        exact ⟨rds, .tail _ g1, g2⟩
    · obtain ⟨hne, hq⟩ := (cond_cases hq).elim (fun h => h.2.elim) id
      refine ⟨by simpa using hne, fun j hj => ?_⟩
      have hqj := allL_mem hq hj
      split at hqj <;> try exact hqj.elim
      rename_i o hoj
      have carry : ∀ {env : List (Nat × SV)}, SatE K θ env a → anyOp1 P C K.N ops pr j o env h nx (fun env' h' nx' => stepAny P C K.N ops f (listed.setIfInBounds j true) pr env' h' nx' k) →
          o.wp P a w (fun a' w' => (∀ x ∈ prB, anc ops ops.size j x.1 = false → KeepB x.2 w w') ∧ wpAnyC P ops prB Q f (listed.setIfInBounds j true) a' w') Q0 := by
        intro env he hqj
        rcases cond_cases hqj with ⟨_, hqj⟩ | ⟨_, hqj⟩
        · obtain ⟨r, h', nx', θ', v', e1, e2, e3, e4⟩ := stepOQ_sound hC hs he (fun t ht => by cases ht) hqj
          refine Oper.wp_of_quiet (C := Below w.heap.size w) (K := fun a' => ∃ env', stepAny P C K.N ops f (listed.setIfInBounds j true) pr env' h' nx' k ∧ SatE K θ' env' a') (Below.refl _ _) ?_
            ⟨v', e4, putS_sound (he.mono e2.ext) e3 e1⟩
          rintro a' w' hb ⟨env', c1, c2⟩
          exact ⟨fun x _ _ => ⟨hb.size, fun b hb' _ => hb.block b hb'⟩, stepAny_sound hC hsel f (Th.ext_trans hx e2.ext) (e2.sat.below hb) c2 (hcl.set hj) (hpr.mono e2.ext) c1 hk⟩
        · obtain ⟨hok, hqj⟩ := cond_false hqj
          obtain ⟨hqj, hpx⟩ := okPx_spec hqj
          obtain ⟨vs, h1, h2⟩ := resolveL_sound he (fun t ht => by cases ht) hqj
          refine stepL_sound hC (hs.hide (protOf ops j pr)) h2 h1 fun r h' nx' θ' v w' k1 k2 k3 k4 => ?_
          obtain ⟨env', e1, e2⟩ := putS_sound (he.mono k3) k4 k1
          obtain ⟨u1, u2⟩ := hs.unhide k2 k3
          refine ⟨fun x hxm hanc => ⟨k2.frame.size, fun b hb hB => u2 b hb ?_⟩, stepAny_sound hC hsel f (Th.ext_trans hx k3) u1 e2 (hcl.set hj) (hpr.mono k3) e1 hk⟩
          obtain ⟨rds, g1, g2⟩ := hpr x hxm
          obtain ⟨s, g3, g4⟩ := g2 b hB
          exact prot_block hs hok hpx (mem_protOf hanc g1 s g3) g4
      have skip : ∀ {env : List (Nat × SV)}, SatE K θ env a → (putS K.N o.dst (.c undef) env fun env' => stepAny P C K.N ops f (listed.setIfInBounds j true) pr env' h nx k) →
          (∀ x ∈ prB, anc ops ops.size j x.1 = false → KeepB x.2 w w) ∧ wpAnyC P ops prB Q f (listed.setIfInBounds j true) (a.put o.dst undef) w := by
        intro env he hp
        obtain ⟨env', e1, e2⟩ := putS_sound he (V_c θ undef) hp
        exact ⟨fun x _ _ => .refl _ _, stepAny_sound hC hsel f hx hs e2 (hcl.set hj) hpr e1 hk⟩
      unfold wpOp
      simp only [hoj]
      split at hqj <;> try exact hqj.elim
      · rename_i hg
        have hw := guardM_sound he hg
        simp only [GM.ok] at hw
        rw [if_pos hw]
        exact .inl (carry he hqj)
      · rename_i hg
        have hw := guardM_sound he hg
        simp only [GM.ok] at hw
        rw [hw, if_neg (by simp)]
        exact skip he hqj
      · rename_i d t want hg
        have hw := guardM_sound he hg
        simp only [GM.ok] at hw
        by_cases ht : t = want
        · rw [hw.2, show (t == want) = true by simp [ht], if_pos rfl]
          exact .inl (carry (he.known hw.1 ht) ((swc_spec hqj).1 ht))
        · have ht' : t = !want := ne_not ht
          rw [hw.2, show (t == want) = false by simp [ht], if_neg (by simp)]
          exact skip (he.known hw.1 ht') ((swc_spec hqj).2 ht')

theorem wp_region_anyC (hP : P.follows .mixedOrders = true) (hC : COk P C) (hsel : Region.noSelect ops = true) {id : Nat} {Q : Exit → Act → World → Prop} {θ : Th} {env : List (Nat × SV)} {h : List (Nat × R)} {nx : Nat} {a : Act} {w : World}
    {k : List (Nat × SV) → List (Nat × R) → Nat → Prop} (hx : θ0.ext θ) (hs : SatH K θ h nx w) (he : SatE K θ env a)
    (hq : stepAny P C K.N ops ops.size (Array.replicate ops.size false) [] env h nx k)
    (hk : ∀ env' h' nx' θ' a' w', k env' h' nx' → θ0.ext θ' → SatH K θ' h' nx' w' → SatE K θ' env' a' → Q .normal a' w') : (Code.region id ops true).wp P Q a w := by
  have hb : Below w.heap.size w { w with drawn := w.drawn + 1 } := ⟨rfl, rfl, rfl, Nat.le_refl _, fun _ _ => rfl⟩
  refine wp_region_any hP (wpAny_of_C (Q := fun a w => Q .normal a w) (pr := []) (fun a w h => h) _ _ _ _ ?_)
  refine stepAny_sound hC hsel _ hx (hs.below hb) he ?_ (fun x hx => by cases hx) hq fun env' h' nx' θ' a' w' g1 g2 g3 g4 => hk _ _ _ _ _ _ g1 g2 g3 g4
  intro j oj _ hl
  rcases Nat.lt_or_ge j ops.size with h' | h'
  · simp [h'] at hl
  · simp [h'] at hl
end
end Go.Z

namespace Go.Z
open Go.RowKit

inductive OI where
  | o (x : O)
  | same
inductive G where
  | c (x : O)
  | blk (l : List OI)
  | pw (f : Nat → Nat → D)
abbrev Item := Nat × G

structure LoopAnn where
  γ : Type
  pre : γ → Prop
  μ : γ → Nat
  items : γ → List Item

inductive LoopF where
  | one (A : LoopAnn)
  | fam (π : Type) (A : π → LoopAnn)
instance : Coe LoopAnn LoopF := ⟨.one⟩

structure Ann where
  loop : Nat → Option LoopF
  split : Nat → Bool
  unroll : Nat → Nat
  drop : Nat → List Nat

inductive Ex where
  | normal
  | exit (id : Nat)
  | ret

def dstsOps : List Oper → List Nat
  | [] => []
  | o :: l => match o.dst with
    | some d => d :: dstsOps l
    | none => dstsOps l

def dsts : Code → List Nat
  | .region _ ops _ => dstsOps ops.toList
  | .seq a b => dsts a ++ dsts b
  | .cond _ a b => dsts a ++ dsts b
  | .block _ c => dsts c
  | .loop c => dsts c
  | .scope c => dsts c
  | _ => []

def firstRegion : Code → Option Nat
  | .region id _ _ => some id
  | .seq a b => match firstRegion a with
    | some i => some i
    | none => firstRegion b
  | .cond _ a b => match firstRegion a with
    | some i => some i
    | none => firstRegion b
  | .block _ c => firstRegion c
  | .loop c => firstRegion c
  | .scope c => firstRegion c
  | _ => none

def filterEnv : List Nat → List (Nat × SV) → List (Nat × SV)
  | _, [] => []
  | W, (t, s) :: l => cond (memB t W) (filterEnv W l) ((t, s) :: filterEnv (t :: W) l)
def filterH : List Nat → List (Nat × R) → List (Nat × R)
  | _, [] => []
  | W, (t, s) :: l => cond (memB t W) (filterH W l) ((t, s) :: filterH (t :: W) l)

def ptrS (s : SV) : Option Nat :=
  match s with
  | .p m 0 => some m
  | .i _ (.p m 0) => some m
  | _ => none
def blkAt (env : List (Nat × SV)) (h : List (Nat × R)) (t : Nat) : Option (Nat × Nat × List SV) :=
  match efind env t with
  | some s => match ptrS s with
    | some m => match hfind h m with
      | some (.blk T cs) => some (m, T, cs)
      | _ => none
    | none => none
  | none => none
def pwAt (env : List (Nat × SV)) (t : Nat) : Option Nat :=
  match efind env t with
  | some (.a n) => some n
  | some (.hv n _) => some n
  | _ => none

def instOIs : List OI → List SV → List (Nat × R) → Nat → (List SV → List (Nat × R) → Nat → Prop) → Prop
  | [], [], h, nx, k => k [] h nx
  | x :: l, s0 :: ss0, h, nx, k =>
    match x with
    | .o x => instO x h nx fun s h' nx' => instOIs l ss0 h' nx' fun ss h'' nx'' => k (s :: ss) h'' nx''
    | .same => instOIs l ss0 h nx fun ss h'' nx'' => k (s0 :: ss) h'' nx''
  | _, _, _, _, _ => False

def instIt (env1 : List (Nat × SV)) (h1 : List (Nat × R)) : List Item → List (Nat × R) → Nat → (List (Nat × SV) → List (Nat × R) → Nat → Prop) → Prop
  | [], h, nx, k => k [] h nx
  | (t, g) :: is, h, nx, k =>
    match g with
    | .c x => instO x h nx fun s h' nx' => instIt env1 h1 is h' nx' fun es h'' nx'' => k ((t, s) :: es) h'' nx''
    | .blk l => match blkAt env1 h1 t with
      | some (m, T, cs) => instOIs l cs h nx fun ss h' nx' => instIt env1 h1 is ((m, .blk T ss) :: h') nx' k
      | none => False
    | .pw f => match pwAt env1 t with
      | some n => match hfind h1 n with
        | some (.pown T S m bs len _) => instIt env1 h1 is ((n, .pown T S m bs len f) :: h) nx k
        | _ => False
      | none => False

def matchOIs (h : List (Nat × R)) : List OI → List SV → List SV → NK → Prop
  | [], [], [], k => k [] []
  | x :: l, s0 :: ss0, s :: ss, k =>
    match x with
    | .o x => matchO h x s fun on rn => matchOIs h l ss0 ss fun on' rn' => k (on ++ on') (rn ++ rn')
    | .same => s = s0 ∧ matchOIs h l ss0 ss k
  | _, _, _, _ => False

def matchIt (env1 : List (Nat × SV)) (h1 : List (Nat × R)) (env : List (Nat × SV)) (h : List (Nat × R)) : List Item → NK → Prop
  | [], k => k [] []
  | (t, g) :: is, k =>
    match g with
    | .c x => match efind env t with
      | some s => matchO h x s fun on rn => matchIt env1 h1 env h is fun on' rn' => k (on ++ on') (rn ++ rn')
      | none => False
    | .blk l => match blkAt env1 h1 t with
      | some (m, T, cs0) => match hfind h m with
        | some (.blk T' cs) => cond (Nat.beq T T') (matchOIs h l cs0 cs fun on rn => matchIt env1 h1 env h is fun on' rn' => k ((m :: on) ++ on') (rn ++ rn')) False
        | _ => False
      | none => False
    | .pw f => match pwAt env1 t with
      | some n => match hfind h1 n, hfind h n with
        | some (.pown T S m bs len _), some (.pown T' S' m' bs' len' f') => cond (Nat.beq T T' && Nat.beq S S' && Nat.beq m m')
          ((bs' = bs ∧ len' = len ∧ ∀ i, i < len → ∀ j, j < m → f' i j = f i j) ∧ matchIt env1 h1 env h is fun on' rn' => k (n :: on') rn') False
        | _, _ => False
      | none => False

def okMs (base : Nat) (drops : List Nat) : List Nat → Bool
  | [] => true
  | m :: l => (Nat.ble base m || memB m drops) && okMs base drops l

def slotsI : List Item → List Nat
  | [] => []
  | (t, .c _) :: is => t :: slotsI is
  | _ :: is => slotsI is

def keptE (env : List (Nat × SV)) : List (Nat × SV) → Prop
  | [] => True
  | (t, s) :: l => efind env t = some s ∧ keptE env l
def keptH (h : List (Nat × R)) : List (Nat × R) → Prop
  | [] => True
  | (t, s) :: l => hfind h t = some s ∧ keptH h l

def quietsK (P : Program) (C : CE) : List Oper → Bool
  | [] => true
  | o :: l => isQuiet P C o.op [] && quietsK P C l

abbrev EK := Ex → List (Nat × SV) → List (Nat × R) → Nat → Prop

def rounds (body : List (Nat × SV) → List (Nat × R) → Nat → EK → Prop) : Nat → List (Nat × SV) → List (Nat × R) → Nat → EK → Prop
  | 0, _, _, _, _ => False
  | n + 1, env, h, nx, k => body env h nx fun e env' h' nx' => match e with
    | .normal => rounds body n env' h' nx' k
    | e => k e env' h' nx'

def seqN (n : Nat) (k : Nat → Prop) : Prop := match n with
  | 0 => k 0
  | m + 1 => k (m + 1)
def seqR (r : R) (k : R → Prop) : Prop := match r with
  | .dead => k .dead
  | .ro d => k (.ro d)
  | .own T d => k (.own T d)
  | .blk T l => k (.blk T l)
  | .rblk T l => k (.rblk T l)
  | .map a b => k (.map a b)
  | .rmap a b => k (.rmap a b)
  | .gl b T kk xs => k (.gl b T kk xs)
  | .pown T S m bs n f => k (.pown T S m bs n f)
def seqH : List (Nat × R) → (List (Nat × R) → Prop) → Prop
  | [], k => k []
  | (n, r) :: t, k => seqN n fun n' => seqR r fun r' => seqH t fun t' => k ((n', r') :: t')
def seqS (s : SV) (k : SV → Prop) : Prop := match s with
  | .unk => k .unk
  | .b t => k (.b t)
  | .c v => k (.c v)
  | .p n o => k (.p n o)
  | .e n es i o => k (.e n es i o)
  | .a n => k (.a n)
  | .nil => k .nil
  | .agg l => k (.agg l)
  | .tup l => k (.tup l)
  | .f fn nf l => k (.f fn nf l)
  | .arr kk xs => k (.arr kk xs)
  | .q n => k (.q n)
  | .m n => k (.m n)
  | .sl n m => k (.sl n m)
  | .g n => k (.g n)
  | .vw n l => k (.vw n l)
  | .px S i b o => k (.px S i b o)
  | .hv n l => k (.hv n l)
  | .i t s => k (.i t s)
  | .w ts v => k (.w ts v)
def seqE : List (Nat × SV) → (List (Nat × SV) → Prop) → Prop
  | [], k => k []
  | (n, s) :: t, k => seqS s fun s' => seqE t fun t' => k ((n, s') :: t')
theorem seqN_iff {n : Nat} {k : Nat → Prop} : seqN n k ↔ k n := by cases n <;> exact Iff.rfl
theorem seqR_iff {r : R} {k : R → Prop} : seqR r k ↔ k r := by cases r <;> exact Iff.rfl
theorem seqS_iff {s : SV} {k : SV → Prop} : seqS s k ↔ k s := by cases s <;> exact Iff.rfl
theorem seqH_iff : ∀ {h : List (Nat × R)} {k : List (Nat × R) → Prop}, seqH h k ↔ k h
  | [], _ => Iff.rfl
  | (n, r) :: t, k => by simp only [seqH, seqN_iff, seqR_iff, seqH_iff (h := t)]
theorem seqE_iff : ∀ {h : List (Nat × SV)} {k : List (Nat × SV) → Prop}, seqE h k ↔ k h
  | [], _ => Iff.rfl
  | (n, r) :: t, k => by simp only [seqE, seqS_iff, seqE_iff (h := t)]
def doneK (k : EK) (env : List (Nat × SV)) (h : List (Nat × R)) (nx : Nat) : Prop := seqE env fun env' => seqH h fun h' => seqN nx fun nx' => k .normal env' h' nx'
theorem doneK_iff {k : EK} {env : List (Nat × SV)} {h : List (Nat × R)} {nx : Nat} : doneK k env h nx ↔ k .normal env h nx := by
  simp only [doneK, seqE_iff, seqH_iff, seqN_iff]

def loopX (_P : Program) (body : List (Nat × SV) → List (Nat × R) → Nat → EK → Prop) (A : LoopAnn) (D : List Nat) (env : List (Nat × SV)) (h : List (Nat × R)) (nx : Nat) (k : EK) : Prop :=
  ∃ g0 : A.γ, A.pre g0 ∧ matchIt env h env h (A.items g0) fun on rn => (nodupB on && disjB rn on) = true ∧ ∀ g : A.γ, A.pre g →
    instIt env h (A.items g) (deads (on ++ rn) h) nx fun es h2 nx2 =>
      body (es ++ filterEnv (slotsI (A.items g) ++ D) env) h2 nx2 fun e env' h' nx' => match e with
        | .normal => ∃ g' : A.γ, A.pre g' ∧ A.μ g' < A.μ g ∧ (matchIt env h env' h' (A.items g') fun on' rn' => (nodupB on' && disjB rn' on' && okMs nx (on ++ rn) (on' ++ rn')) = true) ∧
            keptE env' (filterEnv (slotsI (A.items g') ++ D) env) ∧ keptH h' (filterH (on ++ rn) h)
        | e => k e env' h' nx'

def exec (P : Program) (C : CE) (N : Nat) (ann : Ann) : Code → List (Nat × SV) → List (Nat × R) → Nat → EK → Prop
  | .skip, env, h, nx, k => k .normal env h nx
  | .label _, env, h, nx, k => k .normal env h nx
  | .ret, env, h, nx, k => k .ret env h nx
  | .exit id, env, h, nx, k => k (.exit id) env h nx
  | .region id ops draw, env, h, nx, k =>
    cond draw
      (cond (quietsK P C ops.toList)
        (cond (Region.lexB .any ops) (execOps P C N (ann.split id) true ops ops.toList env h nx (doneK k)) False)
        (cond (Region.noSelect ops) (stepAny P C N ops ops.size (Array.replicate ops.size false) [] env h nx (doneK k)) False))
      (execOps P C N (ann.split id) false ops ops.toList env h nx (doneK k))
  | .seq a b, env, h, nx, k => exec P C N ann a env h nx fun e env' h' nx' => match e with
    | .normal => exec P C N ann b env' h' nx' k
    | e => k e env' h' nx'
  | .cond c x y, env, h, nx, k =>
    match get env c with
    | some (.b true) => exec P C N ann x env h nx k
    | some (.b false) => exec P C N ann y env h nx k
    | some (.c (.bool t)) => sw t (exec P C N ann x env h nx k) (exec P C N ann y env h nx k)
    | _ => False
  | .block id c, env, h, nx, k => exec P C N ann c env h nx fun e env' h' nx' => match e with
    | .exit i => cond (Nat.beq i id) (k .normal env' h' nx') (k (.exit i) env' h' nx')
    | e => k e env' h' nx'
  | .loop c, env, h, nx, k =>
    match firstRegion c with
    | none => False
    | some r => match ann.loop r with
      | none => rounds (exec P C N ann c) (ann.unroll r) env h nx k
      | some (.one A) => loopX P (exec P C N ann c) A (dsts c ++ ann.drop r) env h nx k
      | some (.fam _ F) => ∃ p, loopX P (exec P C N ann c) (F p) (dsts c ++ ann.drop r) env h nx k
  | _, _, _, _, _ => False
end Go.Z

namespace Go.Z
open Go.RowKit

mutual
theorem V_back {θ θ' : Th} (h : θ.ext θ') : ∀ (s : SV) (v v' : Value), V θ s v → V θ' s v' → V θ s v'
  | .unk, _, _, _, _ => by simp [V]
  | .b _, _, _, _, hv => by simpa [V] using hv
  | .c _, _, _, _, hv => by simpa [V] using hv
  | .p n o, v, v', h1, h2 => by
    simp only [V] at *
    obtain ⟨L, e1, _⟩ := h1
    obtain ⟨L', e2, e3⟩ := h2
    obtain rfl := Option.some.inj ((h _ _ e1).symm.trans e2)
    exact ⟨L, e1, e3⟩
  | .e n es i o, v, v', h1, h2 => by
    simp only [V] at *
    obtain ⟨L, e1, _⟩ := h1
    obtain ⟨L', e2, e3⟩ := h2
    obtain rfl := Option.some.inj ((h _ _ e1).symm.trans e2)
    exact ⟨L, e1, e3⟩
  | .a n, v, v', h1, h2 => by
    simp only [V] at *
    obtain ⟨L, e1, _⟩ := h1
    obtain ⟨L', e2, e3⟩ := h2
    obtain rfl := Option.some.inj ((h _ _ e1).symm.trans e2)
    exact ⟨L, e1, e3⟩
  | .nil, _, _, _, hv => by simpa [V] using hv
  | .agg l, v, v', h1, h2 => by
    simp only [V] at *
    obtain ⟨cs, _, e1⟩ := h1
    obtain ⟨cs', e2, e3⟩ := h2
    exact ⟨cs', e2, VL_back h l cs cs' e1 e3⟩
  | .tup l, v, v', h1, h2 => by
    simp only [V] at *
    obtain ⟨cs, _, e1⟩ := h1
    obtain ⟨cs', e2, e3⟩ := h2
    exact ⟨cs', e2, VL_back h l cs cs' e1 e3⟩
  | .f fn nf l, v, v', h1, h2 => by
    simp only [V] at *
    obtain ⟨cs, _, e1⟩ := h1
    obtain ⟨cs', e2, e3⟩ := h2
    exact ⟨cs', e2, VL_back h l cs cs' e1 e3⟩
  | .arr _ _, _, _, _, hv => by simpa [V] using hv
  | .g _, _, _, _, hv => by simpa [V] using hv
  | .q n, v, v', h1, h2 => by
    simp only [V] at *
    obtain ⟨L, e1, _⟩ := h1
    obtain ⟨L', e2, e3⟩ := h2
    obtain rfl := Option.some.inj ((h _ _ e1).symm.trans e2)
    exact ⟨L, e1, e3⟩
  | .m n, v, v', h1, h2 => by
    simp only [V] at *
    obtain ⟨L, e1, _⟩ := h1
    obtain ⟨L', e2, e3⟩ := h2
    obtain rfl := Option.some.inj ((h _ _ e1).symm.trans e2)
    exact ⟨L, e1, e3⟩
  | .sl n _, v, v', h1, h2 => by
    simp only [V] at *
    obtain ⟨L, e1, _⟩ := h1
    obtain ⟨L', e2, e3⟩ := h2
    obtain rfl := Option.some.inj ((h _ _ e1).symm.trans e2)
    exact ⟨L, e1, e3⟩
  | .vw n _, v, v', h1, h2 => by
    simp only [V] at *
    obtain ⟨L, e1, _⟩ := h1
    obtain ⟨L', e2, e3⟩ := h2
    obtain rfl := Option.some.inj ((h _ _ e1).symm.trans e2)
    exact ⟨L, e1, e3⟩
  | .px _ _ _ _, _, _, _, hv => by simpa [V] using hv
  | .hv n _, v, v', h1, h2 => by
    simp only [V] at *
    obtain ⟨L, e1, _⟩ := h1
    obtain ⟨L', e2, e3⟩ := h2
    obtain rfl := Option.some.inj ((h _ _ e1).symm.trans e2)
    exact ⟨L, e1, e3⟩
  | .i t s, v, v', h1, h2 => by
    simp only [V] at *
    obtain ⟨u, _, e1⟩ := h1
    obtain ⟨u', e2, e3⟩ := h2
    exact ⟨u', e2, V_back h s u u' e1 e3⟩
  | .w ts s, v, v', h1, h2 => by
    simp only [V] at *
    exact ⟨fun hc => V_back h s v v' (h1.1 hc) (h2.1 hc), h2.2⟩
theorem VL_back {θ θ' : Th} (h : θ.ext θ') : ∀ (l : List SV) (vs vs' : List Value), VL θ l vs → VL θ' l vs' → VL θ l vs'
  | [], _, [], _, _ => by simp [VL]
  | [], _, _ :: _, _, hv => by simp [VL] at hv
  | _ :: _, [], _, hv, _ => by simp [VL] at hv
  | _ :: _, _ :: _, [], _, hv => by simp [VL] at hv
  | s :: l, v :: vs, v' :: vs', h1, h2 => by
    simp only [VL] at *
    exact ⟨V_back h s v v' h1.1 h2.1, VL_back h l vs vs' h1.2 h2.2⟩
end

theorem mem_of_efind {t : Nat} {s : SV} : ∀ {l : List (Nat × SV)}, efind l t = some s → (t, s) ∈ l
  | [], h => by simp [efind] at h
  | (m, r) :: l, h => by
    rw [efind_cons] at h
    split at h
    · rename_i e; subst e; cases h; exact .head _
    · exact .tail _ (mem_of_efind h)
theorem mem_filterEnv {t : Nat} {s : SV} : ∀ {l : List (Nat × SV)} {W : List Nat}, (t, s) ∈ filterEnv W l → efind l t = some s ∧ t ∉ W
  | [], _, h => by simp [filterEnv] at h
  | (m, r) :: l, W, h => by
    unfold filterEnv at h
    rw [efind_cons]
    cases hm : memB m W with
    | true =>
      rw [hm] at h
      obtain ⟨h1, h2⟩ := mem_filterEnv h
      have : m ≠ t := fun e => h2 (e ▸ memB_iff.1 hm)
      rw [if_neg this]; exact ⟨h1, h2⟩
    | false =>
      rw [hm] at h
      rcases List.mem_cons.1 h with e | h
      · cases e
        exact ⟨by rw [if_pos rfl], fun hc => by rw [memB_iff.2 hc] at hm; cases hm⟩
      · obtain ⟨h1, h2⟩ := mem_filterEnv h
        have : m ≠ t := fun e => h2 (e ▸ .head _)
        rw [if_neg this]; exact ⟨h1, fun hc => h2 (.tail _ hc)⟩
theorem mem_filterH {t : Nat} {s : R} : ∀ {l : List (Nat × R)} {W : List Nat}, (t, s) ∈ filterH W l → hfind l t = some s ∧ t ∉ W
  | [], _, h => by simp [filterH] at h
  | (m, r) :: l, W, h => by
    unfold filterH at h
    rw [hfind_cons]
    cases hm : memB m W with
    | true =>
      rw [hm] at h
      obtain ⟨h1, h2⟩ := mem_filterH h
      have : m ≠ t := fun e => h2 (e ▸ memB_iff.1 hm)
      rw [if_neg this]; exact ⟨h1, h2⟩
    | false =>
      rw [hm] at h
      rcases List.mem_cons.1 h with e | h
      · cases e
        exact ⟨by rw [if_pos rfl], fun hc => by rw [memB_iff.2 hc] at hm; cases hm⟩
      · obtain ⟨h1, h2⟩ := mem_filterH h
        have : m ≠ t := fun e => h2 (e ▸ .head _)
        rw [if_neg this]; exact ⟨h1, fun hc => h2 (.tail _ hc)⟩

theorem keptE_mem {env : List (Nat × SV)} {t : Nat} {s : SV} : ∀ {l : List (Nat × SV)}, keptE env l → (t, s) ∈ l → efind env t = some s
  | [], _, h => by cases h
  | (_, _) :: l, hk, h => by
    rcases List.mem_cons.1 h with e | h
    · cases e; exact hk.1
    · exact keptE_mem hk.2 h
theorem keptH_mem {env : List (Nat × R)} {t : Nat} {s : R} : ∀ {l : List (Nat × R)}, keptH env l → (t, s) ∈ l → hfind env t = some s
  | [], _, h => by cases h
  | (_, _) :: l, hk, h => by
    rcases List.mem_cons.1 h with e | h
    · cases e; exact hk.1
    · exact keptH_mem hk.2 h
theorem keptE_of {env : List (Nat × SV)} : ∀ {l : List (Nat × SV)}, (∀ t s, (t, s) ∈ l → efind env t = some s) → keptE env l
  | [], _ => trivial
  | (_, _) :: _, h => ⟨h _ _ (.head _), keptE_of fun t s hm => h t s (.tail _ hm)⟩
theorem keptH_of {env : List (Nat × R)} : ∀ {l : List (Nat × R)}, (∀ t s, (t, s) ∈ l → hfind env t = some s) → keptH env l
  | [], _ => trivial
  | (_, _) :: _, h => ⟨h _ _ (.head _), keptH_of fun t s hm => h t s (.tail _ hm)⟩


theorem mem_filterH_of {t : Nat} {s : R} : ∀ {l : List (Nat × R)} {W : List Nat}, hfind l t = some s → t ∉ W → (t, s) ∈ filterH W l
  | [], _, h, _ => by simp [hfind] at h
  | (m, r) :: l, W, h, hn => by
    rw [hfind_cons] at h
    unfold filterH
    by_cases e : m = t
    · subst e
      rw [if_pos rfl] at h; cases h
      have : memB m W = false := by
        cases hb : memB m W with
        | false => rfl
        | true => exact absurd (memB_iff.1 hb) hn
      rw [this]; exact .head _
    · rw [if_neg e] at h
      cases hb : memB m W with
      | true => exact mem_filterH_of h hn
      | false => exact .tail _ (mem_filterH_of h (fun hm => by
          rcases List.mem_cons.1 hm with rfl | hm
          · exact e rfl
          · exact hn hm))

theorem R.holds_back {θ θ' θ2 : Th} {X X' X2 : Nat → Prop} {w w' : World} {L : Loc} {r : R} (hx : θ.ext θ') (hx2 : θ.ext θ2) (hk : Keeps X' X2 w' w')
    (h : r.holds θ X w L) (h' : r.holds θ' X' w' L) : r.holds θ2 X2 w' L := by
  cases r with
  | dead => trivial
  | ro d =>
    obtain ⟨g1, g2, g3⟩ := h'
    exact ⟨D.at_mono hk (fun _ => rfl) g1, g2, Loc.inn_mono hk g3⟩
  | own T d =>
    obtain ⟨g1, g2, g3⟩ := h'
    exact ⟨D.at_mono hk (fun _ => rfl) g1, g2, g3⟩
  | blk T l =>
    obtain ⟨cs, _, _, e3⟩ := h
    obtain ⟨cs', g1, g2, g3⟩ := h'
    exact ⟨cs', g1, g2, VL_mono hx2 _ _ (VL_back hx l cs cs' e3 g3)⟩
  | rblk T l =>
    obtain ⟨cs, _, _, _, e3⟩ := h
    obtain ⟨cs', g1, g0, g2, g3⟩ := h'
    exact ⟨cs', g1, (hk _ (Array.getElem?_eq_some_iff.1 g2).1 g0).1, g2, VL_mono hx2 _ _ (VL_back hx l cs cs' e3 g3)⟩
  | map ks vs => exact h'
  | pown T S m bs n f => exact POwn.mono hk (fun _ _ => rfl) h'
  | rmap ks vs =>
    obtain ⟨g1, g0, es, clock, g2, g3⟩ := h'
    exact ⟨g1, (hk _ (Array.getElem?_eq_some_iff.1 g2).1 g0).1, es, clock, g2, g3⟩
  | gl b T kk xs =>
    obtain ⟨g1, g0, g2⟩ := h'
    exact ⟨g1, (hk _ g2.1 g0).1, g2⟩

def OIL (X : Nat → Prop) (w : World) (θ1 : Th) : List OI → List SV → List Value → List Nat → Prop
  | [], [], [], fp => fp = []
  | x :: l, s0 :: ss0, v :: vs, fp => ∃ f g, fp = f ++ g ∧ (match x with
      | .o x => O.holds X w x v f
      | .same => V θ1 s0 v ∧ f = []) ∧ OIL X w θ1 l ss0 vs g
  | _, _, _, _ => False

def ItH (X : Nat → Prop) (w : World) (θ1 : Th) (env1 : List (Nat × SV)) (h1 : List (Nat × R)) (a : Act) : List Item → List Nat → Prop
  | [], fp => fp = []
  | (t, .c x) :: is, fp => ∃ f g v, fp = f ++ g ∧ a.tmps[t]? = some v ∧ O.holds X w x v f ∧ ItH X w θ1 env1 h1 a is g
  | (t, .blk l) :: is, fp => ∃ m T cs0 L f g, ∃ us : List Value, blkAt env1 h1 t = some (m, T, cs0) ∧ θ1 m = some L ∧ L.a = some ⟨L.b, 0, none⟩ ∧ w.heap[L.b]? = some (.cells us.toArray T (0, 0)) ∧
      OIL X w θ1 l cs0 us f ∧ fp = (L.b :: f) ++ g ∧ ItH X w θ1 env1 h1 a is g
  | (t, .pw f) :: is, fp => ∃ n T S m bs len f0 L g, pwAt env1 t = some n ∧ hfind h1 n = some (.pown T S m bs len f0) ∧ θ1 n = some L ∧ POwn X w L T S m bs len f ∧ fp = (if L.cap = 0 then bs else L.b :: bs) ++ g ∧
      ItH X w θ1 env1 h1 a is g

section
variable {K : Ctx} {X : Nat → Prop} {w : World} {θ1 : Th} {env1 : List (Nat × SV)} {h1 : List (Nat × R)}

theorem instOIs_sound : ∀ (l : List OI) {ss0 : List SV} {θ : Th} {h : List (Nat × R)} {nx : Nat} {vs : List Value} {fp : List Nat} {k : List SV → List (Nat × R) → Nat → Prop}, θ1.ext θ → SatX K X θ h nx w → OIL X w θ1 l ss0 vs fp → FpOk K X θ h fp → instOIs l ss0 h nx k →
    ∃ ss h' nx' θ', k ss h' nx' ∧ GivesX K X fp θ θ' h h' nx nx' w ∧ VL θ' ss vs
  | [], [], θ, h, nx, [], fp, k, hx, hs, hh, hf, hk => by
    simp only [instOIs] at hk
    exact ⟨_, _, _, θ, hk, .refl hs _, by simp [VL]⟩
  | [], [], _, _, _, _ :: _, _, _, _, _, hh, _, _ => hh.elim
  | [], _ :: _, _, _, _, _, _, _, _, _, hh, _, _ => hh.elim
  | _ :: _, [], _, _, _, _, _, _, _, _, hh, _, _ => hh.elim
  | _ :: _, _ :: _, _, _, _, [], _, _, _, _, hh, _, _ => hh.elim
  | x :: l, s0 :: ss0, θ, h, nx, v :: vs, fp, k, hx, hs, hh, hf, hk => by
    obtain ⟨f, g, rfl, h2, h3⟩ := hh
    cases x with
    | o x =>
      simp only [instOIs] at hk
      obtain ⟨s, h', nx', θ', a1, a2, a3⟩ := instO_sound x hs h2 hf.left hk
      obtain ⟨ss, h'', nx'', θ'', b1, b2, b3⟩ := instOIs_sound l (Th.ext_trans hx a2.ext) a2.sat h3 (hf.right a2) a1
      exact ⟨_, _, _, _, b1, a2.trans b2, by simp only [VL]; exact ⟨V_mono b2.ext _ _ a3, b3⟩⟩
    | same =>
      simp only [instOIs] at hk
      obtain ⟨h4, rfl⟩ := h2
      obtain ⟨ss, h'', nx'', θ'', b1, b2, b3⟩ := instOIs_sound l hx hs h3 hf hk
      exact ⟨_, _, _, _, b1, b2, by simp only [VL]; exact ⟨V_mono (Th.ext_trans hx b2.ext) _ _ h4, b3⟩⟩

theorem instIt_sound {a : Act} : ∀ (is : List Item) {θ : Th} {h : List (Nat × R)} {nx : Nat} {fp : List Nat} {k : List (Nat × SV) → List (Nat × R) → Nat → Prop}, θ1.ext θ → SatX K X θ h nx w → ItH X w θ1 env1 h1 a is fp → FpOk K X θ h fp → instIt env1 h1 is h nx k →
    ∃ es h' nx' θ', k es h' nx' ∧ BacksX K X fp θ θ' h h' nx nx' w ∧ ∀ t s, (t, s) ∈ es → ∃ v, a.tmps[t]? = some v ∧ V θ' s v
  | [], θ, h, nx, fp, k, hx, hs, hh, hf, hk => by
    simp only [instIt] at hk
    exact ⟨_, _, _, θ, hk, (GivesX.refl hs _).backs, fun t s hm => by cases hm⟩
  | (t, .c x) :: is, θ, h, nx, fp, k, hx, hs, hh, hf, hk => by
    simp only [instIt] at hk
    obtain ⟨f, g, v, rfl, h2, h3, h4⟩ := hh
    obtain ⟨s, h', nx', θ', a1, a2, a3⟩ := instO_sound x hs h3 hf.left hk
    obtain ⟨es, h'', nx'', θ'', b1, b2, b3⟩ := instIt_sound is (Th.ext_trans hx a2.ext) a2.sat h4 (hf.right a2) a1
    refine ⟨_, _, _, _, b1, a2.backs.trans b2, fun t' s' hm => ?_⟩
    rcases List.mem_cons.1 hm with e | hm
    · cases e; exact ⟨v, h2, V_mono b2.ext _ _ a3⟩
    · exact b3 t' s' hm
  | (t, .blk l) :: is, θ, h, nx, fp, k, hx, hs, hh, hf, hk => by
    obtain ⟨m, T, cs0, L, f, g, us, e1, e2, e3, e4, e5, rfl, e6⟩ := hh
    simp only [instIt, e1] at hk
    have hf' : FpOk K X θ h ((f ++ [L.b]) ++ g) := ⟨by
      have := hf.1
      have hp : ((f ++ [L.b]) ++ g).Perm ((L.b :: f) ++ g) := List.Perm.append_right g (by simp)
      exact hp.nodup_iff.2 this, fun c hc => hf.2 c (by simp at hc ⊢; rcases hc with h | h | h <;> simp [h])⟩
    obtain ⟨ss, h', nx', θ', a1, a2, a3⟩ := instOIs_sound l hx hs e5 hf'.left.left hk
    have gv := a2.sat.give_old (r := .blk T ss) (n := m) (L := L) (fp := [L.b]) (a2.ext _ _ (hx _ _ e2)) ⟨us, e3, e4, a3⟩ (hf'.left.right a2) (fun b hb => by rw [← show L.b = b from hb]; simp)
    have r := a2.backs.trans gv
    obtain ⟨es, h'', nx'', θ'', b1, b2, b3⟩ := instIt_sound is (Th.ext_trans hx r.ext) r.sat e6 (hf'.right' r) a1
    have q := r.trans b2
    exact ⟨_, _, _, _, b1, ⟨q.sat, q.ext, q.le, q.agree, fun n b hn => (q.own n b hn).imp id (fun h => by simp at h ⊢; rcases h with h | h | h <;> simp [h])⟩, b3⟩
  | (t, .pw f) :: is, θ, h, nx, fp, k, hx, hs, hh, hf, hk => by
    obtain ⟨n, T, S, m, bs, len, f0, L, g, e1, e2, e3, e4, rfl, e6⟩ := hh
    simp only [instIt, e1, e2] at hk
    have gv := hs.give_old (r := .pown T S m bs len f) (n := n) (L := L) (fp := if L.cap = 0 then bs else L.b :: bs) (hx _ _ e3) e4 hf.left (fun b hb => by
      split
      · exact Or.resolve_left hb (fun h => h.1 ‹_›)
      · rcases hb with ⟨_, rfl⟩ | hb <;> simp [*])
    obtain ⟨es, h'', nx'', θ'', b1, b2, b3⟩ := instIt_sound is (Th.ext_trans hx gv.ext) gv.sat e6 (hf.right' gv) hk
    exact ⟨_, _, _, _, b1, gv.trans b2, b3⟩
end

section
variable {K : Ctx} {θ1 θ : Th} {env1 env : List (Nat × SV)} {h1 h : List (Nat × R)} {nx1 nx : Nat} {a1 a : Act} {w1 w : World}

theorem matchOIs_sound (hx : θ1.ext θ) (hs : SatH K θ h nx w) : ∀ (l : List OI) {ss0 ss : List SV} {us0 us : List Value} {k : NK}, VL θ1 ss0 us0 → matchOIs h l ss0 ss k → VL θ ss us →
    ∃ on rn fp, k on rn ∧ NamesFp θ h on fp ∧ Named θ rn ∧ ∀ X, Takes K θ h rn X → OIL X w θ1 l ss0 us fp
  | [], [], [], us0, [], k, _, hm, _ => ⟨_, _, [], hm, .nil, .nil, fun X _ => rfl⟩
  | [], [], [], _, _ :: _, _, _, _, hv => by simp [VL] at hv
  | [], [], _ :: _, _, _, _, _, hm, _ => hm.elim
  | [], _ :: _, _, _, _, _, _, hm, _ => hm.elim
  | _ :: _, [], _, _, _, _, _, hm, _ => hm.elim
  | _ :: _, _ :: _, [], _, _, _, _, hm, _ => hm.elim
  | x :: l, s0 :: ss0, s :: ss, [], us, k, hv0, hm, hv => by simp [VL] at hv0
  | x :: l, s0 :: ss0, s :: ss, u0 :: us0, [], k, hv0, hm, hv => by simp [VL] at hv
  | x :: l, s0 :: ss0, s :: ss, u0 :: us0, u :: us, k, hv0, hm, hv => by
    simp only [VL] at hv0 hv
    cases x with
    | o x =>
      simp only [matchOIs] at hm
      obtain ⟨on, rn, fp, b1, b2, bn, b3⟩ := matchO_sound hs x hm hv.1
      obtain ⟨on', rn', fp', c1, c2, cn, c3⟩ := matchOIs_sound hx hs l hv0.2 b1 hv.2
      exact ⟨_, _, fp ++ fp', c1, b2.append hs c2, bn.append cn, fun X t => ⟨fp, fp', rfl, b3 X t.left, c3 X t.right⟩⟩
    | same =>
      simp only [matchOIs] at hm
      obtain ⟨rfl, hm⟩ := hm
      obtain ⟨on', rn', fp', c1, c2, cn, c3⟩ := matchOIs_sound hx hs l hv0.2 hm hv.2
      exact ⟨_, _, fp', c1, c2, cn, fun X t => ⟨[], fp', rfl, ⟨V_back hx _ _ _ hv0.1 hv.1, rfl⟩, c3 X t⟩⟩

theorem matchIt_sound (hs1 : SatH K θ1 h1 nx1 w1) (hx : θ1.ext θ) (hs : SatH K θ h nx w) (he : SatE K θ env a) : ∀ (is : List Item) {k : NK}, matchIt env1 h1 env h is k →
    ∃ on rn fp, k on rn ∧ NamesFp θ h on fp ∧ Named θ rn ∧ ∀ X, Takes K θ h rn X → ItH X w θ1 env1 h1 a is fp
  | [], k, hm => ⟨_, _, [], hm, .nil, .nil, fun X _ => rfl⟩
  | (t, .c x) :: is, k, hm => by
    simp only [matchIt] at hm
    split at hm <;> try exact hm.elim
    rename_i s hts
    obtain ⟨v, hv, hV⟩ := he.val t s hts
    obtain ⟨on, rn, fp, b1, b2, bn, b3⟩ := matchO_sound hs x hm hV
    obtain ⟨on', rn', fp', c1, c2, cn, c3⟩ := matchIt_sound hs1 hx hs he is b1
    exact ⟨_, _, fp ++ fp', c1, b2.append hs c2, bn.append cn, fun X t => ⟨fp, fp', v, rfl, hv, b3 X t.left, c3 X t.right⟩⟩
  | (t, .blk l) :: is, k, hm => by
    simp only [matchIt] at hm
    split at hm <;> try exact hm.elim
    rename_i m T cs0 hb
    split at hm <;> try exact hm.elim
    rename_i T' cs hf
    obtain ⟨t1, hm2⟩ := cond_false hm
    obtain rfl := nbeq t1
    have hb' := hb
    unfold blkAt at hb'
    split at hb' <;> try (cases hb'; done)
    split at hb' <;> try (cases hb'; done)
    split at hb' <;> try (cases hb'; done)
    rename_i hf1
    cases hb'
    obtain ⟨L1, hL1, us0, _, _, hv0⟩ := hs1.res _ _ hf1
    obtain ⟨L, hL, us, l1, l2, l3⟩ := hs.res _ _ hf
    obtain rfl := Option.some.inj ((hx _ _ hL1).symm.trans hL)
    obtain ⟨on, rn, fp, b1, b2, bn, b3⟩ := matchOIs_sound hx hs l hv0 hm2 l3
    obtain ⟨on', rn', fp', c1, c2, cn, c3⟩ := matchIt_sound hs1 hx hs he is b1
    have ho : OwnsAt θ h m L1.b := ⟨_, L1, hf, hL, rfl⟩
    refine ⟨_, _, (L1.b :: fp) ++ fp', c1, ?_, bn.append cn, fun X t => ⟨m, T, cs0, L1, fp, fp', us, hb, hL1, l1, l2, b3 X t.left, rfl, c3 X t.right⟩⟩
    have := (NamesFp.append hs (.one ho) b2).append hs c2
    simpa using this
  | (t, .pw f) :: is, k, hm => by
    simp only [matchIt] at hm
    split at hm <;> try exact hm.elim
    rename_i n hn
    split at hm <;> try exact hm.elim
    rename_i T S m bs len f0 T' S' m' bs' len' f' hf1 hf
    obtain ⟨t1, ⟨rfl, rfl, hff⟩, hm2⟩ := cond_false hm
    simp only [Bool.and_eq_true] at t1
    obtain rfl := nbeq t1.1.1
    obtain rfl := nbeq t1.1.2
    obtain rfl := nbeq t1.2
    obtain ⟨L1, hL1, _⟩ := hs1.res _ _ hf1
    obtain ⟨L, hL, hpo⟩ := hs.res _ _ hf
    obtain rfl := Option.some.inj ((hx _ _ hL1).symm.trans hL)
    obtain ⟨on', rn', fp', c1, c2, cn, c3⟩ := matchIt_sound hs1 hx hs he is hm2
    have own : ∀ b, (L1.cap ≠ 0 ∧ L1.b = b) ∨ b ∈ bs' → OwnsAt θ h n b := fun b hb => ⟨_, L1, hf, hL, hb⟩
    have hnf : NamesFp θ h [n] (if L1.cap = 0 then bs' else L1.b :: bs') := by
      refine ⟨fun b hb => ⟨n, by simp, own b ?_⟩, fun _ => ?_, fun x hx' => by simp at hx'; subst hx'; exact ⟨L1, hL⟩⟩
      · split at hb
        · exact .inr hb
        · rename_i hc
          exact (List.mem_cons.1 hb).imp (fun e => ⟨hc, e.symm⟩) id
      · split
        · exact hpo.2.2.2.2.1
        · rename_i hc
          exact List.nodup_cons.2 ⟨(hpo.2.2.2.2.2.1 hc).1, hpo.2.2.2.2.1⟩
    refine ⟨_, _, (if L1.cap = 0 then bs' else L1.b :: bs') ++ fp', c1, by simpa using hnf.append hs c2, cn, fun X tk => ⟨n, T, S, m, bs', len', f0, L1, fp', hn, hf1, hL1, ?_, rfl, c3 X tk⟩⟩
    obtain ⟨p1, p2, p3, p4, p5, p6, p7⟩ := hpo
    refine ⟨p1, p2, p3, p4, p5, p6, fun i b hi => ?_⟩
    obtain ⟨g1, us, g2, g3, g4⟩ := p7 i b hi
    have hlt := (List.getElem?_eq_some_iff.1 hi).1
    refine ⟨g1, us, g2, g3, fun j hj => ?_⟩
    obtain ⟨c, d1, d2⟩ := g4 j hj
    exact ⟨c, d1, D.holds_mono (fun b _ hb => ⟨tk.1 b hb, rfl⟩) _ _ (hff i (by omega) j hj ▸ d2)⟩

theorem okMs_mem {base m : Nat} {D : List Nat} : ∀ {l : List Nat}, okMs base D l = true → m ∈ l → base ≤ m ∨ m ∈ D
  | [], _, h => by cases h
  | x :: l, hk, h => by
    simp only [okMs, Bool.and_eq_true, Bool.or_eq_true] at hk
    rcases List.mem_cons.1 h with rfl | h
    · exact hk.1.imp nble memB_iff.1
    · exact okMs_mem hk.2 h

theorem headInv (hs1 : SatH K θ1 h1 nx1 w1) (he1 : SatE K θ1 env1 a1) (hx : θ1.ext θ) (hs : SatH K θ h nx w) (he : SatE K θ env a) {is : List Item} {D W : List Nat} (hD : ∀ n ∈ D, ∃ L, θ1 n = some L)
    {on rn fp : List Nat} (k2 : NamesFp θ h on fp) (k3 : ∀ X, Takes K θ h rn X → ItH X w θ1 env1 h1 a is fp) (n1 : on.Nodup) (n2 : ∀ n ∈ rn, n ∉ on) (n3 : ∀ m ∈ on ++ rn, nx1 ≤ m ∨ m ∈ D) (hkH : keptH h (filterH D h1)) (hkE : keptE env (filterEnv W env1)) :
    ∃ X, SatX K X θ1 (deads D h1) nx1 w ∧ FpOk K X θ1 (deads D h1) fp ∧ ItH X w θ1 env1 h1 a is fp ∧ SatE K θ1 (filterEnv W env1) a := by
  let X : Nat → Prop := fun b => Free K θ h b ∨ ∃ m ∈ rn, OwnsAt θ h m b
  have kept : ∀ {n r}, n ∉ D → hfind h1 n = some r → hfind h n = some r := fun hn hr => keptH_mem hkH (mem_filterH_of hr hn)
  have owns : ∀ {n b}, OwnsAt θ1 (deads D h1) n b → n < nx1 ∧ n ∉ D ∧ OwnsAt θ h n b := by
    rintro n b ho
    obtain ⟨hn, r, L, h2, h3, h4⟩ := ownsAt_deads.1 ho
    exact ⟨hs1.named_lt h3, hn, r, L, kept hn h2, hx _ _ h3, h4⟩
  have clash : ∀ {m n}, m ∈ on ++ rn → n < nx1 → n ∉ D → m = n → False := by
    rintro m n hm hn hD' rfl
    rcases n3 m hm with h2 | h2
    · omega
    · exact hD' h2
  have hT : Takes K θ h rn X := ⟨fun b hb => .inl hb, fun n hn b ho => .inr ⟨n, hn, ho⟩⟩
  refine ⟨X, ⟨hs1.fresh, fun n r hr => ?_, fun n m b hn hm' => hs.dis n m b (owns hn).2.2 (owns hm').2.2, fun n b hn => hs.new n b (owns hn).2.2, hs.frame, fun b hb => ⟨fun n hn => ?_, ?_⟩⟩,
    ⟨k2.2.1 n1, fun b hb => ⟨fun hXb => ?_, fun n hn => ?_, ?_⟩⟩, k3 X hT, ⟨he.size, he.defers, fun t s hts => ?_⟩⟩
  · by_cases hn : n ∈ D
    · rw [hfind_deads_mem hn] at hr; cases hr
      obtain ⟨L, hL⟩ := hD n hn
      exact ⟨L, hL, trivial⟩
    · rw [hfind_deads_not hn] at hr
      obtain ⟨L, hL, g1⟩ := hs1.res n r hr
      obtain ⟨L', hL', g2⟩ := hs.res n r (kept hn hr)
      obtain rfl := Option.some.inj ((hx _ _ hL).symm.trans hL')
      exact ⟨L, hL, R.holds_back hx (Th.ext_refl _) (fun b _ hb => ⟨.inl hb, rfl⟩) g1 g2⟩
  · obtain ⟨o1, o2, o3⟩ := owns hn
    rcases hb with hb | ⟨m, hm1, hm2⟩
    · exact hb.1 n o3
    · exact clash (by simp [hm1]) o1 o2 (hs.dis _ _ _ hm2 o3)
  · rcases hb with hb | ⟨m, _, hm2⟩
    · exact hb.2
    · exact (hs.new m b hm2).imp id (K.ma b)
  · obtain ⟨m, hm1, hm2⟩ := k2.1 b hb
    rcases hXb with hb' | ⟨m', hm3, hm4⟩
    · exact hb'.1 m hm2
    · obtain rfl := hs.dis _ _ _ hm2 hm4
      exact n2 m hm3 hm1
  · obtain ⟨m, hm1, hm2⟩ := k2.1 b hb
    obtain ⟨o1, o2, o3⟩ := owns hn
    exact clash (by simp [hm1]) o1 o2 (hs.dis _ _ _ hm2 o3)
  · obtain ⟨m, hm1, hm2⟩ := k2.1 b hb
    exact hs.new m b hm2
  · have hmem := mem_of_efind hts
    obtain ⟨q1, _⟩ := mem_filterEnv hmem
    obtain ⟨v1, _, q3⟩ := he1.val t s q1
    obtain ⟨v, q4, q5⟩ := he.val t s (keptE_mem hkE hmem)
    exact ⟨v, q4, V_back hx s v1 v q3 q5⟩

theorem headState {X : Nat → Prop} {D W : List Nat} {is : List Item} {fp : List Nat} {k : List (Nat × SV) → List (Nat × R) → Nat → Prop} (hs : SatX K X θ1 (deads D h1) nx1 w) (hf : FpOk K X θ1 (deads D h1) fp) (hi : ItH X w θ1 env1 h1 a is fp)
    (he : SatE K θ1 (filterEnv W env1) a) (hk : instIt env1 h1 is (deads D h1) nx1 k) :
    ∃ es h' nx' θ', k es h' nx' ∧ SatH K θ' h' nx' w ∧ θ1.ext θ' ∧ SatE K θ' (es ++ filterEnv W env1) a := by
  obtain ⟨es, h', nx', θ', b1, b2, b3⟩ := instIt_sound is (Th.ext_refl _) hs hi hf hk
  refine ⟨es, h', nx', θ', b1, b2.sat.toH, b2.ext, he.size, he.defers, fun t s hts => ?_⟩
  rcases List.mem_append.1 (mem_of_efind hts) with hm | hm
  · exact b3 t s hm
  · have : efind (filterEnv W env1) t = some s := by
      obtain ⟨q1, q2⟩ := mem_filterEnv hm
      have key : ∀ {l : List (Nat × SV)} {W : List Nat}, efind l t = some s → t ∉ W → efind (filterEnv W l) t = some s := by
        intro l
        induction l with
        | nil => intro W h; simp [efind] at h
        | cons x l ih =>
          obtain ⟨m, r⟩ := x
          intro W hh hn
          rw [efind_cons] at hh
          unfold filterEnv
          by_cases e : m = t
          · subst e
            rw [if_pos rfl] at hh
            have : memB m W = false := by
              cases hb : memB m W with
              | false => rfl
              | true => exact absurd (memB_iff.1 hb) hn
            rw [this]
            show efind ((m, r) :: filterEnv (m :: W) l) m = _
            rw [efind_cons, if_pos rfl]; exact hh
          · rw [if_neg e] at hh
            cases hb : memB m W with
            | true => exact ih hh hn
            | false =>
              show efind ((m, r) :: filterEnv (m :: W) l) t = _
              rw [efind_cons, if_neg e]
              exact ih hh (fun hm => by
                rcases List.mem_cons.1 hm with rfl | hm
                · exact e rfl
                · exact hn hm)
      exact key q1 q2
    obtain ⟨v, e1, e2⟩ := he.val t s this
    exact ⟨v, e1, V_mono b2.ext _ _ e2⟩
end
end Go.Z
