/- Regions that draw their order and write: sound. -/
import Derived.Test.YtonfaeenoifomaaZ20b
namespace Go.Z
open Go.RowKit

section
variable {P : Program} {C : CE} {K : Ctx} {θ0 : Th} {ops : Array Oper}

/-- What is protected is what those are to read. -/
def ProtOk (θ : Th) (pr : List (Nat × List SV)) (prB : Prot) : Prop := ∀ x ∈ prB, ∃ rds, (x.1, rds) ∈ pr ∧ ∀ b, x.2 b → ∃ s, s ∈ rds ∧ rdB θ s b

theorem rdB_mono {θ θ' : Th} (hx : θ.ext θ') {s : SV} {b : Nat} (h : rdB θ s b) : rdB θ' s b := by
  cases s <;> simp only [rdB] at h ⊢
  all_goals obtain ⟨L, h1, h2⟩ := h; exact ⟨L, hx _ _ h1, h2⟩

theorem ProtOk.mono {θ θ' : Th} (hx : θ.ext θ') {pr : List (Nat × List SV)} {prB : Prot} (h : ProtOk θ pr prB) : ProtOk θ' pr prB := fun x hm => by
  obtain ⟨rds, h1, h2⟩ := h x hm
  refine ⟨rds, h1, fun b hb => ?_⟩
  obtain ⟨s, h3, h4⟩ := h2 b hb
  exact ⟨s, h3, rdB_mono hx h4⟩

theorem mem_protOf {j i : Nat} {l : List SV} (ha : anc ops ops.size j i = false) : ∀ {pr : List (Nat × List SV)}, (i, l) ∈ pr → ∀ s, s ∈ l → s ∈ protOf ops j pr
  | [], h, _, _ => by cases h
  | (i', l') :: pr, h, s, hs => by
    unfold protOf
    rcases List.mem_cons.1 h with e | h
    · cases e
      rw [ha]
      exact List.mem_append.2 (.inl hs)
    · have := mem_protOf ha h s hs
      cases anc ops ops.size j i' with
      | true => exact this
      | false => exact List.mem_append.2 (.inr this)

theorem okSVs_mem {h : List (Nat × R)} {s : SV} : ∀ {l : List SV}, okSVs h l = true → s ∈ l → okSV h s = true
  | [], _, hm => by cases hm
  | t :: l, hk, hm => by
    simp only [okSVs, Bool.and_eq_true] at hk
    rcases List.mem_cons.1 hm with rfl | hm
    · exact hk.1
    · exact okSVs_mem hk.2 hm

theorem hid_blk {h : List (Nat × R)} {n T o : Nat} {c : List SV} (hf : hfind h n = some (.blk T c)) : ∀ {l : List SV}, SV.p n o ∈ l → isHid h l n
  | [], hm => by cases hm
  | t :: l, hm => by
    rcases List.mem_cons.1 hm with rfl | hm
    · refine ⟨.blk T c, ?_⟩
      simp only [hid, hf]
      exact .head _
    · obtain ⟨r, hr⟩ := hid_blk hf hm
      refine ⟨r, ?_⟩
      cases t <;> simp only [hid] <;> first | exact hr | (split <;> first | exact .tail _ hr | exact hr)
theorem hid_own {h : List (Nat × R)} {n T : Nat} {d : D} (hf : hfind h n = some (.own T d)) {s : SV} (hs : s = .a n ∨ s = .q n ∨ ∃ es i o, s = .e n es i o) : ∀ {l : List SV}, s ∈ l → isHid h l n
  | [], hm => by cases hm
  | t :: l, hm => by
    rcases List.mem_cons.1 hm with rfl | hm
    · refine ⟨.own T d, ?_⟩
      rcases hs with rfl | rfl | ⟨es, i, o, rfl⟩ <;> simp only [hid, hf] <;> exact .head _
    · obtain ⟨r, hr⟩ := hid_own hf hs hm
      refine ⟨r, ?_⟩
      cases t <;> simp only [hid] <;> first | exact hr | (split <;> first | exact .tail _ hr | exact hr)

theorem hid_map {h : List (Nat × R)} {n : Nat} {ks vs : Col} (hf : hfind h n = some (.map ks vs)) : ∀ {l : List SV}, SV.m n ∈ l → isHid h l n
  | [], hm => by cases hm
  | t :: l, hm => by
    rcases List.mem_cons.1 hm with rfl | hm
    · refine ⟨.map ks vs, ?_⟩
      simp only [hid, hf]
      exact .head _
    · obtain ⟨r, hr⟩ := hid_map hf hm
      refine ⟨r, ?_⟩
      cases t <;> simp only [hid] <;> first | exact hr | (split <;> first | exact .tail _ hr | exact hr)

/-- A block that is to be read is owned by what is hidden, or by nobody. -/
theorem prot_block {θ : Th} {h : List (Nat × R)} {nx : Nat} {w : World} (hs : SatH K θ h nx w) {l : List SV} (hk : okSVs h l = true) {s : SV} (hm : s ∈ l) {b : Nat} (hb : rdB θ s b) :
    ∀ n, OwnsAt θ h n b → isHid h l n := by
  intro n hn
  have h1 := okSVs_mem hk hm
  have arr : ∀ {m : Nat}, (s = .a m ∨ s = .q m ∨ ∃ es i o, s = .e m es i o) → (∃ L, θ m = some L ∧ L.len ≠ 0 ∧ L.b = b) →
      (match hfind h m with | some (.own _ _) => true | some (.ro _) => true | _ => false) = true → isHid h l n := by
    rintro m hsm ⟨L, g1, g2, rfl⟩ hk'
    split at hk' <;> try (cases hk'; done)
    · rename_i T d hf
      obtain ⟨L', l1, l2, _⟩ := hs.res m _ hf
      obtain rfl := Option.some.inj (g1.symm.trans l1)
      have hcap : L.cap ≠ 0 := by have := D.at_len l2; omega
      obtain rfl := hs.dis n m _ hn ⟨_, L, hf, g1, hcap, rfl⟩
      exact hid_own hf hsm hm
    · rename_i d hf
      obtain ⟨L', l1, l2, l3, l4⟩ := hs.res m _ hf
      obtain rfl := Option.some.inj (g1.symm.trans l1)
      exact absurd hn ((l4 g2).1.1 n)
  cases s <;> simp only [rdB] at hb
  · rename_i m o
    obtain ⟨L, g1, rfl⟩ := hb
    simp only [okSV] at h1
    split at h1 <;> try (cases h1; done)
    · rename_i T c hf
      obtain rfl := hs.dis n m _ hn ⟨_, L, hf, g1, trivial, rfl⟩
      exact hid_blk hf hm
    · rename_i T c hf
      obtain ⟨L', l1, cs, l2, l3, _⟩ := hs.res m _ hf
      obtain rfl := Option.some.inj (g1.symm.trans l1)
      exact absurd hn (l3.1 n)
  · exact arr (.inr (.inr ⟨_, _, _, rfl⟩)) hb h1
  · exact arr (.inl rfl) hb h1
  · rename_i m
    obtain ⟨L, g1, rfl⟩ := hb
    simp only [okSV] at h1
    split at h1 <;> try (cases h1; done)
    rename_i T d hf
    have hlt := nblt h1
    obtain ⟨L', l1, l2, _⟩ := hs.res m _ hf
    obtain rfl := Option.some.inj (g1.symm.trans l1)
    have hcap : L.cap ≠ 0 := by have := D.at_len l2; omega
    obtain rfl := hs.dis n m _ hn ⟨_, L, hf, g1, hcap, rfl⟩
    exact hid_own hf (.inr (.inl rfl)) hm
  · rename_i m
    obtain ⟨L, g1, rfl⟩ := hb
    simp only [okSV] at h1
    split at h1 <;> try (cases h1; done)
    · rename_i ks vs hf
      obtain rfl := hs.dis n m _ hn ⟨_, L, hf, g1, trivial, rfl⟩
      exact hid_map hf hm
    · rename_i ks vs hf
      obtain ⟨L', l1, l2, l3, _⟩ := hs.res m _ hf
      obtain rfl := Option.some.inj (g1.symm.trans l1)
      exact absurd hn (l3.1 n)

theorem allL_mem {p : Nat → Prop} {j : Nat} : ∀ {l : List Nat}, allL l p → j ∈ l → p j
  | [], _, h => by cases h
  | _ :: _, hp, h => by
    rcases List.mem_cons.1 h with rfl | h
    · exact hp.1
    · exact allL_mem hp.2 h

theorem pickStill_spec {listed : Array Bool} {env : List (Nat × SV)} {i : Nat} {o : Oper} : ∀ {l : List Nat}, pickStill P C ops listed env l = some (i, o) →
    i ∈ l ∧ ops[i]? = some o ∧ o.guard = none ∧ Region.free .any ops listed i = true
  | [], h => by simp [pickStill] at h
  | j :: js, h => by
    unfold pickStill at h
    split at h
    · rename_i oj hoj
      cases hc : (oj.guard.isNone && stillK oj.op && isQuiet P C oj.op env && Region.free .any ops listed j) with
      | true =>
        rw [hc] at h
        cases h
        simp only [Bool.and_eq_true] at hc
        exact ⟨.head _, hoj, by simpa using hc.1.1.1, hc.2⟩
      | false =>
        rw [hc] at h
        obtain ⟨h1, h2⟩ := pickStill_spec (l := js) h
        exact ⟨.tail _ h1, h2⟩
    · obtain ⟨h1, h2⟩ := pickStill_spec (l := js) h
      exact ⟨.tail _ h1, h2⟩

theorem stepAny_sound (hC : COk P C) (hsel : Region.noSelect ops = true) {Q : Act → World → Prop} : ∀ (f : Nat) {listed : Array Bool} {pr : List (Nat × List SV)} {prB : Prot} {θ : Th}
    {env : List (Nat × SV)} {h : List (Nat × R)} {nx : Nat} {a : Act} {w : World} {k : List (Nat × SV) → List (Nat × R) → Nat → Prop},
    θ0.ext θ → SatH K θ h nx w → SatE K θ env a → ClosedL ops listed → ProtOk θ pr prB → stepAny P C K.N ops f listed pr env h nx k →
    (∀ env' h' nx' θ' a' w', k env' h' nx' → θ0.ext θ' → SatH K θ' h' nx' w' → SatE K θ' env' a' → Q a' w') → wpAnyC P ops prB Q f listed a w
  | 0, listed, pr, prB, θ, env, h, nx, a, w, k, hx, hs, he, hcl, hpr, hq, hk => by
    obtain ⟨h1, h2⟩ := cond_false hq
    exact ⟨by simpa using h1, hk _ _ _ _ _ _ h2 hx hs he⟩
  | f + 1, listed, pr, prB, θ, env, h, nx, a, w, k, hx, hs, he, hcl, hpr, hq, hk => by
    unfold stepAny at hq
    split at hq
    · rename_i i o hpick
      obtain ⟨p1, p2, p3, p4⟩ := pickStill_spec hpick
      obtain ⟨vs, h1, h2⟩ := resolveL_sound he (fun t ht => by cases ht) hq
      obtain ⟨r, h', nx', θ', v', e1, e2, e3, e4⟩ := stepQ_sound hs h2 h1
      obtain ⟨env', c1, c2⟩ := putS_sound (he.mono e2.ext) e3 e1
      refine wpAnyC_first (B := fun b => ∃ s, s ∈ readsOf o.op vs ∧ rdB θ s b) p2 p3 (Region.noSelect_spec hsel) f listed a w hcl (Region.free_spec p2 p4) p1
        (fun w' hw' => e4 w' fun s hsm b hb hr => hw'.2 b hb ⟨s, hsm, hr⟩) ?_
      refine stepAny_sound hC hsel f (Th.ext_trans hx e2.ext) e2.sat c2 (hcl.set p1) ?_ c1 hk
      intro x hxm
      rcases List.mem_cons.1 hxm with rfl | hxm
      · exact ⟨_, .head _, fun b hb => let ⟨s, g1, g2⟩ := hb; ⟨s, g1, rdB_mono e2.ext g2⟩⟩
      · obtain ⟨rds, g1, g2⟩ := hpr.mono e2.ext x hxm
        exact ⟨rds, .tail _ g1, g2⟩
    · obtain ⟨hne, hq⟩ := (cond_cases hq).elim (fun h => h.2.elim) id
      refine ⟨by simpa using hne, fun j hj => ?_⟩
      have hqj := allL_mem hq hj
      split at hqj <;> try exact hqj.elim
      rename_i o hoj
      have carry : ∀ {env : List (Nat × SV)}, SatE K θ env a → anyOp1 P C K.N ops pr j o env h nx (fun env' h' nx' => stepAny P C K.N ops f (listed.setIfInBounds j true) pr env' h' nx' k) →
          o.wp P a w (fun a' w' => (∀ x ∈ prB, anc ops ops.size j x.1 = false → KeepB x.2 w w') ∧ wpAnyC P ops prB Q f (listed.setIfInBounds j true) a' w') Q0 := by
        intro env he hqj
        rcases cond_cases hqj with ⟨_, hqj⟩ | ⟨_, hqj⟩
        · obtain ⟨r, h', nx', θ', v', e1, e2, e3, e4⟩ := stepOQ_sound hC hs he (fun t ht => by cases ht) hqj
          refine Oper.wp_of_quiet (C := Below w.heap.size w) (K := fun a' => ∃ env', stepAny P C K.N ops f (listed.setIfInBounds j true) pr env' h' nx' k ∧ SatE K θ' env' a') (Below.refl _ _) ?_
            ⟨v', e4, putS_sound (he.mono e2.ext) e3 e1⟩
          rintro a' w' hb ⟨env', c1, c2⟩
          exact ⟨fun x _ _ => ⟨hb.size, fun b hb' _ => hb.block b hb'⟩, stepAny_sound hC hsel f (Th.ext_trans hx e2.ext) (e2.sat.below hb) c2 (hcl.set hj) (hpr.mono e2.ext) c1 hk⟩
        · obtain ⟨hok, hqj⟩ := cond_false hqj
          obtain ⟨vs, h1, h2⟩ := resolveL_sound he (fun t ht => by cases ht) hqj
          refine stepL_sound hC (hs.hide (protOf ops j pr)) h2 h1 fun r h' nx' θ' v w' k1 k2 k3 k4 => ?_
          obtain ⟨env', e1, e2⟩ := putS_sound (he.mono k3) k4 k1
          obtain ⟨u1, u2⟩ := hs.unhide k2 k3
          refine ⟨fun x hxm hanc => ⟨k2.frame.size, fun b hb hB => u2 b hb ?_⟩, stepAny_sound hC hsel f (Th.ext_trans hx k3) u1 e2 (hcl.set hj) (hpr.mono k3) e1 hk⟩
          obtain ⟨rds, g1, g2⟩ := hpr x hxm
          obtain ⟨s, g3, g4⟩ := g2 b hB
          exact prot_block hs hok (mem_protOf hanc g1 s g3) g4
      have skip : ∀ {env : List (Nat × SV)}, SatE K θ env a → (putS K.N o.dst (.c undef) env fun env' => stepAny P C K.N ops f (listed.setIfInBounds j true) pr env' h nx k) →
          (∀ x ∈ prB, anc ops ops.size j x.1 = false → KeepB x.2 w w) ∧ wpAnyC P ops prB Q f (listed.setIfInBounds j true) (a.put o.dst undef) w := by
        intro env he hp
        obtain ⟨env', e1, e2⟩ := putS_sound he (V_c θ undef) hp
        exact ⟨fun x _ _ => .refl _ _, stepAny_sound hC hsel f hx hs e2 (hcl.set hj) hpr e1 hk⟩
      unfold wpOp
      simp only [hoj]
      split at hqj <;> try exact hqj.elim
      · rename_i hg
        have hw := guardM_sound he hg
        simp only [GM.ok] at hw
        rw [if_pos hw]
        exact .inl (carry he hqj)
      · rename_i hg
        have hw := guardM_sound he hg
        simp only [GM.ok] at hw
        rw [hw, if_neg (by simp)]
        exact skip he hqj
      · rename_i d t want hg
        have hw := guardM_sound he hg
        simp only [GM.ok] at hw
        by_cases ht : t = want
        · rw [hw.2, show (t == want) = true by simp [ht], if_pos rfl]
          exact .inl (carry (he.known hw.1 ht) (hqj.1 ht))
        · have ht' : t = !want := ne_not ht
          rw [hw.2, show (t == want) = false by simp [ht], if_neg (by simp)]
          exact skip (he.known hw.1 ht') (hqj.2 ht')

theorem wp_region_anyC (hP : P.follows .mixedOrders = true) (hC : COk P C) (hsel : Region.noSelect ops = true) {id : Nat} {Q : Exit → Act → World → Prop} {θ : Th} {env : List (Nat × SV)} {h : List (Nat × R)} {nx : Nat} {a : Act} {w : World}
    {k : List (Nat × SV) → List (Nat × R) → Nat → Prop} (hx : θ0.ext θ) (hs : SatH K θ h nx w) (he : SatE K θ env a)
    (hq : stepAny P C K.N ops ops.size (Array.replicate ops.size false) [] env h nx k)
    (hk : ∀ env' h' nx' θ' a' w', k env' h' nx' → θ0.ext θ' → SatH K θ' h' nx' w' → SatE K θ' env' a' → Q .normal a' w') : (Code.region id ops true).wp P Q a w := by
  have hb : Below w.heap.size w { w with drawn := w.drawn + 1 } := ⟨rfl, rfl, rfl, Nat.le_refl _, fun _ _ => rfl⟩
  refine wp_region_any hP (wpAny_of_C (Q := fun a w => Q .normal a w) (pr := []) (fun a w h => h) _ _ _ _ ?_)
  refine stepAny_sound hC hsel _ hx (hs.below hb) he ?_ (fun x hx => by cases hx) hq fun env' h' nx' θ' a' w' g1 g2 g3 g4 => hk _ _ _ _ _ _ g1 g2 g3 g4
  intro j oj _ hl
  rcases Nat.lt_or_ge j ops.size with h' | h'
  · simp [h'] at hl
  · simp [h'] at hl
end
end Go.Z
