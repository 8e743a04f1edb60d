/- Part 14 of what the closing text rests on. -/
import Derived.Test.YtdamnoleoakehaaGreatDoorH13
import Derived.Deep.LoopGhost
import Derived.KernelRfl
namespace Go.Z
open Go.RowKit

mutual
theorem V_back {θ θ' : Th} (h : θ.ext θ') : ∀ (s : SV) (v v' : Value), V θ s v → V θ' s v' → V θ s v'
  | .unk, _, _, _, _ => by simp [V]
  | .b _, _, _, _, hv => by simpa [V] using hv
  | .c _, _, _, _, hv => by simpa [V] using hv
  | .p n o, v, v', h1, h2 => by
    simp only [V] at *
    obtain ⟨L, e1, _⟩ := h1
    obtain ⟨L', e2, e3⟩ := h2
    obtain rfl := Option.some.inj ((h _ _ e1).symm.trans e2)
    exact ⟨L, e1, e3⟩
  | .e n es i o, v, v', h1, h2 => by
    simp only [V] at *
    obtain ⟨L, e1, _⟩ := h1
    obtain ⟨L', e2, e3⟩ := h2
    obtain rfl := Option.some.inj ((h _ _ e1).symm.trans e2)
    exact ⟨L, e1, e3⟩
  | .a n, v, v', h1, h2 => by
    simp only [V] at *
    obtain ⟨L, e1, _⟩ := h1
    obtain ⟨L', e2, e3⟩ := h2
    obtain rfl := Option.some.inj ((h _ _ e1).symm.trans e2)
    exact ⟨L, e1, e3⟩
  | .nil, _, _, _, hv => by simpa [V] using hv
  | .agg l, v, v', h1, h2 => by
    simp only [V] at *
    obtain ⟨cs, _, e1⟩ := h1
    obtain ⟨cs', e2, e3⟩ := h2
    exact ⟨cs', e2, VL_back h l cs cs' e1 e3⟩
  | .tup l, v, v', h1, h2 => by
    simp only [V] at *
    obtain ⟨cs, _, e1⟩ := h1
    obtain ⟨cs', e2, e3⟩ := h2
    exact ⟨cs', e2, VL_back h l cs cs' e1 e3⟩
  | .f fn nf l, v, v', h1, h2 => by
    simp only [V] at *
    obtain ⟨cs, _, e1⟩ := h1
    obtain ⟨cs', e2, e3⟩ := h2
    exact ⟨cs', e2, VL_back h l cs cs' e1 e3⟩
  | .arr _ _, _, _, _, hv => by simpa [V] using hv
  | .g _, _, _, _, hv => by simpa [V] using hv
  | .q n, v, v', h1, h2 => by
    simp only [V] at *
    obtain ⟨L, e1, _⟩ := h1
    obtain ⟨L', e2, e3⟩ := h2
    obtain rfl := Option.some.inj ((h _ _ e1).symm.trans e2)
    exact ⟨L, e1, e3⟩
  | .m n, v, v', h1, h2 => by
    simp only [V] at *
    obtain ⟨L, e1, _⟩ := h1
    obtain ⟨L', e2, e3⟩ := h2
    obtain rfl := Option.some.inj ((h _ _ e1).symm.trans e2)
    exact ⟨L, e1, e3⟩
  | .sl n _, v, v', h1, h2 => by
    simp only [V] at *
    obtain ⟨L, e1, _⟩ := h1
    obtain ⟨L', e2, e3⟩ := h2
    obtain rfl := Option.some.inj ((h _ _ e1).symm.trans e2)
    exact ⟨L, e1, e3⟩
  | .vw n _, v, v', h1, h2 => by
    simp only [V] at *
    obtain ⟨L, e1, _⟩ := h1
    obtain ⟨L', e2, e3⟩ := h2
    obtain rfl := Option.some.inj ((h _ _ e1).symm.trans e2)
    exact ⟨L, e1, e3⟩
  | .px _ _ _ _, _, _, _, hv => by simpa [V] using hv
  | .hv n _, v, v', h1, h2 => by
    simp only [V] at *
    obtain ⟨L, e1, _⟩ := h1
    obtain ⟨L', e2, e3⟩ := h2
    obtain rfl := Option.some.inj ((h _ _ e1).symm.trans e2)
    exact ⟨L, e1, e3⟩
  | .i t s, v, v', h1, h2 => by
    simp only [V] at *
    obtain ⟨u, _, e1⟩ := h1
    obtain ⟨u', e2, e3⟩ := h2
    exact ⟨u', e2, V_back h s u u' e1 e3⟩
  | .w ts s, v, v', h1, h2 => by
    simp only [V] at *
    exact ⟨fun hc => V_back h s v v' (h1.1 hc) (h2.1 hc), h2.2⟩
theorem VL_back {θ θ' : Th} (h : θ.ext θ') : ∀ (l : List SV) (vs vs' : List Value), VL θ l vs → VL θ' l vs' → VL θ l vs'
  | [], _, [], _, _ => by simp [VL]
  | [], _, _ :: _, _, hv => by simp [VL] at hv
  | _ :: _, [], _, hv, _ => by simp [VL] at hv
  | _ :: _, _ :: _, [], _, hv => by simp [VL] at hv
  | s :: l, v :: vs, v' :: vs', h1, h2 => by
    simp only [VL] at *
    exact ⟨V_back h s v v' h1.1 h2.1, VL_back h l vs vs' h1.2 h2.2⟩
end

theorem mem_of_efind {t : Nat} {s : SV} : ∀ {l : List (Nat × SV)}, efind l t = some s → (t, s) ∈ l
  | [], h => by simp [efind] at h
  | (m, r) :: l, h => by
    rw [efind_cons] at h
    split at h
    · rename_i e; subst e; cases h; exact .head _
    · exact .tail _ (mem_of_efind h)
theorem mem_filterEnv {t : Nat} {s : SV} : ∀ {l : List (Nat × SV)} {W : List Nat}, (t, s) ∈ filterEnv W l → efind l t = some s ∧ t ∉ W
  | [], _, h => by simp [filterEnv] at h
  | (m, r) :: l, W, h => by
    unfold filterEnv at h
    rw [efind_cons]
    cases hm : memB m W with
    | true =>
      rw [hm] at h
      obtain ⟨h1, h2⟩ := mem_filterEnv h
      have : m ≠ t := fun e => h2 (e ▸ memB_iff.1 hm)
      rw [if_neg this]; exact ⟨h1, h2⟩
    | false =>
      rw [hm] at h
      rcases List.mem_cons.1 h with e | h
      · cases e
        exact ⟨by rw [if_pos rfl], fun hc => by rw [memB_iff.2 hc] at hm; cases hm⟩
      · obtain ⟨h1, h2⟩ := mem_filterEnv h
        have : m ≠ t := fun e => h2 (e ▸ .head _)
        rw [if_neg this]; exact ⟨h1, fun hc => h2 (.tail _ hc)⟩
theorem mem_filterH {t : Nat} {s : R} : ∀ {l : List (Nat × R)} {W : List Nat}, (t, s) ∈ filterH W l → hfind l t = some s ∧ t ∉ W
  | [], _, h => by simp [filterH] at h
  | (m, r) :: l, W, h => by
    unfold filterH at h
    rw [hfind_cons]
    cases hm : memB m W with
    | true =>
      rw [hm] at h
      obtain ⟨h1, h2⟩ := mem_filterH h
      have : m ≠ t := fun e => h2 (e ▸ memB_iff.1 hm)
      rw [if_neg this]; exact ⟨h1, h2⟩
    | false =>
      rw [hm] at h
      rcases List.mem_cons.1 h with e | h
      · cases e
        exact ⟨by rw [if_pos rfl], fun hc => by rw [memB_iff.2 hc] at hm; cases hm⟩
      · obtain ⟨h1, h2⟩ := mem_filterH h
        have : m ≠ t := fun e => h2 (e ▸ .head _)
        rw [if_neg this]; exact ⟨h1, fun hc => h2 (.tail _ hc)⟩

theorem keptE_mem {env : List (Nat × SV)} {t : Nat} {s : SV} : ∀ {l : List (Nat × SV)}, keptE env l → (t, s) ∈ l → efind env t = some s
  | [], _, h => by cases h
  | (_, _) :: l, hk, h => by
    rcases List.mem_cons.1 h with e | h
    · cases e; exact hk.1
    · exact keptE_mem hk.2 h
theorem keptH_mem {env : List (Nat × R)} {t : Nat} {s : R} : ∀ {l : List (Nat × R)}, keptH env l → (t, s) ∈ l → hfind env t = some s
  | [], _, h => by cases h
  | (_, _) :: l, hk, h => by
    rcases List.mem_cons.1 h with e | h
    · cases e; exact hk.1
    · exact keptH_mem hk.2 h
theorem keptE_of {env : List (Nat × SV)} : ∀ {l : List (Nat × SV)}, (∀ t s, (t, s) ∈ l → efind env t = some s) → keptE env l
  | [], _ => trivial
  | (_, _) :: _, h => ⟨h _ _ (.head _), keptE_of fun t s hm => h t s (.tail _ hm)⟩
theorem keptH_of {env : List (Nat × R)} : ∀ {l : List (Nat × R)}, (∀ t s, (t, s) ∈ l → hfind env t = some s) → keptH env l
  | [], _ => trivial
  | (_, _) :: _, h => ⟨h _ _ (.head _), keptH_of fun t s hm => h t s (.tail _ hm)⟩


theorem mem_filterH_of {t : Nat} {s : R} : ∀ {l : List (Nat × R)} {W : List Nat}, hfind l t = some s → t ∉ W → (t, s) ∈ filterH W l
  | [], _, h, _ => by simp [hfind] at h
  | (m, r) :: l, W, h, hn => by
    rw [hfind_cons] at h
    unfold filterH
    by_cases e : m = t
    · subst e
      rw [if_pos rfl] at h; cases h
      have : memB m W = false := by
        cases hb : memB m W with
        | false => rfl
        | true => exact absurd (memB_iff.1 hb) hn
      rw [this]; exact .head _
    · rw [if_neg e] at h
      cases hb : memB m W with
      | true => exact mem_filterH_of h hn
      | false => exact .tail _ (mem_filterH_of h (fun hm => by
          rcases List.mem_cons.1 hm with rfl | hm
          · exact e rfl
          · exact hn hm))

theorem R.holds_back {θ θ' θ2 : Th} {X X' X2 : Nat → Prop} {w w' : World} {L : Loc} {r : R} (hx : θ.ext θ') (hx2 : θ.ext θ2) (hk : Keeps X' X2 w' w')
    (h : r.holds θ X w L) (h' : r.holds θ' X' w' L) : r.holds θ2 X2 w' L := by
  cases r with
  | dead => trivial
  | ro d =>
    obtain ⟨g1, g2, g3⟩ := h'
    exact ⟨D.at_mono hk (fun _ => rfl) g1, g2, Loc.inn_mono hk g3⟩
  | own T d =>
    obtain ⟨g1, g2, g3⟩ := h'
    exact ⟨D.at_mono hk (fun _ => rfl) g1, g2, g3⟩
  | blk T l =>
    obtain ⟨cs, _, _, e3⟩ := h
    obtain ⟨cs', g1, g2, g3⟩ := h'
    exact ⟨cs', g1, g2, VL_mono hx2 _ _ (VL_back hx l cs cs' e3 g3)⟩
  | rblk T l =>
    obtain ⟨cs, _, _, _, e3⟩ := h
    obtain ⟨cs', g1, g0, g2, g3⟩ := h'
    exact ⟨cs', g1, (hk _ (Array.getElem?_eq_some_iff.1 g2).1 g0).1, g2, VL_mono hx2 _ _ (VL_back hx l cs cs' e3 g3)⟩
  | map ks vs => exact h'
  | mapE ks vs st => exact h'
  | mapR ks m f => exact ⟨h'.1, h'.2.mono hk rfl⟩
  | mapS ks l bn clock =>
    obtain ⟨_, _, _, _, e3, _⟩ := h
    obtain ⟨g1, es, g2, g3, g4, g5⟩ := h'
    exact ⟨g1, es, g2, g3, VL_mono hx2 _ _ (VL_back hx l _ _ e3 g4), g5⟩
  | mit n since seen last =>
    obtain ⟨_, Lm, e1, _⟩ := h
    obtain ⟨g1, Lm', g2, g3⟩ := h'
    obtain rfl := Option.some.inj ((hx _ _ e1).symm.trans g2)
    exact ⟨g1, Lm, hx2 _ _ e1, g3⟩
  | pown T S m bs n f => exact POwn.mono hk (fun _ _ => rfl) h'
  | rmap ks vs =>
    obtain ⟨g1, g0, es, clock, g2, g3⟩ := h'
    exact ⟨g1, (hk _ (Array.getElem?_eq_some_iff.1 g2).1 g0).1, es, clock, g2, g3⟩
  | gl b T kk xs =>
    obtain ⟨g1, g0, g2⟩ := h'
    exact ⟨g1, (hk _ g2.1 g0).1, g2⟩

def OIL (X : Nat → Prop) (w : World) (θ1 : Th) : List OI → List SV → List Value → List Nat → Prop
  | [], [], [], fp => fp = []
  | x :: l, s0 :: ss0, v :: vs, fp => ∃ f g, fp = f ++ g ∧ (match x with
      | .o x => O.holds X w x v f
      | .same => V θ1 s0 v ∧ f = []) ∧ OIL X w θ1 l ss0 vs g
  | _, _, _, _ => False

def ItH (X : Nat → Prop) (w : World) (θ1 : Th) (env1 : List (Nat × SV)) (h1 : List (Nat × R)) (a : Act) : List Item → List Nat → Prop
  | [], fp => fp = []
  | (t, .c x) :: is, fp => ∃ f g v, fp = f ++ g ∧ a.tmps[t]? = some v ∧ O.holds X w x v f ∧ ItH X w θ1 env1 h1 a is g
  | (t, .blk l) :: is, fp => ∃ m T cs0 L f g, ∃ us : List Value, blkAt env1 h1 t = some (m, T, cs0) ∧ θ1 m = some L ∧ L.a = some ⟨L.b, 0, none⟩ ∧ w.heap[L.b]? = some (.cells us.toArray T (0, 0)) ∧
      OIL X w θ1 l cs0 us f ∧ fp = (L.b :: f) ++ g ∧ ItH X w θ1 env1 h1 a is g
  | (t, .pw f) :: is, fp => ∃ n T S m bs len f0 L g, pwAt env1 t = some n ∧ hfind h1 n = some (.pown T S m bs len f0) ∧ θ1 n = some L ∧ POwn X w L T S m bs len f ∧ fp = (if L.cap = 0 then bs else L.b :: bs) ++ g ∧
      ItH X w θ1 env1 h1 a is g
  | (t, .it sn) :: is, fp => ∃ m n s sn0 l L g, itAt env1 t = some m ∧ hfind h1 m = some (.mit n s sn0 l) ∧ θ1 m = some L ∧ R.holds θ1 X w L (.mit n s sn l) ∧ fp = [L.b] ++ g ∧ ItH X w θ1 env1 h1 a is g
  | (t, .ow x) :: is, fp => (pwAt env1 t = none ∧ efind env1 t = some .nil ∧ ItH X w θ1 env1 h1 a is fp) ∨ ∃ n T d0 L g, pwAt env1 t = some n ∧ hfind h1 n = some (.own T d0) ∧ θ1 n = some L ∧ R.holds θ1 X w L (.own T x) ∧ fp = (if L.cap = 0 then [] else [L.b]) ++ g ∧ ItH X w θ1 env1 h1 a is g
  | (t, .mu j) :: is, fp => ∃ (q : Nat) (kk : IntKind) (ks0 : List Int) (l0 : List SV) (bn0 : List Nat) (c0 : Nat) (L : Loc) (g : List Nat) (ks : List Int) (bn : List Nat) (clock : Nat), muAt env1 h1 t j = some q ∧ hfind h1 q = some (.mapS (.ints kk ks0) l0 bn0 c0) ∧ θ1 q = some L ∧ R.holds θ1 X w L (.mapS (.ints kk ks) (ks.map fun _ => .unk) bn clock) ∧ fp = [L.b] ++ g ∧ ItH X w θ1 env1 h1 a is g

section
variable {K : Ctx} {X : Nat → Prop} {w : World} {θ1 : Th} {env1 : List (Nat × SV)} {h1 : List (Nat × R)}

theorem instOIs_sound : ∀ (l : List OI) {ss0 : List SV} {θ : Th} {h : List (Nat × R)} {nx : Nat} {vs : List Value} {fp : List Nat} {k : List SV → List (Nat × R) → Nat → Prop}, θ1.ext θ → SatX K X θ h nx w → OIL X w θ1 l ss0 vs fp → FpOk K X θ h fp → instOIs l ss0 h nx k →
    ∃ ss h' nx' θ', k ss h' nx' ∧ GivesX K X fp θ θ' h h' nx nx' w ∧ VL θ' ss vs
  | [], [], θ, h, nx, [], fp, k, hx, hs, hh, hf, hk => by
    simp only [instOIs] at hk
    exact ⟨_, _, _, θ, hk, .refl hs _, by simp [VL]⟩
  | [], [], _, _, _, _ :: _, _, _, _, _, hh, _, _ => hh.elim
  | [], _ :: _, _, _, _, _, _, _, _, _, hh, _, _ => hh.elim
  | _ :: _, [], _, _, _, _, _, _, _, _, hh, _, _ => hh.elim
  | _ :: _, _ :: _, _, _, _, [], _, _, _, _, hh, _, _ => hh.elim
  | x :: l, s0 :: ss0, θ, h, nx, v :: vs, fp, k, hx, hs, hh, hf, hk => by
    obtain ⟨f, g, rfl, h2, h3⟩ := hh
    cases x with
    | o x =>
      simp only [instOIs] at hk
      obtain ⟨s, h', nx', θ', a1, a2, a3⟩ := instO_sound x hs h2 hf.left hk
      obtain ⟨ss, h'', nx'', θ'', b1, b2, b3⟩ := instOIs_sound l (Th.ext_trans hx a2.ext) a2.sat h3 (hf.right a2) a1
      exact ⟨_, _, _, _, b1, a2.trans b2, by simp only [VL]; exact ⟨V_mono b2.ext _ _ a3, b3⟩⟩
    | same =>
      simp only [instOIs] at hk
      obtain ⟨h4, rfl⟩ := h2
      obtain ⟨ss, h'', nx'', θ'', b1, b2, b3⟩ := instOIs_sound l hx hs h3 hf hk
      exact ⟨_, _, _, _, b1, b2, by simp only [VL]; exact ⟨V_mono (Th.ext_trans hx b2.ext) _ _ h4, b3⟩⟩

theorem instIt_sound {a : Act} : ∀ (is : List Item) {θ : Th} {h : List (Nat × R)} {nx : Nat} {fp : List Nat} {k : List (Nat × SV) → List (Nat × R) → Nat → Prop}, θ1.ext θ → SatX K X θ h nx w → ItH X w θ1 env1 h1 a is fp → FpOk K X θ h fp → instIt env1 h1 is h nx k →
    ∃ es h' nx' θ', k es h' nx' ∧ BacksX K X fp θ θ' h h' nx nx' w ∧ ∀ t s, (t, s) ∈ es → ∃ v, a.tmps[t]? = some v ∧ V θ' s v
  | [], θ, h, nx, fp, k, hx, hs, hh, hf, hk => by
    simp only [instIt] at hk
    exact ⟨_, _, _, θ, hk, (GivesX.refl hs _).backs, fun t s hm => by cases hm⟩
  | (t, .c x) :: is, θ, h, nx, fp, k, hx, hs, hh, hf, hk => by
    simp only [instIt] at hk
    obtain ⟨f, g, v, rfl, h2, h3, h4⟩ := hh
    obtain ⟨s, h', nx', θ', a1, a2, a3⟩ := instO_sound x hs h3 hf.left hk
    obtain ⟨es, h'', nx'', θ'', b1, b2, b3⟩ := instIt_sound is (Th.ext_trans hx a2.ext) a2.sat h4 (hf.right a2) a1
    refine ⟨_, _, _, _, b1, a2.backs.trans b2, fun t' s' hm => ?_⟩
    rcases List.mem_cons.1 hm with e | hm
    · cases e; exact ⟨v, h2, V_mono b2.ext _ _ a3⟩
    · exact b3 t' s' hm
  | (t, .blk l) :: is, θ, h, nx, fp, k, hx, hs, hh, hf, hk => by
    obtain ⟨m, T, cs0, L, f, g, us, e1, e2, e3, e4, e5, rfl, e6⟩ := hh
    simp only [instIt, e1] at hk
    have hf' : FpOk K X θ h ((f ++ [L.b]) ++ g) := ⟨by
      have := hf.1
      have hp : ((f ++ [L.b]) ++ g).Perm ((L.b :: f) ++ g) := List.Perm.append_right g (by simp)
      exact hp.nodup_iff.2 this, fun c hc => hf.2 c (by simp at hc ⊢; rcases hc with h | h | h <;> simp [h])⟩
    obtain ⟨ss, h', nx', θ', a1, a2, a3⟩ := instOIs_sound l hx hs e5 hf'.left.left hk
    have gv := a2.sat.give_old (r := .blk T ss) (n := m) (L := L) (fp := [L.b]) (a2.ext _ _ (hx _ _ e2)) ⟨us, e3, e4, a3⟩ (hf'.left.right a2) (fun b hb => by rw [← show L.b = b from hb]; simp)
    have r := a2.backs.trans gv
    obtain ⟨es, h'', nx'', θ'', b1, b2, b3⟩ := instIt_sound is (Th.ext_trans hx r.ext) r.sat e6 (hf'.right' r) a1
    have q := r.trans b2
    exact ⟨_, _, _, _, b1, ⟨q.sat, q.ext, q.le, q.agree, fun n b hn => (q.own n b hn).imp id (fun h => by simp at h ⊢; rcases h with h | h | h <;> simp [h])⟩, b3⟩
  | (t, .pw f) :: is, θ, h, nx, fp, k, hx, hs, hh, hf, hk => by
    obtain ⟨n, T, S, m, bs, len, f0, L, g, e1, e2, e3, e4, rfl, e6⟩ := hh
    simp only [instIt, e1, e2] at hk
    have gv := hs.give_old (r := .pown T S m bs len f) (n := n) (L := L) (fp := if L.cap = 0 then bs else L.b :: bs) (hx _ _ e3) e4 hf.left (fun b hb => by
      split
      · exact Or.resolve_left hb (fun h => h.1 ‹_›)
      · rcases hb with ⟨_, rfl⟩ | hb <;> simp [*])
    obtain ⟨es, h'', nx'', θ'', b1, b2, b3⟩ := instIt_sound is (Th.ext_trans hx gv.ext) gv.sat e6 (hf.right' gv) hk
    exact ⟨_, _, _, _, b1, gv.trans b2, b3⟩
  | (t, .it sn) :: is, θ, h, nx, fp, k, hx, hs, hh, hf, hk => by
    obtain ⟨m, n, s, sn0, l, L, g, e1, e2, e3, e4, rfl, e6⟩ := hh
    simp only [instIt, e1, e2] at hk
    have gv := hs.give_old (r := .mit n s sn l) (n := m) (L := L) (fp := [L.b]) (hx _ _ e3) (R.holds_mono hx (fun b _ hb => ⟨hb, rfl⟩) (fun _ _ => rfl) e4) hf.left (fun b hb => by rw [← show L.b = b from hb]; simp)
    obtain ⟨es, h'', nx'', θ'', b1, b2, b3⟩ := instIt_sound is (Th.ext_trans hx gv.ext) gv.sat e6 (hf.right' gv) hk
    exact ⟨_, _, _, _, b1, gv.trans b2, b3⟩
  | (t, .ow x) :: is, θ, h, nx, fp, k, hx, hs, hh, hf, hk => by
    rcases hh with ⟨e1, e2, e6⟩ | ⟨n, T, d0, L, g, e1, e2, e3, e4, rfl, e6⟩
    · simp only [instIt, e1, e2] at hk
      exact instIt_sound is hx hs e6 hf hk
    simp only [instIt, e1, e2] at hk
    have gv := hs.give_old (r := .own T x) (n := n) (L := L) (fp := if L.cap = 0 then [] else [L.b]) (hx _ _ e3) (R.holds_mono hx (fun b _ hb => ⟨hb, rfl⟩) (fun _ _ => rfl) e4) hf.left (fun b hb => by
      rw [if_neg hb.1, ← hb.2]
      simp)
    obtain ⟨es, h'', nx'', θ'', b1, b2, b3⟩ := instIt_sound is (Th.ext_trans hx gv.ext) gv.sat e6 (hf.right' gv) hk
    exact ⟨_, _, _, _, b1, gv.trans b2, b3⟩
  | (t, .mu j) :: is, θ, h, nx, fp, k, hx, hs, hh, hf, hk => by
    obtain ⟨q, kk, ks0, l0, bn0, c0, L, g, ks, bn, clock, e1, e2, e3, e4, rfl, e6⟩ := hh
    simp only [instIt, e1, e2] at hk
    have gv := hs.give_old (r := .mapS (.ints kk ks) (ks.map fun _ => .unk) bn clock) (n := q) (L := L) (fp := [L.b]) (hx _ _ e3) (R.holds_mono hx (fun b _ hb => ⟨hb, rfl⟩) (fun _ _ => rfl) e4) hf.left (fun b hb => by rw [← show L.b = b from hb]; simp)
    obtain ⟨es, h'', nx'', θ'', b1, b2, b3⟩ := instIt_sound is (Th.ext_trans hx gv.ext) gv.sat e6 (hf.right' gv) (hk ks bn clock)
    exact ⟨_, _, _, _, b1, gv.trans b2, b3⟩
end

section
variable {K : Ctx} {θ1 θ : Th} {env1 env : List (Nat × SV)} {h1 h : List (Nat × R)} {nx1 nx : Nat} {a1 a : Act} {w1 w : World}

theorem matchOIs_sound (hx : θ1.ext θ) (hs : SatH K θ h nx w) : ∀ (l : List OI) {ss0 ss : List SV} {us0 us : List Value} {k : NK}, VL θ1 ss0 us0 → matchOIs h l ss0 ss k → VL θ ss us →
    ∃ on rn fp, k on rn ∧ NamesFp θ h on fp ∧ Named θ rn ∧ ∀ X, Takes K θ h rn X → OIL X w θ1 l ss0 us fp
  | [], [], [], us0, [], k, _, hm, _ => ⟨_, _, [], hm, .nil, .nil, fun X _ => rfl⟩
  | [], [], [], _, _ :: _, _, _, _, hv => by simp [VL] at hv
  | [], [], _ :: _, _, _, _, _, hm, _ => hm.elim
  | [], _ :: _, _, _, _, _, _, hm, _ => hm.elim
  | _ :: _, [], _, _, _, _, _, hm, _ => hm.elim
  | _ :: _, _ :: _, [], _, _, _, _, hm, _ => hm.elim
  | x :: l, s0 :: ss0, s :: ss, [], us, k, hv0, hm, hv => by simp [VL] at hv0
  | x :: l, s0 :: ss0, s :: ss, u0 :: us0, [], k, hv0, hm, hv => by simp [VL] at hv
  | x :: l, s0 :: ss0, s :: ss, u0 :: us0, u :: us, k, hv0, hm, hv => by
    simp only [VL] at hv0 hv
    cases x with
    | o x =>
      simp only [matchOIs] at hm
      obtain ⟨on, rn, fp, b1, b2, bn, b3⟩ := matchO_sound hs x hm hv.1
      obtain ⟨on', rn', fp', c1, c2, cn, c3⟩ := matchOIs_sound hx hs l hv0.2 b1 hv.2
      exact ⟨_, _, fp ++ fp', c1, b2.append hs c2, bn.append cn, fun X t => ⟨fp, fp', rfl, b3 X t.left, c3 X t.right⟩⟩
    | same =>
      simp only [matchOIs] at hm
      obtain ⟨rfl, hm⟩ := hm
      obtain ⟨on', rn', fp', c1, c2, cn, c3⟩ := matchOIs_sound hx hs l hv0.2 hm hv.2
      exact ⟨_, _, fp', c1, c2, cn, fun X t => ⟨[], fp', rfl, ⟨V_back hx _ _ _ hv0.1 hv.1, rfl⟩, c3 X t⟩⟩

theorem VL_unk {θ : Th} : ∀ {ks : List Int} {vs : List Value}, ks.length = vs.length → VL θ (ks.map fun _ => .unk) vs
  | [], [], _ => by simp [VL]
  | [], _ :: _, h => by simp at h
  | _ :: _, [], h => by simp at h
  | _ :: ks, _ :: vs, h => by
    simp only [List.map_cons, VL, V]
    exact ⟨trivial, VL_unk (by simpa using h)⟩

theorem matchIt_sound (hs1 : SatH K θ1 h1 nx1 w1) (hx : θ1.ext θ) (hs : SatH K θ h nx w) (he : SatE K θ env a) : ∀ (is : List Item) {k : NK}, matchIt env1 h1 env h is k →
    ∃ on rn fp, k on rn ∧ NamesFp θ h on fp ∧ Named θ rn ∧ ∀ X, Takes K θ h rn X → ItH X w θ1 env1 h1 a is fp
  | [], k, hm => ⟨_, _, [], hm, .nil, .nil, fun X _ => rfl⟩
  | (t, .c x) :: is, k, hm => by
    simp only [matchIt] at hm
    split at hm <;> try exact hm.elim
    rename_i s hts
    obtain ⟨v, hv, hV⟩ := he.val t s hts
    obtain ⟨on, rn, fp, b1, b2, bn, b3⟩ := matchO_sound hs x hm hV
    obtain ⟨on', rn', fp', c1, c2, cn, c3⟩ := matchIt_sound hs1 hx hs he is b1
    exact ⟨_, _, fp ++ fp', c1, b2.append hs c2, bn.append cn, fun X t => ⟨fp, fp', v, rfl, hv, b3 X t.left, c3 X t.right⟩⟩
  | (t, .blk l) :: is, k, hm => by
    simp only [matchIt] at hm
    split at hm <;> try exact hm.elim
    rename_i m T cs0 hb
    split at hm <;> try exact hm.elim
    rename_i T' cs hf
    obtain ⟨t1, hm2⟩ := cond_false hm
    obtain rfl := nbeq t1
    have hb' := hb
    unfold blkAt at hb'
    split at hb' <;> try (cases hb'; done)
    split at hb' <;> try (cases hb'; done)
    split at hb' <;> try (cases hb'; done)
    rename_i hf1
    cases hb'
    obtain ⟨L1, hL1, us0, _, _, hv0⟩ := hs1.res _ _ hf1
    obtain ⟨L, hL, us, l1, l2, l3⟩ := hs.res _ _ hf
    obtain rfl := Option.some.inj ((hx _ _ hL1).symm.trans hL)
    obtain ⟨on, rn, fp, b1, b2, bn, b3⟩ := matchOIs_sound hx hs l hv0 hm2 l3
    obtain ⟨on', rn', fp', c1, c2, cn, c3⟩ := matchIt_sound hs1 hx hs he is b1
    have ho : OwnsAt θ h m L1.b := ⟨_, L1, hf, hL, rfl⟩
    refine ⟨_, _, (L1.b :: fp) ++ fp', c1, ?_, bn.append cn, fun X t => ⟨m, T, cs0, L1, fp, fp', us, hb, hL1, l1, l2, b3 X t.left, rfl, c3 X t.right⟩⟩
    have := (NamesFp.append hs (.one ho) b2).append hs c2
    simpa using this
  | (t, .pw f) :: is, k, hm => by
    simp only [matchIt] at hm
    split at hm <;> try exact hm.elim
    rename_i n hn
    split at hm <;> try exact hm.elim
    rename_i T S m bs len f0 T' S' m' bs' len' f' hf1 hf
    obtain ⟨t1, ⟨rfl, rfl, hff⟩, hm2⟩ := cond_false hm
    simp only [Bool.and_eq_true] at t1
    obtain rfl := nbeq t1.1.1
    obtain rfl := nbeq t1.1.2
    obtain rfl := nbeq t1.2
    obtain ⟨L1, hL1, _⟩ := hs1.res _ _ hf1
    obtain ⟨L, hL, hpo⟩ := hs.res _ _ hf
    obtain rfl := Option.some.inj ((hx _ _ hL1).symm.trans hL)
    obtain ⟨on', rn', fp', c1, c2, cn, c3⟩ := matchIt_sound hs1 hx hs he is hm2
    have own : ∀ b, (L1.cap ≠ 0 ∧ L1.b = b) ∨ b ∈ bs' → OwnsAt θ h n b := fun b hb => ⟨_, L1, hf, hL, hb⟩
    have hnf : NamesFp θ h [n] (if L1.cap = 0 then bs' else L1.b :: bs') := by
      refine ⟨fun b hb => ⟨n, by simp, own b ?_⟩, fun _ => ?_, fun x hx' => by simp at hx'; subst hx'; exact ⟨L1, hL⟩⟩
      · split at hb
        · exact .inr hb
        · rename_i hc
          exact (List.mem_cons.1 hb).imp (fun e => ⟨hc, e.symm⟩) id
      · split
        · exact hpo.2.2.2.2.1
        · rename_i hc
          exact List.nodup_cons.2 ⟨(hpo.2.2.2.2.2.1 hc).1, hpo.2.2.2.2.1⟩
    refine ⟨_, _, (if L1.cap = 0 then bs' else L1.b :: bs') ++ fp', c1, by simpa using hnf.append hs c2, cn, fun X tk => ⟨n, T, S, m, bs', len', f0, L1, fp', hn, hf1, hL1, ?_, rfl, c3 X tk⟩⟩
    obtain ⟨p1, p2, p3, p4, p5, p6, p7⟩ := hpo
    refine ⟨p1, p2, p3, p4, p5, p6, fun i b hi => ?_⟩
    obtain ⟨g1, us, g2, g3, g4⟩ := p7 i b hi
    have hlt := (List.getElem?_eq_some_iff.1 hi).1
    refine ⟨g1, us, g2, g3, fun j hj => ?_⟩
    obtain ⟨c, d1, d2⟩ := g4 j hj
    exact ⟨c, d1, D.holds_mono (fun b _ hb => ⟨tk.1 b hb, rfl⟩) _ _ (hff i (by omega) j hj ▸ d2)⟩
  | (t, .it sn) :: is, k, hm => by
    simp only [matchIt] at hm
    split at hm <;> try exact hm.elim
    rename_i m hn
    split at hm <;> try exact hm.elim
    rename_i n s sn0 l n' s' sn' l' hf1 hf
    obtain ⟨t1, rfl, hm2⟩ := cond_false hm
    simp only [Bool.and_eq_true] at t1
    obtain rfl := nbeq t1.1.1
    obtain rfl := nbeq t1.1.2
    obtain rfl := nbeq t1.2
    obtain ⟨L1, hL1, r1, Lm1, r2, _⟩ := hs1.res _ _ hf1
    obtain ⟨L, hL, q1, Lm, q2, q3⟩ := hs.res _ _ hf
    obtain rfl := Option.some.inj ((hx _ _ hL1).symm.trans hL)
    obtain rfl := Option.some.inj ((hx _ _ r2).symm.trans q2)
    obtain ⟨on', rn', fp', c1, c2, cn, c3⟩ := matchIt_sound hs1 hx hs he is hm2
    have ho : OwnsAt θ h m L1.b := ⟨_, L1, hf, hL, rfl⟩
    refine ⟨_, _, [L1.b] ++ fp', c1, by simpa using (NamesFp.one ho).append hs c2, cn, fun X tk => ⟨m, n', s', sn0, l', L1, fp', hn, hf1, hL1, ⟨q1, Lm1, r2, q3⟩, rfl, c3 X tk⟩⟩
  | (t, .ow x) :: is, k, hm => by
    simp only [matchIt] at hm
    split at hm
    case h_2 hn =>
      split at hm <;> try exact hm.elim
      rename_i hnil
      obtain ⟨on', rn', fp', c1, c2, cn, c3⟩ := matchIt_sound hs1 hx hs he is hm
      exact ⟨_, _, fp', c1, c2, cn, fun X tk => .inl ⟨hn, hnil, c3 X tk⟩⟩
    rename_i n hn
    split at hm <;> try exact hm.elim
    rename_i T d0 T' d hf1 hf
    obtain ⟨t1, he', hm2⟩ := cond_false hm
    obtain rfl := nbeq t1
    obtain ⟨L1, hL1, _⟩ := hs1.res _ _ hf1
    obtain ⟨L, hL, q1, q2, q3⟩ := hs.res _ _ hf
    obtain rfl := Option.some.inj ((hx _ _ hL1).symm.trans hL)
    obtain ⟨on', rn', fp', c1, c2, cn, c3⟩ := matchIt_sound hs1 hx hs he is hm2
    have hnf : NamesFp θ h [n] (if L1.cap = 0 then [] else [L1.b]) := by
      refine ⟨fun b hb => ⟨n, by simp, ?_⟩, fun _ => by split <;> simp, fun x hx' => by simp at hx'; subst hx'; exact ⟨L1, hL⟩⟩
      split at hb
      · simp at hb
      · rename_i hc
        simp at hb
        subst hb
        exact ⟨_, L1, hf, hL, hc, rfl⟩
    refine ⟨_, _, (if L1.cap = 0 then [] else [L1.b]) ++ fp', c1, by simpa using hnf.append hs c2, cn, fun X tk => .inr ⟨n, T', d0, L1, fp', hn, hf1, hL1, ?_, rfl, c3 X tk⟩⟩
    obtain ⟨x1, x2⟩ := D.at_eqv he' (D.at_mono (fun b _ hb => ⟨tk.1 b hb, rfl⟩) (fun _ => rfl) q1)
    exact ⟨x1, q2, fun hc => by rw [← x2]; exact q3 hc⟩
  | (t, .mu j) :: is, k, hm => by
    simp only [matchIt] at hm
    split at hm <;> try exact hm.elim
    rename_i q hn
    split at hm <;> try exact hm.elim
    rename_i kk ks0 l0 bn0 c0 kk' ks l bn c hf1 hf
    obtain ⟨rfl, hm2⟩ := hm
    obtain ⟨L1, hL1, _⟩ := hs1.res _ _ hf1
    obtain ⟨L, hL, q1, es, q2, q3, q4, q5⟩ := hs.res _ _ hf
    obtain rfl := Option.some.inj ((hx _ _ hL1).symm.trans hL)
    obtain ⟨on', rn', fp', c1, c2, cn, c3⟩ := matchIt_sound hs1 hx hs he is hm2
    have ho : OwnsAt θ h q L1.b := ⟨_, L1, hf, hL, rfl⟩
    have hu : VL θ1 (ks.map fun _ => .unk) (es.toList.map (·.val)) := VL_unk (by rw [List.length_map]; exact q3.size.symm)
    exact ⟨_, _, [L1.b] ++ fp', c1, by simpa using (NamesFp.one ho).append hs c2, cn, fun X tk => ⟨q, kk', ks0, l0, bn0, c0, L1, fp', ks, bn, c, hn, hf1, hL1, ⟨q1, es, q2, q3, hu, q5⟩, rfl, c3 X tk⟩⟩

theorem okMs_mem {base m : Nat} {D : List Nat} : ∀ {l : List Nat}, okMs base D l = true → m ∈ l → base ≤ m ∨ m ∈ D
  | [], _, h => by cases h
  | x :: l, hk, h => by
    simp only [okMs, Bool.and_eq_true, Bool.or_eq_true] at hk
    rcases List.mem_cons.1 h with rfl | h
    · exact hk.1.imp nble memB_iff.1
    · exact okMs_mem hk.2 h

theorem headInv (hs1 : SatH K θ1 h1 nx1 w1) (he1 : SatE K θ1 env1 a1) (hx : θ1.ext θ) (hs : SatH K θ h nx w) (he : SatE K θ env a) {is : List Item} {D W : List Nat} (hD : ∀ n ∈ D, ∃ L, θ1 n = some L)
    {on rn fp : List Nat} (k2 : NamesFp θ h on fp) (k3 : ∀ X, Takes K θ h rn X → ItH X w θ1 env1 h1 a is fp) (n1 : on.Nodup) (n2 : ∀ n ∈ rn, n ∉ on) (n3 : ∀ m ∈ on ++ rn, nx1 ≤ m ∨ m ∈ D) (hkH : keptH h (filterH D h1)) (hkE : keptE env (filterEnv W env1)) :
    ∃ X, SatX K X θ1 (deads D h1) nx1 w ∧ FpOk K X θ1 (deads D h1) fp ∧ ItH X w θ1 env1 h1 a is fp ∧ SatE K θ1 (filterEnv W env1) a := by
  let X : Nat → Prop := fun b => Free K θ h b ∨ ∃ m ∈ rn, OwnsAt θ h m b
  have kept : ∀ {n r}, n ∉ D → hfind h1 n = some r → hfind h n = some r := fun hn hr => keptH_mem hkH (mem_filterH_of hr hn)
  have owns : ∀ {n b}, OwnsAt θ1 (deads D h1) n b → n < nx1 ∧ n ∉ D ∧ OwnsAt θ h n b := by
    rintro n b ho
    obtain ⟨hn, r, L, h2, h3, h4⟩ := ownsAt_deads.1 ho
    exact ⟨hs1.named_lt h3, hn, r, L, kept hn h2, hx _ _ h3, h4⟩
  have clash : ∀ {m n}, m ∈ on ++ rn → n < nx1 → n ∉ D → m = n → False := by
    rintro m n hm hn hD' rfl
    rcases n3 m hm with h2 | h2
    · omega
    · exact hD' h2
  have hT : Takes K θ h rn X := ⟨fun b hb => .inl hb, fun n hn b ho => .inr ⟨n, hn, ho⟩⟩
  refine ⟨X, ⟨hs1.fresh, fun n r hr => ?_, fun n m b hn hm' => hs.dis n m b (owns hn).2.2 (owns hm').2.2, fun n b hn => hs.new n b (owns hn).2.2, hs.frame, fun b hb => ⟨fun n hn => ?_, ?_⟩⟩,
    ⟨k2.2.1 n1, fun b hb => ⟨fun hXb => ?_, fun n hn => ?_, ?_⟩⟩, k3 X hT, ⟨he.size, he.defers, fun t s hts => ?_⟩⟩
  · by_cases hn : n ∈ D
    · rw [hfind_deads_mem hn] at hr; cases hr
      obtain ⟨L, hL⟩ := hD n hn
      exact ⟨L, hL, trivial⟩
    · rw [hfind_deads_not hn] at hr
      obtain ⟨L, hL, g1⟩ := hs1.res n r hr
      obtain ⟨L', hL', g2⟩ := hs.res n r (kept hn hr)
      obtain rfl := Option.some.inj ((hx _ _ hL).symm.trans hL')
      exact ⟨L, hL, R.holds_back hx (Th.ext_refl _) (fun b _ hb => ⟨.inl hb, rfl⟩) g1 g2⟩
  · obtain ⟨o1, o2, o3⟩ := owns hn
    rcases hb with hb | ⟨m, hm1, hm2⟩
    · exact hb.1 n o3
    · exact clash (by simp [hm1]) o1 o2 (hs.dis _ _ _ hm2 o3)
  · rcases hb with hb | ⟨m, _, hm2⟩
    · exact hb.2
    · exact (hs.new m b hm2).imp id (K.ma b)
  · obtain ⟨m, hm1, hm2⟩ := k2.1 b hb
    rcases hXb with hb' | ⟨m', hm3, hm4⟩
    · exact hb'.1 m hm2
    · obtain rfl := hs.dis _ _ _ hm2 hm4
      exact n2 m hm3 hm1
  · obtain ⟨m, hm1, hm2⟩ := k2.1 b hb
    obtain ⟨o1, o2, o3⟩ := owns hn
    exact clash (by simp [hm1]) o1 o2 (hs.dis _ _ _ hm2 o3)
  · obtain ⟨m, hm1, hm2⟩ := k2.1 b hb
    exact hs.new m b hm2
  · have hmem := mem_of_efind hts
    obtain ⟨q1, _⟩ := mem_filterEnv hmem
    obtain ⟨v1, _, q3⟩ := he1.val t s q1
    obtain ⟨v, q4, q5⟩ := he.val t s (keptE_mem hkE hmem)
    exact ⟨v, q4, V_back hx s v1 v q3 q5⟩

theorem headState {X : Nat → Prop} {D W : List Nat} {is : List Item} {fp : List Nat} {k : List (Nat × SV) → List (Nat × R) → Nat → Prop} (hs : SatX K X θ1 (deads D h1) nx1 w) (hf : FpOk K X θ1 (deads D h1) fp) (hi : ItH X w θ1 env1 h1 a is fp)
    (he : SatE K θ1 (filterEnv W env1) a) (hk : instIt env1 h1 is (deads D h1) nx1 k) :
    ∃ es h' nx' θ', k es h' nx' ∧ SatH K θ' h' nx' w ∧ θ1.ext θ' ∧ SatE K θ' (es ++ filterEnv W env1) a := by
  obtain ⟨es, h', nx', θ', b1, b2, b3⟩ := instIt_sound is (Th.ext_refl _) hs hi hf hk
  refine ⟨es, h', nx', θ', b1, b2.sat.toH, b2.ext, he.size, he.defers, fun t s hts => ?_⟩
  rcases List.mem_append.1 (mem_of_efind hts) with hm | hm
  · exact b3 t s hm
  · have : efind (filterEnv W env1) t = some s := by
      obtain ⟨q1, q2⟩ := mem_filterEnv hm
      have key : ∀ {l : List (Nat × SV)} {W : List Nat}, efind l t = some s → t ∉ W → efind (filterEnv W l) t = some s := by
        intro l
        induction l with
        | nil => intro W h; simp [efind] at h
        | cons x l ih =>
          obtain ⟨m, r⟩ := x
          intro W hh hn
          rw [efind_cons] at hh
          unfold filterEnv
          by_cases e : m = t
          · subst e
            rw [if_pos rfl] at hh
            have : memB m W = false := by
              cases hb : memB m W with
              | false => rfl
              | true => exact absurd (memB_iff.1 hb) hn
            rw [this]
            show efind ((m, r) :: filterEnv (m :: W) l) m = _
            rw [efind_cons, if_pos rfl]; exact hh
          · rw [if_neg e] at hh
            cases hb : memB m W with
            | true => exact ih hh hn
            | false =>
              show efind ((m, r) :: filterEnv (m :: W) l) t = _
              rw [efind_cons, if_neg e]
              exact ih hh (fun hm => by
                rcases List.mem_cons.1 hm with rfl | hm
                · exact e rfl
                · exact hn hm)
      exact key q1 q2
    obtain ⟨v, e1, e2⟩ := he.val t s this
    exact ⟨v, e1, V_mono b2.ext _ _ e2⟩
end
end Go.Z

namespace Go.Z
open Go.RowKit

def Ex.exit' : Ex → Exit
  | .normal => .normal
  | .exit i => .exit i
  | .ret => .ret

section
variable {P : Program} {C : CE} {K : Ctx} {ann : Ann}

theorem loop_sound {c : Code} {D : List Nat} {body : List (Nat × SV) → List (Nat × R) → Nat → EK → Prop}
    (ih : ∀ {θ0 θ : Th} {env : List (Nat × SV)} {h : List (Nat × R)} {nx : Nat} {a : Act} {w : World} {k : EK} {Q : Exit → Act → World → Prop}, θ0.ext θ → SatH K θ h nx w → SatE K θ env a → body env h nx k →
      (∀ e env' h' nx' θ' a' w', k e env' h' nx' → θ0.ext θ' → SatH K θ' h' nx' w' → SatE K θ' env' a' → Q e.exit' a' w') → c.wp P Q a w)
    {θ0 θ : Th} {env : List (Nat × SV)} {h : List (Nat × R)} {nx : Nat} {a : Act} {w : World} {k : EK} {Q : Exit → Act → World → Prop} (hx : θ0.ext θ) (hs : SatH K θ h nx w) (he : SatE K θ env a) {A : LoopAnn}
    (hq : loopX P body A (D) env h nx k) (hk : ∀ e env' h' nx' θ' a' w', k e env' h' nx' → θ0.ext θ' → SatH K θ' h' nx' w' → SatE K θ' env' a' → Q e.exit' a' w') : (Code.loop c).wp P Q a w := by
  obtain ⟨g0, hp, hi⟩ := hq
  obtain ⟨on, rn, fp0, ⟨hnd, hb⟩, hN, hrn, hall⟩ := matchIt_sound (θ := θ) hs (Th.ext_refl _) hs he (A.items g0) hi
  simp only [Bool.and_eq_true] at hnd
  have hrnD : ∀ n ∈ on ++ rn, ∃ L, θ n = some L := fun n hn => by
    rcases List.mem_append.1 hn with hn | hn
    · exact hN.2.2 n hn
    · exact hrn n hn
  have key : ∀ (g : A.γ) {θ3 : Th} {env3 : List (Nat × SV)} {h3 : List (Nat × R)} {nx3 : Nat} {a3 : Act} {w3 : World}, θ.ext θ3 → SatH K θ3 h3 nx3 w3 → SatE K θ3 env3 a3 →
      (matchIt env h env3 h3 (A.items g) fun on' rn' => (nodupB on' && disjB rn' on' && okMs nx (on ++ rn) (on' ++ rn')) = true) →
      keptE env3 (filterEnv (slotsI (A.items g) ++ D) env) → keptH h3 (filterH (on ++ rn) h) →
      ∃ X fp, SatX K X θ (deads (on ++ rn) h) nx w3 ∧ FpOk K X θ (deads (on ++ rn) h) fp ∧ ItH X w3 θ env h a3 (A.items g) fp ∧ SatE K θ (filterEnv (slotsI (A.items g) ++ D) env) a3 := by
    intro g θ3 env3 h3 nx3 a3 w3 k1 k2 k3 k4 k5 k6
    obtain ⟨on', rn', fp', hk', m1, _, m2⟩ := matchIt_sound hs k1 k2 k3 (A.items g) k4
    simp only [Bool.and_eq_true] at hk'
    obtain ⟨X, x1, x2, x3, x4⟩ := headInv hs he k1 k2 k3 hrnD m1 m2 (nodupB_sound hk'.1.1) (disjB_sound hk'.1.2) (fun m hm => okMs_mem hk'.2 hm) k6 k5
    exact ⟨X, fp', x1, x2, x3, x4⟩
  refine wp_loop_ghost (fun n a' w' => ∃ g : A.γ, A.pre g ∧ A.μ g = n ∧ ∃ X fp, SatX K X θ (deads (on ++ rn) h) nx w' ∧ FpOk K X θ (deads (on ++ rn) h) fp ∧ ItH X w' θ env h a' (A.items g) fp ∧
    SatE K θ (filterEnv (slotsI (A.items g) ++ D) env) a') (A.μ g0) ?_ ?_
  · refine ⟨g0, hp, rfl, ?_⟩
    obtain ⟨X, x1, x2, x3, x4⟩ := headInv hs he (Th.ext_refl _) hs he (D := on ++ rn) (W := slotsI (A.items g0) ++ D) hrnD hN hall (nodupB_sound hnd.1) (disjB_sound hnd.2) (fun m hm => .inr hm) (keptH_of fun t s hm => (mem_filterH hm).1) (keptE_of fun t s hm => (mem_filterEnv hm).1)
    exact ⟨X, fp0, x1, x2, x3, x4⟩
  · rintro n a' w' ⟨g, hpg, rfl, X, fp, q1, q2, q3, q4⟩
    obtain ⟨es, h2, nx2, θ2, e1, e2, e3, e4⟩ := headState q1 q2 q3 q4 (hb g hpg)
    refine ih e3 e2 e4 e1 ?_
    intro e env' h' nx' θ' a'' w'' g1 g2 g3 g4
    cases e with
    | normal =>
      obtain ⟨g', k1, k2, k3, k4, k5⟩ := g1
      exact ⟨_, k2, g', k1, rfl, key g' g2 g3 g4 k3 k4 k5⟩
    | exit i => exact hk (.exit i) _ _ _ _ _ _ g1 (Th.ext_trans hx g2) g3 g4
    | ret => exact hk .ret _ _ _ _ _ _ g1 (Th.ext_trans hx g2) g3 g4

theorem exec_sound (hP : P.follows .mixedOrders = true) (hC : COk P C) : ∀ (c : Code) {θ0 θ : Th} {env : List (Nat × SV)} {h : List (Nat × R)} {nx : Nat} {a : Act} {w : World}
    {k : Ex → List (Nat × SV) → List (Nat × R) → Nat → Prop} {Q : Exit → Act → World → Prop}, θ0.ext θ → SatH K θ h nx w → SatE K θ env a → exec P C K.N ann c env h nx k →
    (∀ e env' h' nx' θ' a' w', k e env' h' nx' → θ0.ext θ' → SatH K θ' h' nx' w' → SatE K θ' env' a' → Q e.exit' a' w') → c.wp P Q a w
  | .skip, θ0, θ, env, h, nx, a, w, k, Q, hx, hs, he, hq, hk => wp_skip (hk _ _ _ _ _ _ _ hq hx hs he)
  | .label _, θ0, θ, env, h, nx, a, w, k, Q, hx, hs, he, hq, hk => wp_label (hk _ _ _ _ _ _ _ hq hx hs he)
  | .ret, θ0, θ, env, h, nx, a, w, k, Q, hx, hs, he, hq, hk => wp_ret (hk _ _ _ _ _ _ _ hq hx hs he)
  | .exit _, θ0, θ, env, h, nx, a, w, k, Q, hx, hs, he, hq, hk => wp_exit (hk _ _ _ _ _ _ _ hq hx hs he)
  | .region id ops draw, θ0, θ, env, h, nx, a, w, k, Q, hx, hs, he, hq, hk => by
    unfold exec at hq
    cases draw with
    | false => exact wp_region_list (execOps_sound hC _ hx hs he hq fun env' h' nx' θ' a' w' g1 g2 g3 g4 => hk _ _ _ _ _ _ _ (doneK_iff.1 g1) g2 g3 g4)
    | true =>
      rcases cond_cases (cond_cases hq |>.elim And.right (fun h => by cases h.1)) with ⟨_, hq⟩ | ⟨_, hq⟩
      case inr =>
        obtain ⟨hsel, hq⟩ := cond_false hq
        exact wp_region_anyC hP hC hsel hx hs he hq fun env' h' nx' θ' a' w' g1 g2 g3 g4 => hk _ _ _ _ _ _ _ (doneK_iff.1 g1) g2 g3 g4
      obtain ⟨hB, hq⟩ := cond_false hq
      refine wp_region_quiet (C := Below w.heap.size w) hP hB ⟨rfl, rfl, rfl, Nat.le_refl _, fun _ _ => rfl⟩ ?_
      exact execOps_quiet hC _ hx hs he hq fun env' h' nx' θ' a' g1 g2 g3 g4 w' hw' => hk _ _ _ _ _ _ _ (doneK_iff.1 g1) g2 (g3.below hw') g4
  | .seq x y, θ0, θ, env, h, nx, a, w, k, Q, hx, hs, he, hq, hk => by
    unfold exec at hq
    refine wp_seq (exec_sound hP hC x hx hs he hq ?_)
    intro e env' h' nx' θ' a' w' g1 g2 g3 g4
    cases e with
    | normal => exact exec_sound hP hC y g2 g3 g4 g1 hk
    | exit i => exact hk (.exit i) _ _ _ _ _ _ g1 g2 g3 g4
    | ret => exact hk .ret _ _ _ _ _ _ g1 g2 g3 g4
  | .cond c x y, θ0, θ, env, h, nx, a, w, k, Q, hx, hs, he, hq, hk => by
    unfold exec at hq
    split at hq <;> try exact hq.elim
    · rename_i hg
      have hv := V_get he c _ hg
      simp only [V] at hv
      exact wp_cond_true hv (exec_sound hP hC x hx hs he hq hk)
    · rename_i hg
      have hv := V_get he c _ hg
      simp only [V] at hv
      exact wp_cond_false hv (exec_sound hP hC y hx hs he hq hk)
    · rename_i t hg
      have hv := V_get he c _ hg
      simp only [V] at hv
      have hq := sw_iff.1 hq
      exact wp_cond_split hv (fun ht => exec_sound hP hC x hx hs he (hq.1 ht) hk) (fun ht => exec_sound hP hC (Q := Q) y hx hs he (hq.2 ht) hk)
  | .block id x, θ0, θ, env, h, nx, a, w, k, Q, hx, hs, he, hq, hk => by
    unfold exec at hq
    refine wp_block (exec_sound hP hC x hx hs he hq ?_)
    intro e env' h' nx' θ' a' w' g1 g2 g3 g4
    cases e with
    | normal => exact hk .normal _ _ _ _ _ _ g1 g2 g3 g4
    | exit i =>
      show if i = id then Q .normal a' w' else Q (.exit i) a' w'
      rcases cond_cases g1 with ⟨e, g1⟩ | ⟨e, g1⟩
      · rw [if_pos (Nat.eq_of_beq_eq_true e)]; exact hk .normal _ _ _ _ _ _ g1 g2 g3 g4
      · rw [if_neg (fun h => by subst h; rw [Nat.beq_refl] at e; cases e)]; exact hk (.exit i) _ _ _ _ _ _ g1 g2 g3 g4
    | ret => exact hk .ret _ _ _ _ _ _ g1 g2 g3 g4
  | .loop c, θ0, θ, env, h, nx, a, w, k, Q, hx, hs, he, hq, hk => by
    unfold exec at hq
    split at hq <;> try exact hq.elim
    rename_i r _
    split at hq
    · refine wp_loop_ghost (fun n a' w' => ∃ env' h' nx' θ', rounds (exec P C K.N ann c) n env' h' nx' k ∧ θ0.ext θ' ∧ SatH K θ' h' nx' w' ∧ SatE K θ' env' a') (ann.unroll r) ⟨_, _, _, _, hq, hx, hs, he⟩ ?_
      rintro n a' w' ⟨env', h', nx', θ', q1, q2, q3, q4⟩
      cases n with
      | zero => exact q1.elim
      | succ n =>
        refine exec_sound hP hC c q2 q3 q4 q1 ?_
        intro e env'' h'' nx'' θ'' a'' w'' g1 g2 g3 g4
        cases e with
        | normal => exact ⟨n, Nat.lt_succ_self n, _, _, _, _, g1, g2, g3, g4⟩
        | exit i => exact hk (.exit i) _ _ _ _ _ _ g1 g2 g3 g4
        | ret => exact hk .ret _ _ _ _ _ _ g1 g2 g3 g4
    all_goals
      have hq : ∃ A, loopX P (exec P C K.N ann c) A (dsts c ++ ann.drop r) env h nx k := by first | exact ⟨_, hq⟩ | exact hq.elim fun p hp => ⟨_, hp⟩
      obtain ⟨A, hq⟩ := hq
      exact loop_sound (fun hx hs he hq hk => exec_sound hP hC c hx hs he hq hk) hx hs he hq hk
  | .rangeFunc _ _ _ _, θ0, θ, env, h, nx, a, w, k, Q, hx, hs, he, hq, hk => by exact (show False from hq).elim
  | .scope _, θ0, θ, env, h, nx, a, w, k, Q, hx, hs, he, hq, hk => by exact (show False from hq).elim
  | .goto _, θ0, θ, env, h, nx, a, w, k, Q, hx, hs, he, hq, hk => by exact (show False from hq).elim
  | .refuse _, θ0, θ, env, h, nx, a, w, k, Q, hx, hs, he, hq, hk => by exact (show False from hq).elim
end
end Go.Z

namespace Go.Z
open Go.RowKit

def slotsOf : List SV → Nat → List (Nat × SV)
  | [], _ => []
  | s :: ss, t => (t, s) :: slotsOf ss (t + 1)

def resultS (P : Program) (env : List (Nat × SV)) (h : List (Nat × R)) : List ResultVar → (List SV → Prop) → Prop
  | [], k => k []
  | .tmp t :: l, k => match efind env t with
    | some s => resultS P env h l fun ss => k (s :: ss)
    | none => False
  | .cell t T :: l, k => match efind env t with
    | some (.p n o) => match hfind h n with
      | some (.blk _ cs) => match ldBlk P T cs o with
        | some s => resultS P env h l fun ss => k (s :: ss)
        | none => False
      | _ => False
    | some (.q n) => match hfind h n, kindT P T with
      | some (.own _ (.ints kk xs)), some (true, s) => s = xs.length ∧ resultS P env h l fun ss => k (.arr kk xs :: ss)
      | _, _ => False
    | _ => False

def retOk (P : Program) (rv : List ResultVar) (env : List (Nat × SV)) (h : List (Nat × R)) (ss : List SV) (res upd : List O) : Prop :=
  resultS P env h rv fun rs => matchOs h upd ss fun on rn => matchOs h res rs fun on' rn' => (nodupB (on ++ on') && disjB (rn ++ rn') (on ++ on')) = true

def instG : List (Nat × Nat × IntKind × List Int) → List (Nat × R) → Nat → (List (Nat × R) → Nat → Prop) → Prop
  | [], h, nx, k => k h nx
  | (b, T, kk, xs) :: l, h, nx, k => instG l ((nx, .gl b T kk xs) :: h) (nx + 1) k

def execF (P : Program) (C : CE) (N : Nat) (ann : Ann) (rv : List ResultVar) (code : Code) (c : Ctr) (as : List O) : Prop :=
  instG c.gl [] 0 fun h0 nx0 => instOs as h0 nx0 fun ss h nx => cond (Nat.ble ss.length N)
    (exec P C N ann code (slotsOf ss 0) h nx fun e env h' _ => match e with
      | .exit _ => False
      | _ => retOk P rv env h' ss (c.res as) (c.upd as)) False

section
variable {P : Program} {K : Ctx} {θ : Th} {h : List (Nat × R)} {nx : Nat} {w : World}

theorem efind_slots {v : SV} : ∀ {ss : List SV} {t u : Nat}, efind (slotsOf ss t) u = some v → ∃ i, u = t + i ∧ ss[i]? = some v
  | [], _, _, h => by simp [slotsOf, efind] at h
  | s :: ss, t, u, h => by
    unfold slotsOf at h
    rw [efind_cons] at h
    split at h
    · rename_i e; subst e; cases h; exact ⟨0, rfl, rfl⟩
    · obtain ⟨i, e, hi⟩ := efind_slots h
      exact ⟨i + 1, by omega, by simpa using hi⟩

def resF (tmps : Array Value) : ResultVar → Sem Value
  | .tmp t => pure (tmps.getD t undef)
  | .cell a t => do loadVar t (← asAddr (tmps.getD a undef))
theorem results_eq (fn : Func) (tmps : Array Value) : results fn tmps = (do let vs ← fn.results.mapM (resF tmps); pure (if h : vs.size = 1 then vs[0] else .tuple vs)) := rfl

theorem run_results (hs : SatH K θ h nx w) {fn : Func} {tmps : Array Value} {env : List (Nat × SV)} (hv : ∀ t s, efind env t = some s → ∃ v, tmps[t]? = some v ∧ V θ s v) {k : List SV → Prop} (hr : resultS P env h fn.results.toList k) :
    ∃ (ss : List SV) (us : List Value), k ss ∧ VL θ ss us ∧ (results fn tmps).run P w = .ok (retVal us) w := by
  have key : ∀ (l : List ResultVar) (k : List SV → Prop), resultS P env h l k → ∃ (ss : List SV) (us : List Value), k ss ∧ VL θ ss us ∧ (l.mapM (resF tmps)).run P w = .ok us w := by
    intro l
    induction l with
    | nil => intro k h; exact ⟨[], [], h, by simp [VL], by simp⟩
    | cons x l ih =>
      intro k hh
      have one : ∀ {s : SV} {v' : Value}, V θ s v' → (resF tmps x).run P w = .ok v' w → (resultS P env h l fun ss => k (s :: ss)) → ∃ (ss : List SV) (us : List Value), k ss ∧ VL θ ss us ∧ ((x :: l).mapM (resF tmps)).run P w = .ok us w := by
        intro s v' hV hrun hk
        obtain ⟨ss, us, k1, k2, k3⟩ := ih _ hk
        refine ⟨s :: ss, v' :: us, k1, by simp only [VL]; exact ⟨hV, k2⟩, ?_⟩
        rw [List.mapM_cons]
        simp [hrun, k3, Result.andThen]
      cases x with
      | cell a T =>
        simp only [resultS] at hh
        split at hh <;> try exact hh.elim
        · rename_i n o h1
          split at hh <;> try exact hh.elim
          rename_i T' cs hf
          split at hh <;> try exact hh.elim
          rename_i s h2
          obtain ⟨v, e1, e2⟩ := hv a _ h1
          simp only [V] at e2
          obtain ⟨L, hL, rfl⟩ := e2
          obtain ⟨L', hL', us0, c1, c2, c3⟩ := hs.res n _ hf
          obtain rfl := Option.some.inj (hL.symm.trans hL')
          obtain ⟨v', g1, g2⟩ := ldBlk_sound c3 h2
          have ho : L.o = 0 := by unfold Loc.o; rw [c1]
          have e3 : tmps.getD a undef = .pointer (some ⟨L.b, o, none⟩) := by simp [Array.getD_eq_getD_getElem?, e1, ho]
          refine one g1 ?_ hh
          simp only [resF, e3, asAddr]
          exact g2 w L.b fun j v hj => by rw [cell_of_cells c2]; exact hj
        · rename_i n h1
          split at hh <;> try exact hh.elim
          rename_i T' kk xs s hf hT
          obtain ⟨hlen, hk⟩ := hh
          obtain ⟨v, e1, e2⟩ := hv a _ h1
          simp only [V] at e2
          obtain ⟨L, hL, hLL, rfl⟩ := e2
          have ho : L.o = 0 := by rw [hLL]; rfl
          obtain ⟨L', hL', hat, hw, _⟩ := hs.res n _ hf
          obtain rfl := Option.some.inj (hL.symm.trans hL')
          obtain ⟨c1, c2, c3⟩ := hat
          have e3 : tmps.getD a undef = .pointer (some ⟨L.b, 0, none⟩) := by simp [Array.getD_eq_getD_getElem?, e1]
          refine one (s := .arr kk xs) (v' := .agg (xs.map (Value.int kk)).toArray) (by simp only [V]) ?_ hk
          simp only [resF, e3, asAddr]
          refine run_loadVar_agg (P := P) hT w L.b 0 (xs.map (Value.int kk)) (by simp [hlen]) (fun j v hj => ?_)
          rw [List.getElem?_map] at hj
          cases hx : xs[j]? with
          | none => rw [hx] at hj; simp at hj
          | some z =>
            rw [hx] at hj; simp at hj; subst hj
            have h3 := c3 j z hx
            rw [ho] at h3
            exact h3
      | tmp t =>
        simp only [resultS] at hh
        split at hh <;> try exact hh.elim
        rename_i s h1
        obtain ⟨v, e1, e2⟩ := hv t s h1
        have e3 : tmps.getD t undef = v := by simp [Array.getD_eq_getD_getElem?, e1]
        refine one e2 ?_ hh
        simp [resF, e3]
  obtain ⟨ss, us, k1, k2, k3⟩ := key _ _ hr
  refine ⟨ss, us, k1, k2, ?_⟩
  have e : fn.results = fn.results.toList.toArray := by simp
  rw [results_eq, e, List.mapM_toArray]
  simp only [bind_map_left, Sem.run_bind, k3, Result.andThen]
  match us with
  | [] => rfl
  | [_] => rfl
  | _ :: _ :: _ => simp [retVal]
end

theorem instG_sound {K : Ctx} {X : Nat → Prop} {w : World} {fp : List Nat} : ∀ (gl : List (Nat × Nat × IntKind × List Int)) {θ : Th} {h : List (Nat × R)} {nx : Nat} {k : List (Nat × R) → Nat → Prop},
    SatX K X θ h nx w → FpOk K X θ h fp → (∀ x ∈ gl, X x.1 ∧ GCell w x.1 x.2.2.1 x.2.2.2) → instG gl h nx k →
    ∃ h' nx' θ', k h' nx' ∧ SatX K X θ' h' nx' w ∧ FpOk K X θ' h' fp
  | [], θ, h, nx, k, hs, hf, _, hk => ⟨h, nx, θ, hk, hs, hf⟩
  | (b, T, kk, xs) :: l, θ, h, nx, k, hs, hf, hg, hk => by
    obtain ⟨g1, g2⟩ := hg (b, T, kk, xs) (by simp)
    have a := hs.add_ref (r := .gl b T kk xs) (L := ⟨some ⟨b, 0, none⟩, xs.length, xs.length⟩) (fun _ ho => ho) ⟨rfl, g1, g2⟩
    exact instG_sound l a.sat ⟨hf.1, fun c hc => ⟨(hf.2 c hc).1, fun n hn => (hf.2 c hc).2.1 n (a.own n c hn), (hf.2 c hc).2.2⟩⟩ (fun x hx => hg x (by simp [hx])) hk

theorem fnOk {P : Program} {C : CE} (hP : P.follows .mixedOrders = true) (hC : COk P C) {f : Nat} {fn : Func} {code : Code} {c : Ctr}
    (hf : P.funcs[f]? = some fn) (hb : fn.body = some code) (h : ∀ as, c.pre as → ∃ ann, execF P C fn.ntmps ann fn.results.toList code c as) : FnOk P f c := by
  intro w A as vs fp hA hnd hlt hpre hgl
  let K : Ctx := { w0 := w, M := (· ∈ fp), A := fun b => A b ∨ b ∈ fp, N := fn.ntmps, ma := fun b hb => .inr hb }
  let X0 : Nat → Prop := fun b => A b ∧ b ∉ fp
  have no : ∀ n b, ¬ OwnsAt (fun _ => none) [] n b := by
    rintro n b ⟨r, L, h1, _⟩
    simp [hfind] at h1
  have hs0 : SatX K X0 (fun _ => none) [] 0 w := ⟨fun _ _ => rfl, fun n r hr => by simp [hfind] at hr, fun n m b hn => absurd hn (no n b), fun n b hn => absurd hn (no n b), .refl _ _, fun b hb => ⟨fun n => no n b, .inr (.inl hb.1)⟩⟩
  have hf0 : FpOk K X0 (fun _ => none) [] fp := ⟨hnd, fun b hb => ⟨fun hx => hx.2 hb, fun n => no n b, .inr hb⟩⟩
  obtain ⟨ann, h⟩ := h as hpre
  obtain ⟨hG, nxG, θG, h, hs0, hf0⟩ := instG_sound c.gl hs0 hf0 (fun x hx => ⟨⟨(hgl x hx).1, (hgl x hx).2.1⟩, (hgl x hx).2.2⟩) h
  obtain ⟨ss, h1, nx1, θ1, g1, g2, g3⟩ := instOs_sound as hs0 hA hf0 h
  obtain ⟨b1, b2⟩ := cond_false g1
  have hN : ss.length ≤ fn.ntmps := nble b1
  have hlen := VL_length g3
  have hE : SatE K θ1 (slotsOf ss 0) { tmps := vs.toArray ++ Array.replicate (fn.ntmps - vs.toArray.size) undef, defers := [] } := by
    refine ⟨by simp [K]; omega, rfl, fun t s hts => ?_⟩
    obtain ⟨i, rfl, hi⟩ := efind_slots hts
    obtain ⟨v, hv, hV⟩ := VL_get g3 hi
    have hilt := (List.getElem?_eq_some_iff.1 hv).1
    refine ⟨v, ?_, hV⟩
    rw [Nat.zero_add, Array.getElem?_append_left (by simpa using hilt)]
    simpa using hv
  refine calls_of_wp hf hb (exec_sound hP hC code (θ0 := θ1) (Th.ext_refl _) g2.sat.toH hE b2 ?_)
  intro e env' h' nx' θ' a' w' k1 k2 k3 k4
  have fin : retOk P fn.results.toList env' h' ss (c.res as) (c.upd as) → a'.defers = [] ∧ ∃ v, (results fn a'.tmps).run P w' = .ok v w' ∧
      ∃ (rs : List Value) (fu fr : List Nat), Ending.returned v = .returned (retVal rs) ∧ Fr (· ∈ fp) w w' ∧ (fu ++ fr).Nodup ∧ (∀ b ∈ fu ++ fr, b ∈ fp ∨ w.heap.size ≤ b) ∧
      OL.holds (After w A fp (fu ++ fr)) w' (c.upd as) vs fu ∧ OL.holds (After w A fp (fu ++ fr)) w' (c.res as) rs fr := by
    intro hr
    unfold retOk at hr
    obtain ⟨rs, us, q1, r1, r2⟩ := run_results (P := P) k3 k4.val hr
    obtain ⟨on, rn, fu, p1, p2, _, p3⟩ := matchOs_sound k3 (c.upd as) q1 (VL_mono k2 _ _ g3)
    obtain ⟨on', rn', fr, p4, p5, _, p6⟩ := matchOs_sound k3 (c.res as) p1 r1
    simp only [Bool.and_eq_true] at p4
    have hnd := nodupB_sound p4.1
    have hdj := disjB_sound p4.2
    have hN := p2.append k3 p5
    have hX : Takes K θ' h' (rn ++ rn') (After w A fp (fu ++ fr)) := by
      refine ⟨fun b hb => ⟨hb.2, fun hm => ?_⟩, fun n hn b ho => ⟨(k3.new n b ho).imp id .inr, fun hm => ?_⟩⟩
      · obtain ⟨n, _, hn⟩ := hN.1 b hm
        exact hb.1 n hn
      · obtain ⟨m, hm1, hm2⟩ := hN.1 b hm
        obtain rfl := k3.dis _ _ _ hm2 ho
        exact hdj _ hn hm1
    refine ⟨k4.defers, _, r2, us, fu, fr, rfl, k3.frame, hN.2.1 hnd, fun b hb => ?_, p3 _ hX.left, p6 _ hX.right⟩
    obtain ⟨n, _, hn⟩ := hN.1 b hb
    exact (k3.new n b hn).symm
  cases e with
  | normal => exact fin k1
  | ret => exact fin k1
  | exit i => exact k1.elim
end Go.Z

namespace Go.Z
open Go.RowKit

def ctrsL : List (Nat × Ctr) → Nat → Option Ctr
  | [], _ => none
  | (g, c) :: l, f => cond (Nat.beq g f) (some c) (ctrsL l f)
def ctrs (l : List (Nat × Ctr)) : CE := ⟨ctrsL l, fun _ _ _ _ _ => False⟩

def loopsL : List (Nat × LoopF) → Nat → Option LoopF
  | [], _ => none
  | (g, c) :: l, f => cond (Nat.beq g f) (some c) (loopsL l f)
def unrollL : List (Nat × Nat) → Nat → Nat
  | [], _ => 0
  | (g, n) :: l, f => cond (Nat.beq g f) n (unrollL l f)
def dropL : List (Nat × List Nat) → Nat → List Nat
  | [], _ => []
  | (g, n) :: l, f => cond (Nat.beq g f) n (dropL l f)
def anns (ls : List (Nat × LoopF)) (sp : List Nat := []) (un : List (Nat × Nat) := []) (dr : List (Nat × List Nat) := []) : Ann := ⟨loopsL ls, fun r => memB r sp, unrollL un, dropL dr⟩

def FnIs (P : Program) (f : Nat) (c : Ctr) : Prop := FnOk P f c ∧ EntersOk P f

theorem cok_nil {P : Program} : COk P (ctrs []) := ⟨fun f c h => by simp [ctrs, ctrsL] at h, fun _ _ _ _ _ _ _ _ _ _ _ h => h.elim⟩
theorem cok_cons {P : Program} {f : Nat} {c : Ctr} {l : List (Nat × Ctr)} (h : FnIs P f c) (t : COk P (ctrs l)) : COk P (ctrs ((f, c) :: l)) := ⟨fun g c' hg => by
  simp only [ctrs, ctrsL] at hg
  cases hb : Nat.beq f g with
  | true =>
    rw [hb] at hg; cases hg
    rw [← Nat.eq_of_beq_eq_true hb]
    exact h
  | false => rw [hb] at hg; exact t.c g c' hg, fun _ _ _ _ _ _ _ _ _ _ _ h => h.elim⟩

structure InlF where
  code : Code
  N : Nat
  rv : List ResultVar
  ann : Ann

def inlL : List (Nat × InlF) → Nat → Option InlF
  | [], _ => none
  | (g, c) :: l, f => cond (Nat.beq g f) (some c) (inlL l f)

def jOf (P : Program) (C : Nat → Option Ctr) (I : Nat → Option InlF) : Nat → Nat → List SV → List (Nat × R) → Nat → HK → Prop
  | 0, _, _, _, _, _ => False
  | d + 1, f, args, h, nx, k =>
    match I f with
    | none => False
    | some F => cond (Nat.ble args.length F.N)
      (exec P ⟨C, jOf P C I d⟩ F.N F.ann F.code (slotsOf args 0) h nx fun e env h' nx' => match e with
        | .exit _ => False
        | _ => resultS P env h' F.rv fun rs => k (retS rs) h' nx') False

def InlOk (P : Program) (f : Nat) (F : InlF) : Prop :=
  ∃ fn : Func, P.funcs[f]? = some fn ∧ fn.body = some F.code ∧ fn.ntmps = F.N ∧ fn.results.toList = F.rv ∧ (fn.name == "runtime.NumGoroutine") = false
theorem inlOk {P : Program} {f : Nat} {fn : Func} {code : Code} {ann : Ann} (hf : P.funcs[f]? = some fn) (hb : fn.body = some code) (hn : (fn.name == "runtime.NumGoroutine") = false) :
    InlOk P f ⟨code, fn.ntmps, fn.results.toList, ann⟩ := ⟨fn, hf, hb, rfl, rfl, hn⟩

theorem SatH.withN {K : Ctx} {θ : Th} {h : List (Nat × R)} {nx : Nat} {w : World} (hs : SatH K θ h nx w) (n : Nat) : SatH { K with N := n } θ h nx w := ⟨hs.fresh, hs.res, hs.dis, hs.new, hs.frame⟩
theorem SatH.without {K : Ctx} {n : Nat} {θ : Th} {h : List (Nat × R)} {nx : Nat} {w : World} (hs : SatH { K with N := n } θ h nx w) : SatH K θ h nx w := ⟨hs.fresh, hs.res, hs.dis, hs.new, hs.frame⟩

theorem jOf_sound {P : Program} {C : Nat → Option Ctr} {I : Nat → Option InlF} (hP : P.follows .mixedOrders = true) (hC : ∀ f c, C f = some c → FnOk P f c ∧ EntersOk P f) (hI : ∀ f F, I f = some F → InlOk P f F) :
    ∀ d, JOk P (jOf P C I d)
  | 0 => fun _ _ _ _ _ _ _ _ _ _ _ h => h.elim
  | d + 1 => fun f args h nx k K θ w us hs hv hq => by
    unfold jOf at hq
    split at hq
    · exact hq.elim
    rename_i F hF
    obtain ⟨fn, hf, hb, hNt, hrv, hn⟩ := hI f F hF
    obtain ⟨b1, b2⟩ := cond_false hq
    have hN : args.length ≤ fn.ntmps := by rw [hNt]; exact nble b1
    have hlen := VL_length hv
    refine ⟨entersOk hf (by rw [hb]; rfl) hn, ?_⟩
    have hE : SatE { K with N := F.N } θ (slotsOf args 0) { tmps := us.toArray ++ Array.replicate (fn.ntmps - us.toArray.size) undef, defers := [] } := by
      refine ⟨by simp [← hNt]; omega, rfl, fun t s hts => ?_⟩
      obtain ⟨i, rfl, hi⟩ := efind_slots hts
      obtain ⟨v, hv, hV⟩ := VL_get hv hi
      have hilt := (List.getElem?_eq_some_iff.1 hv).1
      refine ⟨v, ?_, hV⟩
      rw [Nat.zero_add, Array.getElem?_append_left (by simpa using hilt)]
      simpa using hv
    refine calls_of_wp hf hb (exec_sound (K := { K with N := F.N }) (C := ⟨C, jOf P C I d⟩) hP ⟨hC, jOf_sound hP hC hI d⟩ F.code (θ0 := θ) (Th.ext_refl _) (hs.withN _) hE b2 ?_)
    intro e env' h' nx' θ' a' w' k1 k2 k3 k4
    have fin : (resultS P env' h' F.rv fun rs => k (retS rs) h' nx') → a'.defers = [] ∧ ∃ v, (results fn a'.tmps).run P w' = .ok v w' ∧
        ∃ r h' nx' θ' v', Ending.returned v = .returned v' ∧ k r h' nx' ∧ SatH K θ' h' nx' w' ∧ θ.ext θ' ∧ V θ' r v' := by
      intro hr
      rw [← hrv] at hr
      obtain ⟨rs, us', q1, r1, r2⟩ := run_results (P := P) k3 k4.val hr
      exact ⟨k4.defers, _, r2, _, _, _, θ', _, rfl, q1, k3.without, k2, V_ret r1⟩
    cases e with
    | normal => exact fin k1
    | ret => exact fin k1
    | exit i => exact k1.elim

def ctrsJ (P : Program) (l : List (Nat × Ctr)) (I : List (Nat × InlF)) (d : Nat) : CE := ⟨ctrsL l, jOf P (ctrsL l) (inlL I) d⟩
def InlsOk (P : Program) : List (Nat × InlF) → Prop
  | [] => True
  | (f, F) :: l => InlOk P f F ∧ InlsOk P l
theorem inls_get {P : Program} : ∀ {I : List (Nat × InlF)}, InlsOk P I → ∀ f F, inlL I f = some F → InlOk P f F
  | [], _, f, F, h => by simp [inlL] at h
  | (g, G) :: l, hI, f, F, h => by
    simp only [inlL] at h
    cases hb : Nat.beq g f with
    | true => rw [hb] at h; cases h; rw [← Nat.eq_of_beq_eq_true hb]; exact hI.1
    | false => rw [hb] at h; exact inls_get hI.2 f F h
theorem cokJ {P : Program} {l : List (Nat × Ctr)} {I : List (Nat × InlF)} {d : Nat} (hP : P.follows .mixedOrders = true) (h : COk P (ctrs l)) (hI : InlsOk P I) : COk P (ctrsJ P l I d) :=
  ⟨h.c, jOf_sound hP h.c (inls_get hI) d⟩

theorem kcast {p q : Prop} (h : p) (e : p = q) : q := e ▸ h

theorem fnIs {P : Program} {C : CE} (hP : P.follows .mixedOrders = true) (hC : COk P C) {f : Nat} {fn : Func} {code : Code} {c : Ctr}
    (hf : P.funcs[f]? = some fn) (hb : fn.body = some code) (hn : (fn.name == "runtime.NumGoroutine") = false)
    (h : ∀ as, c.pre as → ∃ ann, execF P C fn.ntmps ann fn.results.toList code c as) : FnIs P f c :=
  ⟨fnOk hP hC hf hb h, entersOk hf (by rw [hb]; rfl) hn⟩
end Go.Z
