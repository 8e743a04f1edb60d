/- A loop's head: what is known there, from what is known as a round ends. -/
import Derived.Test.YtgnfpcjndhnglaaX21
namespace Go.X
open Go.RowKit

mutual
/-- What a value says of the names that were known then, it said already. -/
theorem V_back {θ θ' : Th} (h : θ.ext θ') : ∀ (s : SV) (v v' : Value), V θ s v → V θ' s v' → V θ s v'
  | .unk, _, _, _, _ => by simp [V]
  | .b _, _, _, _, hv => by simpa [V] using hv
  | .c _, _, _, _, hv => by simpa [V] using hv
  | .p n o, v, v', h1, h2 => by
    simp only [V] at *
    obtain ⟨L, e1, _⟩ := h1
    obtain ⟨L', e2, e3⟩ := h2
    obtain rfl := Option.some.inj ((h _ _ e1).symm.trans e2)
    exact ⟨L, e1, e3⟩
  | .e n es i o, v, v', h1, h2 => by
    simp only [V] at *
    obtain ⟨L, e1, _⟩ := h1
    obtain ⟨L', e2, e3⟩ := h2
    obtain rfl := Option.some.inj ((h _ _ e1).symm.trans e2)
    exact ⟨L, e1, e3⟩
  | .a n, v, v', h1, h2 => by
    simp only [V] at *
    obtain ⟨L, e1, _⟩ := h1
    obtain ⟨L', e2, e3⟩ := h2
    obtain rfl := Option.some.inj ((h _ _ e1).symm.trans e2)
    exact ⟨L, e1, e3⟩
  | .nil, _, _, _, hv => by simpa [V] using hv
  | .agg l, v, v', h1, h2 => by
    simp only [V] at *
    obtain ⟨cs, _, e1⟩ := h1
    obtain ⟨cs', e2, e3⟩ := h2
    exact ⟨cs', e2, VL_back h l cs cs' e1 e3⟩
  | .tup l, v, v', h1, h2 => by
    simp only [V] at *
    obtain ⟨cs, _, e1⟩ := h1
    obtain ⟨cs', e2, e3⟩ := h2
    exact ⟨cs', e2, VL_back h l cs cs' e1 e3⟩
  | .f fn caps, v, v', h1, h2 => by
    simp only [V] at *
    obtain ⟨cs, _, e1⟩ := h1
    obtain ⟨cs', e2, e3⟩ := h2
    exact ⟨cs', e2, VL_back h caps cs cs' e1 e3⟩
  | .m n, v, v', h1, h2 => by
    simp only [V] at *
    obtain ⟨L, e1, _⟩ := h1
    obtain ⟨L', e2, e3⟩ := h2
    obtain rfl := Option.some.inj ((h _ _ e1).symm.trans e2)
    exact ⟨L, e1, e3⟩
  | .w ts s, v, v', h1, h2 => by
    simp only [V] at *
    exact ⟨fun hc => V_back h s v v' (h1.1 hc) (h2.1 hc), h2.2⟩
theorem VL_back {θ θ' : Th} (h : θ.ext θ') : ∀ (l : List SV) (vs vs' : List Value), VL θ l vs → VL θ' l vs' → VL θ l vs'
  | [], _, [], _, _ => by simp [VL]
  | [], _, _ :: _, _, hv => by simp [VL] at hv
  | _ :: _, [], _, hv, _ => by simp [VL] at hv
  | _ :: _, _ :: _, [], _, hv => by simp [VL] at hv
  | s :: l, v :: vs, v' :: vs', h1, h2 => by
    simp only [VL] at *
    exact ⟨V_back h s v v' h1.1 h2.1, VL_back h l vs vs' h1.2 h2.2⟩
end

theorem memB_iff {n : Nat} : ∀ {l : List Nat}, memB n l = true ↔ n ∈ l
  | [] => by simp [memB]
  | m :: l => by
    have ih := @memB_iff n l
    simp only [memB, Bool.or_eq_true, ih, List.mem_cons]
    constructor
    · rintro (h | h)
      · exact .inl (Nat.eq_of_beq_eq_true h).symm
      · exact .inr h
    · rintro (rfl | h)
      · exact .inl (Nat.beq_refl _)
      · exact .inr h

theorem mem_of_efind {t : Nat} {s : SV} : ∀ {l : List (Nat × SV)}, efind l t = some s → (t, s) ∈ l
  | [], h => by simp [efind] at h
  | (m, r) :: l, h => by
    rw [efind_cons] at h
    split at h
    · rename_i e; subst e; cases h; exact .head _
    · exact .tail _ (mem_of_efind h)
theorem mem_of_hfind {t : Nat} {s : R} : ∀ {l : List (Nat × R)}, hfind l t = some s → (t, s) ∈ l
  | [], h => by simp [hfind] at h
  | (m, r) :: l, h => by
    rw [hfind_cons] at h
    split at h
    · rename_i e; subst e; cases h; exact .head _
    · exact .tail _ (mem_of_hfind h)

theorem mem_filterEnv {t : Nat} {s : SV} : ∀ {l : List (Nat × SV)} {W : List Nat}, (t, s) ∈ filterEnv W l → efind l t = some s ∧ t ∉ W
  | [], _, h => by simp [filterEnv] at h
  | (m, r) :: l, W, h => by
    unfold filterEnv at h
    rw [efind_cons]
    cases hm : memB m W with
    | true =>
      rw [hm] at h
      obtain ⟨h1, h2⟩ := mem_filterEnv h
      have : m ≠ t := fun e => h2 (e ▸ memB_iff.1 hm)
      rw [if_neg this]; exact ⟨h1, h2⟩
    | false =>
      rw [hm] at h
      rcases List.mem_cons.1 h with e | h
      · cases e
        exact ⟨by rw [if_pos rfl], fun hc => by rw [memB_iff.2 hc] at hm; cases hm⟩
      · obtain ⟨h1, h2⟩ := mem_filterEnv h
        have : m ≠ t := fun e => h2 (e ▸ .head _)
        rw [if_neg this]; exact ⟨h1, fun hc => h2 (.tail _ hc)⟩
theorem mem_filterH {t : Nat} {s : R} : ∀ {l : List (Nat × R)} {W : List Nat}, (t, s) ∈ filterH W l → hfind l t = some s ∧ t ∉ W
  | [], _, h => by simp [filterH] at h
  | (m, r) :: l, W, h => by
    unfold filterH at h
    rw [hfind_cons]
    cases hm : memB m W with
    | true =>
      rw [hm] at h
      obtain ⟨h1, h2⟩ := mem_filterH h
      have : m ≠ t := fun e => h2 (e ▸ memB_iff.1 hm)
      rw [if_neg this]; exact ⟨h1, h2⟩
    | false =>
      rw [hm] at h
      rcases List.mem_cons.1 h with e | h
      · cases e
        exact ⟨by rw [if_pos rfl], fun hc => by rw [memB_iff.2 hc] at hm; cases hm⟩
      · obtain ⟨h1, h2⟩ := mem_filterH h
        have : m ≠ t := fun e => h2 (e ▸ .head _)
        rw [if_neg this]; exact ⟨h1, fun hc => h2 (.tail _ hc)⟩

theorem keptE_mem {env : List (Nat × SV)} {t : Nat} {s : SV} : ∀ {l : List (Nat × SV)}, keptE env l → (t, s) ∈ l → efind env t = some s
  | [], _, h => by cases h
  | (_, _) :: l, hk, h => by
    rcases List.mem_cons.1 h with e | h
    · cases e; exact hk.1
    · exact keptE_mem hk.2 h
theorem keptH_mem {env : List (Nat × R)} {t : Nat} {s : R} : ∀ {l : List (Nat × R)}, keptH env l → (t, s) ∈ l → hfind env t = some s
  | [], _, h => by cases h
  | (_, _) :: l, hk, h => by
    rcases List.mem_cons.1 h with e | h
    · cases e; exact hk.1
    · exact keptH_mem hk.2 h
theorem keptE_of {env : List (Nat × SV)} : ∀ {l : List (Nat × SV)}, (∀ t s, (t, s) ∈ l → efind env t = some s) → keptE env l
  | [], _ => trivial
  | (_, _) :: _, h => ⟨h _ _ (.head _), keptE_of fun t s hm => h t s (.tail _ hm)⟩
theorem keptH_of {env : List (Nat × R)} : ∀ {l : List (Nat × R)}, (∀ t s, (t, s) ∈ l → hfind env t = some s) → keptH env l
  | [], _ => trivial
  | (_, _) :: _, h => ⟨h _ _ (.head _), keptH_of fun t s hm => h t s (.tail _ hm)⟩

theorem matchV_eq {u x : Value} (h : matchV u x) : u = x := by
  unfold matchV at h
  split at h
  · split at h
    · rename_i e; subst e; subst h; rfl
    · exact h.elim
  · subst h; rfl
  · subst h; rfl
  · exact h

theorem D.at_eqv {X : Nat → Prop} {w : World} {L : Loc} {d d' : D} (h : d'.eqv d) (hd : d'.at X w L) : d.at X w L ∧ d'.es = d.es := by
  unfold D.eqv at h
  split at h
  · split at h
    · rename_i e; subst e; subst h; exact ⟨hd, rfl⟩
    · exact h.elim
  · rename_i es n f es' n' g
    have he : es = es' := by
      cases hb : Nat.beq es es' with
      | false => rw [hb] at h; exact h.elim
      | true => exact Nat.eq_of_beq_eq_true hb
    subst he
    rw [Nat.beq_refl] at h
    obtain ⟨rfl, hf⟩ := h
    refine ⟨⟨hd.1, hd.2.1, fun i hi j hj => ?_⟩, rfl⟩
    obtain ⟨c, h1, h2⟩ := hd.2.2 i hi j hj
    exact ⟨c, h1, hf i hi j hj ▸ h2⟩
  · exact h.elim

def nilLoc : Loc := ⟨none, 0, 0⟩
theorem D.at_nil {X : Nat → Prop} {w : World} {d : D} (h : d.nilP) : d.at X w nilLoc := by
  cases d with
  | v x => exact h.elim
  | ints k xs =>
    have h : xs = [] := h
    subst h
    exact ⟨rfl, Nat.le_refl _, fun i z hz => by simp at hz⟩
  | recs es n f =>
    have h : n = 0 := h
    subst h
    exact ⟨rfl, Nat.le_refl _, fun i hi => absurd hi (by omega)⟩

/-- How a resource of the head is had from what is. -/
inductive Carried (h3 : List (Nat × R)) : R → Option Nat → Bool → Prop
  | own {m T : Nat} {d d' : D} : hfind h3 m = some (.own T d') → d'.eqv d → Carried h3 (.own T d) (some m) true
  | onil {T : Nat} {d : D} : d.nilP → Carried h3 (.own T d) none false
  | fro {m T : Nat} {d d' : D} : hfind h3 m = some (.own T d') → d'.eqv d → Carried h3 (.ro d) (some m) true
  | ro {m : Nat} {d d' : D} : hfind h3 m = some (.ro d') → d'.eqv d → Carried h3 (.ro d) (some m) false
  | rnil {d : D} : d.nilP → Carried h3 (.ro d) none false

def tgt (θ3 : Th) : Option Nat → Option Loc
  | some m => θ3 m
  | none => some nilLoc

def Reads (θ2 θ3 : Th) (nx : Nat) (ρ : Ren) : Prop := ∀ i x, ρ[i]? = some x → θ2 (nx + i) = tgt θ3 x.1

theorem Reads.left {θ2 θ3 : Th} {nx : Nat} {ρ ρ' : Ren} (h : Reads θ2 θ3 nx (ρ ++ ρ')) : Reads θ2 θ3 nx ρ := fun i x hi =>
  h i x (by rw [List.getElem?_append_left (List.getElem?_eq_some_iff.1 hi).1]; exact hi)
theorem Reads.right {θ2 θ3 : Th} {nx : Nat} {ρ ρ' : Ren} (h : Reads θ2 θ3 nx (ρ ++ ρ')) : Reads θ2 θ3 (nx + ρ.length) ρ' := fun i x hi => by
  have := h (ρ.length + i) x (by rw [List.getElem?_append_right (by omega)]; simpa using hi)
  rw [← this]; congr 1; omega

def FromRen (h3 : List (Nat × R)) (nx : Nat) (ρ : Ren) (n : Nat) (r : R) : Prop := ∃ i m o, n = nx + i ∧ ρ[i]? = some (m, o) ∧ Carried h3 r m o
theorem FromRen.left {h3 : List (Nat × R)} {nx n : Nat} {ρ ρ' : Ren} {r : R} (h : FromRen h3 nx ρ n r) : FromRen h3 nx (ρ ++ ρ') n r := by
  obtain ⟨i, m, o, e, h1, h2⟩ := h
  exact ⟨i, m, o, e, by rw [List.getElem?_append_left (List.getElem?_eq_some_iff.1 h1).1]; exact h1, h2⟩
theorem FromRen.right {h3 : List (Nat × R)} {nx n : Nat} {ρ ρ' : Ren} {r : R} (h : FromRen h3 (nx + ρ.length) ρ' n r) : FromRen h3 nx (ρ ++ ρ') n r := by
  obtain ⟨i, m, o, e, h1, h2⟩ := h
  exact ⟨ρ.length + i, m, o, by omega, by rw [List.getElem?_append_right (by omega)]; simpa using h1, h2⟩

theorem matchC_sound {θ3 : Th} {h3 : List (Nat × R)} {x : CI} {s : SV} {nx : Nat} {k : Ren → Prop} (hm : matchC x s h3 k) :
    ∃ ρ, k ρ ∧ (ciS x nx).2.2 = nx + ρ.length ∧ (∀ θ2, Reads θ2 θ3 nx ρ → ∀ v, V θ3 s v → V θ2 (ciS x nx).1 v) ∧
      ∀ n r, (n, r) ∈ (ciS x nx).2.1 → FromRen h3 nx ρ n r := by
  have one : ∀ {r : R} {m : Option Nat} {o : Bool}, k [(m, o)] → (∀ v, V θ3 s v → ∃ L, tgt θ3 m = some L ∧ v = L.val) → Carried h3 r m o →
      ∃ ρ, k ρ ∧ nx + 1 = nx + ρ.length ∧ (∀ θ2, Reads θ2 θ3 nx ρ → ∀ v, V θ3 s v → V θ2 (.a nx) v) ∧ ∀ n r', (n, r') ∈ [(nx, r)] → FromRen h3 nx ρ n r' := by
    intro r m o hk hv hc
    refine ⟨_, hk, rfl, fun θ2 hr v hv' => ?_, fun n r' hn => ?_⟩
    · obtain ⟨L, h1, h2⟩ := hv v hv'
      simp only [V]
      exact ⟨L, (hr 0 _ rfl).trans h1, h2⟩
    · simp only [List.mem_singleton, Prod.mk.injEq] at hn
      obtain ⟨rfl, rfl⟩ := hn
      exact ⟨0, m, o, rfl, rfl, hc⟩
  have va : ∀ {m : Nat}, s = .a m → ∀ v, V θ3 s v → ∃ L, tgt θ3 (some m) = some L ∧ v = L.val := by
    rintro m rfl v hv; simp only [V] at hv; exact hv
  have vn : s = .nil → ∀ v, V θ3 s v → ∃ L, tgt θ3 none = some L ∧ v = L.val := by
    rintro rfl v hv; simp only [V] at hv; exact ⟨nilLoc, rfl, hv⟩
  unfold matchC at hm
  unfold ciS
  split at hm
  · rename_i x
    split at hm <;> try exact hm.elim
    · exact ⟨[], hm.2, rfl, fun θ2 _ v hv => by simp only [V] at *; rw [hv]; exact matchV_eq hm.1, fun n r hn => by cases hn⟩
    · exact ⟨[], hm.2, rfl, fun θ2 _ v hv => by simp only [V] at *; rw [hv]; exact matchV_eq hm.1, fun n r hn => by cases hn⟩
  · rename_i T d
    split at hm <;> try exact hm.elim
    · split at hm <;> try exact hm.elim
      rename_i m T' d' hf
      obtain ⟨h1, h2, h3'⟩ := cond_false hm
      have := Nat.eq_of_beq_eq_true h1
      subst this
      exact one h3' (va rfl) (.own hf h2)
    · exact one hm.2 (vn rfl) (.onil hm.1)
  · rename_i d
    split at hm <;> try exact hm.elim
    · split at hm <;> try exact hm.elim
      · rename_i hf
        exact one hm.2 (va rfl) (.fro hf hm.1)
      · rename_i hf
        exact one hm.2 (va rfl) (.ro hf hm.1)
    · exact one hm.2 (vn rfl) (.rnil hm.1)
  · exact ⟨[], hm, rfl, fun θ2 _ v hv => by simp [V], fun n r hn => by cases hn⟩
  · exact hm.elim

theorem matchL_sound {θ3 : Th} {h3 : List (Nat × R)} : ∀ {l : List CI} {ss : List SV} {nx : Nat} {k : Ren → Prop}, matchL l ss h3 k →
    ∃ ρ, k ρ ∧ (ciL l nx).2.2 = nx + ρ.length ∧ (∀ θ2, Reads θ2 θ3 nx ρ → ∀ vs, VL θ3 ss vs → VL θ2 (ciL l nx).1 vs) ∧
      ∀ n r, (n, r) ∈ (ciL l nx).2.1 → FromRen h3 nx ρ n r
  | [], [], nx, k, hm => ⟨[], hm, rfl, fun θ2 _ vs hv => by cases vs <;> simp [VL, ciL] at *, fun n r hn => by cases hn⟩
  | [], _ :: _, _, _, hm => hm.elim
  | _ :: _, [], _, _, hm => hm.elim
  | x :: l, s :: ss, nx, k, hm => by
    obtain ⟨ρ, h1, h2, h3', h4⟩ := matchC_sound (θ3 := θ3) (nx := nx) hm
    obtain ⟨ρ', g1, g2, g3, g4⟩ := matchL_sound (θ3 := θ3) (nx := (ciS x nx).2.2) h1
    rw [h2] at g2 g3 g4
    unfold ciL
    simp only [h2]
    refine ⟨ρ ++ ρ', g1, by rw [g2, List.length_append]; omega, fun θ2 hr vs hv => ?_, fun n r hn => ?_⟩
    · cases vs with
      | nil => simp [VL] at hv
      | cons v vs =>
        simp only [VL] at hv ⊢
        exact ⟨h3' θ2 hr.left v hv.1, g3 θ2 hr.right vs hv.2⟩
    · rcases List.mem_append.1 hn with hn | hn
      · exact (h4 n r hn).left
      · exact (g4 n r hn).right

theorem matchI_sound {θ3 : Th} {env1 env3 : List (Nat × SV)} {h1 h3 : List (Nat × R)} : ∀ {is : List Item} {nx : Nat} {k : Ren → Prop} {es : List (Nat × SV)} {hs : List (Nat × R)} {nx' : Nat},
    headI env1 h1 is nx = some (es, hs, nx') → matchI env1 h1 env3 h3 is k →
    ∃ ρ, k ρ ∧ nx' = nx + ρ.length ∧ (∀ θ2, Reads θ2 θ3 nx ρ → ∀ t s', (t, s') ∈ es → ∃ s, efind env3 t = some s ∧ ∀ v, V θ3 s v → V θ2 s' v) ∧
      ∀ n r, (n, r) ∈ hs → FromRen h3 nx ρ n r ∨ ∃ T ss' ss, r = .blk T ss' ∧ n ∈ blksI env1 h1 is ∧ hfind h3 n = some (.blk T ss) ∧ ∀ θ2, Reads θ2 θ3 nx ρ → ∀ vs, VL θ3 ss vs → VL θ2 ss' vs
  | [], nx, k, es, hs, nx', hh, hm => by
    simp only [headI, Option.some.injEq, Prod.mk.injEq] at hh
    obtain ⟨rfl, rfl, rfl⟩ := hh
    exact ⟨[], hm, rfl, fun _ _ t s' ht => (by cases ht), fun n r hn => (by cases hn)⟩
  | (t, g) :: is, nx, k, es, hs, nx', hh, hm => by
    cases g with
    | c x =>
      simp only [matchI] at hm
      split at hm <;> try exact hm.elim
      rename_i s hs'
      obtain ⟨ρ, c1, c2, c3, c4⟩ := matchC_sound (θ3 := θ3) (nx := nx) hm
      simp only [headI] at hh
      split at hh <;> try (cases hh; done)
      rename_i es2 hs2 nx2 hh2
      cases hh
      obtain ⟨ρ', g1, g2, g3, g4⟩ := matchI_sound hh2 c1
      rw [c2] at g2 g3 g4
      refine ⟨ρ ++ ρ', g1, by rw [g2, List.length_append]; omega, fun θ2 hr t' s' ht => ?_, fun n r hn => ?_⟩
      · rcases List.mem_cons.1 ht with e | ht
        · cases e; exact ⟨s, hs', c3 θ2 hr.left⟩
        · exact g3 θ2 hr.right t' s' ht
      · rcases List.mem_append.1 hn with hn | hn
        · exact .inl (c4 n r hn).left
        · rcases g4 n r hn with h | ⟨T, ss', ss, e1, e2, e3, e4⟩
          · exact .inl h.right
          · exact .inr ⟨T, ss', ss, e1, e2, e3, fun θ2 hr => e4 θ2 hr.right⟩
    | blk l =>
      simp only [matchI] at hm
      split at hm <;> try exact hm.elim
      rename_i m T cs0 hb
      split at hm <;> try exact hm.elim
      rename_i T' cs hf
      obtain ⟨t1, hm2⟩ := cond_false hm
      have := Nat.eq_of_beq_eq_true t1
      subst this
      obtain ⟨ρ, c1, c2, c3, c4⟩ := matchL_sound (θ3 := θ3) (nx := nx) hm2
      simp only [headI, hb] at hh
      split at hh <;> try (cases hh; done)
      rename_i es2 hs2 nx2 hh2
      cases hlen : Nat.beq l.length cs0.length with
      | false => rw [hlen] at hh; cases hh
      | true =>
        rw [hlen] at hh
        cases hh
        obtain ⟨ρ', g1, g2, g3, g4⟩ := matchI_sound hh2 c1
        rw [c2] at g2 g3 g4
        refine ⟨ρ ++ ρ', g1, by rw [g2, List.length_append]; omega, fun θ2 hr t' s' ht => g3 θ2 hr.right t' s' ht, fun n r hn => ?_⟩
        have hbl : blksI env1 h1 ((t, G.blk l) :: is) = m :: blksI env1 h1 is := by simp [blksI, hb]
        rcases List.mem_cons.1 hn with e | hn
        · cases e
          exact .inr ⟨T, _, cs, rfl, by rw [hbl]; exact .head _, hf, fun θ2 hr => c3 θ2 hr.left⟩
        · rcases List.mem_append.1 hn with hn | hn
          · exact .inl (c4 n r hn).left
          · rcases g4 n r hn with h | ⟨T, ss', ss, e1, e2, e3, e4⟩
            · exact .inl h.right
            · exact .inr ⟨T, ss', ss, e1, by rw [hbl]; exact .tail _ e2, e3, fun θ2 hr => e4 θ2 hr.right⟩
end Go.X
