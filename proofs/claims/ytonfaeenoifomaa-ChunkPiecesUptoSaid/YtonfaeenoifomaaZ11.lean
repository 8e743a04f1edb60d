/- A state matched against trees. -/
import Derived.Test.YtonfaeenoifomaaZ10
namespace Go.Z
open Go.RowKit

def D.nilP : D → Prop
  | .ints _ xs => xs = []
  | .recs _ n _ => n = 0
  | _ => False

def matchV : Value → Value → Prop
  | .int k a, .int k' b => if k = k' then a = b else False
  | .bool a, .bool b => a = b
  | .string a, .string b => a = b
  | u, x => u = x

def D.eqv : D → D → Prop
  | .ints k xs, .ints k' ys => if k = k' then xs = ys else False
  | .recs es n f, .recs es' n' g => cond (Nat.beq es es') (n = n' ∧ ∀ i, i < n → ∀ j, j < es → f i j = g i j) False
  | _, _ => False

def Col.eqv : Col → Col → Prop
  | .ints k xs, .ints k' ys => if k = k' then xs = ys else False
  | .bools xs, .bools ys => xs = ys
  | .strs xs, .strs ys => xs = ys
  | _, _ => False

/-- Owned names; owned names that are to be read only. -/
abbrev NK := List Nat → List Nat → Prop

def matchD (h : List (Nat × R)) (d : D) (s : SV) (k : NK) : Prop :=
  match d with
  | .v x => match s with
    | .b t => matchV (.bool t) x ∧ k [] []
    | .c y => cond y.oneCell' (matchV y x ∧ k [] []) False
    | .nil => matchV (.slice none 0 0) x ∧ k [] []
    | _ => False
  | .map ks vs => match s with
    | .m m => match hfind h m with
      | some (.rmap ks' vs') => ks'.eqv ks ∧ vs'.eqv vs ∧ k [] []
      | some (.map ks' vs') => ks'.eqv ks ∧ vs'.eqv vs ∧ k [] [m]
      | _ => False
    | _ => False
  | d => match s with
    | .a m => match hfind h m with
      | some (.own _ d') => d'.eqv d ∧ k [] [m]
      | some (.ro d') => d'.eqv d ∧ k [] []
      | _ => False
    | .nil => d.nilP ∧ k [] []
    | _ => False

mutual
def matchO (h : List (Nat × R)) : O → SV → NK → Prop
  | .any, _, k => k [] []
  | .d x, s, k => matchD h x s k
  | .own T x, s, k => match s with
    | .a m => match hfind h m with
      | some (.own T' d') => cond (Nat.beq T T') (d'.eqv x ∧ k [m] []) False
      | _ => False
    | .nil => x.nilP ∧ k [] []
    | _ => False
  | .ptr T l, s, k => match s with
    | .p m 0 => match hfind h m with
      | some (.blk T' cs) => cond (Nat.beq T T') (matchOs h l cs fun on rn => k (m :: on) rn) False
      | _ => False
    | _ => False
  | .arr T kk xs, s, k => match s with
    | .q m => match hfind h m with
      | some (.own T' (.ints kk' xs')) => cond (Nat.beq T T') (if kk' = kk then xs' = xs ∧ k [m] [] else False) False
      | _ => False
    | _ => False
  | .map ks vs, s, k => match s with
    | .m m => match hfind h m with
      | some (.map ks' vs') => ks'.eqv ks ∧ vs'.eqv vs ∧ k [m] []
      | _ => False
    | _ => False
  | .agg l, s, k => match s with
    | .agg ss => matchOs h l ss k
    | _ => False
  | .va kk xs, s, k => match s with
    | .arr kk' xs' => if kk' = kk then xs' = xs ∧ k [] [] else False
    | _ => False
def matchOs (h : List (Nat × R)) : List O → List SV → NK → Prop
  | [], [], k => k [] []
  | o :: l, s :: ss, k => matchO h o s fun on rn => matchOs h l ss fun on' rn' => k (on ++ on') (rn ++ rn')
  | _, _, _ => False
end

def memB (n : Nat) : List Nat → Bool
  | [] => false
  | m :: l => Nat.beq m n || memB n l
def nodupB : List Nat → Bool
  | [] => true
  | n :: l => (!memB n l) && nodupB l
def disjB : List Nat → List Nat → Bool
  | [], _ => true
  | n :: l, m => (!memB n m) && disjB l m

theorem memB_iff {n : Nat} : ∀ {l : List Nat}, memB n l = true ↔ n ∈ l
  | [] => by simp [memB]
  | m :: l => by
    have ih := @memB_iff n l
    simp only [memB, Bool.or_eq_true, ih, List.mem_cons]
    constructor
    · rintro (h | h)
      · exact .inl (Nat.eq_of_beq_eq_true h).symm
      · exact .inr h
    · rintro (rfl | h)
      · exact .inl (Nat.beq_refl _)
      · exact .inr h
theorem memB_false {n : Nat} {l : List Nat} (h : (!memB n l) = true) : n ∉ l := fun hm => by
  rw [memB_iff.2 hm] at h; cases h
theorem nodupB_sound : ∀ {l : List Nat}, nodupB l = true → l.Nodup
  | [], _ => List.nodup_nil
  | n :: l, h => by
    simp only [nodupB, Bool.and_eq_true] at h
    exact List.nodup_cons.2 ⟨memB_false h.1, nodupB_sound h.2⟩
theorem disjB_sound : ∀ {l m : List Nat}, disjB l m = true → ∀ n ∈ l, n ∉ m
  | [], _, _, n, hn => by cases hn
  | x :: l, m, h, n, hn => by
    simp only [disjB, Bool.and_eq_true] at h
    rcases List.mem_cons.1 hn with rfl | hn
    · exact memB_false h.1
    · exact disjB_sound h.2 n hn

theorem matchV_eq {u x : Value} (h : matchV u x) : u = x := by
  unfold matchV at h
  split at h
  · split at h
    · rename_i e; subst e; subst h; rfl
    · exact h.elim
  · subst h; rfl
  · subst h; rfl
  · exact h

theorem Col.eqv_eq {a b : Col} (h : a.eqv b) : a = b := by
  unfold Col.eqv at h
  split at h
  · split at h
    · rename_i e; subst e; subst h; rfl
    · exact h.elim
  · subst h; rfl
  · subst h; rfl
  · exact h.elim

theorem D.at_eqv {X : Nat → Prop} {w : World} {L : Loc} {d d' : D} (h : d'.eqv d) (hd : d'.at X w L) : d.at X w L ∧ d'.es = d.es := by
  unfold D.eqv at h
  split at h
  · split at h
    · rename_i e; subst e; subst h; exact ⟨hd, rfl⟩
    · exact h.elim
  · rename_i es n f es' n' g
    have he : es = es' := by
      cases hb : Nat.beq es es' with
      | false => rw [hb] at h; exact h.elim
      | true => exact Nat.eq_of_beq_eq_true hb
    subst he
    rw [Nat.beq_refl] at h
    obtain ⟨rfl, hf⟩ := h
    refine ⟨⟨hd.1, hd.2.1, fun i hi j hj => ?_⟩, rfl⟩
    obtain ⟨c, h1, h2⟩ := hd.2.2 i hi j hj
    exact ⟨c, h1, hf i hi j hj ▸ h2⟩
  · exact h.elim

theorem D.at_nil {X : Nat → Prop} {w : World} {d : D} (h : d.nilP) : d.at X w nilLoc := by
  cases d with
  | v _ => exact h.elim
  | ptr _ _ _ => exact h.elim
  | fn _ _ _ _ => exact h.elim
  | map _ _ => exact h.elim
  | ints k xs =>
    have h : xs = [] := h
    subst h
    exact ⟨rfl, Nat.le_refl _, fun i z hz => by simp at hz⟩
  | recs es n f =>
    have h : n = 0 := h
    subst h
    exact ⟨rfl, Nat.le_refl _, fun i hi => absurd hi (by omega)⟩

section
variable {K : Ctx} {θ : Th} {h : List (Nat × R)} {nx : Nat} {w : World}

def Named (θ : Th) (ns : List Nat) : Prop := ∀ n ∈ ns, ∃ L, θ n = some L
theorem Named.nil : Named θ [] := fun n hn => by cases hn
theorem Named.one {n : Nat} {L : Loc} (h : θ n = some L) : Named θ [n] := fun m hm => by simp at hm; subst hm; exact ⟨L, h⟩
theorem Named.append {ns ms : List Nat} (a : Named θ ns) (b : Named θ ms) : Named θ (ns ++ ms) := fun n hn => (List.mem_append.1 hn).elim (a n) (b n)

theorem matchD_sound (hs : SatH K θ h nx w) {d : D} {s : SV} {u : Value} {k : NK} (hm : matchD h d s k) (hv : V θ s u) :
    ∃ rn, k [] rn ∧ Named θ rn ∧ ∀ X, Takes K θ h rn X → d.holds X w u := by
  have arr : ∀ {d : D} {m : Nat}, (match hfind h m with
      | some (.own _ d') => d'.eqv d ∧ k [] [m]
      | some (.ro d') => d'.eqv d ∧ k [] []
      | _ => False) → V θ (.a m) u → ∃ rn, k [] rn ∧ Named θ rn ∧ ∀ X, Takes K θ h rn X → d.holds X w u := by
    intro d m hm hv
    simp only [V] at hv
    obtain ⟨L, e1, rfl⟩ := hv
    split at hm <;> try exact hm.elim
    · rename_i T d' hf'
      obtain ⟨L', l1, l2, l3, l4⟩ := hs.res _ _ hf'
      obtain rfl := Option.some.inj (e1.symm.trans l1)
      obtain ⟨d1, _⟩ := D.at_eqv hm.1 l2
      refine ⟨_, hm.2, .one e1, fun X t => holds_of_at (D.at_mono t.keeps (fun _ => rfl) d1) l3 fun hlen => ?_⟩
      have hcap : L.cap ≠ 0 := by have := D.at_len l2; omega
      have ow : OwnsAt θ h m L.b := ⟨_, L, hf', e1, hcap, rfl⟩
      exact ⟨t.2 m (by simp) _ ow, OwnsAt.lt hs ow⟩
    · rename_i d' hf'
      obtain ⟨L', l1, l2, l3, l4⟩ := hs.res _ _ hf'
      obtain rfl := Option.some.inj (e1.symm.trans l1)
      obtain ⟨d1, _⟩ := D.at_eqv hm.1 l2
      exact ⟨_, hm.2, .nil, fun X t => holds_of_at (D.at_mono t.keeps (fun _ => rfl) d1) l3 (Loc.inn_mono t.keeps l4)⟩
  have nil : ∀ {d : D}, d.nilP ∧ k [] [] → V θ .nil u → ∃ rn, k [] rn ∧ Named θ rn ∧ ∀ X, Takes K θ h rn X → d.holds X w u := by
    intro d hd hv
    simp only [V] at hv
    subst hv
    exact ⟨_, hd.2, .nil, fun X _ => holds_of_at (L := nilLoc) (D.at_nil hd.1) (.inl rfl) (fun hne => absurd rfl hne)⟩
  unfold matchD at hm
  split at hm
  · split at hm <;> try exact hm.elim
    · simp only [V] at hv; subst hv
      exact ⟨_, hm.2, .nil, fun X _ => ⟨matchV_eq hm.1, by rw [← matchV_eq hm.1]; rfl⟩⟩
    · simp only [V] at hv; subst hv
      obtain ⟨h1, h2, h3⟩ := cond_false hm
      exact ⟨_, h3, .nil, fun X _ => ⟨matchV_eq h2, by rw [← matchV_eq h2]; exact h1⟩⟩
    · simp only [V] at hv; subst hv
      exact ⟨_, hm.2, .nil, fun X _ => ⟨matchV_eq hm.1, by rw [← matchV_eq hm.1]; rfl⟩⟩
  · split at hm <;> try exact hm.elim
    simp only [V] at hv
    obtain ⟨L, hL, rfl⟩ := hv
    split at hm <;> try exact hm.elim
    · rename_i ks' vs' hf
      obtain ⟨h1, h2, h3⟩ := hm
      obtain rfl := Col.eqv_eq h1
      obtain rfl := Col.eqv_eq h2
      obtain ⟨L', hL', e1, e2, es, clock, e3, e4⟩ := hs.res _ _ hf
      obtain rfl := Option.some.inj (hL.symm.trans hL')
      exact ⟨_, h3, .nil, fun X t => ⟨L.b, es, clock, rfl, t.1 _ e2, e3, e4⟩⟩
    · rename_i ks' vs' hf
      obtain ⟨h1, h2, h3⟩ := hm
      obtain rfl := Col.eqv_eq h1
      obtain rfl := Col.eqv_eq h2
      obtain ⟨L', hL', e1, es, clock, e3, e4⟩ := hs.res _ _ hf
      obtain rfl := Option.some.inj (hL.symm.trans hL')
      exact ⟨_, h3, .one hL, fun X t => ⟨L.b, es, clock, rfl, t.2 _ (by simp) _ ⟨_, L, hf, hL, trivial, rfl⟩, e3, e4⟩⟩
  · split at hm <;> try exact hm.elim
    · exact arr hm hv
    · exact nil hm hv

mutual
theorem matchO_sound (hs : SatH K θ h nx w) : ∀ (o : O) {s : SV} {u : Value} {k : NK}, matchO h o s k → V θ s u →
    ∃ on rn fp, k on rn ∧ NamesFp θ h on fp ∧ Named θ rn ∧ ∀ X, Takes K θ h rn X → O.holds X w o u fp
  | .any, s, u, k, hm, hv => by
    simp only [matchO] at hm
    exact ⟨_, _, [], hm, .nil, .nil, fun X _ => by simp only [O.holds]⟩
  | .d x, s, u, k, hm, hv => by
    simp only [matchO] at hm
    obtain ⟨rn, h1, h1n, h2⟩ := matchD_sound hs hm hv
    exact ⟨_, _, [], h1, .nil, h1n, fun X t => by simp only [O.holds]; exact ⟨h2 X t, trivial⟩⟩
  | .own T x, s, u, k, hm, hv => by
    simp only [matchO] at hm
    split at hm <;> try exact hm.elim
    · split at hm <;> try exact hm.elim
      rename_i m T' d' hf
      obtain ⟨h1, h2, h3⟩ := cond_false hm
      obtain rfl := nbeq h1
      obtain ⟨fp, a1, a2⟩ := own_holds hs hf hv
      refine ⟨_, _, fp, h3, a1, .nil, fun X t => ?_⟩
      have := a2 X t.1
      simp only [O.holds] at this ⊢
      obtain ⟨L, b1, b2, b3, b4⟩ := this
      obtain ⟨c1, c2⟩ := D.at_eqv h2 b3
      exact ⟨L, b1, b2, c1, by rw [← c2]; exact b4⟩
    · simp only [V] at hv; subst hv
      refine ⟨_, _, [], hm.2, .nil, .nil, fun X t => ?_⟩
      simp only [O.holds]
      exact ⟨nilLoc, rfl, .inl rfl, D.at_nil hm.1, .inl ⟨rfl, trivial⟩⟩
  | .ptr T l, s, u, k, hm, hv => by
    simp only [matchO] at hm
    split at hm <;> try exact hm.elim
    rename_i m
    split at hm <;> try exact hm.elim
    rename_i T' cs hf
    obtain ⟨h1, h2⟩ := cond_false hm
    obtain rfl := nbeq h1
    obtain ⟨L, hL, us, e1, e3, e4⟩ := hs.res _ _ hf
    obtain ⟨on, rn, fp, a1, a2, an, a3⟩ := matchOs_sound hs l h2 e4
    have h1 := NamesFp.append hs (.one (⟨_, L, hf, hL, trivial, rfl⟩ : OwnsAt θ h m L.b)) a2
    refine ⟨_, _, L.b :: fp, a1, by simpa using h1, an, fun X t => ?_⟩
    simp only [O.holds]
    exact ⟨L.b, us, fp, ptr_zero hv hL e1, rfl, e3, a3 X t⟩
  | .arr T kk xs, s, u, k, hm, hv => by
    simp only [matchO] at hm
    split at hm <;> try exact hm.elim
    split at hm <;> try exact hm.elim
    rename_i m T' kk' xs' hf
    obtain ⟨h1, h2⟩ := cond_false hm
    obtain rfl := nbeq h1
    split at h2
    · rename_i e; subst e
      obtain ⟨rfl, h3⟩ := h2
      obtain ⟨fp, a1, a2⟩ := arr_holds hs hf hv
      exact ⟨_, _, fp, h3, a1, .nil, fun X t => a2 X t.1⟩
    · exact h2.elim
  | .map ks vs, s, u, k, hm, hv => by
    simp only [matchO] at hm
    split at hm <;> try exact hm.elim
    split at hm <;> try exact hm.elim
    rename_i m ks' vs' hf
    obtain ⟨h1, h2, h3⟩ := hm
    obtain rfl := Col.eqv_eq h1
    obtain rfl := Col.eqv_eq h2
    simp only [V] at hv
    obtain ⟨L, hL, rfl⟩ := hv
    obtain ⟨L', hL', e1, es, clock, e3, e4⟩ := hs.res _ _ hf
    obtain rfl := Option.some.inj (hL.symm.trans hL')
    refine ⟨_, _, [L.b], h3, .one ⟨_, L, hf, hL, trivial, rfl⟩, .nil, fun X _ => ?_⟩
    simp only [O.holds]
    exact ⟨L.b, es, clock, rfl, rfl, e3, e4⟩
  | .agg l, s, u, k, hm, hv => by
    simp only [matchO] at hm
    split at hm <;> try exact hm.elim
    simp only [V] at hv
    obtain ⟨us, rfl, e4⟩ := hv
    obtain ⟨on, rn, fp, a1, a2, an, a3⟩ := matchOs_sound hs l hm e4
    exact ⟨_, _, fp, a1, a2, an, fun X t => by simp only [O.holds]; exact ⟨us, rfl, a3 X t⟩⟩
  | .va kk xs, s, u, k, hm, hv => by
    simp only [matchO] at hm
    split at hm <;> try exact hm.elim
    split at hm
    · rename_i e; subst e
      obtain ⟨rfl, h3⟩ := hm
      simp only [V] at hv
      exact ⟨_, _, [], h3, .nil, .nil, fun X _ => by simp only [O.holds]; exact ⟨hv, trivial⟩⟩
    · exact hm.elim
theorem matchOs_sound (hs : SatH K θ h nx w) : ∀ (l : List O) {ss : List SV} {us : List Value} {k : NK}, matchOs h l ss k → VL θ ss us →
    ∃ on rn fp, k on rn ∧ NamesFp θ h on fp ∧ Named θ rn ∧ ∀ X, Takes K θ h rn X → OL.holds X w l us fp
  | [], [], [], k, hm, _ => by
    simp only [matchOs] at hm
    exact ⟨_, _, [], hm, .nil, .nil, fun X _ => by simp only [OL.holds]⟩
  | [], [], _ :: _, _, _, hv => by simp [VL] at hv
  | [], _ :: _, _, _, hm, _ => by simp [matchOs] at hm
  | _ :: _, [], _, _, hm, _ => by simp [matchOs] at hm
  | _ :: _, _ :: _, [], _, _, hv => by simp [VL] at hv
  | o :: l, s :: ss, u :: us, k, hm, hv => by
    simp only [matchOs] at hm
    simp only [VL] at hv
    obtain ⟨on, rn, fp, a1, a2, an, a3⟩ := matchO_sound hs o hm hv.1
    obtain ⟨on', rn', fp', b1, b2, bn, b3⟩ := matchOs_sound hs l a1 hv.2
    exact ⟨_, _, fp ++ fp', b1, a2.append hs b2, an.append bn, fun X t => by simp only [OL.holds]; exact ⟨fp, fp', rfl, a3 X t.left, b3 X t.right⟩⟩
end
end
end Go.Z
