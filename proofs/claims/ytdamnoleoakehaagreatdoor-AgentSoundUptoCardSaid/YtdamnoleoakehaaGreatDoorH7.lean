/- Part 7 of what the closing text rests on. -/
import Derived.Test.YtdamnoleoakehaaGreatDoorH6
namespace Go.Z
open Go.RowKit

def D.nilP : D → Prop
  | .ints _ xs => xs = []
  | .recs _ n _ => n = 0
  | _ => False

def matchV : Value → Value → Prop
  | .int k a, .int k' b => if k = k' then a = b else False
  | .bool a, .bool b => a = b
  | .string a, .string b => a = b
  | u, x => u = x

def D.eqv : D → D → Prop
  | .ints k xs, .ints k' ys => if k = k' then xs = ys else False
  | .recs es n f, .recs es' n' g => cond (Nat.beq es es') (n = n' ∧ ∀ i, i < n → ∀ j, j < es → f i j = g i j) False
  | _, _ => False

def Col.eqv : Col → Col → Prop
  | .ints k xs, .ints k' ys => if k = k' then xs = ys else False
  | .bools xs, .bools ys => xs = ys
  | .strs xs, .strs ys => xs = ys
  | _, _ => False

abbrev NK := List Nat → List Nat → Prop

def matchD (h : List (Nat × R)) (d : D) (s : SV) (k : NK) : Prop :=
  match d with
  | .v x => match s with
    | .b t => matchV (.bool t) x ∧ k [] []
    | .c y => cond y.oneCell' (matchV y x ∧ k [] []) False
    | .nil => matchV (.slice none 0 0) x ∧ k [] []
    | _ => False
  | .map ks vs => match s with
    | .m m => match hfind h m with
      | some (.rmap ks' vs') => ks'.eqv ks ∧ vs'.eqv vs ∧ k [] []
      | some (.map ks' vs') => ks'.eqv ks ∧ vs'.eqv vs ∧ k [] [m]
      | _ => False
    | _ => False
  | d => match s with
    | .a m => match hfind h m with
      | some (.own _ d') => d'.eqv d ∧ k [] [m]
      | some (.ro d') => d'.eqv d ∧ k [] []
      | _ => False
    | .nil => d.nilP ∧ k [] []
    | _ => False

def keptB (ob : Option (List Nat)) (bs : List Nat) : Prop := match ob with
  | some l => bs = l
  | none => True
theorem keptB_iff {ob : Option (List Nat)} {bs : List Nat} (h : keptB ob bs) : ∀ l, ob = some l → bs = l := fun l hl => by subst hl; exact h
mutual
def matchO (h : List (Nat × R)) : O → SV → NK → Prop
  | .any, _, k => k [] []
  | .d x, s, k => matchD h x s k
  | .own T x, s, k => match s with
    | .a m => match hfind h m with
      | some (.own T' d') => cond (Nat.beq T T') (d'.eqv x ∧ k [m] []) False
      | _ => False
    | .nil => x.nilP ∧ k [] []
    | _ => False
  | .ptr T l, s, k => match s with
    | .p m 0 => match hfind h m with
      | some (.blk T' cs) => cond (Nat.beq T T') (matchOs h l cs fun on rn => k (m :: on) rn) False
      | _ => False
    | _ => False
  | .arr T kk xs, s, k => match s with
    | .q m => match hfind h m with
      | some (.own T' (.ints kk' xs')) => cond (Nat.beq T T') (if kk' = kk then xs' = xs ∧ k [m] [] else False) False
      | _ => False
    | _ => False
  | .map ks vs, s, k => match s with
    | .m m => match hfind h m with
      | some (.map ks' vs') => ks'.eqv ks ∧ vs'.eqv vs ∧ k [m] []
      | _ => False
    | _ => False
  | .mapR ks c f, s, k => match s with
    | .m m => match hfind h m with
      | some (.mapR ks' c' f') => cond (Nat.beq c c') (ks'.eqv ks ∧ (∀ i, i < ks'.len → ∀ j, j < c → f' i j = f i j) ∧ k [m] []) False
      | _ => False
    | _ => False
  | .agg l, s, k => match s with
    | .agg ss => matchOs h l ss k
    | _ => False
  | .va kk xs, s, k => match s with
    | .arr kk' xs' => if kk' = kk then xs' = xs ∧ k [] [] else False
    | _ => False
  | .pown T S m ob n f, s, k => match s with
    | .a q => match hfind h q with
      | some (.pown T' S' m' bs n' f') => cond (Nat.beq T T' && Nat.beq S S' && Nat.beq m m') ((n' = n ∧ (∀ i, i < n → ∀ j, j < m → f' i j = f i j) ∧ keptB ob bs) ∧ k [q] []) False
      | _ => False
    | .nil => (n = 0 ∧ keptB ob []) ∧ k [] []
    | _ => False
  | .ifc t o, s, k => match s with
    | .i t' s => cond (Nat.beq t t') (matchO h o s k) False
    | _ => False
  | .rsl T len l, s, k => match s with
    | .sl m len' => match hfind h m with
      | some (.rblk T' cs) => cond (Nat.beq T T' && Nat.beq len len') (matchOs h l cs k) False
      | _ => False
    | _ => False
def matchOs (h : List (Nat × R)) : List O → List SV → NK → Prop
  | [], [], k => k [] []
  | o :: l, s :: ss, k => matchO h o s fun on rn => matchOs h l ss fun on' rn' => k (on ++ on') (rn ++ rn')
  | _, _, _ => False
end

def memB (n : Nat) : List Nat → Bool
  | [] => false
  | m :: l => Nat.beq m n || memB n l
def nodupB : List Nat → Bool
  | [] => true
  | n :: l => (!memB n l) && nodupB l
def disjB : List Nat → List Nat → Bool
  | [], _ => true
  | n :: l, m => (!memB n m) && disjB l m

theorem memB_iff {n : Nat} : ∀ {l : List Nat}, memB n l = true ↔ n ∈ l
  | [] => by simp [memB]
  | m :: l => by
    have ih := @memB_iff n l
    simp only [memB, Bool.or_eq_true, ih, List.mem_cons]
    constructor
    · rintro (h | h)
      · exact .inl (Nat.eq_of_beq_eq_true h).symm
      · exact .inr h
    · rintro (rfl | h)
      · exact .inl (Nat.beq_refl _)
      · exact .inr h
theorem memB_false {n : Nat} {l : List Nat} (h : (!memB n l) = true) : n ∉ l := fun hm => by
  rw [memB_iff.2 hm] at h; cases h
theorem nodupB_sound : ∀ {l : List Nat}, nodupB l = true → l.Nodup
  | [], _ => List.nodup_nil
  | n :: l, h => by
    simp only [nodupB, Bool.and_eq_true] at h
    exact List.nodup_cons.2 ⟨memB_false h.1, nodupB_sound h.2⟩
theorem disjB_sound : ∀ {l m : List Nat}, disjB l m = true → ∀ n ∈ l, n ∉ m
  | [], _, _, n, hn => by cases hn
  | x :: l, m, h, n, hn => by
    simp only [disjB, Bool.and_eq_true] at h
    rcases List.mem_cons.1 hn with rfl | hn
    · exact memB_false h.1
    · exact disjB_sound h.2 n hn

theorem matchV_eq {u x : Value} (h : matchV u x) : u = x := by
  unfold matchV at h
  split at h
  · split at h
    · rename_i e; subst e; subst h; rfl
    · exact h.elim
  · subst h; rfl
  · subst h; rfl
  · exact h

theorem Col.eqv_eq {a b : Col} (h : a.eqv b) : a = b := by
  unfold Col.eqv at h
  split at h
  · split at h
    · rename_i e; subst e; subst h; rfl
    · exact h.elim
  · subst h; rfl
  · subst h; rfl
  · exact h.elim

theorem D.at_eqv {X : Nat → Prop} {w : World} {L : Loc} {d d' : D} (h : d'.eqv d) (hd : d'.at X w L) : d.at X w L ∧ d'.es = d.es := by
  unfold D.eqv at h
  split at h
  · split at h
    · rename_i e; subst e; subst h; exact ⟨hd, rfl⟩
    · exact h.elim
  · rename_i es n f es' n' g
    have he : es = es' := by
      cases hb : Nat.beq es es' with
      | false => rw [hb] at h; exact h.elim
      | true => exact Nat.eq_of_beq_eq_true hb
    subst he
    rw [Nat.beq_refl] at h
    obtain ⟨rfl, hf⟩ := h
    refine ⟨⟨hd.1, hd.2.1, fun i hi j hj => ?_⟩, rfl⟩
    obtain ⟨c, h1, h2⟩ := hd.2.2 i hi j hj
    exact ⟨c, h1, hf i hi j hj ▸ h2⟩
  · exact h.elim

theorem D.at_nil {X : Nat → Prop} {w : World} {d : D} (h : d.nilP) : d.at X w nilLoc := by
  cases d with
  | v _ => exact h.elim
  | ptr _ _ _ => exact h.elim
  | fn _ _ _ _ => exact h.elim
  | map _ _ => exact h.elim
  | ints k xs =>
    have h : xs = [] := h
    subst h
    exact ⟨rfl, Nat.le_refl _, fun i z hz => by simp at hz⟩
  | recs es n f =>
    have h : n = 0 := h
    subst h
    exact ⟨rfl, Nat.le_refl _, fun i hi => absurd hi (by omega)⟩

section
variable {K : Ctx} {θ : Th} {h : List (Nat × R)} {nx : Nat} {w : World}

def Named (θ : Th) (ns : List Nat) : Prop := ∀ n ∈ ns, ∃ L, θ n = some L
theorem Named.nil : Named θ [] := fun n hn => by cases hn
theorem Named.one {n : Nat} {L : Loc} (h : θ n = some L) : Named θ [n] := fun m hm => by simp at hm; subst hm; exact ⟨L, h⟩
theorem Named.append {ns ms : List Nat} (a : Named θ ns) (b : Named θ ms) : Named θ (ns ++ ms) := fun n hn => (List.mem_append.1 hn).elim (a n) (b n)

theorem matchD_sound (hs : SatH K θ h nx w) {d : D} {s : SV} {u : Value} {k : NK} (hm : matchD h d s k) (hv : V θ s u) :
    ∃ rn, k [] rn ∧ Named θ rn ∧ ∀ X, Takes K θ h rn X → d.holds X w u := by
  have arr : ∀ {d : D} {m : Nat}, (match hfind h m with
      | some (.own _ d') => d'.eqv d ∧ k [] [m]
      | some (.ro d') => d'.eqv d ∧ k [] []
      | _ => False) → V θ (.a m) u → ∃ rn, k [] rn ∧ Named θ rn ∧ ∀ X, Takes K θ h rn X → d.holds X w u := by
    intro d m hm hv
    simp only [V] at hv
    obtain ⟨L, e1, rfl⟩ := hv
    split at hm <;> try exact hm.elim
    · rename_i T d' hf'
      obtain ⟨L', l1, l2, l3, l4⟩ := hs.res _ _ hf'
      obtain rfl := Option.some.inj (e1.symm.trans l1)
      obtain ⟨d1, _⟩ := D.at_eqv hm.1 l2
      refine ⟨_, hm.2, .one e1, fun X t => holds_of_at (D.at_mono t.keeps (fun _ => rfl) d1) l3 fun hlen => ?_⟩
      have hcap : L.cap ≠ 0 := by have := D.at_len l2; omega
      have ow : OwnsAt θ h m L.b := ⟨_, L, hf', e1, hcap, rfl⟩
      exact ⟨t.2 m (by simp) _ ow, OwnsAt.lt hs ow⟩
    · rename_i d' hf'
      obtain ⟨L', l1, l2, l3, l4⟩ := hs.res _ _ hf'
      obtain rfl := Option.some.inj (e1.symm.trans l1)
      obtain ⟨d1, _⟩ := D.at_eqv hm.1 l2
      exact ⟨_, hm.2, .nil, fun X t => holds_of_at (D.at_mono t.keeps (fun _ => rfl) d1) l3 (Loc.inn_mono t.keeps l4)⟩
  have nil : ∀ {d : D}, d.nilP ∧ k [] [] → V θ .nil u → ∃ rn, k [] rn ∧ Named θ rn ∧ ∀ X, Takes K θ h rn X → d.holds X w u := by
    intro d hd hv
    simp only [V] at hv
    subst hv
    exact ⟨_, hd.2, .nil, fun X _ => holds_of_at (L := nilLoc) (D.at_nil hd.1) (.inl rfl) (fun hne => absurd rfl hne)⟩
  unfold matchD at hm
  split at hm
  · split at hm <;> try exact hm.elim
    · simp only [V] at hv; subst hv
      exact ⟨_, hm.2, .nil, fun X _ => ⟨matchV_eq hm.1, by rw [← matchV_eq hm.1]; rfl⟩⟩
    · simp only [V] at hv; subst hv
      obtain ⟨h1, h2, h3⟩ := cond_false hm
      exact ⟨_, h3, .nil, fun X _ => ⟨matchV_eq h2, by rw [← matchV_eq h2]; exact h1⟩⟩
    · simp only [V] at hv; subst hv
      exact ⟨_, hm.2, .nil, fun X _ => ⟨matchV_eq hm.1, by rw [← matchV_eq hm.1]; rfl⟩⟩
  · split at hm <;> try exact hm.elim
    simp only [V] at hv
    obtain ⟨L, hL, rfl⟩ := hv
    split at hm <;> try exact hm.elim
    · rename_i ks' vs' hf
      obtain ⟨h1, h2, h3⟩ := hm
      obtain rfl := Col.eqv_eq h1
      obtain rfl := Col.eqv_eq h2
      obtain ⟨L', hL', e1, e2, es, clock, e3, e4⟩ := hs.res _ _ hf
      obtain rfl := Option.some.inj (hL.symm.trans hL')
      exact ⟨_, h3, .nil, fun X t => ⟨L.b, es, clock, rfl, t.1 _ e2, e3, e4⟩⟩
    · rename_i ks' vs' hf
      obtain ⟨h1, h2, h3⟩ := hm
      obtain rfl := Col.eqv_eq h1
      obtain rfl := Col.eqv_eq h2
      obtain ⟨L', hL', e1, es, clock, e3, e4⟩ := hs.res _ _ hf
      obtain rfl := Option.some.inj (hL.symm.trans hL')
      exact ⟨_, h3, .one hL, fun X t => ⟨L.b, es, clock, rfl, t.2 _ (by simp) _ ⟨_, L, hf, hL, rfl⟩, e3, e4⟩⟩
  · split at hm <;> try exact hm.elim
    · exact arr hm hv
    · exact nil hm hv

mutual
theorem matchO_sound (hs : SatH K θ h nx w) : ∀ (o : O) {s : SV} {u : Value} {k : NK}, matchO h o s k → V θ s u →
    ∃ on rn fp, k on rn ∧ NamesFp θ h on fp ∧ Named θ rn ∧ ∀ X, Takes K θ h rn X → O.holds X w o u fp
  | .any, s, u, k, hm, hv => by
    simp only [matchO] at hm
    exact ⟨_, _, [], hm, .nil, .nil, fun X _ => by simp only [O.holds]⟩
  | .d x, s, u, k, hm, hv => by
    simp only [matchO] at hm
    obtain ⟨rn, h1, h1n, h2⟩ := matchD_sound hs hm hv
    exact ⟨_, _, [], h1, .nil, h1n, fun X t => by simp only [O.holds]; exact ⟨h2 X t, trivial⟩⟩
  | .own T x, s, u, k, hm, hv => by
    simp only [matchO] at hm
    split at hm <;> try exact hm.elim
    · split at hm <;> try exact hm.elim
      rename_i m T' d' hf
      obtain ⟨h1, h2, h3⟩ := cond_false hm
      obtain rfl := nbeq h1
      obtain ⟨fp, a1, a2⟩ := own_holds hs hf hv
      refine ⟨_, _, fp, h3, a1, .nil, fun X t => ?_⟩
      have := a2 X t.1
      simp only [O.holds] at this ⊢
      obtain ⟨L, b1, b2, b3, b4⟩ := this
      obtain ⟨c1, c2⟩ := D.at_eqv h2 b3
      exact ⟨L, b1, b2, c1, by rw [← c2]; exact b4⟩
    · simp only [V] at hv; subst hv
      refine ⟨_, _, [], hm.2, .nil, .nil, fun X t => ?_⟩
      simp only [O.holds]
      exact ⟨nilLoc, rfl, .inl rfl, D.at_nil hm.1, .inl ⟨rfl, trivial⟩⟩
  | .ptr T l, s, u, k, hm, hv => by
    simp only [matchO] at hm
    split at hm <;> try exact hm.elim
    rename_i m
    split at hm <;> try exact hm.elim
    rename_i T' cs hf
    obtain ⟨h1, h2⟩ := cond_false hm
    obtain rfl := nbeq h1
    obtain ⟨L, hL, us, e1, e3, e4⟩ := hs.res _ _ hf
    obtain ⟨on, rn, fp, a1, a2, an, a3⟩ := matchOs_sound hs l h2 e4
    have h1 := NamesFp.append hs (.one (⟨_, L, hf, hL, rfl⟩ : OwnsAt θ h m L.b)) a2
    refine ⟨_, _, L.b :: fp, a1, by simpa using h1, an, fun X t => ?_⟩
    simp only [O.holds]
    exact ⟨L.b, us, fp, ptr_zero hv hL e1, rfl, e3, a3 X t⟩
  | .arr T kk xs, s, u, k, hm, hv => by
    simp only [matchO] at hm
    split at hm <;> try exact hm.elim
    split at hm <;> try exact hm.elim
    rename_i m T' kk' xs' hf
    obtain ⟨h1, h2⟩ := cond_false hm
    obtain rfl := nbeq h1
    split at h2
    · rename_i e; subst e
      obtain ⟨rfl, h3⟩ := h2
      obtain ⟨fp, a1, a2⟩ := arr_holds hs hf hv
      exact ⟨_, _, fp, h3, a1, .nil, fun X t => a2 X t.1⟩
    · exact h2.elim
  | .map ks vs, s, u, k, hm, hv => by
    simp only [matchO] at hm
    split at hm <;> try exact hm.elim
    split at hm <;> try exact hm.elim
    rename_i m ks' vs' hf
    obtain ⟨h1, h2, h3⟩ := hm
    obtain rfl := Col.eqv_eq h1
    obtain rfl := Col.eqv_eq h2
    simp only [V] at hv
    obtain ⟨L, hL, rfl⟩ := hv
    obtain ⟨L', hL', e1, es, clock, e3, e4⟩ := hs.res _ _ hf
    obtain rfl := Option.some.inj (hL.symm.trans hL')
    refine ⟨_, _, [L.b], h3, .one ⟨_, L, hf, hL, rfl⟩, .nil, fun X _ => ?_⟩
    simp only [O.holds]
    exact ⟨L.b, es, clock, rfl, rfl, e3, e4⟩
  | .mapR ks c f, s, u, k, hm, hv => by
    simp only [matchO] at hm
    split at hm <;> try exact hm.elim
    split at hm <;> try exact hm.elim
    rename_i m ks' c' f' hf
    obtain ⟨hc, h1, h2, h3⟩ := cond_false hm
    obtain rfl := nbeq hc
    obtain rfl := Col.eqv_eq h1
    simp only [V] at hv
    obtain ⟨L, hL, rfl⟩ := hv
    obtain ⟨L', hL', e1, es, clock, e3, e4, e5⟩ := hs.res _ _ hf
    obtain rfl := Option.some.inj (hL.symm.trans hL')
    refine ⟨_, _, [L.b], h3, .one ⟨_, L, hf, hL, rfl⟩, .nil, fun X t => ?_⟩
    simp only [O.holds]
    refine ⟨L.b, rfl, rfl, es, clock, e3, e4, fun i e he => ?_⟩
    obtain ⟨us, u1, u2, u3⟩ := e5 i e he
    have hi : i < ks'.len := by rw [← e4.size]; exact (Array.getElem?_eq_some_iff.1 he).1
    exact ⟨us, u1, u2, fun j hj => let ⟨v, v1, v2⟩ := u3 j hj; ⟨v, v1, by rw [← h2 i hi j hj]; exact D.holds_mono t.keeps _ _ v2⟩⟩
  | .rsl T len l, s, u, k, hm, hv => by
    simp only [matchO] at hm
    split at hm <;> try exact hm.elim
    split at hm <;> try exact hm.elim
    rename_i m len' T' cs hf
    obtain ⟨h1, h2⟩ := cond_false hm
    simp only [Bool.and_eq_true] at h1
    obtain rfl := nbeq h1.1
    obtain rfl := nbeq h1.2
    simp only [V] at hv
    obtain ⟨L, hL, rfl⟩ := hv
    obtain ⟨L', hL', us, e1, e2, e3, e4⟩ := hs.res _ _ hf
    obtain rfl := Option.some.inj (hL.symm.trans hL')
    obtain ⟨on, rn, fp, a1, a2, an, a3⟩ := matchOs_sound hs l h2 e4
    refine ⟨_, _, fp, a1, a2, an, fun X t => ?_⟩
    simp only [O.holds]
    exact ⟨L.b, us, by rw [sl_zero e1], t.1 _ e2, e3, a3 X t⟩
  | .agg l, s, u, k, hm, hv => by
    simp only [matchO] at hm
    split at hm <;> try exact hm.elim
    simp only [V] at hv
    obtain ⟨us, rfl, e4⟩ := hv
    obtain ⟨on, rn, fp, a1, a2, an, a3⟩ := matchOs_sound hs l hm e4
    exact ⟨_, _, fp, a1, a2, an, fun X t => by simp only [O.holds]; exact ⟨us, rfl, a3 X t⟩⟩
  | .va kk xs, s, u, k, hm, hv => by
    simp only [matchO] at hm
    split at hm <;> try exact hm.elim
    split at hm
    · rename_i e; subst e
      obtain ⟨rfl, h3⟩ := hm
      simp only [V] at hv
      exact ⟨_, _, [], h3, .nil, .nil, fun X _ => by simp only [O.holds]; exact ⟨hv, trivial⟩⟩
    · exact hm.elim
  | .pown T S m ob n f, s, u, k, hm, hv => by
    simp only [matchO] at hm
    split at hm <;> try exact hm.elim
    · split at hm <;> try exact hm.elim
      rename_i q T' S' m' bs n' f' hf
      obtain ⟨h1, ⟨rfl, h2, h3⟩, h4⟩ := cond_false hm
      simp only [Bool.and_eq_true] at h1
      obtain rfl := nbeq h1.1.1
      obtain rfl := nbeq h1.1.2
      obtain rfl := nbeq h1.2
      obtain ⟨fp, a1, a2⟩ := pown_holds hs hf hv
      refine ⟨_, _, fp, h4, a1, .nil, fun X t => ?_⟩
      have := a2 X t.1
      simp only [O.holds] at this ⊢
      obtain ⟨L, bs', b1, ⟨p1, p2, p3, p4, p5, p6, p7⟩, b3, b4⟩ := this
      obtain rfl := b3 _ rfl
      refine ⟨L, bs', b1, ⟨p1, p2, p3, p4, p5, p6, fun i b hi => ?_⟩, keptB_iff h3, b4⟩
      obtain ⟨g1, us, g2, g3, g4⟩ := p7 i b hi
      have hlt := (List.getElem?_eq_some_iff.1 hi).1
      exact ⟨g1, us, g2, g3, fun j hj => by rw [← h2 i (by omega) j hj]; exact g4 j hj⟩
    · simp only [V] at hv; subst hv
      obtain ⟨⟨rfl, h3⟩, h4⟩ := hm
      refine ⟨_, _, [], h4, .nil, .nil, fun X t => ?_⟩
      simp only [O.holds]
      exact ⟨nilLoc, [], rfl, ⟨.inl rfl, rfl, Nat.le_refl _, rfl, List.nodup_nil, fun hc => absurd rfl hc, fun i b hi => by simp at hi⟩, keptB_iff h3, .inl ⟨rfl, rfl⟩⟩
  | .ifc t o, s, u, k, hm, hv => by
    simp only [matchO] at hm
    split at hm <;> try exact hm.elim
    obtain ⟨h1, h2⟩ := cond_false hm
    obtain rfl := nbeq h1
    simp only [V] at hv
    obtain ⟨u', rfl, e4⟩ := hv
    obtain ⟨on, rn, fp, a1, a2, an, a3⟩ := matchO_sound hs o h2 e4
    exact ⟨_, _, fp, a1, a2, an, fun X t => by simp only [O.holds]; exact ⟨u', rfl, a3 X t⟩⟩
theorem matchOs_sound (hs : SatH K θ h nx w) : ∀ (l : List O) {ss : List SV} {us : List Value} {k : NK}, matchOs h l ss k → VL θ ss us →
    ∃ on rn fp, k on rn ∧ NamesFp θ h on fp ∧ Named θ rn ∧ ∀ X, Takes K θ h rn X → OL.holds X w l us fp
  | [], [], [], k, hm, _ => by
    simp only [matchOs] at hm
    exact ⟨_, _, [], hm, .nil, .nil, fun X _ => by simp only [OL.holds]⟩
  | [], [], _ :: _, _, _, hv => by simp [VL] at hv
  | [], _ :: _, _, _, hm, _ => by simp [matchOs] at hm
  | _ :: _, [], _, _, hm, _ => by simp [matchOs] at hm
  | _ :: _, _ :: _, [], _, _, hv => by simp [VL] at hv
  | o :: l, s :: ss, u :: us, k, hm, hv => by
    simp only [matchOs] at hm
    simp only [VL] at hv
    obtain ⟨on, rn, fp, a1, a2, an, a3⟩ := matchO_sound hs o hm hv.1
    obtain ⟨on', rn', fp', b1, b2, bn, b3⟩ := matchOs_sound hs l a1 hv.2
    exact ⟨_, _, fp ++ fp', b1, a2.append hs b2, an.append bn, fun X t => by simp only [OL.holds]; exact ⟨fp, fp', rfl, a3 X t.left, b3 X t.right⟩⟩
end
end
end Go.Z

namespace Go.Z
open Go.RowKit

def retVal : List Value → Value
  | [v] => v
  | vs => .tuple vs.toArray
def retS : List SV → SV
  | [s] => s
  | l => .tup l

def After (w : World) (A : Nat → Prop) (fp fo : List Nat) (b : Nat) : Prop := (w.heap.size ≤ b ∨ A b ∨ b ∈ fp) ∧ b ∉ fo

structure Ctr where
  own : List Bool
  pre : List O → Prop
  res : List O → List O
  upd : List O → List O
  ro : Bool
  quiet : Bool
  gl : List (Nat × Nat × IntKind × List Int) := []

def GOK (gl : List (Nat × Nat × IntKind × List Int)) (A : Nat → Prop) (w : World) (fp : List Nat) : Prop :=
  ∀ x ∈ gl, A x.1 ∧ x.1 ∉ fp ∧ GCell w x.1 x.2.2.1 x.2.2.2
def glIn : List (Nat × Nat × IntKind × List Int) → List (Nat × R) → Prop
  | [], _ => True
  | (b, T, k, xs) :: l, h => (match glFind h b with
    | some (T', k', xs') => T' = T ∧ k' = k ∧ xs' = xs
    | none => False) ∧ glIn l h

def FnOk (P : Program) (f : Nat) (c : Ctr) : Prop :=
  ∀ (w : World) (A : Nat → Prop) (as : List O) (vs : List Value) (fp : List Nat), OL.holds (fun b => A b ∧ b ∉ fp) w as vs fp → fp.Nodup → (∀ b ∈ fp, b < w.heap.size) → c.pre as → GOK c.gl A w fp →
    Calls P f vs.toArray w fun e w' => ∃ (rs : List Value) (fu fr : List Nat), e = .returned (retVal rs) ∧ Fr (· ∈ fp) w w' ∧ (fu ++ fr).Nodup ∧ (∀ b ∈ fu ++ fr, b ∈ fp ∨ w.heap.size ≤ b) ∧
      OL.holds (After w A fp (fu ++ fr)) w' (c.upd as) vs fu ∧ OL.holds (After w A fp (fu ++ fr)) w' (c.res as) rs fr

def paramsOf (P : Program) (f : Nat) : List Nat :=
  match P.funcs[f]? with
  | some fn => fn.params.toList
  | none => []

def argsOf (P : Program) (ro : Bool) (h : List (Nat × R)) : List Bool → List Nat → List SV → Option (List O × List Nat × List Nat)
  | _, _, [] => some ([], [], [])
  | ms, ts, s :: l =>
    match argsOf P ro h ms.tail ts.tail l with
    | none => none
    | some (os, ns, rn) =>
      match ms.head? with
      | some true => match treeOf P h 8 (match ts.head? with | some t => some (t, 0) | none => none) s with
        | some (o, ns') => some (o :: os, ns' ++ ns, rn)
        | none => none
      | _ => match readOf P ro h (match ts.head? with | some t => some (t, 0) | none => none) s with
        | some (o, rn') => some (o :: os, ns, rn' ++ rn)
        | none => none

def D.plain : D → Bool
  | .v _ => true
  | _ => false
mutual
def O.plain : O → Bool
  | .d x => x.plain
  | .own _ (.ints _ _) => true
  | .own _ _ => false
  | .ptr _ l => OL.plain l
  | .agg l => OL.plain l
  | .pown .. => false
  | .mapR .. => false
  | .rsl .. => false
  | .ifc _ o => o.plain
  | _ => true
def OL.plain : List O → Bool
  | [] => true
  | o :: l => o.plain && OL.plain l
end

def O.plainP : O → Prop
  | .own _ (.recs es n f) => ∀ i, i < n → ∀ j, j < es → ∃ v, f i j = .v v
  | o => o.plain = true
def OL.plainP : List O → Prop
  | [] => True
  | o :: l => o.plainP ∧ OL.plainP l

def freezeL (h : List (Nat × R)) : List SV → List (Nat × R)
  | [] => h
  | .a n :: l => freezeL (freezeH h n) l
  | _ :: l => freezeL h l
def freezeRd (h : List (Nat × R)) : List Bool → List SV → List (Nat × R)
  | _, [] => h
  | ms, s :: l =>
    match ms.head? with
    | some true => freezeRd h ms.tail l
    | _ => match s with
      | .a n => freezeRd (freezeH h n) ms.tail l
      | .agg cs => freezeRd (freezeL h cs) ms.tail l
      | _ => freezeRd h ms.tail l

mutual
def backO (h0 : List (Nat × R)) : O → SV → List (Nat × R) → Nat → (List (Nat × R) → Nat → Prop) → Prop
  | .own T x, s, h, nx, k => match s with
    | .a n => k ((n, .own T x) :: h) nx
    | _ => False
  | .ptr T l, s, h, nx, k => match s with
    | .p n 0 => match hfind h0 n with
      | some (.blk _ _) => instOs l h nx fun ss h' nx' => k ((n, .blk T ss) :: h') nx'
      | _ => False
    | _ => False
  | .arr T kk xs, s, h, nx, k => match s with
    | .q n => match hfind h0 n with
      | some (.own _ (.ints _ xs0)) => xs.length = xs0.length ∧ k ((n, .own T (.ints kk xs)) :: h) nx
      | _ => False
    | _ => False
  | .map ks vs, s, h, nx, k => match s with
    | .m n => match hfind h0 n with
      | some (.map _ _) => k ((n, .map ks vs) :: h) nx
      | _ => False
    | _ => False
  | .mapR ks m f, s, h, nx, k => match s with
    | .m n => match hfind h0 n with
      | some (.mapR _ _ _) => k ((n, .mapR ks m f) :: h) nx
      | _ => False
    | _ => False
  | .agg l, s, h, nx, k => match s with
    | .agg ss => backOs h0 l ss h nx k
    | _ => False
  | .ifc _ o, s, h, nx, k => match s with
    | .i _ s => backO h0 o s h nx k
    | _ => False
  | .rsl _ _ l, s, h, nx, k => match s with
    | .sl n _ => match hfind h n with
      | some (.rblk _ cs) => backOs h0 l cs h nx k
      | _ => False
    | _ => False
  | .pown T S m ob n f, s, h, nx, k => match s with
    | .a q => match ob with
      | some bs => k ((q, .pown T S m bs n f) :: h) nx
      | none => ∀ bs : List Nat, bs.length = n → k ((q, .pown T S m bs n f) :: h) nx
    | _ => False
  | _, _, h, nx, k => k h nx
def backOs (h0 : List (Nat × R)) : List O → List SV → List (Nat × R) → Nat → (List (Nat × R) → Nat → Prop) → Prop
  | [], [], h, nx, k => k h nx
  | o :: l, s :: ss, h, nx, k => backO h0 o s h nx fun h' nx' => backOs h0 l ss h' nx' k
  | _, _, _, _, _ => False
end

def orP (b : Bool) (p q : Prop) : Prop := cond b q (p ∧ q)
theorem orP_spec {b : Bool} {p q : Prop} (h : orP b p q) : (b = true ∨ p) ∧ q := by
  cases b
  · exact ⟨.inr h.1, h.2⟩
  · exact ⟨.inl rfl, h⟩

def callX0 (P : Program) (ts : List Nat) (c : Ctr) (args : List SV) (h : List (Nat × R)) (nx : Nat) (k : HK) : Prop :=
  match argsOf P c.ro (cond c.ro (freezeRd h c.own args) h) c.own ts args with
  | none => False
  | some (as, ns, rn) =>
    c.pre as ∧ cond (nodupB ns && disjB rn ns)
      (orP (c.ro || (OL.plain (c.res as) && OL.plain (c.upd as))) (OL.plainP (c.res as) ∧ OL.plainP (c.upd as))
        (backOs (cond c.ro (freezeRd h c.own args) h) (c.upd as) args (deads ns (cond c.ro (freezeRd h c.own args) h)) nx fun h1 nx1 => instOs (c.res as) h1 nx1 fun ss h2 nx2 => k (retS ss) h2 nx2)) False

def callX (P : Program) (ts : List Nat) (c : Ctr) (args : List SV) (h : List (Nat × R)) (nx : Nat) (k : HK) : Prop :=
  match c.gl with
  | [] => callX0 P ts c args h nx k
  | g :: l => glIn (g :: l) (cond c.ro (freezeRd h c.own args) h) ∧ callX0 P ts c args h nx k

def scalarsOf : List O → Option (List Value)
  | [] => some []
  | .d (.v x) :: rs => match scalarsOf rs with
    | some xs => some (x :: xs)
    | none => none
  | _ => none

def callQ0 (P : Program) (ts : List Nat) (c : Ctr) (args : List SV) (h : List (Nat × R)) (k : SV → Prop) : Prop :=
  match argsOf P false h c.own ts args with
  | some (as, [], _) => match scalarsOf (c.res as) with
    | some xs => c.pre as ∧ k (retS (xs.map .c))
    | none => False
  | _ => False
def callQ (P : Program) (ts : List Nat) (c : Ctr) (args : List SV) (h : List (Nat × R)) (k : SV → Prop) : Prop :=
  match c.gl with
  | [] => callQ0 P ts c args h k
  | g :: l => glIn (g :: l) h ∧ callQ0 P ts c args h k

section
variable {P : Program} {K : Ctx} {θ : Th} {h : List (Nat × R)} {nx : Nat} {w : World}

theorem glIn_sound (hs : SatH K θ h nx w) : ∀ {gl : List (Nat × Nat × IntKind × List Int)}, glIn gl h → ∀ x ∈ gl, Free K θ h x.1 ∧ GCell w x.1 x.2.2.1 x.2.2.2
  | [], _, x, hx => by cases hx
  | (b, T, k, xs) :: l, hq, x, hx => by
    obtain ⟨h1, h2⟩ := hq
    rcases List.mem_cons.1 hx with rfl | hx
    · split at h1 <;> try exact h1.elim
      rename_i T' k' xs' hg
      obtain ⟨rfl, rfl, rfl⟩ := h1
      exact glFind_sound hs hg
    · exact glIn_sound hs h2 x hx

theorem arrFreeze (hs : SatH K θ h nx w) (n : Nat) : SatH K θ (freezeH h n) nx w := by
  unfold freezeH
  split
  · rename_i T d hf; exact hs.freeze hf
  · exact hs

theorem freezeL_sound : ∀ {l : List SV} {h : List (Nat × R)}, SatH K θ h nx w → SatH K θ (freezeL h l) nx w
  | [], _, hs => hs
  | s :: l, h, hs => by
    cases s <;> simp only [freezeL] <;> first | exact freezeL_sound hs | exact freezeL_sound (arrFreeze hs _)

theorem freezeRd_sound : ∀ {l : List SV} {ms : List Bool} {h : List (Nat × R)}, SatH K θ h nx w → SatH K θ (freezeRd h ms l) nx w
  | [], _, _, hs => hs
  | s :: l, ms, h, hs => by
    unfold freezeRd
    split
    · exact freezeRd_sound hs
    · split
      · exact freezeRd_sound (arrFreeze hs _)
      · exact freezeRd_sound (freezeL_sound hs)
      · exact freezeRd_sound hs

theorem argsOf_sound (hs : SatH K θ h nx w) {ro : Bool} : ∀ {l : List SV} {ms : List Bool} {ts : List Nat} {us : List Value} {os : List O} {ns rn : List Nat}, VL θ l us → argsOf P ro h ms ts l = some (os, ns, rn) →
    ∃ fp, NamesFp θ h ns fp ∧ (ro = true → rn = []) ∧ ∀ X, Takes K θ h rn X → OL.holds X w os us fp
  | [], ms, ts, [], os, ns, rn, _, ha => by
    simp [argsOf] at ha; obtain ⟨rfl, rfl, rfl⟩ := ha
    exact ⟨[], .nil, fun _ => rfl, fun _ _ => by simp [OL.holds]⟩
  | [], _, _, _ :: _, _, _, _, hv, _ => by simp [VL] at hv
  | _ :: _, _, _, [], _, _, _, hv, _ => by simp [VL] at hv
  | s :: l, ms, ts, u :: us, os, ns, rn, hv, ha => by
    simp only [VL] at hv
    unfold argsOf at ha
    split at ha
    · cases ha
    · rename_i os' ns' rn' h1
      obtain ⟨fp, a1, a2, a3⟩ := argsOf_sound hs hv.2 h1
      split at ha
      · split at ha <;> cases ha
        rename_i o ns2 h2
        obtain ⟨f2, b1, b2⟩ := treeOf_sound (P := P) hs 8 _ _ _ _ _ hv.1 h2
        exact ⟨f2 ++ fp, b1.append hs a1, a2, fun X t => by simp only [OL.holds]; exact ⟨f2, fp, rfl, b2 X t.1, a3 X t⟩⟩
      · split at ha <;> cases ha
        rename_i o rn2 h2
        obtain ⟨b1, b2⟩ := readOf_sound (P := P) hs hv.1 h2
        exact ⟨fp, a1, fun hr => by rw [b1 hr, a2 hr]; rfl, fun X t => by simp only [OL.holds]; exact ⟨[], fp, rfl, b2 X t.left, a3 X t.right⟩⟩

theorem D.plain_holds {X Y : Nat → Prop} {d : D} {c : Value} (hp : d.plain = true) (hd : d.holds X w c) : d.holds Y w c := by
  cases d <;> simp [D.plain] at hp
  exact hd

mutual
theorem O.plain_holds {X Y : Nat → Prop} : ∀ (o : O) {v : Value} {fp : List Nat}, o.plain = true → O.holds X w o v fp → O.holds Y w o v fp
  | .any, v, fp, _, h => by simpa only [O.holds] using h
  | .d x, v, fp, hp, h => by simp only [O.holds] at *; exact ⟨D.plain_holds (by simpa [O.plain] using hp) h.1, h.2⟩
  | .own T x, v, fp, hp, h => by
    cases x <;> simp [O.plain] at hp
    simp only [O.holds, D.at] at *
    exact h
  | .ptr T l, v, fp, hp, h => by
    simp only [O.holds] at *
    obtain ⟨b, us, f, h1, rfl, h2, h3⟩ := h
    exact ⟨b, us, f, h1, rfl, h2, OL.plain_holds l (by simpa [O.plain] using hp) h3⟩
  | .arr T k xs, v, fp, _, h => by simp only [O.holds, D.at] at *; exact h
  | .map ks vs, v, fp, _, h => by simp only [O.holds] at *; exact h
  | .agg l, v, fp, hp, h => by
    simp only [O.holds] at *
    obtain ⟨us, h1, h2⟩ := h
    exact ⟨us, h1, OL.plain_holds l (by simpa [O.plain] using hp) h2⟩
  | .va k xs, v, fp, _, h => by simp only [O.holds] at *; exact h
  | .pown _ _ _ _ _ _, v, fp, hp, h => by simp [O.plain] at hp
  | .mapR _ _ _, v, fp, hp, h => by simp [O.plain] at hp
  | .rsl _ _ _, v, fp, hp, h => by simp [O.plain] at hp
  | .ifc t o, v, fp, hp, h => by
    simp only [O.holds] at *
    obtain ⟨u, h1, h2⟩ := h
    exact ⟨u, h1, O.plain_holds o (by simpa [O.plain] using hp) h2⟩
theorem OL.plain_holds {X Y : Nat → Prop} : ∀ (l : List O) {vs : List Value} {fp : List Nat}, OL.plain l = true → OL.holds X w l vs fp → OL.holds Y w l vs fp
  | [], [], fp, _, h => by simpa only [OL.holds] using h
  | [], _ :: _, _, _, h => by simp [OL.holds] at h
  | _ :: _, [], _, _, h => by simp [OL.holds] at h
  | o :: l, v :: vs, fp, hp, h => by
    simp only [OL.plain, Bool.and_eq_true] at hp
    simp only [OL.holds] at *
    obtain ⟨f, g, rfl, h1, h2⟩ := h
    exact ⟨f, g, rfl, O.plain_holds o hp.1 h1, OL.plain_holds l hp.2 h2⟩
end
theorem O.plainP_holds {X Y : Nat → Prop} (o : O) {v : Value} {fp : List Nat} (hp : o.plainP) (h : O.holds X w o v fp) : O.holds Y w o v fp := by
  unfold O.plainP at hp
  split at hp
  · rename_i T es n f
    simp only [O.holds, D.at] at *
    obtain ⟨L, h1, h2, ⟨h3, h4, h5⟩, h6⟩ := h
    refine ⟨L, h1, h2, ⟨h3, h4, fun i hi j hj => ?_⟩, h6⟩
    obtain ⟨c, k1, k2⟩ := h5 i hi j hj
    obtain ⟨x, hx⟩ := hp i hi j hj
    rw [hx] at k2 ⊢
    exact ⟨c, k1, k2⟩
  · exact O.plain_holds o hp h
theorem OL.plainP_holds {X Y : Nat → Prop} : ∀ (l : List O) {vs : List Value} {fp : List Nat}, OL.plainP l → OL.holds X w l vs fp → OL.holds Y w l vs fp
  | [], [], fp, _, h => by simpa only [OL.holds] using h
  | [], _ :: _, _, _, h => by simp [OL.holds] at h
  | _ :: _, [], _, _, h => by simp [OL.holds] at h
  | o :: l, v :: vs, fp, hp, h => by
    simp only [OL.holds] at *
    obtain ⟨f, g, rfl, h1, h2⟩ := h
    exact ⟨f, g, rfl, O.plainP_holds o hp.1 h1, OL.plainP_holds l hp.2 h2⟩

theorem SatH.called (hs : SatH K θ h nx w) {ns fp fo : List Nat} {w' : World} (hN : NamesFp θ h ns fp) (hnames : ∀ n ∈ ns, ∃ L, θ n = some L) (hfr : Fr (· ∈ fp) w w') (hfo : fo.Nodup) (hnew : ∀ b ∈ fo, b ∈ fp ∨ w.heap.size ≤ b) :
    SatX K (fun b => (w.heap.size ≤ b ∨ Free K θ h b ∨ b ∈ fp) ∧ b ∉ fo) θ (deads ns h) nx w' ∧ FpOk K (fun b => (w.heap.size ≤ b ∨ Free K θ h b ∨ b ∈ fp) ∧ b ∉ fo) θ (deads ns h) fo := by
  have own : ∀ b ∈ fp, ∃ n ∈ ns, OwnsAt θ h n b := hN.1
  have notfp : ∀ {m b}, m ∉ ns → OwnsAt θ h m b → b ∉ fp := fun hm ho hb => by
    obtain ⟨n, h1, h2⟩ := own _ hb
    exact hm (hs.dis _ _ _ h2 ho ▸ h1)
  refine ⟨⟨hs.fresh, fun m r hr => ?_, fun a c b h1 h2 => hs.dis a c b (ownsAt_deads.1 h1).2 (ownsAt_deads.1 h2).2, fun m b h1 => hs.new m b (ownsAt_deads.1 h1).2, ?_, fun b hb => ⟨fun m hm => ?_, ?_⟩⟩, hfo, fun b hb => ⟨fun hX => hX.2 hb, fun m hm => ?_, ?_⟩⟩
  · by_cases hm : m ∈ ns
    · rw [hfind_deads_mem hm] at hr; cases hr
      obtain ⟨L, hL⟩ := hnames m hm
      exact ⟨L, hL, trivial⟩
    · rw [hfind_deads_not hm] at hr
      obtain ⟨L, hL, h1⟩ := hs.res m r hr
      refine ⟨L, hL, R.holds_mono (Th.ext_refl _) (fun b hb hf => ?_) (fun b ho => hfr.block _ (R.owned_lt h1 ho) (notfp hm ⟨r, L, hr, hL, ho⟩)) h1⟩
      have hbfp : b ∉ fp := fun h2 => by obtain ⟨n, _, h3⟩ := own b h2; exact hf.1 n h3
      refine ⟨⟨.inr (.inl hf), fun h2 => ?_⟩, hfr.block b hb hbfp⟩
      rcases hnew b h2 with h3 | h3
      · exact hbfp h3
      · omega
  · refine ⟨hfr.os.trans hs.frame.os, hfr.tape.trans hs.frame.tape, hfr.output.trans hs.frame.output, Nat.le_trans hs.frame.size hfr.size, fun b hb1 hb2 => ?_⟩
    rw [hfr.block b (Nat.lt_of_lt_of_le hb1 hs.frame.size) fun hm => ?_]
    · exact hs.frame.block b hb1 hb2
    · obtain ⟨n, _, hn⟩ := own b hm
      rcases hs.new n b hn with h1 | h1
      · omega
      · exact hb2 h1
  · obtain ⟨h1, h2⟩ := ownsAt_deads.1 hm
    rcases hb.1 with h3 | h3 | h3
    · have := OwnsAt.lt hs h2; omega
    · exact h3.1 m h2
    · exact notfp h1 h2 h3
  · rcases hb.1 with h3 | h3 | h3
    · exact .inl (Nat.le_trans hs.frame.size h3)
    · exact h3.2
    · obtain ⟨n, _, hn⟩ := own b h3
      exact (hs.new n b hn).imp id (K.ma b)
  · obtain ⟨h1, h2⟩ := ownsAt_deads.1 hm
    rcases hnew b hb with h3 | h3
    · exact notfp h1 h2 h3
    · have := OwnsAt.lt hs h2; omega
  · rcases hnew b hb with h3 | h3
    · obtain ⟨n, _, hn⟩ := own b h3
      exact hs.new n b hn
    · exact .inl (Nat.le_trans hs.frame.size h3)

structure BacksX (K : Ctx) (X : Nat → Prop) (fp : List Nat) (θ θ' : Th) (h h' : List (Nat × R)) (nx nx' : Nat) (w : World) : Prop where
  sat : SatX K X θ' h' nx' w
  ext : θ.ext θ'
  le : nx ≤ nx'
  agree : ∀ n, n < nx → θ' n = θ n
  own : ∀ n b, OwnsAt θ' h' n b → OwnsAt θ h n b ∨ b ∈ fp

theorem GivesX.backs {X : Nat → Prop} {fp : List Nat} {θ θ' : Th} {h h' : List (Nat × R)} {nx nx' : Nat} (g : GivesX K X fp θ θ' h h' nx nx' w) : BacksX K X fp θ θ' h h' nx nx' w := ⟨g.sat, g.ext, g.le, g.agree, g.own⟩
theorem BacksX.trans {X : Nat → Prop} {f g : List Nat} {θ θ' θ'' : Th} {h h' h'' : List (Nat × R)} {nx nx' nx'' : Nat} (a : BacksX K X f θ θ' h h' nx nx' w) (b : BacksX K X g θ' θ'' h' h'' nx' nx'' w) : BacksX K X (f ++ g) θ θ'' h h'' nx nx'' w :=
  ⟨b.sat, Th.ext_trans a.ext b.ext, Nat.le_trans a.le b.le, fun n hn => (b.agree n (Nat.lt_of_lt_of_le hn a.le)).trans (a.agree n hn), fun n b' ho => by
      rcases b.own n b' ho with h1 | h1
      · rcases a.own n b' h1 with h2 | h2
        · exact .inl h2
        · exact .inr (by simp [h2])
      · exact .inr (by simp [h1])⟩
theorem FpOk.right' {X : Nat → Prop} {θ θ' : Th} {h h' : List (Nat × R)} {nx nx' : Nat} {f g : List Nat} (hf : FpOk K X θ h (f ++ g)) (a : BacksX K X f θ θ' h h' nx nx' w) : FpOk K X θ' h' g := by
  obtain ⟨n1, n2, n3⟩ := List.nodup_append.1 hf.1
  refine ⟨n2, fun b hb => ?_⟩
  obtain ⟨h1, h2, h3⟩ := hf.2 b (by simp [hb])
  refine ⟨h1, fun n hn => ?_, h3⟩
  rcases a.own n b hn with h4 | h4
  · exact h2 n h4
  · exact n3 b h4 b hb rfl

theorem SatX.give_old {X : Nat → Prop} {θ : Th} {h : List (Nat × R)} {nx n : Nat} (hs : SatX K X θ h nx w) {r : R} {L : Loc} {fp : List Nat} (hL : θ n = some L) (hh : r.holds θ X w L) (hf : FpOk K X θ h fp) (ho : ∀ b, r.has L b → b ∈ fp) :
    BacksX K X fp θ θ h ((n, r) :: h) nx nx w := by
  obtain ⟨g1, g2⟩ := hs.give (Th.ext_refl _) hs.fresh hL (fun m _ => rfl) hh (fun b h1 => (hf.2 _ (ho b h1)).1) (fun b h1 => (hf.2 _ (ho b h1)).2.1) (fun b h1 => (hf.2 _ (ho b h1)).2.2)
  refine ⟨g1, Th.ext_refl _, Nat.le_refl _, fun _ _ => rfl, fun m b hm => ?_⟩
  rcases g2 m b hm with h1 | ⟨_, h1⟩
  · exact .inl h1
  · exact .inr (ho b h1)

theorem Loc.val_inj {L L' : Loc} (h : L.val = L'.val) : L = L' := by
  cases L; cases L'
  simp only [Loc.val, Value.slice.injEq] at h
  obtain ⟨rfl, rfl, rfl⟩ := h
  rfl

mutual
theorem backO_sound {X : Nat → Prop} {h0 : List (Nat × R)} {θ0 : Th} (hold : ∀ n r, hfind h0 n = some r → ∃ L, θ0 n = some L ∧ (∀ T l, r = .blk T l → L.a = some ⟨L.b, 0, none⟩) ∧ (∀ ks vs, r = .map ks vs → L.a = some ⟨L.b, 0, none⟩) ∧ (∀ T k xs, r = .own T (.ints k xs) → L.len = xs.length) ∧ (∀ ks m f, r = .mapR ks m f → L.a = some ⟨L.b, 0, none⟩)) :
    ∀ (o : O) {s : SV} {θ : Th} {h : List (Nat × R)} {nx : Nat} {v : Value} {fp : List Nat} {k : List (Nat × R) → Nat → Prop}, θ0.ext θ → SatX K X θ h nx w → V θ0 s v → O.holds X w o v fp → FpOk K X θ h fp → backO h0 o s h nx k →
    ∃ h' nx' θ', k h' nx' ∧ BacksX K X fp θ θ' h h' nx nx' w
  | .any, s, θ, h, nx, v, fp, k, hx, hs, hv, hh, hf, hk => by
    simp only [backO] at hk
    exact ⟨_, _, θ, hk, (GivesX.refl hs _).backs⟩
  | .d x, s, θ, h, nx, v, fp, k, hx, hs, hv, hh, hf, hk => by
    simp only [backO] at hk
    exact ⟨_, _, θ, hk, (GivesX.refl hs _).backs⟩
  | .va _ _, s, θ, h, nx, v, fp, k, hx, hs, hv, hh, hf, hk => by
    simp only [backO] at hk
    exact ⟨_, _, θ, hk, (GivesX.refl hs _).backs⟩
  | .own T x, s, θ, h, nx, v, fp, k, hx, hs, hv, hh, hf, hk => by
    simp only [backO] at hk
    split at hk <;> try exact hk.elim
    rename_i n
    simp only [V] at hv
    obtain ⟨L, hL, rfl⟩ := hv
    simp only [O.holds] at hh
    obtain ⟨L', h1, h2, h3, h4⟩ := hh
    obtain rfl := Loc.val_inj h1
    refine ⟨_, _, θ, hk, hs.give_old (r := .own T x) (hx _ _ hL) ⟨h3, h2, fun hc => ?_⟩ hf (fun b ho => ?_)⟩
    · rcases h4 with ⟨h5, _⟩ | ⟨_, _, h5⟩
      · exact absurd h5 hc
      · exact h5
    · rcases h4 with ⟨h5, _⟩ | ⟨_, rfl, _⟩
      · exact absurd h5 ho.1
      · simp [ho.2]
  | .ptr T l, s, θ, h, nx, v, fp, k, hx, hs, hv, hh, hf, hk => by
    simp only [backO] at hk
    split at hk <;> try exact hk.elim
    rename_i n
    split at hk <;> try exact hk.elim
    rename_i hf0
    obtain ⟨L, hL, hLa, _⟩ := hold _ _ hf0
    have ha := hLa _ _ rfl
    have hv' := ptr_zero hv hL ha
    simp only [O.holds] at hh
    obtain ⟨b, us, f, h1, rfl, h2, h3⟩ := hh
    rw [hv'] at h1
    simp only [Value.pointer.injEq, Option.some.injEq, Addr.mk.injEq, and_true] at h1
    subst h1
    have hf' : FpOk K X θ h (f ++ [L.b]) := ⟨by
      have := hf.1
      simp only [List.nodup_cons] at this
      rw [List.nodup_append]
      exact ⟨this.2, by simp, fun x hx y hy => by simp at hy; subst hy; intro e; subst e; exact this.1 hx⟩, fun c hc => hf.2 c (by simp at hc ⊢; exact hc.symm)⟩
    obtain ⟨ss, h', nx', θ', a1, a2, a3⟩ := instOs_sound l hs h3 hf'.left hk
    have g := a2.sat.give_old (r := .blk T ss) (n := n) (L := L) (fp := [L.b]) (a2.ext _ _ (hx _ _ hL)) ⟨us, ha, h2, a3⟩ (hf'.right a2) (fun b hb => by rw [← show L.b = b from hb]; simp)
    have r := a2.backs.trans g
    exact ⟨_, _, _, a1, ⟨r.sat, r.ext, r.le, r.agree, fun m c hm => (r.own m c hm).imp id (fun h => by simp at h ⊢; exact h.symm)⟩⟩
  | .arr T kk xs, s, θ, h, nx, v, fp, k, hx, hs, hv, hh, hf, hk => by
    simp only [backO] at hk
    split at hk <;> try exact hk.elim
    rename_i n
    split at hk <;> try exact hk.elim
    rename_i T0 k0 xs0 hf0
    obtain ⟨hlen, hk⟩ := hk
    obtain ⟨L, hL, _, _, hLl, _⟩ := hold _ _ hf0
    have hl := hLl _ _ _ rfl
    simp only [V] at hv
    obtain ⟨L1, hL1, hLL, rfl⟩ := hv
    obtain rfl := Option.some.inj (hL.symm.trans hL1)
    simp only [O.holds] at hh
    obtain ⟨L', h1, h2, h3, h4⟩ := hh
    simp only [Value.pointer.injEq, Option.some.injEq, Addr.mk.injEq, and_true] at h1
    have : L = L' := by rw [hLL, h2, hl, ← hlen, h1]
    subst this
    refine ⟨_, _, θ, hk, hs.give_old (r := .own T (.ints kk xs)) (hx _ _ hL) ⟨h3, .inr (by rw [h2]; rfl), fun hc => ?_⟩ hf (fun b ho => ?_)⟩
    · rcases h4 with ⟨h5, _⟩ | ⟨_, _, h5⟩
      · exact absurd h5 hc
      · exact h5
    · rcases h4 with ⟨h5, _⟩ | ⟨_, rfl, _⟩
      · exact absurd h5 ho.1
      · simp [ho.2]
  | .map ks vs, s, θ, h, nx, v, fp, k, hx, hs, hv, hh, hf, hk => by
    simp only [backO] at hk
    split at hk <;> try exact hk.elim
    rename_i n
    split at hk <;> try exact hk.elim
    rename_i hf0
    obtain ⟨L, hL, _, hLa, _⟩ := hold _ _ hf0
    have ha := hLa _ _ rfl
    simp only [V] at hv
    obtain ⟨L', hL', rfl⟩ := hv
    obtain rfl := Option.some.inj (hL.symm.trans hL')
    simp only [O.holds] at hh
    obtain ⟨b, es, clock, h1, rfl, h2, h3⟩ := hh
    simp only [Value.map.injEq, Option.some.injEq] at h1
    subst h1
    exact ⟨_, _, θ, hk, hs.give_old (r := .map ks vs) (hx _ _ hL) ⟨ha, es, clock, h2, h3⟩ hf (fun b hb => by rw [← show L.b = b from hb]; simp)⟩
  | .mapR ks m f, s, θ, h, nx, v, fp, k, hx, hs, hv, hh, hf, hk => by
    simp only [backO] at hk
    split at hk <;> try exact hk.elim
    rename_i n
    split at hk <;> try exact hk.elim
    rename_i hf0
    obtain ⟨L, hL, _, _, _, hLa⟩ := hold _ _ hf0
    have ha := hLa _ _ _ rfl
    simp only [V] at hv
    obtain ⟨L', hL', rfl⟩ := hv
    obtain rfl := Option.some.inj (hL.symm.trans hL')
    simp only [O.holds] at hh
    obtain ⟨b, h1, rfl, h2⟩ := hh
    simp only [Value.map.injEq, Option.some.injEq] at h1
    subst h1
    exact ⟨_, _, θ, hk, hs.give_old (r := .mapR ks m f) (hx _ _ hL) ⟨ha, h2⟩ hf (fun b hb => by rw [← show L.b = b from hb]; simp)⟩
  | .agg l, s, θ, h, nx, v, fp, k, hx, hs, hv, hh, hf, hk => by
    simp only [backO] at hk
    split at hk <;> try exact hk.elim
    simp only [V] at hv
    obtain ⟨us, rfl, hvs⟩ := hv
    simp only [O.holds] at hh
    obtain ⟨us', h1, h2⟩ := hh
    have : us = us' := by
      simp only [Value.agg.injEq] at h1
      exact congrArg Array.toList h1
    subst this
    exact backOs_sound hold l hx hs hvs h2 hf hk
  | .ifc t o, s, θ, h, nx, v, fp, k, hx, hs, hv, hh, hf, hk => by
    simp only [backO] at hk
    split at hk <;> try exact hk.elim
    simp only [V] at hv
    obtain ⟨u, rfl, hvs⟩ := hv
    simp only [O.holds] at hh
    obtain ⟨u', h1, h2⟩ := hh
    cases h1
    exact backO_sound hold o hx hs hvs h2 hf hk
  | .rsl T len l, s, θ, h, nx, v, fp, k, hx, hs, hv, hh, hf, hk => by
    simp only [backO] at hk
    split at hk <;> try exact hk.elim
    rename_i n len'
    split at hk <;> try exact hk.elim
    rename_i T' cs hf1
    simp only [V] at hv
    obtain ⟨L, hL, rfl⟩ := hv
    obtain ⟨L', hL', us, e1, e2, e3, e4⟩ := hs.res n _ hf1
    obtain rfl := Option.some.inj ((hx _ _ hL).symm.trans hL')
    simp only [O.holds] at hh
    obtain ⟨b, us', h1, h2, h3, h4⟩ := hh
    simp only [Value.slice.injEq, Option.some.injEq, Addr.mk.injEq] at h1
    obtain ⟨⟨rfl, _⟩, _⟩ := h1
    rw [e3] at h3
    have hu : us = us' := by
      simp only [Option.some.injEq, Obj.cells.injEq] at h3
      exact congrArg Array.toList h3.1
    subst hu
    exact backOs_sound (θ0 := θ) (fun n r hr => let ⟨L, a1, a2⟩ := hold n r hr; ⟨L, hx _ _ a1, a2⟩) l (Th.ext_refl _) hs e4 h4 hf hk
  | .pown T S m ob n f, s, θ, h, nx, v, fp, k, hx, hs, hv, hh, hf, hk => by
    cases s with
    | a q =>
      simp only [V] at hv
      obtain ⟨L, hL, rfl⟩ := hv
      simp only [O.holds] at hh
      obtain ⟨L', bs, h1, h2, h3, h4⟩ := hh
      obtain rfl := Loc.val_inj h1
      have hk' : k ((q, .pown T S m bs n f) :: h) nx := by
        cases ob with
        | none => simp only [backO] at hk; exact hk bs h2.2.2.2.1
        | some l => simp only [backO] at hk; rw [h3 l rfl]; exact hk
      refine ⟨_, _, θ, hk', hs.give_old (r := .pown T S m bs n f) (hx _ _ hL) h2 hf (fun b ho => ?_)⟩
      rcases h4 with ⟨h5, rfl⟩ | ⟨_, rfl⟩
      · exact Or.resolve_left ho (fun h => h.1 h5)
      · rcases ho with ⟨_, rfl⟩ | ho <;> simp [*]
    | _ => simp only [backO] at hk
theorem backOs_sound {X : Nat → Prop} {h0 : List (Nat × R)} {θ0 : Th} (hold : ∀ n r, hfind h0 n = some r → ∃ L, θ0 n = some L ∧ (∀ T l, r = .blk T l → L.a = some ⟨L.b, 0, none⟩) ∧ (∀ ks vs, r = .map ks vs → L.a = some ⟨L.b, 0, none⟩) ∧ (∀ T k xs, r = .own T (.ints k xs) → L.len = xs.length) ∧ (∀ ks m f, r = .mapR ks m f → L.a = some ⟨L.b, 0, none⟩)) :
    ∀ (l : List O) {ss : List SV} {θ : Th} {h : List (Nat × R)} {nx : Nat} {vs : List Value} {fp : List Nat} {k : List (Nat × R) → Nat → Prop}, θ0.ext θ → SatX K X θ h nx w → VL θ0 ss vs → OL.holds X w l vs fp → FpOk K X θ h fp → backOs h0 l ss h nx k →
    ∃ h' nx' θ', k h' nx' ∧ BacksX K X fp θ θ' h h' nx nx' w
  | [], [], θ, h, nx, vs, fp, k, hx, hs, hv, hh, hf, hk => by
    simp only [backOs] at hk
    exact ⟨_, _, θ, hk, (GivesX.refl hs _).backs⟩
  | [], _ :: _, _, _, _, _, _, _, _, _, _, _, _, hk => by simp [backOs] at hk
  | _ :: _, [], _, _, _, _, _, _, _, _, _, _, _, hk => by simp [backOs] at hk
  | o :: l, s :: ss, θ, h, nx, [], fp, k, hx, hs, hv, hh, hf, hk => by simp [VL] at hv
  | o :: l, s :: ss, θ, h, nx, v :: vs, fp, k, hx, hs, hv, hh, hf, hk => by
    simp only [backOs] at hk
    simp only [VL] at hv
    simp only [OL.holds] at hh
    obtain ⟨f, g, rfl, h1, h2⟩ := hh
    obtain ⟨h', nx', θ', a1, a2⟩ := backO_sound hold o hx hs hv.1 h1 hf.left hk
    obtain ⟨h'', nx'', θ'', b1, b2⟩ := backOs_sound hold l (Th.ext_trans hx a2.ext) a2.sat hv.2 h2 (hf.right' a2) a1
    exact ⟨_, _, _, b1, a2.trans b2⟩
end
end
end Go.Z

namespace Go.Z
open Go.RowKit

section
variable {P : Program} {K : Ctx} {θ : Th} {h : List (Nat × R)} {nx : Nat} {w : World}

theorem V_ret {ss : List SV} {us : List Value} (hv : VL θ ss us) : V θ (retS ss) (retVal us) := by
  match ss, us, hv with
  | [], [], _ => simp only [retS, retVal, V]; exact ⟨[], rfl, by simp [VL]⟩
  | [s], [u], hv => simp only [VL] at hv; exact hv.1
  | s :: t :: ss, u :: v :: us, hv => simp only [retS, retVal, V]; exact ⟨_, rfl, hv⟩
  | [], _ :: _, hv => simp [VL] at hv
  | _ :: _, [], hv => simp [VL] at hv
  | [_], _ :: _ :: _, hv => simp [VL] at hv
  | _ :: _ :: _, [_], hv => simp [VL] at hv

theorem hold_of (hs : SatH K θ h nx w) : ∀ n r, hfind h n = some r → ∃ L, θ n = some L ∧ (∀ T l, r = .blk T l → L.a = some ⟨L.b, 0, none⟩) ∧ (∀ ks vs, r = .map ks vs → L.a = some ⟨L.b, 0, none⟩) ∧ (∀ T k xs, r = .own T (.ints k xs) → L.len = xs.length) ∧ (∀ ks m f, r = .mapR ks m f → L.a = some ⟨L.b, 0, none⟩) := by
  intro n r hr
  obtain ⟨L, hL, h1⟩ := hs.res n r hr
  refine ⟨L, hL, ?_, ?_, ?_, ?_⟩
  · rintro T l rfl; obtain ⟨_, h2, _⟩ := h1; exact h2
  · rintro ks vs rfl; exact h1.1
  · rintro T k xs rfl; exact h1.1.1
  · rintro ks m f rfl; exact h1.1

theorem callX_sound {f : Nat} {c : Ctr} (hf : FnOk P f c) (hs : SatH K θ h nx w) {ts : List Nat} {args : List SV} {vs : List Value} (hv : VL θ args vs) {k : HK} (hq : callX P ts c args h nx k) :
    Calls P f vs.toArray w fun e w' => ∃ s h' nx' θ' v, e = .returned v ∧ k s h' nx' ∧ SatH K θ' h' nx' w' ∧ θ.ext θ' ∧ V θ' s v ∧ nx ≤ nx' := by
  have hq0 : glIn c.gl (cond c.ro (freezeRd h c.own args) h) ∧ callX0 P ts c args h nx k := by
    unfold callX at hq
    split at hq
    · rename_i hg; rw [hg]; exact ⟨trivial, hq⟩
    · rename_i g l hg; rw [hg]; exact hq
  obtain ⟨hgl, hq⟩ := hq0
  unfold callX0 at hq
  have hs0 : SatH K θ (cond c.ro (freezeRd h c.own args) h) nx w := by
    cases c.ro
    · exact hs
    · exact freezeRd_sound hs
  generalize cond c.ro (freezeRd h c.own args) h = h0 at hq hs0 hgl
  split at hq
  · exact hq.elim
  rename_i as ns rn hargs
  obtain ⟨hpre, hq1⟩ := hq
  obtain ⟨hc, hq2⟩ := cond_false hq1
  simp only [Bool.and_eq_true] at hc
  obtain ⟨hnd, hdj⟩ := hc
  obtain ⟨hro, hq2⟩ := orP_spec hq2
  simp only [Bool.or_eq_true, Bool.and_eq_true] at hro
  have hnd := nodupB_sound hnd
  have hdj := disjB_sound hdj
  obtain ⟨fp, hN, hrn, hhold⟩ := argsOf_sound hs0 hv hargs
  have hfpn := hN.2.1 hnd
  have notfree : ∀ b, Free K θ h0 b → b ∉ fp := fun b hb hm => by obtain ⟨n, _, hn⟩ := hN.1 b hm; exact hb.1 n hn
  let A : Nat → Prop := fun b => c.ro = true → Free K θ h0 b
  have hT : Takes K θ h0 rn (fun b => A b ∧ b ∉ fp) := by
    refine ⟨fun b hb => ⟨fun _ => hb, notfree b hb⟩, fun n hn b ho => ⟨fun hr => ?_, fun hm => ?_⟩⟩
    · rw [hrn hr] at hn; cases hn
    · obtain ⟨m, h1, h2⟩ := hN.1 b hm
      exact hdj n hn (hs0.dis _ _ _ h2 ho ▸ h1)
  have hlt : ∀ b ∈ fp, b < w.heap.size := fun b hb => by obtain ⟨n, _, hn⟩ := hN.1 b hb; exact OwnsAt.lt hs0 hn
  have hG : GOK c.gl A w fp := fun x hx => by
    obtain ⟨g1, g2⟩ := glIn_sound hs0 hgl x hx
    exact ⟨fun _ => g1, notfree _ g1, g2⟩
  refine (hf w A as vs fp (hhold _ hT) hfpn hlt hpre hG).mono ?_
  rintro e w' ⟨rs, fu, fr, rfl, hfr, hfo, hnew, hup, hres⟩
  obtain ⟨s1, s2⟩ := hs0.called hN hN.2.2 hfr hfo hnew
  have conv : OL.holds (fun b => (w.heap.size ≤ b ∨ Free K θ h0 b ∨ b ∈ fp) ∧ b ∉ fu ++ fr) w' (c.upd as) vs fu ∧
      OL.holds (fun b => (w.heap.size ≤ b ∨ Free K θ h0 b ∨ b ∈ fp) ∧ b ∉ fu ++ fr) w' (c.res as) rs fr := by
    rcases hro with (hr | hp) | hp
    · have hk : Keeps (After w A fp (fu ++ fr)) (fun b => (w.heap.size ≤ b ∨ Free K θ h0 b ∨ b ∈ fp) ∧ b ∉ fu ++ fr) w' w' :=
        fun b _ hb => ⟨⟨hb.1.imp id (fun h => h.imp (fun h => h hr) id), hb.2⟩, rfl⟩
      exact ⟨OL.holds_mono hk _ _ _ (fun _ _ => rfl) hup, OL.holds_mono hk _ _ _ (fun _ _ => rfl) hres⟩
    · exact ⟨OL.plain_holds _ hp.2 hup, OL.plain_holds _ hp.1 hres⟩
    · exact ⟨OL.plainP_holds _ hp.2 hup, OL.plainP_holds _ hp.1 hres⟩
  obtain ⟨h1, nx1, θ1, b1, b2⟩ := backOs_sound (hold_of hs0) _ (Th.ext_refl _) s1 hv conv.1 s2.left hq2
  obtain ⟨ss, h2, nx2, θ2, c1, c2, c3⟩ := instOs_sound _ b2.sat conv.2 (s2.right' b2) b1
  exact ⟨_, _, _, _, _, rfl, c1, c2.sat.toH, Th.ext_trans b2.ext c2.ext, V_ret c3, Nat.le_trans b2.le c2.le⟩

theorem scalars_holds {X : Nat → Prop} : ∀ {rs : List O} {xs : List Value} {us : List Value} {fp : List Nat}, scalarsOf rs = some xs → OL.holds X w rs us fp → us = xs
  | [], xs, us, fp, h, hh => by
    simp [scalarsOf] at h; subst h
    cases us with
    | nil => rfl
    | cons _ _ => simp [OL.holds] at hh
  | r :: rs, xs, us, fp, h, hh => by
    unfold scalarsOf at h
    split at h
    · rename_i heq; cases heq
    · rename_i x rs' heq
      cases heq
      split at h <;> cases h
      rename_i ys hys
      cases us with
      | nil => simp [OL.holds] at hh
      | cons u us =>
        simp only [OL.holds, O.holds] at hh
        obtain ⟨f, g, _, ⟨⟨rfl, _⟩, _⟩, h2⟩ := hh
        rw [scalars_holds hys h2]
    · cases h

theorem callQ_sound {f : Nat} {c : Ctr} (hf : FnOk P f c) (hs : SatH K θ h nx w) {ts : List Nat} {args : List SV} {vs : List Value} (hv : VL θ args vs) {k : SV → Prop} (hq : callQ P ts c args h k) :
    ∃ s v, k s ∧ V θ s v ∧ ∀ w', Below w.heap.size w w' → Calls P f vs.toArray w' fun e w'' => e = .returned v ∧ Below w.heap.size w w'' := by
  have hq0 : glIn c.gl h ∧ callQ0 P ts c args h k := by
    unfold callQ at hq
    split at hq
    · rename_i hg; rw [hg]; exact ⟨trivial, hq⟩
    · rename_i g l hg; rw [hg]; exact hq
  obtain ⟨hgl, hq⟩ := hq0
  unfold callQ0 at hq
  split at hq <;> try exact hq.elim
  rename_i as rn hargs
  split at hq <;> try exact hq.elim
  rename_i xs hsc
  obtain ⟨hpre, hk⟩ := hq
  have hvx : VL θ (xs.map .c) xs := by
    clear hsc hk
    induction xs with
    | nil => simp [VL]
    | cons x xs ih => simp only [List.map_cons, VL]; exact ⟨by simp only [V], ih⟩
  refine ⟨_, retVal xs, hk, V_ret hvx, fun w' hw' => ?_⟩
  have hs' := hs.below hw'
  obtain ⟨fp, hN, _, hhold⟩ := argsOf_sound hs' hv hargs
  have hfp : fp = [] := by
    cases fp with
    | nil => rfl
    | cons b fp =>
      obtain ⟨n, hn, _⟩ := hN.1 b (by simp)
      cases hn
  subst hfp
  refine (hf w' (fun _ => True) as vs [] (hhold _ ⟨fun b _ => ⟨trivial, by simp⟩, fun n _ b _ => ⟨trivial, by simp⟩⟩) List.nodup_nil (fun b hb => by cases hb) hpre (fun x hx => ⟨trivial, by simp, (glIn_sound hs' hgl x hx).2⟩)).mono ?_
  rintro e w'' ⟨rs, fu, fr, rfl, hfr, _, _, _, hres⟩
  rw [scalars_holds hsc hres]
  exact ⟨rfl, hw'.trans ⟨hfr.os, hfr.tape, hfr.output, hfr.size, fun b hb => hfr.block b (Nat.lt_of_lt_of_le hb hw'.size) (by simp)⟩⟩
end
end Go.Z
