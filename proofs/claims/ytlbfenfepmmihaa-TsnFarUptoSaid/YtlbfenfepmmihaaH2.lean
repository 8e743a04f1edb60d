/- Part 2 of what the closing text rests on. -/
import Derived.Test.YtlbfenfepmmihaaH1
/- A state matched against trees. -/
namespace Go.Z
open Go.RowKit

def D.nilP : D → Prop
  | .ints _ xs => xs = []
  | .recs _ n _ => n = 0
  | _ => False

def matchV : Value → Value → Prop
  | .int k a, .int k' b => if k = k' then a = b else False
  | .bool a, .bool b => a = b
  | .string a, .string b => a = b
  | u, x => u = x

def D.eqv : D → D → Prop
  | .ints k xs, .ints k' ys => if k = k' then xs = ys else False
  | .recs es n f, .recs es' n' g => cond (Nat.beq es es') (n = n' ∧ ∀ i, i < n → ∀ j, j < es → f i j = g i j) False
  | _, _ => False

def Col.eqv : Col → Col → Prop
  | .ints k xs, .ints k' ys => if k = k' then xs = ys else False
  | .bools xs, .bools ys => xs = ys
  | .strs xs, .strs ys => xs = ys
  | _, _ => False

/-- Owned names; owned names that are to be read only. -/
abbrev NK := List Nat → List Nat → Prop

def matchD (h : List (Nat × R)) (d : D) (s : SV) (k : NK) : Prop :=
  match d with
  | .v x => match s with
    | .b t => matchV (.bool t) x ∧ k [] []
    | .c y => cond y.oneCell' (matchV y x ∧ k [] []) False
    | .nil => matchV (.slice none 0 0) x ∧ k [] []
    | _ => False
  | .map ks vs => match s with
    | .m m => match hfind h m with
      | some (.rmap ks' vs') => ks'.eqv ks ∧ vs'.eqv vs ∧ k [] []
      | some (.map ks' vs') => ks'.eqv ks ∧ vs'.eqv vs ∧ k [] [m]
      | _ => False
    | _ => False
  | d => match s with
    | .a m => match hfind h m with
      | some (.own _ d') => d'.eqv d ∧ k [] [m]
      | some (.ro d') => d'.eqv d ∧ k [] []
      | _ => False
    | .nil => d.nilP ∧ k [] []
    | _ => False

mutual
def matchO (h : List (Nat × R)) : O → SV → NK → Prop
  | .any, _, k => k [] []
  | .d x, s, k => matchD h x s k
  | .own T x, s, k => match s with
    | .a m => match hfind h m with
      | some (.own T' d') => cond (Nat.beq T T') (d'.eqv x ∧ k [m] []) False
      | _ => False
    | .nil => x.nilP ∧ k [] []
    | _ => False
  | .ptr T l, s, k => match s with
    | .p m 0 => match hfind h m with
      | some (.blk T' cs) => cond (Nat.beq T T') (matchOs h l cs fun on rn => k (m :: on) rn) False
      | _ => False
    | _ => False
  | .arr T kk xs, s, k => match s with
    | .q m => match hfind h m with
      | some (.own T' (.ints kk' xs')) => cond (Nat.beq T T') (if kk' = kk then xs' = xs ∧ k [m] [] else False) False
      | _ => False
    | _ => False
  | .map ks vs, s, k => match s with
    | .m m => match hfind h m with
      | some (.map ks' vs') => ks'.eqv ks ∧ vs'.eqv vs ∧ k [m] []
      | _ => False
    | _ => False
  | .agg l, s, k => match s with
    | .agg ss => matchOs h l ss k
    | _ => False
  | .va kk xs, s, k => match s with
    | .arr kk' xs' => if kk' = kk then xs' = xs ∧ k [] [] else False
    | _ => False
def matchOs (h : List (Nat × R)) : List O → List SV → NK → Prop
  | [], [], k => k [] []
  | o :: l, s :: ss, k => matchO h o s fun on rn => matchOs h l ss fun on' rn' => k (on ++ on') (rn ++ rn')
  | _, _, _ => False
end

def memB (n : Nat) : List Nat → Bool
  | [] => false
  | m :: l => Nat.beq m n || memB n l
def nodupB : List Nat → Bool
  | [] => true
  | n :: l => (!memB n l) && nodupB l
def disjB : List Nat → List Nat → Bool
  | [], _ => true
  | n :: l, m => (!memB n m) && disjB l m

theorem memB_iff {n : Nat} : ∀ {l : List Nat}, memB n l = true ↔ n ∈ l
  | [] => by simp [memB]
  | m :: l => by
    have ih := @memB_iff n l
    simp only [memB, Bool.or_eq_true, ih, List.mem_cons]
    constructor
    · rintro (h | h)
      · exact .inl (Nat.eq_of_beq_eq_true h).symm
      · exact .inr h
    · rintro (rfl | h)
      · exact .inl (Nat.beq_refl _)
      · exact .inr h
theorem memB_false {n : Nat} {l : List Nat} (h : (!memB n l) = true) : n ∉ l := fun hm => by
  rw [memB_iff.2 hm] at h; cases h
theorem nodupB_sound : ∀ {l : List Nat}, nodupB l = true → l.Nodup
  | [], _ => List.nodup_nil
  | n :: l, h => by
    simp only [nodupB, Bool.and_eq_true] at h
    exact List.nodup_cons.2 ⟨memB_false h.1, nodupB_sound h.2⟩
theorem disjB_sound : ∀ {l m : List Nat}, disjB l m = true → ∀ n ∈ l, n ∉ m
  | [], _, _, n, hn => by cases hn
  | x :: l, m, h, n, hn => by
    simp only [disjB, Bool.and_eq_true] at h
    rcases List.mem_cons.1 hn with rfl | hn
    · exact memB_false h.1
    · exact disjB_sound h.2 n hn

theorem matchV_eq {u x : Value} (h : matchV u x) : u = x := by
  unfold matchV at h
  split at h
  · split at h
    · rename_i e; subst e; subst h; rfl
    · exact h.elim
  · subst h; rfl
  · subst h; rfl
  · exact h

theorem Col.eqv_eq {a b : Col} (h : a.eqv b) : a = b := by
  unfold Col.eqv at h
  split at h
  · split at h
    · rename_i e; subst e; subst h; rfl
    · exact h.elim
  · subst h; rfl
  · subst h; rfl
  · exact h.elim

theorem D.at_eqv {X : Nat → Prop} {w : World} {L : Loc} {d d' : D} (h : d'.eqv d) (hd : d'.at X w L) : d.at X w L ∧ d'.es = d.es := by
  unfold D.eqv at h
  split at h
  · split at h
    · rename_i e; subst e; subst h; exact ⟨hd, rfl⟩
    · exact h.elim
  · rename_i es n f es' n' g
    have he : es = es' := by
      cases hb : Nat.beq es es' with
      | false => rw [hb] at h; exact h.elim
      | true => exact Nat.eq_of_beq_eq_true hb
    subst he
    rw [Nat.beq_refl] at h
    obtain ⟨rfl, hf⟩ := h
    refine ⟨⟨hd.1, hd.2.1, fun i hi j hj => ?_⟩, rfl⟩
    obtain ⟨c, h1, h2⟩ := hd.2.2 i hi j hj
    exact ⟨c, h1, hf i hi j hj ▸ h2⟩
  · exact h.elim

theorem D.at_nil {X : Nat → Prop} {w : World} {d : D} (h : d.nilP) : d.at X w nilLoc := by
  cases d with
  | v _ => exact h.elim
  | ptr _ _ _ => exact h.elim
  | fn _ _ _ _ => exact h.elim
  | map _ _ => exact h.elim
  | ints k xs =>
    have h : xs = [] := h
    subst h
    exact ⟨rfl, Nat.le_refl _, fun i z hz => by simp at hz⟩
  | recs es n f =>
    have h : n = 0 := h
    subst h
    exact ⟨rfl, Nat.le_refl _, fun i hi => absurd hi (by omega)⟩

section
variable {K : Ctx} {θ : Th} {h : List (Nat × R)} {nx : Nat} {w : World}

def Named (θ : Th) (ns : List Nat) : Prop := ∀ n ∈ ns, ∃ L, θ n = some L
theorem Named.nil : Named θ [] := fun n hn => by cases hn
theorem Named.one {n : Nat} {L : Loc} (h : θ n = some L) : Named θ [n] := fun m hm => by simp at hm; subst hm; exact ⟨L, h⟩
theorem Named.append {ns ms : List Nat} (a : Named θ ns) (b : Named θ ms) : Named θ (ns ++ ms) := fun n hn => (List.mem_append.1 hn).elim (a n) (b n)

theorem matchD_sound (hs : SatH K θ h nx w) {d : D} {s : SV} {u : Value} {k : NK} (hm : matchD h d s k) (hv : V θ s u) :
    ∃ rn, k [] rn ∧ Named θ rn ∧ ∀ X, Takes K θ h rn X → d.holds X w u := by
  have arr : ∀ {d : D} {m : Nat}, (match hfind h m with
      | some (.own _ d') => d'.eqv d ∧ k [] [m]
      | some (.ro d') => d'.eqv d ∧ k [] []
      | _ => False) → V θ (.a m) u → ∃ rn, k [] rn ∧ Named θ rn ∧ ∀ X, Takes K θ h rn X → d.holds X w u := by
    intro d m hm hv
    simp only [V] at hv
    obtain ⟨L, e1, rfl⟩ := hv
    split at hm <;> try exact hm.elim
    · rename_i T d' hf'
      obtain ⟨L', l1, l2, l3, l4⟩ := hs.res _ _ hf'
      obtain rfl := Option.some.inj (e1.symm.trans l1)
      obtain ⟨d1, _⟩ := D.at_eqv hm.1 l2
      refine ⟨_, hm.2, .one e1, fun X t => holds_of_at (D.at_mono t.keeps (fun _ => rfl) d1) l3 fun hlen => ?_⟩
      have hcap : L.cap ≠ 0 := by have := D.at_len l2; omega
      have ow : OwnsAt θ h m L.b := ⟨_, L, hf', e1, hcap, rfl⟩
      exact ⟨t.2 m (by simp) _ ow, OwnsAt.lt hs ow⟩
    · rename_i d' hf'
      obtain ⟨L', l1, l2, l3, l4⟩ := hs.res _ _ hf'
      obtain rfl := Option.some.inj (e1.symm.trans l1)
      obtain ⟨d1, _⟩ := D.at_eqv hm.1 l2
      exact ⟨_, hm.2, .nil, fun X t => holds_of_at (D.at_mono t.keeps (fun _ => rfl) d1) l3 (Loc.inn_mono t.keeps l4)⟩
  have nil : ∀ {d : D}, d.nilP ∧ k [] [] → V θ .nil u → ∃ rn, k [] rn ∧ Named θ rn ∧ ∀ X, Takes K θ h rn X → d.holds X w u := by
    intro d hd hv
    simp only [V] at hv
    subst hv
    exact ⟨_, hd.2, .nil, fun X _ => holds_of_at (L := nilLoc) (D.at_nil hd.1) (.inl rfl) (fun hne => absurd rfl hne)⟩
  unfold matchD at hm
  split at hm
  · split at hm <;> try exact hm.elim
    · simp only [V] at hv; subst hv
      exact ⟨_, hm.2, .nil, fun X _ => ⟨matchV_eq hm.1, by rw [← matchV_eq hm.1]; rfl⟩⟩
    · simp only [V] at hv; subst hv
      obtain ⟨h1, h2, h3⟩ := cond_false hm
      exact ⟨_, h3, .nil, fun X _ => ⟨matchV_eq h2, by rw [← matchV_eq h2]; exact h1⟩⟩
    · simp only [V] at hv; subst hv
      exact ⟨_, hm.2, .nil, fun X _ => ⟨matchV_eq hm.1, by rw [← matchV_eq hm.1]; rfl⟩⟩
  · split at hm <;> try exact hm.elim
    simp only [V] at hv
    obtain ⟨L, hL, rfl⟩ := hv
    split at hm <;> try exact hm.elim
    · rename_i ks' vs' hf
      obtain ⟨h1, h2, h3⟩ := hm
      obtain rfl := Col.eqv_eq h1
      obtain rfl := Col.eqv_eq h2
      obtain ⟨L', hL', e1, e2, es, clock, e3, e4⟩ := hs.res _ _ hf
      obtain rfl := Option.some.inj (hL.symm.trans hL')
      exact ⟨_, h3, .nil, fun X t => ⟨L.b, es, clock, rfl, t.1 _ e2, e3, e4⟩⟩
    · rename_i ks' vs' hf
      obtain ⟨h1, h2, h3⟩ := hm
      obtain rfl := Col.eqv_eq h1
      obtain rfl := Col.eqv_eq h2
      obtain ⟨L', hL', e1, es, clock, e3, e4⟩ := hs.res _ _ hf
      obtain rfl := Option.some.inj (hL.symm.trans hL')
      exact ⟨_, h3, .one hL, fun X t => ⟨L.b, es, clock, rfl, t.2 _ (by simp) _ ⟨_, L, hf, hL, trivial, rfl⟩, e3, e4⟩⟩
  · split at hm <;> try exact hm.elim
    · exact arr hm hv
    · exact nil hm hv

mutual
theorem matchO_sound (hs : SatH K θ h nx w) : ∀ (o : O) {s : SV} {u : Value} {k : NK}, matchO h o s k → V θ s u →
    ∃ on rn fp, k on rn ∧ NamesFp θ h on fp ∧ Named θ rn ∧ ∀ X, Takes K θ h rn X → O.holds X w o u fp
  | .any, s, u, k, hm, hv => by
    simp only [matchO] at hm
    exact ⟨_, _, [], hm, .nil, .nil, fun X _ => by simp only [O.holds]⟩
  | .d x, s, u, k, hm, hv => by
    simp only [matchO] at hm
    obtain ⟨rn, h1, h1n, h2⟩ := matchD_sound hs hm hv
    exact ⟨_, _, [], h1, .nil, h1n, fun X t => by simp only [O.holds]; exact ⟨h2 X t, trivial⟩⟩
  | .own T x, s, u, k, hm, hv => by
    simp only [matchO] at hm
    split at hm <;> try exact hm.elim
    · split at hm <;> try exact hm.elim
      rename_i m T' d' hf
      obtain ⟨h1, h2, h3⟩ := cond_false hm
      obtain rfl := nbeq h1
      obtain ⟨fp, a1, a2⟩ := own_holds hs hf hv
      refine ⟨_, _, fp, h3, a1, .nil, fun X t => ?_⟩
      have := a2 X t.1
      simp only [O.holds] at this ⊢
      obtain ⟨L, b1, b2, b3, b4⟩ := this
      obtain ⟨c1, c2⟩ := D.at_eqv h2 b3
      exact ⟨L, b1, b2, c1, by rw [← c2]; exact b4⟩
    · simp only [V] at hv; subst hv
      refine ⟨_, _, [], hm.2, .nil, .nil, fun X t => ?_⟩
      simp only [O.holds]
      exact ⟨nilLoc, rfl, .inl rfl, D.at_nil hm.1, .inl ⟨rfl, trivial⟩⟩
  | .ptr T l, s, u, k, hm, hv => by
    simp only [matchO] at hm
    split at hm <;> try exact hm.elim
    rename_i m
    split at hm <;> try exact hm.elim
    rename_i T' cs hf
    obtain ⟨h1, h2⟩ := cond_false hm
    obtain rfl := nbeq h1
    obtain ⟨L, hL, us, e1, e3, e4⟩ := hs.res _ _ hf
    obtain ⟨on, rn, fp, a1, a2, an, a3⟩ := matchOs_sound hs l h2 e4
    have h1 := NamesFp.append hs (.one (⟨_, L, hf, hL, trivial, rfl⟩ : OwnsAt θ h m L.b)) a2
    refine ⟨_, _, L.b :: fp, a1, by simpa using h1, an, fun X t => ?_⟩
    simp only [O.holds]
    exact ⟨L.b, us, fp, ptr_zero hv hL e1, rfl, e3, a3 X t⟩
  | .arr T kk xs, s, u, k, hm, hv => by
    simp only [matchO] at hm
    split at hm <;> try exact hm.elim
    split at hm <;> try exact hm.elim
    rename_i m T' kk' xs' hf
    obtain ⟨h1, h2⟩ := cond_false hm
    obtain rfl := nbeq h1
    split at h2
    · rename_i e; subst e
      obtain ⟨rfl, h3⟩ := h2
      obtain ⟨fp, a1, a2⟩ := arr_holds hs hf hv
      exact ⟨_, _, fp, h3, a1, .nil, fun X t => a2 X t.1⟩
    · exact h2.elim
  | .map ks vs, s, u, k, hm, hv => by
    simp only [matchO] at hm
    split at hm <;> try exact hm.elim
    split at hm <;> try exact hm.elim
    rename_i m ks' vs' hf
    obtain ⟨h1, h2, h3⟩ := hm
    obtain rfl := Col.eqv_eq h1
    obtain rfl := Col.eqv_eq h2
    simp only [V] at hv
    obtain ⟨L, hL, rfl⟩ := hv
    obtain ⟨L', hL', e1, es, clock, e3, e4⟩ := hs.res _ _ hf
    obtain rfl := Option.some.inj (hL.symm.trans hL')
    refine ⟨_, _, [L.b], h3, .one ⟨_, L, hf, hL, trivial, rfl⟩, .nil, fun X _ => ?_⟩
    simp only [O.holds]
    exact ⟨L.b, es, clock, rfl, rfl, e3, e4⟩
  | .agg l, s, u, k, hm, hv => by
    simp only [matchO] at hm
    split at hm <;> try exact hm.elim
    simp only [V] at hv
    obtain ⟨us, rfl, e4⟩ := hv
    obtain ⟨on, rn, fp, a1, a2, an, a3⟩ := matchOs_sound hs l hm e4
    exact ⟨_, _, fp, a1, a2, an, fun X t => by simp only [O.holds]; exact ⟨us, rfl, a3 X t⟩⟩
  | .va kk xs, s, u, k, hm, hv => by
    simp only [matchO] at hm
    split at hm <;> try exact hm.elim
    split at hm
    · rename_i e; subst e
      obtain ⟨rfl, h3⟩ := hm
      simp only [V] at hv
      exact ⟨_, _, [], h3, .nil, .nil, fun X _ => by simp only [O.holds]; exact ⟨hv, trivial⟩⟩
    · exact hm.elim
theorem matchOs_sound (hs : SatH K θ h nx w) : ∀ (l : List O) {ss : List SV} {us : List Value} {k : NK}, matchOs h l ss k → VL θ ss us →
    ∃ on rn fp, k on rn ∧ NamesFp θ h on fp ∧ Named θ rn ∧ ∀ X, Takes K θ h rn X → OL.holds X w l us fp
  | [], [], [], k, hm, _ => by
    simp only [matchOs] at hm
    exact ⟨_, _, [], hm, .nil, .nil, fun X _ => by simp only [OL.holds]⟩
  | [], [], _ :: _, _, _, hv => by simp [VL] at hv
  | [], _ :: _, _, _, hm, _ => by simp [matchOs] at hm
  | _ :: _, [], _, _, hm, _ => by simp [matchOs] at hm
  | _ :: _, _ :: _, [], _, _, hv => by simp [VL] at hv
  | o :: l, s :: ss, u :: us, k, hm, hv => by
    simp only [matchOs] at hm
    simp only [VL] at hv
    obtain ⟨on, rn, fp, a1, a2, an, a3⟩ := matchO_sound hs o hm hv.1
    obtain ⟨on', rn', fp', b1, b2, bn, b3⟩ := matchOs_sound hs l a1 hv.2
    exact ⟨_, _, fp ++ fp', b1, a2.append hs b2, an.append bn, fun X t => by simp only [OL.holds]; exact ⟨fp, fp', rfl, a3 X t.left, b3 X t.right⟩⟩
end
end
end Go.Z

/- Calls: what a function takes and gives; what a call does to the caller's symbolic state. -/
namespace Go.Z
open Go.RowKit

def retVal : List Value → Value
  | [v] => v
  | vs => .tuple vs.toArray
def retS : List SV → SV
  | [s] => s
  | l => .tup l

/-- In which blocks what a call hands back for reading may lie. -/
def After (w : World) (A : Nat → Prop) (fp fo : List Nat) (b : Nat) : Prop := (w.heap.size ≤ b ∨ A b ∨ b ∈ fp) ∧ b ∉ fo

/-- own: of each argument, whether it is handed over (and given back as 'upd' says), or only read. ro: what is handed back may lead to what was read. -/
structure Ctr where
  own : List Bool
  pre : List O → Prop
  res : List O → List O
  upd : List O → List O
  ro : Bool
  quiet : Bool
  gl : List (Nat × Nat × IntKind × List Int) := []

/-- Package variables that are read: arrays of integers, by their blocks. -/
def GOK (gl : List (Nat × Nat × IntKind × List Int)) (A : Nat → Prop) (w : World) (fp : List Nat) : Prop :=
  ∀ x ∈ gl, A x.1 ∧ x.1 ∉ fp ∧ GCell w x.1 x.2.2.1 x.2.2.2
/-- They are known here. -/
def glIn : List (Nat × Nat × IntKind × List Int) → List (Nat × R) → Prop
  | [], _ => True
  | (b, T, k, xs) :: l, h => (match glFind h b with
    | some (T', k', xs') => T' = T ∧ k' = k ∧ xs' = xs
    | none => False) ∧ glIn l h

/-- A FUNCTION KEEPS ITS CONTRACT. -/
def FnOk (P : Program) (f : Nat) (c : Ctr) : Prop :=
  ∀ (w : World) (A : Nat → Prop) (as : List O) (vs : List Value) (fp : List Nat), OL.holds (fun b => A b ∧ b ∉ fp) w as vs fp → fp.Nodup → (∀ b ∈ fp, b < w.heap.size) → c.pre as → GOK c.gl A w fp →
    Calls P f vs.toArray w fun e w' => ∃ (rs : List Value) (fu fr : List Nat), e = .returned (retVal rs) ∧ Fr (· ∈ fp) w w' ∧ (fu ++ fr).Nodup ∧ (∀ b ∈ fu ++ fr, b ∈ fp ∨ w.heap.size ≤ b) ∧
      OL.holds (After w A fp (fu ++ fr)) w' (c.upd as) vs fu ∧ OL.holds (After w A fp (fu ++ fr)) w' (c.res as) rs fr

def paramsOf (P : Program) (f : Nat) : List Nat :=
  match P.funcs[f]? with
  | some fn => fn.params.toList
  | none => []

def argsOf (P : Program) (ro : Bool) (h : List (Nat × R)) : List Bool → List Nat → List SV → Option (List O × List Nat × List Nat)
  | _, _, [] => some ([], [], [])
  | ms, ts, s :: l =>
    match argsOf P ro h ms.tail ts.tail l with
    | none => none
    | some (os, ns, rn) =>
      match ms.head? with
      | some true => match treeOf P h 8 (match ts.head? with | some t => some (t, 0) | none => none) s with
        | some (o, ns') => some (o :: os, ns' ++ ns, rn)
        | none => none
      | _ => match readOf P ro h (match ts.head? with | some t => some (t, 0) | none => none) s with
        | some (o, rn') => some (o :: os, ns, rn' ++ rn)
        | none => none

def D.plain : D → Bool
  | .v _ => true
  | _ => false
mutual
/-- Nothing in it leads to memory that is only read. -/
def O.plain : O → Bool
  | .d x => x.plain
  | .own _ (.ints _ _) => true
  | .own _ _ => false
  | .ptr _ l => OL.plain l
  | .agg l => OL.plain l
  | _ => true
def OL.plain : List O → Bool
  | [] => true
  | o :: l => o.plain && OL.plain l
end

def deads : List Nat → List (Nat × R) → List (Nat × R)
  | [], h => h
  | n :: l, h => (n, .dead) :: deads l h

def freezeL (h : List (Nat × R)) : List SV → List (Nat × R)
  | [] => h
  | .a n :: l => freezeL (freezeH h n) l
  | _ :: l => freezeL h l
/-- What is only read, and may be led to by what comes back, is frozen. -/
def freezeRd (h : List (Nat × R)) : List Bool → List SV → List (Nat × R)
  | _, [] => h
  | ms, s :: l =>
    match ms.head? with
    | some true => freezeRd h ms.tail l
    | _ => match s with
      | .a n => freezeRd (freezeH h n) ms.tail l
      | .agg cs => freezeRd (freezeL h cs) ms.tail l
      | _ => freezeRd h ms.tail l

mutual
/-- What was handed over is given back. -/
def backO (h0 : List (Nat × R)) : O → SV → List (Nat × R) → Nat → (List (Nat × R) → Nat → Prop) → Prop
  | .own T x, s, h, nx, k => match s with
    | .a n => k ((n, .own T x) :: h) nx
    | _ => False
  | .ptr T l, s, h, nx, k => match s with
    | .p n 0 => match hfind h0 n with
      | some (.blk _ _) => instOs l h nx fun ss h' nx' => k ((n, .blk T ss) :: h') nx'
      | _ => False
    | _ => False
  | .arr T kk xs, s, h, nx, k => match s with
    | .q n => match hfind h0 n with
      | some (.own _ (.ints _ xs0)) => xs.length = xs0.length ∧ k ((n, .own T (.ints kk xs)) :: h) nx
      | _ => False
    | _ => False
  | .map ks vs, s, h, nx, k => match s with
    | .m n => match hfind h0 n with
      | some (.map _ _) => k ((n, .map ks vs) :: h) nx
      | _ => False
    | _ => False
  | .agg l, s, h, nx, k => match s with
    | .agg ss => backOs h0 l ss h nx k
    | _ => False
  | _, _, h, nx, k => k h nx
def backOs (h0 : List (Nat × R)) : List O → List SV → List (Nat × R) → Nat → (List (Nat × R) → Nat → Prop) → Prop
  | [], [], h, nx, k => k h nx
  | o :: l, s :: ss, h, nx, k => backO h0 o s h nx fun h' nx' => backOs h0 l ss h' nx' k
  | _, _, _, _, _ => False
end

def callX0 (P : Program) (ts : List Nat) (c : Ctr) (args : List SV) (h : List (Nat × R)) (nx : Nat) (k : HK) : Prop :=
  match argsOf P c.ro (cond c.ro (freezeRd h c.own args) h) c.own ts args with
  | none => False
  | some (as, ns, rn) =>
    c.pre as ∧ cond (nodupB ns && disjB rn ns && (c.ro || (OL.plain (c.res as) && OL.plain (c.upd as))))
      (backOs (cond c.ro (freezeRd h c.own args) h) (c.upd as) args (deads ns (cond c.ro (freezeRd h c.own args) h)) nx fun h1 nx1 => instOs (c.res as) h1 nx1 fun ss h2 nx2 => k (retS ss) h2 nx2) False

def callX (P : Program) (ts : List Nat) (c : Ctr) (args : List SV) (h : List (Nat × R)) (nx : Nat) (k : HK) : Prop :=
  match c.gl with
  | [] => callX0 P ts c args h nx k
  | g :: l => glIn (g :: l) (cond c.ro (freezeRd h c.own args) h) ∧ callX0 P ts c args h nx k

/-- A call that only reads, and hands back scalars. -/
def scalarsOf : List O → Option (List Value)
  | [] => some []
  | .d (.v x) :: rs => match scalarsOf rs with
    | some xs => some (x :: xs)
    | none => none
  | _ => none

def callQ0 (P : Program) (ts : List Nat) (c : Ctr) (args : List SV) (h : List (Nat × R)) (k : SV → Prop) : Prop :=
  match argsOf P false h c.own ts args with
  | some (as, [], _) => match scalarsOf (c.res as) with
    | some xs => c.pre as ∧ k (retS (xs.map .c))
    | none => False
  | _ => False
def callQ (P : Program) (ts : List Nat) (c : Ctr) (args : List SV) (h : List (Nat × R)) (k : SV → Prop) : Prop :=
  match c.gl with
  | [] => callQ0 P ts c args h k
  | g :: l => glIn (g :: l) h ∧ callQ0 P ts c args h k

section
variable {P : Program} {K : Ctx} {θ : Th} {h : List (Nat × R)} {nx : Nat} {w : World}

theorem glIn_sound (hs : SatH K θ h nx w) : ∀ {gl : List (Nat × Nat × IntKind × List Int)}, glIn gl h → ∀ x ∈ gl, Free K θ h x.1 ∧ GCell w x.1 x.2.2.1 x.2.2.2
  | [], _, x, hx => by cases hx
  | (b, T, k, xs) :: l, hq, x, hx => by
    obtain ⟨h1, h2⟩ := hq
    rcases List.mem_cons.1 hx with rfl | hx
    · split at h1 <;> try exact h1.elim
      rename_i T' k' xs' hg
      obtain ⟨rfl, rfl, rfl⟩ := h1
      exact glFind_sound hs hg
    · exact glIn_sound hs h2 x hx

theorem arrFreeze (hs : SatH K θ h nx w) (n : Nat) : SatH K θ (freezeH h n) nx w := by
  unfold freezeH
  split
  · rename_i T d hf; exact hs.freeze hf
  · exact hs

theorem freezeL_sound : ∀ {l : List SV} {h : List (Nat × R)}, SatH K θ h nx w → SatH K θ (freezeL h l) nx w
  | [], _, hs => hs
  | s :: l, h, hs => by
    cases s <;> simp only [freezeL] <;> first | exact freezeL_sound hs | exact freezeL_sound (arrFreeze hs _)

theorem freezeRd_sound : ∀ {l : List SV} {ms : List Bool} {h : List (Nat × R)}, SatH K θ h nx w → SatH K θ (freezeRd h ms l) nx w
  | [], _, _, hs => hs
  | s :: l, ms, h, hs => by
    unfold freezeRd
    split
    · exact freezeRd_sound hs
    · split
      · exact freezeRd_sound (arrFreeze hs _)
      · exact freezeRd_sound (freezeL_sound hs)
      · exact freezeRd_sound hs

theorem argsOf_sound (hs : SatH K θ h nx w) {ro : Bool} : ∀ {l : List SV} {ms : List Bool} {ts : List Nat} {us : List Value} {os : List O} {ns rn : List Nat}, VL θ l us → argsOf P ro h ms ts l = some (os, ns, rn) →
    ∃ fp, NamesFp θ h ns fp ∧ (ro = true → rn = []) ∧ ∀ X, Takes K θ h rn X → OL.holds X w os us fp
  | [], ms, ts, [], os, ns, rn, _, ha => by
    simp [argsOf] at ha; obtain ⟨rfl, rfl, rfl⟩ := ha
    exact ⟨[], .nil, fun _ => rfl, fun _ _ => by simp [OL.holds]⟩
  | [], _, _, _ :: _, _, _, _, hv, _ => by simp [VL] at hv
  | _ :: _, _, _, [], _, _, _, hv, _ => by simp [VL] at hv
  | s :: l, ms, ts, u :: us, os, ns, rn, hv, ha => by
    simp only [VL] at hv
    unfold argsOf at ha
    split at ha
    · cases ha
    · rename_i os' ns' rn' h1
      obtain ⟨fp, a1, a2, a3⟩ := argsOf_sound hs hv.2 h1
      split at ha
      · split at ha <;> cases ha
        rename_i o ns2 h2
        obtain ⟨f2, b1, b2⟩ := treeOf_sound (P := P) hs 8 _ _ _ _ _ hv.1 h2
        exact ⟨f2 ++ fp, b1.append hs a1, a2, fun X t => by simp only [OL.holds]; exact ⟨f2, fp, rfl, b2 X t.1, a3 X t⟩⟩
      · split at ha <;> cases ha
        rename_i o rn2 h2
        obtain ⟨b1, b2⟩ := readOf_sound (P := P) hs hv.1 h2
        exact ⟨fp, a1, fun hr => by rw [b1 hr, a2 hr]; rfl, fun X t => by simp only [OL.holds]; exact ⟨[], fp, rfl, b2 X t.left, a3 X t.right⟩⟩

theorem D.plain_holds {X Y : Nat → Prop} {d : D} {c : Value} (hp : d.plain = true) (hd : d.holds X w c) : d.holds Y w c := by
  cases d <;> simp [D.plain] at hp
  exact hd

mutual
theorem O.plain_holds {X Y : Nat → Prop} : ∀ (o : O) {v : Value} {fp : List Nat}, o.plain = true → O.holds X w o v fp → O.holds Y w o v fp
  | .any, v, fp, _, h => by simpa only [O.holds] using h
  | .d x, v, fp, hp, h => by simp only [O.holds] at *; exact ⟨D.plain_holds (by simpa [O.plain] using hp) h.1, h.2⟩
  | .own T x, v, fp, hp, h => by
    cases x <;> simp [O.plain] at hp
    simp only [O.holds, D.at] at *
    exact h
  | .ptr T l, v, fp, hp, h => by
    simp only [O.holds] at *
    obtain ⟨b, us, f, h1, rfl, h2, h3⟩ := h
    exact ⟨b, us, f, h1, rfl, h2, OL.plain_holds l (by simpa [O.plain] using hp) h3⟩
  | .arr T k xs, v, fp, _, h => by simp only [O.holds, D.at] at *; exact h
  | .map ks vs, v, fp, _, h => by simp only [O.holds] at *; exact h
  | .agg l, v, fp, hp, h => by
    simp only [O.holds] at *
    obtain ⟨us, h1, h2⟩ := h
    exact ⟨us, h1, OL.plain_holds l (by simpa [O.plain] using hp) h2⟩
  | .va k xs, v, fp, _, h => by simp only [O.holds] at *; exact h
theorem OL.plain_holds {X Y : Nat → Prop} : ∀ (l : List O) {vs : List Value} {fp : List Nat}, OL.plain l = true → OL.holds X w l vs fp → OL.holds Y w l vs fp
  | [], [], fp, _, h => by simpa only [OL.holds] using h
  | [], _ :: _, _, _, h => by simp [OL.holds] at h
  | _ :: _, [], _, _, h => by simp [OL.holds] at h
  | o :: l, v :: vs, fp, hp, h => by
    simp only [OL.plain, Bool.and_eq_true] at hp
    simp only [OL.holds] at *
    obtain ⟨f, g, rfl, h1, h2⟩ := h
    exact ⟨f, g, rfl, O.plain_holds o hp.1 h1, OL.plain_holds l hp.2 h2⟩
end

theorem hfind_deads_mem {n : Nat} : ∀ {ns : List Nat}, n ∈ ns → hfind (deads ns h) n = some .dead
  | [], hm => by cases hm
  | m :: ns, hm => by
    unfold deads
    rw [hfind_cons]
    by_cases e : m = n
    · rw [if_pos e]
    · rw [if_neg e]
      exact hfind_deads_mem ((List.mem_cons.1 hm).resolve_left (Ne.symm e))
theorem hfind_deads_not {n : Nat} : ∀ {ns : List Nat}, n ∉ ns → hfind (deads ns h) n = hfind h n
  | [], _ => rfl
  | m :: ns, hm => by
    simp only [List.mem_cons, not_or] at hm
    unfold deads
    rw [hfind_cons, if_neg (Ne.symm hm.1)]
    exact hfind_deads_not hm.2
theorem ownsAt_deads {ns : List Nat} {m b : Nat} : OwnsAt θ (deads ns h) m b ↔ m ∉ ns ∧ OwnsAt θ h m b := by
  constructor
  · rintro ⟨r, L, h1, h2, h3, h4⟩
    by_cases hm : m ∈ ns
    · rw [hfind_deads_mem hm] at h1; cases h1; exact h3.elim
    · rw [hfind_deads_not hm] at h1; exact ⟨hm, r, L, h1, h2, h3, h4⟩
  · rintro ⟨hm, r, L, h1, h2, h3, h4⟩
    exact ⟨r, L, by rw [hfind_deads_not hm]; exact h1, h2, h3, h4⟩

/-- The state right behind a call: what was handed over is gone. -/
theorem SatH.called (hs : SatH K θ h nx w) {ns fp fo : List Nat} {w' : World} (hN : NamesFp θ h ns fp) (hnames : ∀ n ∈ ns, ∃ L, θ n = some L) (hfr : Fr (· ∈ fp) w w') (hfo : fo.Nodup) (hnew : ∀ b ∈ fo, b ∈ fp ∨ w.heap.size ≤ b) :
    SatX K (fun b => (w.heap.size ≤ b ∨ Free K θ h b ∨ b ∈ fp) ∧ b ∉ fo) θ (deads ns h) nx w' ∧ FpOk K (fun b => (w.heap.size ≤ b ∨ Free K θ h b ∨ b ∈ fp) ∧ b ∉ fo) θ (deads ns h) fo := by
  have own : ∀ b ∈ fp, ∃ n ∈ ns, OwnsAt θ h n b := hN.1
  have notfp : ∀ {m b}, m ∉ ns → OwnsAt θ h m b → b ∉ fp := fun hm ho hb => by
    obtain ⟨n, h1, h2⟩ := own _ hb
    exact hm (hs.dis _ _ _ h2 ho ▸ h1)
  refine ⟨⟨hs.fresh, fun m r hr => ?_, fun a c b h1 h2 => hs.dis a c b (ownsAt_deads.1 h1).2 (ownsAt_deads.1 h2).2, fun m b h1 => hs.new m b (ownsAt_deads.1 h1).2, ?_, fun b hb => ⟨fun m hm => ?_, ?_⟩⟩, hfo, fun b hb => ⟨fun hX => hX.2 hb, fun m hm => ?_, ?_⟩⟩
  · by_cases hm : m ∈ ns
    · rw [hfind_deads_mem hm] at hr; cases hr
      obtain ⟨L, hL⟩ := hnames m hm
      exact ⟨L, hL, trivial⟩
    · rw [hfind_deads_not hm] at hr
      obtain ⟨L, hL, h1⟩ := hs.res m r hr
      refine ⟨L, hL, R.holds_mono (Th.ext_refl _) (fun b hb hf => ?_) (fun ho => hfr.block _ (R.owned_lt h1 ho) (notfp hm ⟨r, L, hr, hL, ho, rfl⟩)) h1⟩
      have hbfp : b ∉ fp := fun h2 => by obtain ⟨n, _, h3⟩ := own b h2; exact hf.1 n h3
      refine ⟨⟨.inr (.inl hf), fun h2 => ?_⟩, hfr.block b hb hbfp⟩
      rcases hnew b h2 with h3 | h3
      · exact hbfp h3
      · omega
  · refine ⟨hfr.os.trans hs.frame.os, hfr.tape.trans hs.frame.tape, hfr.output.trans hs.frame.output, Nat.le_trans hs.frame.size hfr.size, fun b hb1 hb2 => ?_⟩
    rw [hfr.block b (Nat.lt_of_lt_of_le hb1 hs.frame.size) fun hm => ?_]
    · exact hs.frame.block b hb1 hb2
    · obtain ⟨n, _, hn⟩ := own b hm
      rcases hs.new n b hn with h1 | h1
      · omega
      · exact hb2 h1
  · obtain ⟨h1, h2⟩ := ownsAt_deads.1 hm
    rcases hb.1 with h3 | h3 | h3
    · have := OwnsAt.lt hs h2; omega
    · exact h3.1 m h2
    · exact notfp h1 h2 h3
  · rcases hb.1 with h3 | h3 | h3
    · exact .inl (Nat.le_trans hs.frame.size h3)
    · exact h3.2
    · obtain ⟨n, _, hn⟩ := own b h3
      exact (hs.new n b hn).imp id (K.ma b)
  · obtain ⟨h1, h2⟩ := ownsAt_deads.1 hm
    rcases hnew b hb with h3 | h3
    · exact notfp h1 h2 h3
    · have := OwnsAt.lt hs h2; omega
  · rcases hnew b hb with h3 | h3
    · obtain ⟨n, _, hn⟩ := own b h3
      exact hs.new n b hn
    · exact .inl (Nat.le_trans hs.frame.size h3)

structure BacksX (K : Ctx) (X : Nat → Prop) (fp : List Nat) (θ θ' : Th) (h h' : List (Nat × R)) (nx nx' : Nat) (w : World) : Prop where
  sat : SatX K X θ' h' nx' w
  ext : θ.ext θ'
  le : nx ≤ nx'
  agree : ∀ n, n < nx → θ' n = θ n
  own : ∀ n b, OwnsAt θ' h' n b → OwnsAt θ h n b ∨ b ∈ fp

theorem GivesX.backs {X : Nat → Prop} {fp : List Nat} {θ θ' : Th} {h h' : List (Nat × R)} {nx nx' : Nat} (g : GivesX K X fp θ θ' h h' nx nx' w) : BacksX K X fp θ θ' h h' nx nx' w := ⟨g.sat, g.ext, g.le, g.agree, g.own⟩
theorem BacksX.trans {X : Nat → Prop} {f g : List Nat} {θ θ' θ'' : Th} {h h' h'' : List (Nat × R)} {nx nx' nx'' : Nat} (a : BacksX K X f θ θ' h h' nx nx' w) (b : BacksX K X g θ' θ'' h' h'' nx' nx'' w) : BacksX K X (f ++ g) θ θ'' h h'' nx nx'' w :=
  ⟨b.sat, Th.ext_trans a.ext b.ext, Nat.le_trans a.le b.le, fun n hn => (b.agree n (Nat.lt_of_lt_of_le hn a.le)).trans (a.agree n hn), fun n b' ho => by
      rcases b.own n b' ho with h1 | h1
      · rcases a.own n b' h1 with h2 | h2
        · exact .inl h2
        · exact .inr (by simp [h2])
      · exact .inr (by simp [h1])⟩
theorem FpOk.right' {X : Nat → Prop} {θ θ' : Th} {h h' : List (Nat × R)} {nx nx' : Nat} {f g : List Nat} (hf : FpOk K X θ h (f ++ g)) (a : BacksX K X f θ θ' h h' nx nx' w) : FpOk K X θ' h' g := by
  obtain ⟨n1, n2, n3⟩ := List.nodup_append.1 hf.1
  refine ⟨n2, fun b hb => ?_⟩
  obtain ⟨h1, h2, h3⟩ := hf.2 b (by simp [hb])
  refine ⟨h1, fun n hn => ?_, h3⟩
  rcases a.own n b hn with h4 | h4
  · exact h2 n h4
  · exact n3 b h4 b hb rfl

theorem SatX.give_old {X : Nat → Prop} {θ : Th} {h : List (Nat × R)} {nx n : Nat} (hs : SatX K X θ h nx w) {r : R} {L : Loc} {fp : List Nat} (hL : θ n = some L) (hh : r.holds θ X w L) (hf : FpOk K X θ h fp) (ho : r.owns L → L.b ∈ fp) :
    BacksX K X fp θ θ h ((n, r) :: h) nx nx w := by
  obtain ⟨g1, g2⟩ := hs.give (Th.ext_refl _) hs.fresh hL (fun m _ => rfl) hh (fun h1 => (hf.2 _ (ho h1)).1) (fun h1 => (hf.2 _ (ho h1)).2.1) (fun h1 => (hf.2 _ (ho h1)).2.2)
  refine ⟨g1, Th.ext_refl _, Nat.le_refl _, fun _ _ => rfl, fun m b hm => ?_⟩
  rcases g2 m b hm with h1 | ⟨_, h1, rfl⟩
  · exact .inl h1
  · exact .inr (ho h1)

theorem Loc.val_inj {L L' : Loc} (h : L.val = L'.val) : L = L' := by
  cases L; cases L'
  simp only [Loc.val, Value.slice.injEq] at h
  obtain ⟨rfl, rfl, rfl⟩ := h
  rfl

mutual
theorem backO_sound {X : Nat → Prop} {h0 : List (Nat × R)} {θ0 : Th} (hold : ∀ n r, hfind h0 n = some r → ∃ L, θ0 n = some L ∧ (∀ T l, r = .blk T l → L.a = some ⟨L.b, 0, none⟩) ∧ (∀ ks vs, r = .map ks vs → L.a = some ⟨L.b, 0, none⟩) ∧ (∀ T k xs, r = .own T (.ints k xs) → L.len = xs.length)) :
    ∀ (o : O) {s : SV} {θ : Th} {h : List (Nat × R)} {nx : Nat} {v : Value} {fp : List Nat} {k : List (Nat × R) → Nat → Prop}, θ0.ext θ → SatX K X θ h nx w → V θ0 s v → O.holds X w o v fp → FpOk K X θ h fp → backO h0 o s h nx k →
    ∃ h' nx' θ', k h' nx' ∧ BacksX K X fp θ θ' h h' nx nx' w
  | .any, s, θ, h, nx, v, fp, k, hx, hs, hv, hh, hf, hk => by
    simp only [backO] at hk
    exact ⟨_, _, θ, hk, (GivesX.refl hs _).backs⟩
  | .d x, s, θ, h, nx, v, fp, k, hx, hs, hv, hh, hf, hk => by
    simp only [backO] at hk
    exact ⟨_, _, θ, hk, (GivesX.refl hs _).backs⟩
  | .va _ _, s, θ, h, nx, v, fp, k, hx, hs, hv, hh, hf, hk => by
    simp only [backO] at hk
    exact ⟨_, _, θ, hk, (GivesX.refl hs _).backs⟩
  | .own T x, s, θ, h, nx, v, fp, k, hx, hs, hv, hh, hf, hk => by
    simp only [backO] at hk
    split at hk <;> try exact hk.elim
    rename_i n
    simp only [V] at hv
    obtain ⟨L, hL, rfl⟩ := hv
    simp only [O.holds] at hh
    obtain ⟨L', h1, h2, h3, h4⟩ := hh
    obtain rfl := Loc.val_inj h1
    refine ⟨_, _, θ, hk, hs.give_old (r := .own T x) (hx _ _ hL) ⟨h3, h2, fun hc => ?_⟩ hf (fun ho => ?_)⟩
    · rcases h4 with ⟨h5, _⟩ | ⟨_, _, h5⟩
      · exact absurd h5 hc
      · exact h5
    · rcases h4 with ⟨h5, _⟩ | ⟨_, rfl, _⟩
      · exact absurd h5 ho
      · simp
  | .ptr T l, s, θ, h, nx, v, fp, k, hx, hs, hv, hh, hf, hk => by
    simp only [backO] at hk
    split at hk <;> try exact hk.elim
    rename_i n
    split at hk <;> try exact hk.elim
    rename_i hf0
    obtain ⟨L, hL, hLa, _⟩ := hold _ _ hf0
    have ha := hLa _ _ rfl
    have hv' := ptr_zero hv hL ha
    simp only [O.holds] at hh
    obtain ⟨b, us, f, h1, rfl, h2, h3⟩ := hh
    rw [hv'] at h1
    simp only [Value.pointer.injEq, Option.some.injEq, Addr.mk.injEq, and_true] at h1
    subst h1
    have hf' : FpOk K X θ h (f ++ [L.b]) := ⟨by
      have := hf.1
      simp only [List.nodup_cons] at this
      rw [List.nodup_append]
      exact ⟨this.2, by simp, fun x hx y hy => by simp at hy; subst hy; intro e; subst e; exact this.1 hx⟩, fun c hc => hf.2 c (by simp at hc ⊢; exact hc.symm)⟩
    obtain ⟨ss, h', nx', θ', a1, a2, a3⟩ := instOs_sound l hs h3 hf'.left hk
    have g := a2.sat.give_old (r := .blk T ss) (n := n) (L := L) (fp := [L.b]) (a2.ext _ _ (hx _ _ hL)) ⟨us, ha, h2, a3⟩ (hf'.right a2) (fun _ => by simp)
    have r := a2.backs.trans g
    exact ⟨_, _, _, a1, ⟨r.sat, r.ext, r.le, r.agree, fun m c hm => (r.own m c hm).imp id (fun h => by simp at h ⊢; exact h.symm)⟩⟩
  | .arr T kk xs, s, θ, h, nx, v, fp, k, hx, hs, hv, hh, hf, hk => by
    simp only [backO] at hk
    split at hk <;> try exact hk.elim
    rename_i n
    split at hk <;> try exact hk.elim
    rename_i T0 k0 xs0 hf0
    obtain ⟨hlen, hk⟩ := hk
    obtain ⟨L, hL, _, _, hLl⟩ := hold _ _ hf0
    have hl := hLl _ _ _ rfl
    simp only [V] at hv
    obtain ⟨L1, hL1, hLL, rfl⟩ := hv
    obtain rfl := Option.some.inj (hL.symm.trans hL1)
    simp only [O.holds] at hh
    obtain ⟨L', h1, h2, h3, h4⟩ := hh
    simp only [Value.pointer.injEq, Option.some.injEq, Addr.mk.injEq, and_true] at h1
    have : L = L' := by rw [hLL, h2, hl, ← hlen, h1]
    subst this
    refine ⟨_, _, θ, hk, hs.give_old (r := .own T (.ints kk xs)) (hx _ _ hL) ⟨h3, .inr (by rw [h2]; rfl), fun hc => ?_⟩ hf (fun ho => ?_)⟩
    · rcases h4 with ⟨h5, _⟩ | ⟨_, _, h5⟩
      · exact absurd h5 hc
      · exact h5
    · rcases h4 with ⟨h5, _⟩ | ⟨_, rfl, _⟩
      · exact absurd h5 ho
      · simp
  | .map ks vs, s, θ, h, nx, v, fp, k, hx, hs, hv, hh, hf, hk => by
    simp only [backO] at hk
    split at hk <;> try exact hk.elim
    rename_i n
    split at hk <;> try exact hk.elim
    rename_i hf0
    obtain ⟨L, hL, _, hLa, _⟩ := hold _ _ hf0
    have ha := hLa _ _ rfl
    simp only [V] at hv
    obtain ⟨L', hL', rfl⟩ := hv
    obtain rfl := Option.some.inj (hL.symm.trans hL')
    simp only [O.holds] at hh
    obtain ⟨b, es, clock, h1, rfl, h2, h3⟩ := hh
    simp only [Value.map.injEq, Option.some.injEq] at h1
    subst h1
    exact ⟨_, _, θ, hk, hs.give_old (r := .map ks vs) (hx _ _ hL) ⟨ha, es, clock, h2, h3⟩ hf (fun _ => by simp)⟩
  | .agg l, s, θ, h, nx, v, fp, k, hx, hs, hv, hh, hf, hk => by
    simp only [backO] at hk
    split at hk <;> try exact hk.elim
    simp only [V] at hv
    obtain ⟨us, rfl, hvs⟩ := hv
    simp only [O.holds] at hh
    obtain ⟨us', h1, h2⟩ := hh
    have : us = us' := by
      simp only [Value.agg.injEq] at h1
      exact congrArg Array.toList h1
    subst this
    exact backOs_sound hold l hx hs hvs h2 hf hk
theorem backOs_sound {X : Nat → Prop} {h0 : List (Nat × R)} {θ0 : Th} (hold : ∀ n r, hfind h0 n = some r → ∃ L, θ0 n = some L ∧ (∀ T l, r = .blk T l → L.a = some ⟨L.b, 0, none⟩) ∧ (∀ ks vs, r = .map ks vs → L.a = some ⟨L.b, 0, none⟩) ∧ (∀ T k xs, r = .own T (.ints k xs) → L.len = xs.length)) :
    ∀ (l : List O) {ss : List SV} {θ : Th} {h : List (Nat × R)} {nx : Nat} {vs : List Value} {fp : List Nat} {k : List (Nat × R) → Nat → Prop}, θ0.ext θ → SatX K X θ h nx w → VL θ0 ss vs → OL.holds X w l vs fp → FpOk K X θ h fp → backOs h0 l ss h nx k →
    ∃ h' nx' θ', k h' nx' ∧ BacksX K X fp θ θ' h h' nx nx' w
  | [], [], θ, h, nx, vs, fp, k, hx, hs, hv, hh, hf, hk => by
    simp only [backOs] at hk
    exact ⟨_, _, θ, hk, (GivesX.refl hs _).backs⟩
  | [], _ :: _, _, _, _, _, _, _, _, _, _, _, _, hk => by simp [backOs] at hk
  | _ :: _, [], _, _, _, _, _, _, _, _, _, _, _, hk => by simp [backOs] at hk
  | o :: l, s :: ss, θ, h, nx, [], fp, k, hx, hs, hv, hh, hf, hk => by simp [VL] at hv
  | o :: l, s :: ss, θ, h, nx, v :: vs, fp, k, hx, hs, hv, hh, hf, hk => by
    simp only [backOs] at hk
    simp only [VL] at hv
    simp only [OL.holds] at hh
    obtain ⟨f, g, rfl, h1, h2⟩ := hh
    obtain ⟨h', nx', θ', a1, a2⟩ := backO_sound hold o hx hs hv.1 h1 hf.left hk
    obtain ⟨h'', nx'', θ'', b1, b2⟩ := backOs_sound hold l (Th.ext_trans hx a2.ext) a2.sat hv.2 h2 (hf.right' a2) a1
    exact ⟨_, _, _, b1, a2.trans b2⟩
end
end
end Go.Z

/- Calls: sound. -/
namespace Go.Z
open Go.RowKit

section
variable {P : Program} {K : Ctx} {θ : Th} {h : List (Nat × R)} {nx : Nat} {w : World}

theorem V_ret {ss : List SV} {us : List Value} (hv : VL θ ss us) : V θ (retS ss) (retVal us) := by
  match ss, us, hv with
  | [], [], _ => simp only [retS, retVal, V]; exact ⟨[], rfl, by simp [VL]⟩
  | [s], [u], hv => simp only [VL] at hv; exact hv.1
  | s :: t :: ss, u :: v :: us, hv => simp only [retS, retVal, V]; exact ⟨_, rfl, hv⟩
  | [], _ :: _, hv => simp [VL] at hv
  | _ :: _, [], hv => simp [VL] at hv
  | [_], _ :: _ :: _, hv => simp [VL] at hv
  | _ :: _ :: _, [_], hv => simp [VL] at hv

theorem hold_of (hs : SatH K θ h nx w) : ∀ n r, hfind h n = some r → ∃ L, θ n = some L ∧ (∀ T l, r = .blk T l → L.a = some ⟨L.b, 0, none⟩) ∧ (∀ ks vs, r = .map ks vs → L.a = some ⟨L.b, 0, none⟩) ∧ (∀ T k xs, r = .own T (.ints k xs) → L.len = xs.length) := by
  intro n r hr
  obtain ⟨L, hL, h1⟩ := hs.res n r hr
  refine ⟨L, hL, ?_, ?_, ?_⟩
  · rintro T l rfl; obtain ⟨_, h2, _⟩ := h1; exact h2
  · rintro ks vs rfl; exact h1.1
  · rintro T k xs rfl; exact h1.1.1

theorem callX_sound {f : Nat} {c : Ctr} (hf : FnOk P f c) (hs : SatH K θ h nx w) {ts : List Nat} {args : List SV} {vs : List Value} (hv : VL θ args vs) {k : HK} (hq : callX P ts c args h nx k) :
    Calls P f vs.toArray w fun e w' => ∃ s h' nx' θ' v, e = .returned v ∧ k s h' nx' ∧ SatH K θ' h' nx' w' ∧ θ.ext θ' ∧ V θ' s v ∧ nx ≤ nx' := by
  have hq0 : glIn c.gl (cond c.ro (freezeRd h c.own args) h) ∧ callX0 P ts c args h nx k := by
    unfold callX at hq
    split at hq
    · rename_i hg; rw [hg]; exact ⟨trivial, hq⟩
    · rename_i g l hg; rw [hg]; exact hq
  obtain ⟨hgl, hq⟩ := hq0
  unfold callX0 at hq
  have hs0 : SatH K θ (cond c.ro (freezeRd h c.own args) h) nx w := by
    cases c.ro
    · exact hs
    · exact freezeRd_sound hs
  generalize cond c.ro (freezeRd h c.own args) h = h0 at hq hs0 hgl
  split at hq
  · exact hq.elim
  rename_i as ns rn hargs
  obtain ⟨hpre, hq1⟩ := hq
  obtain ⟨hc, hq2⟩ := cond_false hq1
  simp only [Bool.and_eq_true, Bool.or_eq_true] at hc
  obtain ⟨⟨hnd, hdj⟩, hro⟩ := hc
  have hnd := nodupB_sound hnd
  have hdj := disjB_sound hdj
  obtain ⟨fp, hN, hrn, hhold⟩ := argsOf_sound hs0 hv hargs
  have hfpn := hN.2.1 hnd
  have notfree : ∀ b, Free K θ h0 b → b ∉ fp := fun b hb hm => by obtain ⟨n, _, hn⟩ := hN.1 b hm; exact hb.1 n hn
  let A : Nat → Prop := fun b => c.ro = true → Free K θ h0 b
  have hT : Takes K θ h0 rn (fun b => A b ∧ b ∉ fp) := by
    refine ⟨fun b hb => ⟨fun _ => hb, notfree b hb⟩, fun n hn b ho => ⟨fun hr => ?_, fun hm => ?_⟩⟩
    · rw [hrn hr] at hn; cases hn
    · obtain ⟨m, h1, h2⟩ := hN.1 b hm
      exact hdj n hn (hs0.dis _ _ _ h2 ho ▸ h1)
  have hlt : ∀ b ∈ fp, b < w.heap.size := fun b hb => by obtain ⟨n, _, hn⟩ := hN.1 b hb; exact OwnsAt.lt hs0 hn
  have hG : GOK c.gl A w fp := fun x hx => by
    obtain ⟨g1, g2⟩ := glIn_sound hs0 hgl x hx
    exact ⟨fun _ => g1, notfree _ g1, g2⟩
  refine (hf w A as vs fp (hhold _ hT) hfpn hlt hpre hG).mono ?_
  rintro e w' ⟨rs, fu, fr, rfl, hfr, hfo, hnew, hup, hres⟩
  obtain ⟨s1, s2⟩ := hs0.called hN hN.2.2 hfr hfo hnew
  have conv : OL.holds (fun b => (w.heap.size ≤ b ∨ Free K θ h0 b ∨ b ∈ fp) ∧ b ∉ fu ++ fr) w' (c.upd as) vs fu ∧
      OL.holds (fun b => (w.heap.size ≤ b ∨ Free K θ h0 b ∨ b ∈ fp) ∧ b ∉ fu ++ fr) w' (c.res as) rs fr := by
    rcases hro with hr | hp
    · have hk : Keeps (After w A fp (fu ++ fr)) (fun b => (w.heap.size ≤ b ∨ Free K θ h0 b ∨ b ∈ fp) ∧ b ∉ fu ++ fr) w' w' :=
        fun b _ hb => ⟨⟨hb.1.imp id (fun h => h.imp (fun h => h hr) id), hb.2⟩, rfl⟩
      exact ⟨OL.holds_mono hk _ _ _ (fun _ _ => rfl) hup, OL.holds_mono hk _ _ _ (fun _ _ => rfl) hres⟩
    · exact ⟨OL.plain_holds _ hp.2 hup, OL.plain_holds _ hp.1 hres⟩
  obtain ⟨h1, nx1, θ1, b1, b2⟩ := backOs_sound (hold_of hs0) _ (Th.ext_refl _) s1 hv conv.1 s2.left hq2
  obtain ⟨ss, h2, nx2, θ2, c1, c2, c3⟩ := instOs_sound _ b2.sat conv.2 (s2.right' b2) b1
  exact ⟨_, _, _, _, _, rfl, c1, c2.sat.toH, Th.ext_trans b2.ext c2.ext, V_ret c3, Nat.le_trans b2.le c2.le⟩

theorem scalars_holds {X : Nat → Prop} : ∀ {rs : List O} {xs : List Value} {us : List Value} {fp : List Nat}, scalarsOf rs = some xs → OL.holds X w rs us fp → us = xs
  | [], xs, us, fp, h, hh => by
    simp [scalarsOf] at h; subst h
    cases us with
    | nil => rfl
    | cons _ _ => simp [OL.holds] at hh
  | r :: rs, xs, us, fp, h, hh => by
    unfold scalarsOf at h
    split at h
    · rename_i heq; cases heq
    · rename_i x rs' heq
      cases heq
      split at h <;> cases h
      rename_i ys hys
      cases us with
      | nil => simp [OL.holds] at hh
      | cons u us =>
        simp only [OL.holds, O.holds] at hh
        obtain ⟨f, g, _, ⟨⟨rfl, _⟩, _⟩, h2⟩ := hh
        rw [scalars_holds hys h2]
    · cases h

theorem callQ_sound {f : Nat} {c : Ctr} (hf : FnOk P f c) (hs : SatH K θ h nx w) {ts : List Nat} {args : List SV} {vs : List Value} (hv : VL θ args vs) {k : SV → Prop} (hq : callQ P ts c args h k) :
    ∃ s v, k s ∧ V θ s v ∧ ∀ w', Below w.heap.size w w' → Calls P f vs.toArray w' fun e w'' => e = .returned v ∧ Below w.heap.size w w'' := by
  have hq0 : glIn c.gl h ∧ callQ0 P ts c args h k := by
    unfold callQ at hq
    split at hq
    · rename_i hg; rw [hg]; exact ⟨trivial, hq⟩
    · rename_i g l hg; rw [hg]; exact hq
  obtain ⟨hgl, hq⟩ := hq0
  unfold callQ0 at hq
  split at hq <;> try exact hq.elim
  rename_i as rn hargs
  split at hq <;> try exact hq.elim
  rename_i xs hsc
  obtain ⟨hpre, hk⟩ := hq
  have hvx : VL θ (xs.map .c) xs := by
    clear hsc hk
    induction xs with
    | nil => simp [VL]
    | cons x xs ih => simp only [List.map_cons, VL]; exact ⟨by simp only [V], ih⟩
  refine ⟨_, retVal xs, hk, V_ret hvx, fun w' hw' => ?_⟩
  have hs' := hs.below hw'
  obtain ⟨fp, hN, _, hhold⟩ := argsOf_sound hs' hv hargs
  have hfp : fp = [] := by
    cases fp with
    | nil => rfl
    | cons b fp =>
      obtain ⟨n, hn, _⟩ := hN.1 b (by simp)
      cases hn
  subst hfp
  refine (hf w' (fun _ => True) as vs [] (hhold _ ⟨fun b _ => ⟨trivial, by simp⟩, fun n _ b _ => ⟨trivial, by simp⟩⟩) List.nodup_nil (fun b hb => by cases hb) hpre (fun x hx => ⟨trivial, by simp, (glIn_sound hs' hgl x hx).2⟩)).mono ?_
  rintro e w'' ⟨rs, fu, fr, rfl, hfr, _, _, _, hres⟩
  rw [scalars_holds hsc hres]
  exact ⟨rfl, hw'.trans ⟨hfr.os, hfr.tape, hfr.output, hfr.size, fun b hb => hfr.block b (Nat.lt_of_lt_of_le hb hw'.size) (by simp)⟩⟩
end
end Go.Z

/- Arrays as rows of cells; append. -/
namespace Go.Z
open Go.RowKit

/-- A row of cells reads as this data. -/
def D.cellsAre (X : Nat → Prop) (w : World) (cs : List Value) : D → Prop
  | .ints k xs => cs = xs.map (Value.int k)
  | .recs es n f => cs.length = n * es ∧ ∀ i, i < n → ∀ j, j < es → ∃ c, cs[i * es + j]? = some c ∧ (f i j).holds X w c
  | _ => False

theorem D.cellsAre_length {X : Nat → Prop} {w : World} {cs : List Value} {d : D} (h : d.cellsAre X w cs) : cs.length = d.len * d.es := by
  cases d with
  | v x => exact h.elim
  | ptr _ _ _ => exact h.elim
  | fn _ _ _ _ => exact h.elim
  | map _ _ => exact h.elim
  | ints k xs => simp only [D.cellsAre] at h; subst h; simp [D.len, D.es]
  | recs es n f => exact h.1

theorem D.holds_one {X : Nat → Prop} {w : World} {d : D} {c : Value} (h : d.holds X w c) : c.oneCell' = true := by
  cases d with
  | v x => obtain ⟨rfl, h2⟩ := h; exact h2
  | ints k xs => obtain ⟨L, rfl, _⟩ := h; rfl
  | recs es n f => obtain ⟨L, rfl, _⟩ := h; rfl
  | ptr T n f => obtain ⟨b, us, rfl, _⟩ := h; rfl
  | fn g m n f => obtain ⟨us, rfl, _⟩ := h; rfl
  | map ks vs => obtain ⟨b, es, clock, rfl, _⟩ := h; rfl

theorem D.cellsAre_one {X : Nat → Prop} {w : World} {cs : List Value} {d : D} (h : d.cellsAre X w cs) : ∀ u ∈ cs, u.oneCell' = true := by
  intro u hu
  cases d with
  | v x => exact h.elim
  | ptr _ _ _ => exact h.elim
  | fn _ _ _ _ => exact h.elim
  | map _ _ => exact h.elim
  | ints k xs =>
    simp only [D.cellsAre] at h; subst h
    obtain ⟨z, _, rfl⟩ := List.mem_map.1 hu; rfl
  | recs es n f =>
    obtain ⟨h1, h2⟩ := h
    obtain ⟨p, hp, hpu⟩ := List.getElem_of_mem hu
    have hes : 0 < es := by
      rcases Nat.eq_zero_or_pos es with e | e
      · subst e; simp at h1; subst h1; simp at hp
      · exact e
    have hdiv : p / es < n := by rw [Nat.div_lt_iff_lt_mul hes]; omega
    obtain ⟨c, h3, h4⟩ := h2 (p / es) hdiv (p % es) (Nat.mod_lt _ hes)
    rw [Nat.mul_comm, Nat.div_add_mod, List.getElem?_eq_getElem hp, hpu] at h3
    cases h3
    exact D.holds_one h4

theorem D.cellsAre_mono {X X' : Nat → Prop} {w w' : World} (hk : Keeps X X' w w') {cs : List Value} {d : D} (h : d.cellsAre X w cs) : d.cellsAre X' w' cs := by
  cases d with
  | v x => exact h.elim
  | ptr _ _ _ => exact h.elim
  | fn _ _ _ _ => exact h.elim
  | map _ _ => exact h.elim
  | ints k xs => exact h
  | recs es n f => exact ⟨h.1, fun i hi j hj => let ⟨c, h3, h4⟩ := h.2 i hi j hj; ⟨c, h3, D.holds_mono hk _ _ h4⟩⟩

/-- All cells of an array, as a list. -/
theorem list_of_fn (p : Nat → Value → Prop) : ∀ (n : Nat), (∀ i, i < n → ∃ v, p i v) → ∃ l : List Value, l.length = n ∧ ∀ i v, l[i]? = some v → p i v
  | 0, _ => ⟨[], rfl, fun i v h => by simp at h⟩
  | n + 1, h => by
    obtain ⟨l, h1, h2⟩ := list_of_fn p n (fun i hi => h i (by omega))
    obtain ⟨v, hv⟩ := h n (by omega)
    refine ⟨l ++ [v], by simp [h1], fun i u hu => ?_⟩
    rw [List.getElem?_append] at hu
    split at hu
    · exact h2 i u hu
    · rename_i hge
      have : i = n := by
        have := (List.getElem?_eq_some_iff.1 hu).1
        simp at this; omega
      subst this
      rw [h1] at hu
      simp at hu; subst hu; exact hv

theorem D.at_cells {X : Nat → Prop} {w : World} {L : Loc} {d : D} (h : d.at X w L) :
    ∃ cs : List Value, cs.length = d.len * d.es ∧ (∀ j v, cs[j]? = some v → w.cell? ⟨L.b, L.o + j, none⟩ = some v) ∧ d.cellsAre X w cs := by
  cases d with
  | v x => exact h.elim
  | ptr _ _ _ => exact h.elim
  | fn _ _ _ _ => exact h.elim
  | map _ _ => exact h.elim
  | ints k xs =>
    obtain ⟨h1, h2, h3⟩ := h
    refine ⟨xs.map (Value.int k), by simp [D.len, D.es], fun j v hv => ?_, rfl⟩
    rw [List.getElem?_map] at hv
    cases hx : xs[j]? with
    | none => rw [hx] at hv; simp at hv
    | some z => rw [hx] at hv; simp at hv; subst hv; exact h3 j z hx
  | recs es n f =>
    obtain ⟨h1, h2, h3⟩ := h
    by_cases hes : es = 0
    · subst hes
      exact ⟨[], by simp [D.len, D.es], fun j v hv => by simp at hv, by simp, fun i hi j hj => by omega⟩
    · have hpos : 0 < es := by omega
      obtain ⟨l, l1, l2⟩ := list_of_fn (fun p v => w.cell? ⟨L.b, L.o + p, none⟩ = some v) (n * es) (fun p hp => by
        have hdiv : p / es < n := by rw [Nat.div_lt_iff_lt_mul hpos]; omega
        obtain ⟨c, h4, _⟩ := h3 (p / es) hdiv (p % es) (Nat.mod_lt _ hpos)
        refine ⟨c, ?_⟩
        rw [Nat.mul_comm, Nat.div_add_mod] at h4
        exact h4)
      refine ⟨l, l1, l2, l1, fun i hi j hj => ?_⟩
      obtain ⟨c, h4, h5⟩ := h3 i hi j hj
      have hlt : i * es + j < l.length := by
        rw [l1]
        have : (i + 1) * es ≤ n * es := Nat.mul_le_mul_right _ hi
        rw [Nat.add_mul] at this; omega
      have h6 := l2 _ _ (List.getElem?_eq_getElem hlt)
      rw [h4] at h6
      cases h6
      exact ⟨_, List.getElem?_eq_getElem hlt, h5⟩

theorem D.at_of_cells {X : Nat → Prop} {w : World} {L : Loc} {d : D} {cs : List Value} (hlen : L.len = d.len) (hcap : L.len ≤ L.cap)
    (hc : ∀ j v, cs[j]? = some v → w.cell? ⟨L.b, L.o + j, none⟩ = some v) (h : d.cellsAre X w cs) : d.at X w L := by
  cases d with
  | v x => exact h.elim
  | ptr _ _ _ => exact h.elim
  | fn _ _ _ _ => exact h.elim
  | map _ _ => exact h.elim
  | ints k xs =>
    simp only [D.cellsAre] at h; subst h
    exact ⟨hlen, hcap, fun i z hz => hc i _ (by rw [List.getElem?_map, hz]; rfl)⟩
  | recs es n f => exact ⟨hlen, hcap, fun i hi j hj => let ⟨c, h3, h4⟩ := h.2 i hi j hj; ⟨c, hc _ _ h3, h4⟩⟩

/-- One array behind the other. -/
def D.app : D → D → Option D
  | .ints k xs, .ints k' ys => if k = k' then some (.ints k (xs ++ ys)) else none
  | .recs es n f, .recs es' m g => cond (Nat.beq es es') (some (.recs es (n + m) (fun i j => cond (Nat.blt i n) (f i j) (g (i - n) j)))) none
  | _, _ => none

theorem D.app_cells {X : Nat → Prop} {w : World} {d e r : D} {cs ds : List Value} (h : D.app d e = some r) (hd : d.cellsAre X w cs) (he : e.cellsAre X w ds) :
    r.cellsAre X w (cs ++ ds) ∧ r.len = d.len + e.len ∧ r.es = d.es ∧ e.es = d.es := by
  cases d with
  | v x => exact hd.elim
  | ptr _ _ _ => exact hd.elim
  | fn _ _ _ _ => exact hd.elim
  | map _ _ => exact hd.elim
  | ints k xs =>
    cases e with
    | v x => exact he.elim
    | ptr _ _ _ => exact he.elim
    | fn _ _ _ _ => exact he.elim
    | map _ _ => exact he.elim
    | recs es n f => cases h
    | ints k' ys =>
      simp only [D.app] at h
      split at h <;> cases h
      rename_i hk; subst hk
      simp only [D.cellsAre] at hd he
      subst hd he
      exact ⟨by simp [D.cellsAre], by simp [D.len], rfl, rfl⟩
  | recs es n f =>
    cases e with
    | v x => exact he.elim
    | ptr _ _ _ => exact he.elim
    | fn _ _ _ _ => exact he.elim
    | map _ _ => exact he.elim
    | ints k' ys => cases h
    | recs es' m g =>
      simp only [D.app] at h
      cases hb : Nat.beq es es' with
      | false => rw [hb] at h; cases h
      | true =>
        rw [hb] at h; cases h
        have e1 := nbeq hb; subst e1
        obtain ⟨l1, h1⟩ := hd
        obtain ⟨l2, h2⟩ := he
        refine ⟨⟨by simp [l1, l2, Nat.add_mul], fun i hi j hj => ?_⟩, rfl, rfl, rfl⟩
        by_cases hin : i < n
        · obtain ⟨c, h3, h4⟩ := h1 i hin j hj
          refine ⟨c, ?_, ?_⟩
          · rw [List.getElem?_append_left (List.getElem?_eq_some_iff.1 h3).1]; exact h3
          · have : Nat.blt i n = true := Nat.ble_eq ▸ hin
            simp only [this, cond_true]; exact h4
        · obtain ⟨c, h3, h4⟩ := h2 (i - n) (by omega) j hj
          refine ⟨c, ?_, ?_⟩
          · have : (i - n) * es = i * es - n * es := Nat.sub_mul _ _ _
            have hle : n * es ≤ i * es := Nat.mul_le_mul_right _ (by omega)
            rw [List.getElem?_append_right (by omega), l1, show i * es + j - n * es = (i - n) * es + j by omega]
            exact h3
          · have : Nat.blt i n = false := by
              cases hb' : Nat.blt i n with
              | false => rfl
              | true => exact absurd (nblt hb') hin
            simp only [this]; exact h4

/-- What is appended. -/
def SrcOk (P : Program) (i : TypeInfo) (z : Value) (xT : Nat) (x : Value) (m : Nat) (news : List Value) (w : World) : Prop :=
  (∃ dx, P.underlying xT = some dx ∧ (∀ k, dx ≠ .int k) ∧ (∀ w', (Builtin.lenOf x).run P w' = .ok m w') ∧ (Builtin.firstCells i.size m x).run P w = .ok news.toArray w ∧
    (Builtin.firstCells i.size m x).run P w.drew = .ok news.toArray w.drew) ∨
  (∃ k k', P.underlying xT = some (.int k) ∧ x = .int k' m ∧ m ≤ 9223372036854775807 ∧ m * i.bytes ≤ 281474976710656 ∧ news = (Builtin.zeroCells z.cells m).toList)

section
variable {P : Program} {w : World} {sT e xT ty : Nat} {i : TypeInfo} {z : Value} {x : Value} {m : Nat} {news : List Value}

theorem zeroCells_none (zs : Array Value) (n : Nat) (h : n * zs.size = 0) : Builtin.zeroCells zs n = #[] := by
  unfold Builtin.zeroCells; rw [h]; simp

theorem wrap_i64_nat (m : Nat) (h : m ≤ 9223372036854775807) : IntKind.i64.wrap (m : Int) = m := IntWalk.i64_in _ (by omega)

theorem run_app_room (hT : P.underlying sT = some (.slice e)) (hi : P.info? e = some i) (hz : i.zero = some z) (hzs : z.cells.size = i.size) (hsrc : SrcOk P i z xT x m news w)
    (base : Option Addr) (n cap : Nat) (hroom : n + m ≤ cap) (w' : World)
    (hst : ∀ a, base = some a → (storeCells (a.add (n * i.size)) news).run P w = .ok () w') (hno : base = none → w' = w) :
    (Builtin.append_ #[sT, xT] ty #[.slice base n cap, x]).run P w = .ok (.slice base (n + m) cap) w' := by
  rcases hsrc with ⟨dx, h1, h2, h3, h4, _⟩ | ⟨k, k', h1, rfl, h2, h3, rfl⟩
  · cases base with
    | none =>
      have := hno rfl; subst this
      simp [Builtin.append_, run_underlying hT, run_sizeOf hi, run_underlying h1, h3, h4, hroom]
    | some a =>
      have := hst a rfl
      simp [Builtin.append_, run_underlying hT, run_sizeOf hi, run_underlying h1, h3, h4, hroom, this]
  · have hw := wrap_i64_nat m h2
    have e1 : ¬ ((m : Int) < 0) := by omega
    have e2 : ¬ ((281474976710656 : Int) < (m : Int) * (i.bytes : Int)) := by
      have e3 : ((m * i.bytes : Nat) : Int) = (m : Int) * (i.bytes : Int) := Int.natCast_mul _ _
      omega
    cases base with
    | none =>
      have := hno rfl; subst this
      simp [Builtin.append_, run_underlying hT, run_sizeOf hi, run_typeInfo hi, run_underlying h1, hroom, asInt, asIntOf, hw, e1, e2, run_zero hi hz]
    | some a =>
      have := hst a rfl
      simp [Builtin.append_, run_underlying hT, run_sizeOf hi, run_typeInfo hi, run_underlying h1, hroom, asInt, asIntOf, hw, e1, e2, run_zero hi hz]
      split
      · rename_i h0
        rw [zeroCells_none _ _ (by rw [hzs]; exact h0)] at this
        rw [this]; rfl
      · rw [this]; rfl

theorem run_app_grow (hT : P.underlying sT = some (.slice e)) (hi : P.info? e = some i) (hz : i.zero = some z) (hzs : z.cells.size = i.size) (hsrc : SrcOk P i z xT x m news w)
    (base : Option Addr) (n cap : Nat) (olds : List Value) (hgrow : cap < n + m) (hold : (Builtin.firstCells i.size n (.slice base n cap)).run P w.drew = .ok olds.toArray w.drew)
    (h63 : n + m ≤ 9223372036854775807) (hbytes : (n + m) * i.bytes ≤ 140737488355328) :
    (Builtin.append_ #[sT, xT] ty #[.slice base n cap, x]).run P w = .ok (.slice (some ⟨w.heap.size, 0, none⟩) (n + m) (grownCap w (n + m) cap e))
      (w.drew.alloc (.cells (olds.toArray ++ news.toArray ++ Builtin.zeroCells z.cells (grownCap w (n + m) cap e - (n + m))) e)) := by
  have hn : ¬ (n + m ≤ cap) := by omega
  have h48 := growslice_fits (old := cap) hgrow hbytes
  have h48' : ¬ (281474976710656 < Builtin.nextslicecap (n + m) cap * i.bytes) := by omega
  have h63' : ¬ (9223372036854775807 < ((n : Int) + (m : Int))) := by omega
  rcases hsrc with ⟨dx, h1, h2, h3, _, h5⟩ | ⟨k, k', h1, rfl, h2, h3, rfl⟩
  · simp [Builtin.append_, run_underlying hT, run_sizeOf hi, run_typeInfo hi, run_underlying h1, h3, h5, hn, h63', h48', Question.forced, hold, run_zero hi hz, newRow, grownCap]
    congr 2
    apply Array.ext'
    simp
  · have hw := wrap_i64_nat m h2
    have e1 : ¬ ((m : Int) < 0) := by omega
    have e2 : ¬ ((281474976710656 : Int) < (m : Int) * (i.bytes : Int)) := by
      have e3 : ((m * i.bytes : Nat) : Int) = (m : Int) * (i.bytes : Int) := Int.natCast_mul _ _
      omega
    simp [Builtin.append_, run_underlying hT, run_sizeOf hi, run_typeInfo hi, run_underlying h1, hn, h63', h48', Question.forced, hold, run_zero hi hz, newRow, grownCap, asInt, asIntOf, hw, e1, e2]
    intro h0
    rw [zeroCells_none z.cells m (by rw [hzs]; exact h0)]
    simp
end
end Go.Z

/- Operations that write or make memory: what they do to the symbolic state. -/
namespace Go.Z
open Go.RowKit

/-- An array of integers, all zero: their kind, how many. -/
def zeroInts (P : Program) (T : Nat) : Option (IntKind × Nat) :=
  match P.underlying T with
  | some (.array n e) => match P.underlying e, zeroS P T with
    | some (.int kk), some l => cond (Nat.beq l.length n && l.all (isZ kk)) (some (kk, n)) none
    | _, _ => none
  | _ => none
where
  isZ (kk : IntKind) : SV → Bool
    | .c (.int k' 0) => decide (k' = kk)
    | _ => false

/-- A new variable. -/
def allocL (P : Program) (T : Nat) (h : List (Nat × R)) (nx : Nat) (k : HK) : Prop :=
  match zeroInts P T with
  | some (kk, n) => k (.q nx) ((nx, .own T (.ints kk (List.replicate n 0))) :: h) (nx + 1)
  | none => match zeroS P T with
    | some l => k (.p nx 0) ((nx, .blk T l) :: h) (nx + 1)
    | none => False

def boxL (T : Nat) (s : SV) (h : List (Nat × R)) (nx : Nat) (k : HK) : Prop :=
  match s with
  | .arr kk xs => k (.q nx) ((nx, .own T (.ints kk xs)) :: h) (nx + 1)
  | s => match cellsS s with
    | some l => k (.p nx 0) ((nx, .blk T l) :: h) (nx + 1)
    | none => False

def splice (l : List SV) (o : Nat) (cs : List SV) : List SV := l.take o ++ (cs ++ l.drop (o + cs.length))

def intOf1 : SV → Option (IntKind × Int)
  | .c (.int k z) => some (k, z)
  | _ => none

/-- A record's element, some of its fields new. -/
def setRec (f : Nat → Nat → D) (i o : Nat) (ds : List D) : Nat → Nat → D := fun i' j' =>
  cond (Nat.beq i' i && Nat.ble o j' && Nat.blt j' (o + ds.length)) (ds.getD (j' - o) (f i' j')) (f i' j')

def storeL (P : Program) (T : Nat) (t s : SV) (h : List (Nat × R)) (nx : Nat) (k : List (Nat × R) → Nat → Prop) : Prop :=
  match t with
  | .p n o => match hfind h n, kindT P T, cellsS s with
    | some (.blk T' l), some (_, sz), some cs => cond (Nat.beq cs.length sz && Nat.ble (o + sz) l.length && cs.all oneS) (k ((n, .blk T' (splice l o cs)) :: h) nx) False
    | _, _, _ => False
  | .e n es i o => match hfind h n, kindT P T with
    | some (.own T' (.ints kk xs)), some (_, sz) => match cellsS s with
      | some [c] => match intOf1 c with
        | some (k', z) => cond (Nat.beq sz 1 && Nat.beq es 1 && Nat.beq o 0) (kk = k' ∧ k ((n, .own T' (.ints kk (xs.set i z))) :: h) nx) False
        | none => False
      | _ => False
    | some (.own T' (.recs es' m f)), some (_, sz) => match cellsS s with
      | some cs => match dsOf P T (freezeL h cs) cs with
        | some ds => cond (Nat.beq cs.length sz && Nat.beq es es' && Nat.ble (o + sz) es && nodead n (freezeL h cs) T') (k ((n, .own T' (.recs es' m (setRec f i o ds))) :: freezeL h cs) nx) False
        | none => False
      | none => False
    | _, _ => False
  | .q n => match hfind h n, kindT P T, s with
    | some (.own T' (.ints kk xs)), some (_, sz), .arr kk' ys => (kk = kk' ∧ sz = ys.length ∧ xs.length = ys.length) ∧ k ((n, .own T' (.ints kk' ys)) :: h) nx
    | _, _, _ => False
  | _ => False
where
  /-- the array itself is owned still -/
  nodead (n : Nat) (h : List (Nat × R)) (T' : Nat) : Bool :=
    match hfind h n with
    | some (.own T _) => Nat.beq T T'
    | _ => false

/-- What is appended: its data. -/
def srcD (P : Program) (e xT : Nat) (x : SV) (h : List (Nat × R)) : Option (Prop × D) :=
  match P.underlying xT, x with
  | some (.slice _), .a m => match arrOf h m with
    | some d => some (True, d)
    | none => none
  | some .string, .c (.string s) => match P.underlying e with
    | some (.int .u8) => some (True, .ints .u8 (s.data.toList.map fun b => (b.toNat : Int)))
    | _ => none
  | some (.int _), .c (.int _ z) => match P.underlying e with
    | some (.int k) => match P.info? e with
      | some i => match i.zero with
        | some (.int k' 0) => some (0 ≤ z ∧ z ≤ 9223372036854775807 ∧ z.toNat * i.bytes ≤ 281474976710656 ∧ k' = k, .ints k (List.replicate z.toNat 0))
        | _ => none
      | none => none
    | _ => none
  | _, _ => none

def appendL (P : Program) (sT xT : Nat) (s x : SV) (h : List (Nat × R)) (nx : Nat) (k : HK) : Prop :=
  match P.underlying sT with
  | some (.slice e) => match P.info? e with
    | some i => match i.zero with
      | some z => cond (Nat.beq z.cells.size i.size && Nat.blt 0 i.size && Nat.blt 0 i.bytes)
        (match s, x with
        | .nil, .nil => cond (isSl P xT) (k .nil h nx) False
        | .a n, .nil => match arrOf h n with
          | some _ => cond (isSl P xT) (k (.a n) h nx) False
          | none => False
        | .nil, _ => match srcD P e xT x h with
          | some (c, d) => cond (Nat.beq d.es i.size) (c ∧ d.len * i.bytes ≤ 140737488355328 ∧ k (.a nx) ((nx, .own e d) :: h) (nx + 1)) False
          | none => False
        | .a n, _ => match hfind h n with
          | some (.own T d) => match srcD P e xT x h with
            | some (c, d') => match D.app d d' with
              | some r => cond (Nat.beq T e && Nat.beq d.es i.size && notSame n x) (c ∧ (d.len + d'.len) * i.bytes ≤ 140737488355328 ∧ k (.a nx) ((nx, .own e r) :: (n, .dead) :: h) (nx + 1)) False
              | none => False
            | none => False
          | _ => False
        | _, _ => False) False
      | none => False
    | none => False
  | _ => False
where
  isSl (P : Program) (T : Nat) : Bool :=
    match P.underlying T with
    | some (.slice _) => true
    | _ => false
  notSame (n : Nat) (x : SV) : Bool :=
    match x with
    | .a m => !Nat.beq n m
    | _ => true

/-- A slice written out. -/
def gridD (es : Nat) (ds : List D) : Nat → Nat → D := fun i j => ds.getD (i * es + j) (.v undef)

def placesSl (es : Nat) (i : Nat) : Option (Nat × Nat) := some (i * es, es)

def buildSliceL (P : Program) (T len : Nat) (ixs : List Nat) (vs : List SV) (h : List (Nat × R)) (nx : Nat) (k : HK) : Prop :=
  match P.underlying T with
  | some (.slice e) => match P.info? e with
    | some i => match i.zero with
      | some z => cond (Nat.ble (len * i.size) 1000 && Nat.blt 0 i.size && Nat.beq z.cells.size i.size)
        (match fillS (placesSl i.size) (((List.range (len * i.size)).map fun j => liftK1 (z.cells.toList.getD (j % i.size) undef))) (ixs.zip vs) with
        | some cs => match P.underlying e with
          | some (.int kk) => match intsOf kk cs with
            | some zs => cond (Nat.beq i.size 1) (k (.a nx) ((nx, .own e (.ints kk zs)) :: h) (nx + 1)) False
            | none => False
          | some (.pointer _) => cond (Nat.beq i.size 1) (k (.sl nx len) ((nx, .blk e cs) :: h) (nx + 1)) False
          | _ => match dsOf P e (freezeL h cs) cs with
            | some ds => k (.a nx) ((nx, .own e (.recs i.size len (gridD i.size ds))) :: freezeL h cs) (nx + 1)
            | none => False
        | none => False) False
      | none => False
    | none => False
  | _ => False

def makeSliceL (P : Program) (T : Nat) (l c : SV) (h : List (Nat × R)) (nx : Nat) (k : HK) : Prop :=
  match P.underlying T, l, c with
  | some (.slice e), .c (.int _ n), .c (.int _ m) => match P.underlying e, P.info? e with
    | some (.int kk), some i => match i.zero with
      | some (.int k' 0) => cond (Nat.beq i.size 1) ((0 ≤ n ∧ n ≤ m ∧ m ≤ 9223372036854775807 ∧ m.toNat * i.bytes ≤ 281474976710656 ∧ kk = k') ∧ k (.a nx) ((nx, .own e (.ints kk (List.replicate n.toNat 0))) :: h) (nx + 1)) False
      | _ => False
    | _, _ => False
  | _, _, _ => False

/-- A string's bytes, in new memory. -/
def bytesL (P : Program) (src dst : Nat) (x : SV) (h : List (Nat × R)) (nx : Nat) (k : HK) : Prop :=
  match P.underlying src, P.underlying dst, x with
  | some .string, some (.slice e), .c (.string s) => match P.underlying e with
    | some (.int .u8) => k (.a nx) ((nx, .ro (.ints .u8 (s.data.toList.map fun b => (b.toNat : Int)))) :: h) (nx + 1)
    | _ => False
  | _, _, _ => False

def emptyCol (P : Program) (t : Nat) : Option Col :=
  match P.underlying t with
  | some (.int kk) => some (.ints kk [])
  | some .bool => some (.bools [])
  | some .string => some (.strs [])
  | _ => none
def makeMapL (P : Program) (T : Nat) (r : List SV) (h : List (Nat × R)) (nx : Nat) (k : HK) : Prop :=
  match P.underlying T, r with
  | some (.map kt vt), [] => match emptyCol P kt, emptyCol P vt with
    | some ks, some vs => k (.m nx) ((nx, .map ks vs) :: h) (nx + 1)
    | _, _ => False
  | _, _ => False

/-- A column with an entry at its place, or behind all. -/
def Col.putV (vs : Col) (o : Option Nat) (v : Value) : Option Col :=
  match vs, v with
  | .ints k m, .int k' z => if k = k' then some (.ints k (mputV m o z)) else none
  | .bools m, .bool z => some (.bools (mputV m o z))
  | .strs m, .string z => some (.strs (mputV m o z))
  | _, _ => none
def Col.putK (ks : Col) (o : Option Nat) (v : Value) : Option Col :=
  match ks, v with
  | .ints k m, .int k' z => if k = k' then some (.ints k (mputK m o z)) else none
  | .bools m, .bool z => some (.bools (mputK m o z))
  | .strs m, .string z => some (.strs (mputK m o z))
  | _, _ => none
def Col.del (c : Col) (o : Option Nat) : Col :=
  match c with
  | .ints k m => .ints k (mdel m o)
  | .bools m => .bools (mdel m o)
  | .strs m => .strs (mdel m o)

def mapUpdateL (P : Program) (T : Nat) (x y z : SV) (h : List (Nat × R)) (nx : Nat) (k : List (Nat × R) → Nat → Prop) : Prop :=
  match P.underlying T, x, scal y, scal z with
  | some (.map kt _), .m n, some key, some val => match hfind h n with
    | some (.map ks vs) => match ks.idx key with
      | some o => match ks.putK o key, vs.putV o val with
        | some ks', some vs' => cond (keyKind P kt ks) (k ((n, .map ks' vs') :: h) nx) False
        | _, _ => False
      | none => False
    | _ => False
  | _, _, _, _ => False

def deleteL (P : Program) (T : Nat) (x y : SV) (h : List (Nat × R)) (nx : Nat) (k : HK) : Prop :=
  match P.underlying T, x, scal y with
  | some (.map kt _), .m n, some key => match hfind h n with
    | some (.map ks vs) => match ks.idx key with
      | some o => cond (keyKind P kt ks) (k (.tup []) ((n, .map (ks.del o) (vs.del o)) :: h) nx) False
      | none => False
    | _ => False
  | _, _, _ => False

/-- A copy into the rest of an owned array. -/
def copyL (P : Program) (dT : Nat) (s t : SV) (h : List (Nat × R)) (nx : Nat) (k : HK) : Prop :=
  match P.underlying dT, s, t with
  | some (.slice e), .vw n l, .a m => match hfind h n, arrOf h m, P.info? e with
    | some (.own T (.ints kk xs)), some (.ints kk' ys), some i => cond (Nat.beq i.size 1) ((kk = kk' ∧ l + ys.length ≤ xs.length ∧ 0 < ys.length) ∧ k (.c (.int .i64 (ys.length : Int))) ((n, .own T (.ints kk (xs.take l ++ (ys ++ xs.drop (l + ys.length))))) :: h) nx) False
    | _, _, _ => False
  | _, _, _ => False

def q3 (vs : List SV) (k : SV → SV → SV → Prop) : Prop := match vs with | [s, t, u] => k s t u | _ => False

/-- What is known of functions: contracts; and those that are walked in place. -/
structure CE where
  c : Nat → Option Ctr
  j : Nat → List SV → List (Nat × R) → Nat → HK → Prop
instance : CoeFun CE (fun _ => Nat → Option Ctr) := ⟨CE.c⟩

/-- The loud operations. 'C': what is known of the functions that are called. -/
def stepL (P : Program) (C : CE) (op : Op) (vs : List SV) (h : List (Nat × R)) (nx : Nat) (k : HK) : Prop :=
  match op with
  | .alloc T => allocL P T h nx k
  | .box T _ => q1 vs fun s => boxL T s h nx k
  | .store T _ _ => q2 vs fun t s => storeL P T t s h nx (k .unk)
  | .buildSlice T len parts => buildSliceL P T len (parts.toList.map (·.1)) vs h nx k
  | .makeSlice T _ _ => q2 vs fun l c => makeSliceL P T l c h nx k
  | .convert src dst _ => q1 vs fun s => bytesL P src dst s h nx k
  | .makeMap T _ => makeMapL P T vs h nx k
  | .mapUpdate T _ _ _ => q3 vs fun x y z => mapUpdateL P T x y z h nx (k .unk)
  | .call c => match c.callee, vs with
    | .builtin .delete, _ => match c.argTypes.toList with
      | T :: _ => q2 vs fun x y => deleteL P T x y h nx k
      | _ => False
    | .builtin .copy, _ => match c.argTypes.toList with
      | dT :: _ => q2 vs fun s t => copyL P dT s t h nx k
      | _ => False
    | .builtin .append, _ => match c.argTypes.toList with
      | [sT, xT] => q2 vs fun s x => appendL P sT xT s x h nx k
      | _ => False
    | .value _, .f f nf caps :: args => match C f with
      | some ct => callX P (paramsOf P f) ct (caps.take nf ++ (args ++ caps.drop nf)) h nx k
      | none => C.j f (caps.take nf ++ (args ++ caps.drop nf)) h nx k
    | _, _ => False
  | _ => False
end Go.Z

/- Maps that are written: what becomes of their columns. -/
namespace Go.Z
open Go.RowKit

section
variable {P : Program} {K : Ctx} {θ : Th} {h : List (Nat × R)} {nx : Nat} {w : World}

theorem mputV_spec {ν : Type} (m : List ν) (o : Option Nat) (v : ν) : (∀ i, o ≠ some i → i < m.length → (mputV m o v)[i]? = m[i]?) ∧ (∀ j, o = some j → j < m.length → (mputV m o v)[j]? = some v ∧ (mputV m o v).length = m.length) ∧
    (o = none → (mputV m o v)[m.length]? = some v ∧ (mputV m o v).length = m.length + 1) := by
  cases o with
  | none =>
    refine ⟨fun i _ hi => ?_, fun j hj => (by cases hj), fun _ => ?_⟩
    · simp [mputV, List.getElem?_append_left hi]
    · simp [mputV]
  | some j =>
    refine ⟨fun i hne _ => ?_, fun j' hj hlt => ?_, fun h => by cases h⟩
    · simp only [mputV]
      exact List.getElem?_set_ne (fun e => hne (by rw [e]))
    · cases hj
      simp [mputV, hlt]
theorem mputK_spec {κ : Type} (m : List κ) (o : Option Nat) (x : κ) : (∀ i, i < m.length → (mputK m o x)[i]? = m[i]?) ∧ (∀ j, o = some j → mputK m o x = m) ∧ (o = none → (mputK m o x)[m.length]? = some x ∧ (mputK m o x).length = m.length + 1) := by
  cases o with
  | none =>
    refine ⟨fun i hi => ?_, fun j hj => (by cases hj), fun _ => ?_⟩
    · simp [mputK, List.getElem?_append_left hi]
    · simp [mputK]
  | some j => exact ⟨fun i _ => rfl, fun j' _ => rfl, fun h => by cases h⟩

theorem Col.putV_spec {vs vs' : Col} {o : Option Nat} {v : Value} (hp : vs.putV o v = some vs') : (∀ i, o ≠ some i → i < vs.len → vs'.get? i = vs.get? i) ∧ (∀ j, o = some j → j < vs.len → vs'.get? j = some v ∧ vs'.len = vs.len) ∧
    (o = none → vs'.get? vs.len = some v ∧ vs'.len = vs.len + 1) := by
  have main : ∀ {ν : Type} (enc : ν → Value) (m : List ν) (z : ν), (∀ i, o ≠ some i → i < m.length → ((mputV m o z)[i]?).map enc = (m[i]?).map enc) ∧ (∀ j, o = some j → j < m.length → ((mputV m o z)[j]?).map enc = some (enc z) ∧ (mputV m o z).length = m.length) ∧
      (o = none → ((mputV m o z)[m.length]?).map enc = some (enc z) ∧ (mputV m o z).length = m.length + 1) := by
    intro ν enc m z
    obtain ⟨h1, h2, h3⟩ := mputV_spec m o z
    exact ⟨fun i hi hl => by rw [h1 i hi hl], fun j hj hl => ⟨by rw [(h2 j hj hl).1]; rfl, (h2 j hj hl).2⟩, fun hn => ⟨by rw [(h3 hn).1]; rfl, (h3 hn).2⟩⟩
  unfold Col.putV at hp
  split at hp
  · split at hp <;> cases hp
    rename_i e; subst e
    exact main (Value.int _) _ _
  · cases hp; exact main Value.bool _ _
  · cases hp; exact main Value.string _ _
  · cases hp

theorem Col.putK_spec {vs vs' : Col} {o : Option Nat} {v : Value} (hp : vs.putK o v = some vs') : (∀ i, i < vs.len → vs'.get? i = vs.get? i) ∧ (∀ j, o = some j → vs' = vs) ∧ (o = none → vs'.get? vs.len = some v ∧ vs'.len = vs.len + 1) := by
  have main : ∀ {ν : Type} (enc : ν → Value) (m : List ν) (z : ν), (∀ i, i < m.length → ((mputK m o z)[i]?).map enc = (m[i]?).map enc) ∧ (o = none → ((mputK m o z)[m.length]?).map enc = some (enc z) ∧ (mputK m o z).length = m.length + 1) := by
    intro ν enc m z
    obtain ⟨h1, h2, h3⟩ := mputK_spec m o z
    exact ⟨fun i hl => by rw [h1 i hl], fun hn => ⟨by rw [(h3 hn).1]; rfl, (h3 hn).2⟩⟩
  have same : ∀ {ν : Type} (m : List ν) (z : ν) j, o = some j → mputK m o z = m := fun m z j hj => by rw [hj]; rfl
  unfold Col.putK at hp
  split at hp
  · split at hp <;> cases hp
    rename_i e; subst e
    exact ⟨(main (Value.int _) _ _).1, fun j hj => by rw [same _ _ j hj], (main (Value.int _) _ _).2⟩
  · cases hp; exact ⟨(main Value.bool _ _).1, fun j hj => by rw [same _ _ j hj], (main Value.bool _ _).2⟩
  · cases hp; exact ⟨(main Value.string _ _).1, fun j hj => by rw [same _ _ j hj], (main Value.string _ _).2⟩
  · cases hp

theorem Col.get?_lt {c : Col} {i : Nat} {v : Value} (h : c.get? i = some v) : i < c.len := by
  cases c <;> simp only [Col.get?, Option.map_eq_some_iff] at h <;> obtain ⟨z, hz, _⟩ := h <;> exact (List.getElem?_eq_some_iff.1 hz).1

theorem MapIs.set {es : Array MapEntry} {clock j : Nat} {ks vs vs' : Col} {key val : Value} (hm : MapIs es clock ks vs) (hk : ks.get? j = some key) (hv : vs.putV (some j) val = some vs') :
    MapIs (es.modify j fun e => { e with key, val }) clock ks vs' := by
  have hj := Col.get?_lt hk
  obtain ⟨v1, v2, _⟩ := Col.putV_spec hv
  have hjv : j < vs.len := by rw [hm.vals]; exact hj
  have born : ∀ (i : Nat) (e : MapEntry), (es.modify j fun e => { e with key, val })[i]? = some e → ∃ e0, es[i]? = some e0 ∧ e.born = e0.born ∧ (i = j → e.key = key ∧ e.val = val) ∧ (i ≠ j → e = e0) := by
    intro i e he
    rw [Array.getElem?_modify] at he
    split at he
    · rename_i hji
      subst hji
      cases h0 : es[j]? with
      | none => rw [h0] at he; cases he
      | some e0 => rw [h0] at he; simp at he; subst he; exact ⟨e0, rfl, rfl, fun _ => ⟨rfl, rfl⟩, fun hne => absurd rfl hne⟩
    · rename_i hji
      exact ⟨e, he, rfl, fun e => absurd e.symm hji, fun _ => rfl⟩
  refine ⟨by simp [hm.size], by rw [(v2 j rfl hjv).2, hm.vals], fun i e he => ?_, fun i e he => ?_, fun i i' e e' hlt he he' => ?_⟩
  · obtain ⟨e0, h0, _, h1, h2⟩ := born i e he
    by_cases hij : i = j
    · subst hij
      rw [(h1 rfl).1, (h1 rfl).2]
      exact ⟨hk, (v2 i rfl hjv).1⟩
    · rw [h2 hij]
      obtain ⟨a1, a2⟩ := hm.at_ i e0 h0
      exact ⟨a1, by rw [v1 i (fun h => hij (Option.some.inj h).symm) (Col.get?_lt a2)]; exact a2⟩
  · obtain ⟨e0, h0, h1, _⟩ := born i e he
    rw [h1]; exact hm.born i e0 h0
  · obtain ⟨e0, h0, h1, _⟩ := born i e he
    obtain ⟨e0', h0', h1', _⟩ := born i' e' he'
    rw [h1, h1']; exact hm.order i i' e0 e0' hlt h0 h0'

theorem MapIs.push {es : Array MapEntry} {clock : Nat} {ks ks' vs vs' : Col} {key val : Value} (hm : MapIs es clock ks vs) (hk : ks.putK none key = some ks') (hv : vs.putV none val = some vs') :
    MapIs (es.push { key, val, born := clock }) (clock + 1) ks' vs' := by
  obtain ⟨v1, _, v3⟩ := Col.putV_spec hv
  obtain ⟨k1, _, k3⟩ := Col.putK_spec hk
  have get : ∀ (i : Nat) (e : MapEntry), (es.push { key, val, born := clock })[i]? = some e → (i < es.size ∧ es[i]? = some e) ∨ (i = es.size ∧ e = { key, val, born := clock }) := by
    intro i e he
    rw [Array.getElem?_push] at he
    split at he
    · rename_i hi; subst hi; cases he; exact .inr ⟨rfl, rfl⟩
    · exact .inl ⟨(Array.getElem?_eq_some_iff.1 he).1, he⟩
  refine ⟨by rw [(k3 rfl).2]; simp [hm.size], by rw [(v3 rfl).2, (k3 rfl).2, hm.vals], fun i e he => ?_, fun i e he => ?_, fun i i' e e' hlt he he' => ?_⟩
  · rcases get i e he with ⟨hi, h1⟩ | ⟨hi, rfl⟩
    · obtain ⟨a1, a2⟩ := hm.at_ i e h1
      exact ⟨by rw [k1 i (Col.get?_lt a1)]; exact a1, by rw [v1 i (fun h => by cases h) (Col.get?_lt a2)]; exact a2⟩
    · subst hi
      have e1 : es.size = ks.len := hm.size
      have e2 : es.size = vs.len := by rw [e1, hm.vals]
      exact ⟨by rw [e1]; exact (k3 rfl).1, by rw [e2]; exact (v3 rfl).1⟩
  · rcases get i e he with ⟨hi, h1⟩ | ⟨hi, rfl⟩
    · have := hm.born i e h1; omega
    · simp
  · rcases get i e he with ⟨hi, h1⟩ | ⟨hi, rfl⟩ <;> rcases get i' e' he' with ⟨hi', h1'⟩ | ⟨hi', rfl⟩
    · exact hm.order i i' e e' hlt h1 h1'
    · exact hm.born i e h1
    · omega
    · omega

theorem mdel_len {ν : Type} {m : List ν} {j : Nat} (h : j < m.length) : (mdel m (some j)).length = m.length - 1 := by simp [mdel, List.length_eraseIdx, h]
theorem Col.del_spec {c : Col} {j : Nat} (h : j < c.len) : (c.del (some j)).len = c.len - 1 ∧ ∀ i, (c.del (some j)).get? i = if i < j then c.get? i else c.get? (i + 1) := by
  cases c <;> simp only [Col.len] at h <;> refine ⟨mdel_len h, fun i => ?_⟩ <;> simp only [Col.del, Col.get?, mdel, List.getElem?_eraseIdx] <;> split <;> rfl

theorem MapIs.del {es : Array MapEntry} {clock j : Nat} {ks vs : Col} (hm : MapIs es clock ks vs) (hj : j < es.size) : MapIs (es.eraseIdxIfInBounds j) clock (ks.del (some j)) (vs.del (some j)) := by
  have hk : j < ks.len := by rw [← hm.size]; exact hj
  have hv : j < vs.len := by rw [hm.vals]; exact hk
  obtain ⟨k1, k2⟩ := Col.del_spec hk
  obtain ⟨v1, v2⟩ := Col.del_spec hv
  have get : ∀ i : Nat, (es.eraseIdxIfInBounds j)[i]? = if i < j then es[i]? else es[i + 1]? := by
    intro i
    simp only [Array.eraseIdxIfInBounds, hj, dite_true]
    rw [← Array.getElem?_toList, Array.toList_eraseIdx, List.getElem?_eraseIdx]
    split <;> simp
  refine ⟨?_, by rw [v1, k1, hm.vals], fun i e he => ?_, fun i e he => ?_, fun i i' e e' hlt he he' => ?_⟩
  · rw [k1, ← hm.size]
    simp [Array.eraseIdxIfInBounds, hj]
  · rw [get] at he
    rw [k2, v2]
    split at he
    · rename_i hi; rw [if_pos hi, if_pos hi]; exact hm.at_ i e he
    · rename_i hi; rw [if_neg hi, if_neg hi]; exact hm.at_ (i + 1) e he
  · rw [get] at he
    split at he
    · exact hm.born i e he
    · exact hm.born _ e he
  · rw [get] at he he'
    split at he <;> split at he'
    · exact hm.order _ _ e e' hlt he he'
    · exact hm.order _ _ e e' (by omega) he he'
    · omega
    · exact hm.order _ _ e e' (by omega) he he'

theorem run_setObj {b : Nat} {es : Array MapEntry} {clock : Nat} {o : Obj} {w : World} (h : w.heap[b]? = some (.map es clock)) : (setObj b o).run P w = .ok () { w with heap := w.heap.setIfInBounds b o } := by
  show (Sem.setObj b o (Sem.pure ())).run P w = _
  simp only [Sem.run, h]

theorem run_keyStays {kt : Nat} {ks : Col} {key : Value} {o : Option Nat} (hk : keyKind P kt ks = true) (ho : ks.idx key = some o) (w : World) : (Instr.keyThatStays key key).run P w = .ok key w := by
  have hsame : Instr.sameBits 10000 key key = true := by
    unfold Col.idx at ho
    split at ho <;> try (cases ho; done)
    · simp [Instr.sameBits]
    · simp [Instr.sameBits]
    · simp [Instr.sameBits, beq_bytes]
  simp only [Instr.keyThatStays, hsame, if_true]
  rfl

theorem mapUpdateL_sound (hs : SatH K θ h nx w) {T : Nat} {x y z : SV} {u v t : Value} (hu : V θ x u) (hv : V θ y v) (ht : V θ z t) {k : List (Nat × R) → Nat → Prop} (hq : mapUpdateL P T x y z h nx k) :
    ∃ h' w', k h' nx ∧ SatH K θ h' nx w' ∧ (Instr.mapUpdate T u v t).run P w = .ok () w' := by
  unfold mapUpdateL at hq
  split at hq <;> try exact hq.elim
  rename_i kt vt n key val hT hk1 hk2
  obtain rfl := V_scal hk1 hv
  obtain rfl := V_scal hk2 ht
  split at hq <;> try exact hq.elim
  rename_i ks vs hf
  split at hq <;> try exact hq.elim
  rename_i o ho
  split at hq <;> try exact hq.elim
  rename_i ks' vs' hks hvs
  obtain ⟨hkk, hk⟩ := cond_false hq
  simp only [V] at hu
  obtain ⟨L, hL, rfl⟩ := hu
  obtain ⟨L', hL', ha, es, clock, hb, hm⟩ := hs.res n _ hf
  obtain rfl := Option.some.inj (hL.symm.trans hL')
  have hlt := (Array.getElem?_eq_some_iff.1 hb).1
  have turn : ∀ (es' : Array MapEntry) (clock' : Nat), MapIs es' clock' ks' vs' → SatH K θ ((n, .map ks' vs') :: h) nx { w with heap := w.heap.setIfInBounds L.b (.map es' clock') } := by
    intro es' clock' hm'
    refine hs.turn hf hL trivial rfl rfl rfl (by simp) (fun b hne => by simp [Ne.symm hne]) trivial (fun X' _ => ⟨ha, es', clock', ?_, hm'⟩)
    simp [hlt]
  cases o with
  | none =>
    refine ⟨_, _, hk, turn _ _ (hm.push hks hvs), ?_⟩
    simp only [Instr.mapUpdate, Sem.run_bind, run_underlying hT, Result.andThen, run_getObj_map hb, run_checkKey hkk, run_findKey hkk ho hm, eget, run_setObj hb]
  | some j =>
    obtain ⟨e, he, hek, hkj⟩ := find_place hkk ho hm
    have hks' : ks' = ks := (Col.putK_spec hks).2.1 j rfl
    subst hks'
    refine ⟨_, _, hk, turn _ _ (hm.set hkj hvs), ?_⟩
    simp only [Instr.mapUpdate, Sem.run_bind, run_underlying hT, Result.andThen, run_getObj_map hb, run_checkKey hkk, run_findKey hkk ho hm, eget, he, Option.map_some, Option.getD_some, hek, run_keyStays hkk ho, run_setObj hb]

theorem deleteL_sound (hs : SatH K θ h nx w) {T : Nat} {ts : Array Nat} {ty : Nat} {x y : SV} {u v : Value} (hts : ts[0]? = some T) (hu : V θ x u) (hv : V θ y v) {k : HK} (hq : deleteL P T x y h nx k) :
    ∃ r h' w' v', k r h' nx ∧ SatH K θ h' nx w' ∧ V θ r v' ∧ (Builtin.delete_ ts ty #[u, v]).run P w = .ok v' w' := by
  unfold deleteL at hq
  split at hq <;> try exact hq.elim
  rename_i kt vt n key hT hk1
  obtain rfl := V_scal hk1 hv
  split at hq <;> try exact hq.elim
  rename_i ks vs hf
  split at hq <;> try exact hq.elim
  rename_i o ho
  obtain ⟨hkk, hk⟩ := cond_false hq
  simp only [V] at hu
  obtain ⟨L, hL, rfl⟩ := hu
  obtain ⟨L', hL', ha, es, clock, hb, hm⟩ := hs.res n _ hf
  obtain rfl := Option.some.inj (hL.symm.trans hL')
  have hlt := (Array.getElem?_eq_some_iff.1 hb).1
  have turn : ∀ (es' : Array MapEntry), MapIs es' clock (ks.del o) (vs.del o) → SatH K θ ((n, .map (ks.del o) (vs.del o)) :: h) nx { w with heap := w.heap.setIfInBounds L.b (.map es' clock) } := by
    intro es' hm'
    refine hs.turn hf hL trivial rfl rfl rfl (by simp) (fun b hne => by simp [Ne.symm hne]) trivial (fun X' _ => ⟨ha, es', clock, ?_, hm'⟩)
    simp [hlt]
  cases o with
  | none =>
    have e1 : ks.del none = ks := by cases ks <;> rfl
    have e2 : vs.del none = vs := by cases vs <;> rfl
    refine ⟨_, _, _, .tuple #[], hk, turn es (by rw [e1, e2]; exact hm), by simp only [V]; exact ⟨[], rfl, by simp [VL]⟩, ?_⟩
    simp [Builtin.delete_, hts, run_underlying hT, run_getObj_map hb, run_checkKey hkk, run_findKey hkk ho hm, eget, run_setObj hb]
  | some j =>
    obtain ⟨e, he, hek, hkj⟩ := find_place hkk ho hm
    refine ⟨_, _, _, .tuple #[], hk, turn _ (hm.del (Array.getElem?_eq_some_iff.1 he).1), by simp only [V]; exact ⟨[], rfl, by simp [VL]⟩, ?_⟩
    simp [Builtin.delete_, hts, run_underlying hT, run_getObj_map hb, run_checkKey hkk, run_findKey hkk ho hm, eget, he, run_setObj hb]
end
end Go.Z

/- The loud operations are sound: variables. -/
namespace Go.Z
open Go.RowKit

section
variable {P : Program} {K : Ctx} {θ : Th} {h : List (Nat × R)} {nx : Nat} {w : World}

/-- What a loud step gives. -/
def LOut (K : Ctx) (θ : Th) (k : HK) (run : World → Result Value → Prop) (w : World) : Prop :=
  ∃ r h' nx' θ' v' w', k r h' nx' ∧ SatH K θ' h' nx' w' ∧ θ.ext θ' ∧ V θ' r v' ∧ run w (.ok v' w')

def LOK (K : Ctx) (θ : Th) (nx : Nat) (k : HK) (res : Result Value) : Prop :=
  ∃ r h' nx' θ' v' w', k r h' nx' ∧ SatH K θ' h' nx' w' ∧ θ.ext θ' ∧ V θ' r v' ∧ res = .ok v' w' ∧ nx ≤ nx'

theorem below_alloc (w : World) (o : Obj) : Below w.heap.size w (w.alloc o) := (Below.refl _ _).alloc (Nat.le_refl _) o

def newLoc (w : World) : Loc := { a := some ⟨w.heap.size, 0, none⟩, len := 0, cap := 0 }

theorem add_blk (hs : SatH K θ h nx w) {T : Nat} {l : List SV} {cs : List Value} (hl : VL θ l cs) :
    SatH K (θ.add nx (newLoc w)) ((nx, .blk T l) :: h) (nx + 1) (w.alloc (.cells cs.toArray T)) := by
  refine hs.add_new (below_alloc _ _) (fun _ => Nat.le_refl _) (fun θ' X' hθ _ _ => ?_)
  refine ⟨cs, rfl, ?_, VL_mono hθ _ _ hl⟩
  show (w.heap.push _)[w.heap.size]? = _
  simp

theorem V_new (θ : Th) (nx : Nat) (w : World) : V (θ.add nx (newLoc w)) (.p nx 0) (.pointer (some ⟨w.heap.size, 0, none⟩)) := by
  simp only [V]
  exact ⟨_, Th.add_self _ _ _, rfl⟩

/-- A new array variable. -/
theorem add_arr (hs : SatH K θ h nx w) {T : Nat} {kk : IntKind} {xs : List Int} :
    SatH K (θ.add nx (arrLoc w.heap.size xs.length)) ((nx, .own T (.ints kk xs)) :: h) (nx + 1) (w.alloc (.cells (xs.map (Value.int kk)).toArray T)) ∧
    V (θ.add nx (arrLoc w.heap.size xs.length)) (.q nx) (.pointer (some ⟨w.heap.size, 0, none⟩)) := by
  refine ⟨hs.add_new (below_alloc _ _) (fun _ => Nat.le_refl _) (fun θ' X' hθ _ _ => arr_own ?_), ?_⟩
  · show (w.heap.push _)[w.heap.size]? = _
    simp
  · simp only [V]
    exact ⟨_, Th.add_self _ _ _, rfl, rfl⟩

theorem zeroInts_sound {T n : Nat} {kk : IntKind} (hz : zeroInts P T = some (kk, n)) : ∃ i z, P.info? T = some i ∧ i.zero = some z ∧ z.cells = ((List.replicate n 0).map (Value.int kk)).toArray := by
  unfold zeroInts at hz
  split at hz <;> try (cases hz; done)
  rename_i m e hT
  split at hz <;> try (cases hz; done)
  rename_i k' l hke hzl
  cases hc : (Nat.beq l.length m && l.all (zeroInts.isZ k')) with
  | false => rw [hc] at hz; cases hz
  | true =>
    rw [hc] at hz; cases hz
    simp only [Bool.and_eq_true] at hc
    have hlen := nbeq hc.1
    unfold zeroS at hzl
    split at hzl <;> try (cases hzl; done)
    rename_i i hi
    split at hzl <;> cases hzl
    rename_i z hzv
    refine ⟨i, z, hi, hzv, ?_⟩
    apply Array.ext'
    have h2 := hc.2
    have key : ∀ cs : List Value, (cs.map liftK1).all (zeroInts.isZ kk) = true → cs = (List.replicate cs.length 0).map (Value.int kk) := by
      intro cs
      induction cs with
      | nil => intro _; rfl
      | cons c cs ih =>
        intro ha
        simp only [List.map_cons, List.all_cons, Bool.and_eq_true] at ha
        have h1 : c = .int kk 0 := by
          have h3 := ha.1
          unfold zeroInts.isZ at h3
          split at h3 <;> try (cases h3; done)
          rename_i k2 heq
          have hk := of_decide_eq_true h3
          subst hk
          unfold liftK1 at heq
          split at heq <;> simp at heq
          exact heq
        rw [h1, List.length_cons, List.replicate_succ, List.map_cons, ← ih ha.2]
    have := key z.cells.toList h2
    rw [List.length_map] at hlen
    rw [hlen] at this
    exact this

theorem allocL_sound (hs : SatH K θ h nx w) {T : Nat} {k : HK} (hq : allocL P T h nx k) : LOK K θ nx k ((Instr.alloc T true (.tuple #[])).run P w) := by
  unfold allocL at hq
  split at hq
  · rename_i kk n hzi
    obtain ⟨i, z, hi, hzv, hcs⟩ := zeroInts_sound hzi
    obtain ⟨a1, a2⟩ := add_arr (T := T) (kk := kk) (xs := List.replicate n 0) hs
    refine ⟨_, _, _, _, _, _, hq, a1, Th.add_ext (hs.fresh nx (Nat.le_refl _)) _, a2, ?_, by omega⟩
    simp [Instr.alloc, run_zero hi hzv, newVar, newRow, hcs]
  split at hq <;> try exact hq.elim
  rename_i l hz
  unfold zeroS at hz
  split at hz <;> try (cases hz; done)
  rename_i i hi
  split at hz <;> cases hz
  rename_i z hzv
  refine ⟨_, _, _, _, _, _, hq, add_blk (T := T) hs (VL_liftK1 θ z.cells.toList), Th.add_ext (hs.fresh nx (Nat.le_refl _)) _, V_new θ nx w, ?_, by omega⟩
  simp [Instr.alloc, run_zero hi hzv, newVar, newRow]

theorem boxL_sound (hs : SatH K θ h nx w) {T : Nat} {s : SV} {v : Value} (hv : V θ s v) {k : HK} (hq : boxL T s h nx k) : LOK K θ nx k ((Instr.box T v).run P w) := by
  unfold boxL at hq
  split at hq
  · rename_i kk xs
    simp only [V] at hv; subst hv
    obtain ⟨a1, a2⟩ := add_arr (T := T) (kk := kk) (xs := xs) hs
    refine ⟨_, _, _, _, _, _, hq, a1, Th.add_ext (hs.fresh nx (Nat.le_refl _)) _, a2, ?_, by omega⟩
    simp [Instr.box, newVar, newRow, Value.cells]
  split at hq <;> try exact hq.elim
  rename_i l hl
  refine ⟨_, _, _, _, _, _, hq, add_blk (T := T) hs (V_cellsS hl hv), Th.add_ext (hs.fresh nx (Nat.le_refl _)) _, V_new θ nx w, ?_, by omega⟩
  simp [Instr.box, newVar, newRow]

theorem cellsS_one {s : SV} {l : List SV} {v : Value} (h : cellsS s = some l) (hv : V θ s v) (hall : l.all oneS = true) : ∀ u ∈ v.cells.toList, u.oneCell' = true := by
  have hvl := V_cellsS h hv
  intro u hu
  obtain ⟨p, hp, hpu⟩ := List.getElem_of_mem hu
  have hlen := VL_length hvl
  have hp' : p < l.length := by omega
  obtain ⟨v', h1, h2⟩ := VL_get hvl (List.getElem?_eq_getElem hp')
  rw [List.getElem?_eq_getElem hp] at h1
  cases h1
  rw [hpu] at h2
  exact oneCell_of (List.all_eq_true.1 hall _ (List.getElem_mem hp')) h2

/-- A row of cells stored into a block that is written. -/
theorem run_storeVar {T sz : Nat} {g : Bool} (hk : kindT P T = some (g, sz)) {b o T' : Nat} {cur : Array Value} {v : Value} (hb : w.heap[b]? = some (.cells cur T' (0, 0)))
    (hsz : v.cells.size = sz) (hfit : o + sz ≤ cur.size) (h1 : ∀ u ∈ v.cells.toList, u.oneCell' = true) :
    (Instr.storeAt T (.pointer (some ⟨b, o, none⟩)) v).run P w = .ok () (w.setRow b (cur.toList.take o ++ v.cells.toList ++ cur.toList.drop (o + sz)).toArray) := by
  have := run_storeCells_at P b o T' v.cells.toList 0 cur w hb (by simp; omega) h1
  simp only [Nat.add_zero, Array.length_toList, hsz] at this
  simp [Instr.storeAt, Instr.sureAddr, storeVar, (run_kind hk w).2, hsz, this]

theorem VL_splice {l cs : List SV} {us vs : List Value} (o : Nat) (hl : VL θ l us) (hc : VL θ cs vs) : VL θ (splice l o cs) (us.take o ++ (vs ++ us.drop (o + vs.length))) := by
  unfold splice
  rw [← VL_length hc]
  exact VL_append (VL_take o hl) (VL_append hc (VL_drop _ hl))

theorem D.set_cells {X : Nat → Prop} {k : IntKind} {xs : List Int} {cs : List Value} {i : Nat} {z : Int} (h : (D.ints k xs).cellsAre X w cs) (hi : i < xs.length) :
    (D.ints k (xs.set i z)).cellsAre X w (cs.take i ++ ([Value.int k z] ++ cs.drop (i + 1))) := by
  simp only [D.cellsAre] at *
  subst h
  rw [List.set_eq_take_append_cons_drop, if_pos hi]
  simp

theorem setRec_cells {X : Nat → Prop} {es m : Nat} {f : Nat → Nat → D} {cs us : List Value} {i o : Nat} {ds : List D} (h : (D.recs es m f).cellsAre X w cs) (hi : i < m) (ho : o + ds.length ≤ es)
    (hd : DL.holds X w ds us) : (D.recs es m (setRec f i o ds)).cellsAre X w (cs.take (i * es + o) ++ (us ++ cs.drop (i * es + o + us.length))) := by
  obtain ⟨h1, h2⟩ := h
  have hl := DL.length hd
  have hle : i * es + o + us.length ≤ cs.length := by
    rw [h1, ← hl]
    have : (i + 1) * es ≤ m * es := Nat.mul_le_mul_right _ hi
    rw [Nat.add_mul] at this; omega
  refine ⟨by simp; omega, fun i' hi' j' hj' => ?_⟩
  obtain ⟨c, h3, h4⟩ := h2 i' hi' j' hj'
  have hlt := (List.getElem?_eq_some_iff.1 h3).1
  have htk : (cs.take (i * es + o)).length = i * es + o := by simp; omega
  by_cases hin : i' = i ∧ o ≤ j' ∧ j' < o + ds.length
  · obtain ⟨rfl, a1, a2⟩ := hin
    have e1 : setRec f i' o ds i' j' = ds.getD (j' - o) (f i' j') := by
      have b1 : Nat.ble o j' = true := Nat.ble_eq ▸ a1
      have b2 : Nat.blt j' (o + ds.length) = true := Nat.ble_eq ▸ a2
      simp [setRec, b1, b2]
    have hlt2 : j' - o < us.length := by omega
    have get : ∀ {l : List D} {vs : List Value} (p : Nat), DL.holds X w l vs → (hp : p < l.length) → ∃ c, vs[p]? = some c ∧ l[p].holds X w c := by
      intro l
      induction l with
      | nil => intro vs p _ hp; simp at hp
      | cons d l ih =>
        intro vs p hh hp
        cases vs with
        | nil => exact hh.elim
        | cons v vs =>
          cases p with
          | zero => exact ⟨v, rfl, hh.1⟩
          | succ p => simpa using ih p hh.2 (by simpa using hp)
    obtain ⟨c', g1, g2⟩ := get (j' - o) hd (by omega)
    refine ⟨c', ?_, ?_⟩
    · rw [List.getElem?_append_right (by omega), htk, show i' * es + j' - (i' * es + o) = j' - o by omega, List.getElem?_append_left (by omega)]
      exact g1
    · rw [e1, List.getD, List.getElem?_eq_getElem (by omega)]
      exact g2
  · have e1 : setRec f i o ds i' j' = f i' j' := by
      unfold setRec
      have : (Nat.beq i' i && Nat.ble o j' && Nat.blt j' (o + ds.length)) = false := by
        cases hb : (Nat.beq i' i && Nat.ble o j' && Nat.blt j' (o + ds.length)) with
        | false => rfl
        | true =>
          simp only [Bool.and_eq_true] at hb
          exact absurd ⟨nbeq hb.1.1, nble hb.1.2, nblt hb.2⟩ hin
      rw [this]; rfl
    rw [e1]
    refine ⟨c, ?_, h4⟩
    by_cases hlow : i' * es + j' < i * es + o
    · rw [List.getElem?_append_left (by omega), List.getElem?_take, if_pos hlow]; exact h3
    · have hhigh : i * es + o + us.length ≤ i' * es + j' := by
        rcases Nat.lt_trichotomy i' i with hc | hc | hc
        · exfalso
          have : (i' + 1) * es ≤ i * es := Nat.mul_le_mul_right _ hc
          rw [Nat.add_mul] at this; omega
        · subst hc; omega
        · have : (i + 1) * es ≤ i' * es := Nat.mul_le_mul_right _ hc
          rw [Nat.add_mul] at this; omega
      rw [List.getElem?_append_right (by omega), htk, List.getElem?_append_right (by omega), List.getElem?_drop]
      rw [show i * es + o + us.length + (i' * es + j' - (i * es + o) - us.length) = i' * es + j' by omega]
      exact h3

/-- A stretch of an owned array written anew. -/
theorem turn_own (hs : SatH K θ h nx w) {n T : Nat} {d d' : D} {L : Loc} {cs vs : List Value} {p : Nat} {cur : Array Value} (hn : hfind h n = some (.own T d)) (hL : θ n = some L)
    (hcap : L.cap ≠ 0) (hlen : d'.len = d.len) (hes : d'.es = d.es) (hcs : cs.length = d.len * d.es) (hload : ∀ j v, cs[j]? = some v → w.cell? ⟨L.b, L.o + j, none⟩ = some v) (hb : w.heap[L.b]? = some (.cells cur T (0, 0)))
    (hp : p + vs.length ≤ cs.length) (hcur : L.o + L.cap * d.es ≤ cur.size)
    (hd' : ∀ X' : Nat → Prop, (∀ b, b < w.heap.size → Free K θ h b → X' b) → ∀ w' : World, (∀ b, b < w.heap.size → Free K θ h b → w'.heap[b]? = w.heap[b]?) → d'.cellsAre X' w' (cs.take p ++ (vs ++ cs.drop (p + vs.length)))) :
    SatH K θ ((n, .own T d') :: h) nx (w.setRow L.b (cur.toList.take (L.o + p) ++ vs ++ cur.toList.drop (L.o + p + vs.length)).toArray) := by
  obtain ⟨L', hL', hat, hw, hown⟩ := hs.res n _ hn
  obtain rfl := Option.some.inj (hL.symm.trans hL')
  obtain ⟨len1, len2⟩ := D.at_len hat
  have hme : OwnsAt θ h n L.b := ⟨_, L, hn, hL, hcap, rfl⟩
  have hcss : cs.length ≤ L.cap * d.es := by rw [hcs]; exact Nat.mul_le_mul_right _ (by omega)
  refine hs.turn hn hL hcap rfl rfl rfl (by simp) (fun b hne => setRow_other w L.b b _ hne) hcap (fun X' hX' => ⟨?_, hw, fun _ => ⟨_, setRow_heap w L.b cur _ T _ hb, ?_⟩⟩)
  · refine D.at_of_cells (by omega) len2 (fun j v hv => ?_) (hd' X' hX' _ (fun b hb' hf => setRow_other w L.b b _ (fun e => hf.1 n (e ▸ hme))))
    rw [cell_setRow_same w L.b _ cur _ T _ hb]
    have hj := (List.getElem?_eq_some_iff.1 hv).1
    simp only [List.length_append, List.length_take, List.length_drop] at hj
    have t1 : (cs.take p).length = p := by simp; omega
    have t2 : (cur.toList.take (L.o + p)).length = L.o + p := by simp; omega
    have hold : ∀ q u, cs[q]? = some u → cur.toList[L.o + q]? = some u := fun q u hq => by
      have := hload q u hq
      simpa [World.cell?, hb] using this
    simp only [List.getElem?_toArray]
    by_cases c1 : j < p
    · rw [List.getElem?_append_left (by omega), List.getElem?_take, if_pos c1] at hv
      rw [List.append_assoc, List.getElem?_append_left (by omega), List.getElem?_take, if_pos (by omega)]
      exact hold j v hv
    · rw [List.getElem?_append_right (by omega), t1] at hv
      rw [List.append_assoc, List.getElem?_append_right (by omega), t2, show L.o + j - (L.o + p) = j - p by omega]
      by_cases c2 : j - p < vs.length
      · rw [List.getElem?_append_left c2] at hv ⊢; exact hv
      · rw [List.getElem?_append_right (by omega), List.getElem?_drop] at hv ⊢
        rw [show L.o + p + vs.length + (j - p - vs.length) = L.o + (p + vs.length + (j - p - vs.length)) by omega]
        exact hold _ _ hv
  · simp only [List.size_toArray, List.length_append, List.length_take, List.length_drop, Array.length_toList]
    rw [hes]
    omega

theorem freezeL_ro : ∀ {l : List SV} {h : List (Nat × R)} {n T : Nat} {d d' : D}, hfind h n = some (.ro d') → hfind (freezeL h l) n ≠ some (.own T d)
  | [], h, n, T, d, d', h2 => by
    simp only [freezeL, h2]
    intro e; cases e
  | s :: l, h, n, T, d, d', h2 => by
    cases s <;> simp only [freezeL] <;> first
      | exact freezeL_ro h2
      | skip
    rename_i m
    have : ∃ d'', hfind (freezeH h m) n = some (.ro d'') := by
      unfold freezeH
      split
      · rename_i T2 d2 hf
        rw [hfind_cons]
        by_cases e : m = n
        · exact ⟨_, if_pos e⟩
        · rw [if_neg e]; exact ⟨_, h2⟩
      · exact ⟨_, h2⟩
    obtain ⟨d'', h3⟩ := this
    exact freezeL_ro h3

theorem freezeL_own : ∀ {l : List SV} {h : List (Nat × R)} {n T T' : Nat} {d d' : D}, hfind (freezeL h l) n = some (.own T d) → hfind h n = some (.own T' d') → d = d'
  | [], h, n, T, T', d, d', h1, h2 => by
    simp only [freezeL] at h1
    rw [h1] at h2; cases h2; rfl
  | s :: l, h, n, T, T', d, d', h1, h2 => by
    cases s <;> simp only [freezeL] at h1 <;> first
      | exact freezeL_own h1 h2
      | skip
    rename_i m
    by_cases e : n = m
    · subst e
      have : hfind (freezeH h n) n = some (.ro d') := by
        simp only [freezeH, h2, hfind_cons, if_pos]
      exact absurd h1 (freezeL_ro this)
    · refine freezeL_own h1 (T' := T') (d' := d') ?_
      unfold freezeH
      split
      · rw [hfind_cons, if_neg (Ne.symm e)]; exact h2
      · exact h2

theorem storeL_sound (hs : SatH K θ h nx w) {T : Nat} {t s : SV} {u v : Value} (hu : V θ t u) (hv : V θ s v) {k : List (Nat × R) → Nat → Prop} (hq : storeL P T t s h nx k) :
    ∃ h' w', k h' nx ∧ SatH K θ h' nx w' ∧ (Instr.storeAt T u v).run P w = .ok () w' := by
  unfold storeL at hq
  split at hq
  · rename_i n o
    split at hq <;> try exact hq.elim
    rename_i T' l g sz cs hf hk hcs
    obtain ⟨hc, hk1⟩ := cond_false hq
    simp only [Bool.and_eq_true] at hc
    obtain ⟨⟨c1, c2⟩, c3⟩ := hc
    have c1 := nbeq c1
    have c2 := nble c2
    obtain ⟨L, hL, us, e1, e2, e3⟩ := hs.res n _ hf
    simp only [V] at hu
    obtain ⟨L', hL', rfl⟩ := hu
    obtain rfl := Option.some.inj (hL.symm.trans hL')
    have ho : L.o = 0 := by unfold Loc.o; rw [e1]
    have hvl := V_cellsS hcs hv
    have l1 := VL_length hvl
    have l2 := VL_length e3
    have hsz : v.cells.size = sz := by have : v.cells.toList.length = v.cells.size := by simp
                                       omega
    have hrun := run_storeVar (P := P) (w := w) hk (b := L.b) (o := o) (cur := us.toArray) (v := v) e2 hsz (by simp; omega) (cellsS_one hcs hv c3)
    refine ⟨_, _, hk1, ?_, by rw [ho, Nat.zero_add]; exact hrun⟩
    refine hs.turn hf hL trivial rfl rfl rfl (by simp) (fun b hne => setRow_other w L.b b _ hne) trivial (fun X' _ => ⟨us.take o ++ (v.cells.toList ++ us.drop (o + v.cells.toList.length)), e1, ?_, VL_splice o e3 hvl⟩)
    rw [setRow_heap w L.b us.toArray _ T' _ e2]
    simp [hsz]
  · rename_i n es i o
    split at hq
    · rename_i T' kk xs g sz hf hk
      split at hq <;> try exact hq.elim
      rename_i c hcs
      split at hq <;> try exact hq.elim
      rename_i k' z hz
      obtain ⟨hc, hk1⟩ := cond_false hq
      obtain ⟨rfl, hk2⟩ := hk1
      simp only [Bool.and_eq_true] at hc
      obtain ⟨⟨c1, c2⟩, c3⟩ := hc
      obtain rfl := nbeq c1
      obtain rfl := nbeq c2
      obtain rfl := nbeq c3
      simp only [V] at hu
      obtain ⟨L, hL, hi, rfl⟩ := hu
      obtain ⟨L', hL', hat, hw, hown⟩ := hs.res n _ hf
      obtain rfl := Option.some.inj (hL.symm.trans hL')
      obtain ⟨len1, len2⟩ := D.at_len hat
      have hcap : L.cap ≠ 0 := by omega
      obtain ⟨cur, hb, hcur⟩ := hown hcap
      obtain ⟨cs, a1, a2, a3⟩ := D.at_cells hat
      have hcv : v.cells.toList = [.int kk z] := by
        have hvl := V_cellsS hcs hv
        unfold intOf1 at hz
        split at hz <;> cases hz
        obtain ⟨y, ys, e1, e2, e3⟩ := VL_cons_left hvl
        have := VL_nil_left e3
        subst this
        rw [e1]
        simp only [V] at e2
        rw [e2]
      have hlen : xs.length = L.len := by have := len1; simp [D.len] at this; omega
      have hes : (D.ints kk xs).es = 1 := rfl
      have hsz : v.cells.size = 1 := by rw [← Array.length_toList, hcv]; rfl
      have hrun := run_storeVar (P := P) (w := w) hk (b := L.b) (o := L.o + i) (cur := cur) (v := v) hb hsz (by rw [hes] at hcur; omega) (by intro u hu; rw [hcv] at hu; simp at hu; subst hu; rfl)
      refine ⟨_, _, hk2, turn_own (d' := .ints kk (xs.set i z)) (p := i) (vs := [.int kk z]) hs hf hL hcap (by simp [D.len]) rfl a1 a2 hb (by simp [a1, D.len, D.es]; omega) hcur ?_, ?_⟩
      · intro X' hX' w' hw'
        exact D.set_cells (D.cellsAre_mono (fun b hb' hfb => ⟨hX' b hb' hfb, hw' b hb' hfb⟩) a3) (by omega)
      · rw [show L.o + (i * 1 + 0) = L.o + i by omega, hrun, hcv]
        rfl
    · rename_i T' es' m f g sz hf hk
      split at hq <;> try exact hq.elim
      rename_i cs hcs
      split at hq <;> try exact hq.elim
      rename_i ds hds
      obtain ⟨hc, hk1⟩ := cond_false hq
      simp only [Bool.and_eq_true] at hc
      obtain ⟨⟨⟨c1, c2⟩, c3⟩, c4⟩ := hc
      have c1 := nbeq c1
      obtain rfl := nbeq c2
      have c3 := nble c3
      simp only [V] at hu
      obtain ⟨L, hL, hi, rfl⟩ := hu
      -- what is stored is read only from now on
      have hs1 : SatH K θ (freezeL h cs) nx w := freezeL_sound hs
      have hf1 : hfind (freezeL h cs) n = some (.own T' (.recs es m f)) := by
        unfold storeL.nodead at c4
        split at c4
        · rename_i T2 d2 hf2
          obtain rfl := nbeq c4
          rw [freezeL_own hf2 hf] at hf2
          exact hf2
        · cases c4
      obtain ⟨L', hL', hat, hw, hown⟩ := hs1.res n _ hf1
      obtain rfl := Option.some.inj (hL.symm.trans hL')
      obtain ⟨len1, len2⟩ := D.at_len hat
      have hcap : L.cap ≠ 0 := by omega
      obtain ⟨cur, hb, hcur⟩ := hown hcap
      obtain ⟨vs, a1, a2, a3⟩ := D.at_cells hat
      have hvl := V_cellsS hcs hv
      have hdl : DL.holds (Free K θ (freezeL h cs)) w ds v.cells.toList := dsOf_sound hs1 hvl hds
      have l0 := VL_length hvl
      have l1 := DL.length hdl
      have hsz : v.cells.size = sz := by have : v.cells.toList.length = v.cells.size := by simp
                                         omega
      have hes : (D.recs es m f).es = es := rfl
      have hlen : m = L.len := by have := len1; simp [D.len] at this; omega
      have hfit : i * es + o + v.cells.toList.length ≤ vs.length := by
        rw [a1, hes]
        have : (i + 1) * es ≤ (D.recs es m f).len * es := Nat.mul_le_mul_right _ (by simp [D.len]; omega)
        rw [Nat.add_mul] at this; omega
      have hvs : vs.length ≤ L.cap * es := by rw [a1, hes]; exact Nat.mul_le_mul_right _ (by omega)
      have hrun := run_storeVar (P := P) (w := w) hk (b := L.b) (o := L.o + (i * es + o)) (cur := cur) (v := v) hb hsz (by rw [hes] at hcur; omega) (fun u hu => by
        obtain ⟨p, hp, hpu⟩ := List.getElem_of_mem hu
        have get : ∀ {l : List D} {vs : List Value} (p : Nat) (hp : p < vs.length), DL.holds (Free K θ (freezeL h cs)) w l vs → vs[p].oneCell' = true := by
          intro l
          induction l with
          | nil => intro vs p hp hh; cases vs with
            | nil => simp at hp
            | cons _ _ => exact hh.elim
          | cons d l ih =>
            intro vs p hp hh
            cases vs with
            | nil => simp at hp
            | cons v vs =>
              cases p with
              | zero => exact D.holds_one hh.1
              | succ p => simpa using ih p (by simpa using hp) hh.2
        rw [← hpu]; exact get p hp hdl)
      refine ⟨_, _, hk1, turn_own (d' := .recs es m (setRec f i o ds)) (p := i * es + o) (vs := v.cells.toList) hs1 hf1 hL hcap rfl rfl a1 a2 hb hfit hcur ?_, ?_⟩
      · intro X' hX' w' hw'
        have hkp : Keeps (Free K θ (freezeL h cs)) X' w w' := fun b hb' hfb => ⟨hX' b hb' hfb, hw' b hb' hfb⟩
        exact setRec_cells (D.cellsAre_mono hkp a3) (by omega) (by omega) (DL.holds_mono hkp hdl)
      · rw [hrun]
        simp [hsz]
    · exact hq.elim
  · rename_i n
    split at hq <;> try exact hq.elim
    rename_i T' kk xs g sz kk' ys hf hk
    obtain ⟨⟨rfl, hsz, hlen⟩, hk1⟩ := hq
    simp only [V] at hu hv
    obtain ⟨L, hL, hLL, rfl⟩ := hu
    subst hv
    have ho : L.o = 0 := by rw [hLL]; rfl
    obtain ⟨L', hL', hat, hw, hown⟩ := hs.res n _ hf
    obtain rfl := Option.some.inj (hL.symm.trans hL')
    obtain ⟨len1, len2⟩ := D.at_len hat
    simp only [D.len] at len1
    by_cases hcap : L.cap = 0
    · have hy : ys = [] := List.eq_nil_of_length_eq_zero (by omega)
      have hx : xs = [] := List.eq_nil_of_length_eq_zero (by omega)
      subst hy hx
      refine ⟨_, w, hk1, ?_, ?_⟩
      · refine hs.gen (Th.ext_refl _) hs.fresh (fun b _ hf' => ⟨⟨fun m hm => ?_, hf'.2⟩, rfl⟩) (fun m r hr => ?_) (fun a b c h1 h2 => ?_) (fun a b h1 => ?_) hs.frame
        all_goals
          have own : ∀ m b, OwnsAt θ ((n, .own T' (.ints kk [])) :: h) m b → OwnsAt θ h m b := by
            rintro m b ⟨r1, L1, q1, q2, q3, q4⟩
            rw [hfind_cons] at q1
            split at q1
            · rename_i e; subst e; cases q1; exact ⟨_, L1, hf, q2, q3, q4⟩
            · exact ⟨r1, L1, q1, q2, q3, q4⟩
        · exact hf'.1 m (own m b hm)
        · rw [hfind_cons] at hr
          split at hr
          · rename_i e; subst e; cases hr; exact .inl ⟨hf, fun _ _ _ => rfl⟩
          · exact .inl ⟨hr, fun _ _ _ => rfl⟩
        · exact hs.dis a b c (own _ _ h1) (own _ _ h2)
        · exact hs.new a b (own _ _ h1)
      · have h0 : sz = 0 := hsz
        subst h0
        simp [Instr.storeAt, Instr.sureAddr, storeVar, (run_kind hk w).2, Value.cells, storeCells]
    · obtain ⟨cur, hb, hcur⟩ := hown hcap
      obtain ⟨cs, a1, a2, a3⟩ := D.at_cells hat
      have hcv : (Value.agg (ys.map (Value.int kk)).toArray).cells.toList = ys.map (Value.int kk) := rfl
      have hrun := run_storeVar (P := P) (w := w) hk (b := L.b) (o := 0) (cur := cur) (v := .agg (ys.map (Value.int kk)).toArray) hb (by simp [Value.cells, hsz]) (by rw [ho] at hcur; simp only [D.es] at hcur; omega)
        (by intro u hu; rw [hcv] at hu; obtain ⟨z, _, rfl⟩ := List.mem_map.1 hu; rfl)
      have hcl : cs.length = ys.length := by rw [a1]; simp [D.len, D.es, hlen]
      have := turn_own (d' := .ints kk ys) (p := 0) (vs := ys.map (Value.int kk)) hs hf hL hcap (by simp [D.len, hlen]) rfl a1 a2 hb (by simp [hcl]) hcur (fun X' _ w' _ => by
        simp only [D.cellsAre, List.take_zero, List.nil_append, Nat.zero_add, List.length_map]
        rw [← hcl, List.drop_length, List.append_nil])
      refine ⟨_, _, hk1, this, ?_⟩
      rw [hrun, hcv, ho]
      simp [hsz]
  · exact hq.elim

theorem bytesL_sound (hs : SatH K θ h nx w) {src dst : Nat} {s : SV} {u : Value} {k : HK} (hu : V θ s u) (hq : bytesL P src dst s h nx k) : LOK K θ nx k ((convert src dst u).run P w) := by
  unfold bytesL at hq
  split at hq <;> try exact hq.elim
  rename_i e str h1 h2
  split at hq <;> try exact hq.elim
  rename_i h3
  simp only [V] at hu; subst hu
  have hge := grownCap_ge w str.size 0 e
  have hsz : str.data.size = str.size := rfl
  generalize hcap : grownCap w str.size 0 e = cap at hge
  let arr : Array Value := (str.data.map fun b => Value.int .u8 (b.toNat : Int)) ++ Array.replicate (cap - str.size) (.int .u8 0)
  let w1 : World := { w.drew with heap := w.heap.push (.cells arr e (arr.size, arr.size + 1)) }
  have hheap : w1.heap[w.heap.size]? = some (.cells arr e (arr.size, arr.size + 1)) := by
    show (w.heap.push _)[w.heap.size]? = _
    simp
  have hb : Below w.heap.size w w1 := ⟨rfl, rfl, rfl, by show _ ≤ (w.heap.push _).size; simp, fun b hb => by
    show (w.heap.push _)[b]? = _
    rw [Array.getElem?_push, if_neg (by omega)]⟩
  refine ⟨_, _, _, θ.add nx { a := some ⟨w.heap.size, 0, none⟩, len := str.size, cap := cap }, .slice (some ⟨w.heap.size, 0, none⟩) str.size cap, w1, hq, hs.add_new hb (fun ho => ho.elim) (fun θ' X' hθ hX1 hX2 => ?_),
    Th.add_ext (hs.fresh nx (Nat.le_refl _)) _, by simp only [V]; exact ⟨_, Th.add_self _ _ _, rfl⟩, ?_, by omega⟩
  · refine ⟨⟨by simp [hsz], hge, fun i z hz => ?_⟩, .inr rfl, fun _ => ⟨hX2 _ (Nat.le_refl _) (fun h => h.1), by show _ < (w.heap.push _).size; simp [Loc.b]⟩⟩
    show World.cell? _ ⟨w.heap.size, 0 + i, none⟩ = _
    simp only [World.cell?, hheap, Nat.zero_add]
    simp only [Option.isSome_none, Bool.false_eq_true, if_false]
    rw [List.getElem?_map] at hz
    have hi : i < str.data.size := by
      have := (List.getElem?_eq_some_iff.1 (by rw [List.getElem?_map]; exact hz : (str.data.toList.map fun b => (b.toNat : Int))[i]? = some z)).1
      simpa using this
    rw [Array.getElem?_append_left (by simpa using hi)]
    simp only [Array.getElem?_map, Array.getElem?_toList] at hz ⊢
    simp at hz ⊢
    obtain ⟨a, ha, rfl⟩ := hz
    exact ⟨a, ha, rfl⟩
  · have e1 : w.heap.push (.cells arr e (0, 0)) = w.heap.push (.cells arr e) := rfl
    have hfz : (w.drew.alloc (.cells arr e)).freeze ⟨w.heap.size, arr.size, none⟩ 1 = w1 := by
      refine Eq.trans (b := ({ w.drew with heap := (w.heap.push (.cells arr e)).modify w.heap.size _ } : World)) rfl (congrArg (fun hp => ({ w.drew with heap := hp } : World)) ?_)
      apply Array.ext
      · simp
      · intro i h1 h2
        rw [Array.getElem_modify]
        simp only [Array.getElem_push]
        by_cases hi : i < w.heap.size
        · simp [hi, Nat.ne_of_gt hi]
        · have : i = w.heap.size := by simp at h2; omega
          subst this
          simp
    have hsh : (w.drew.alloc (.cells arr e)).shape? w.heap.size = some (e, arr.size) := by
      simp only [World.shape?]
      show (match (w.heap.push (.cells arr e))[w.heap.size]? with | some (.cells c elem _) => some (elem, c.size) | _ => none) = _
      simp
    have hcap' : (Question.appendCap str.size 0 e).cut (w.tape w.drawn (Question.appendCap str.size 0 e)) = cap := hcap
    simp [convert, run_underlying h1, run_underlying h2, run_underlying h3, Conv.stringToBytes, newRow, Question.forced, markStringish, hcap']
    show ((Sem.run P (match (w.drew.alloc (.cells arr e)).shape? w.heap.size with | some (_, n) => freeze ⟨w.heap.size, n, none⟩ 1 | x => pure ()) (w.drew.alloc (.cells arr e))).andThen fun _ w' => Result.ok (Value.slice (some ⟨w.heap.size, 0, none⟩) str.size cap) w') = _
    rw [hsh]
    simp only [freeze, Sem.run, Result.andThen, hfz]

theorem makeMapL_sound (hs : SatH K θ h nx w) {T : Nat} {r : Option Value} {rs : List SV} {k : HK} (hr : VL θ rs r.toList) (hq : makeMapL P T rs h nx k) : LOK K θ nx k ((Instr.makeMap T r).run P w) := by
  unfold makeMapL at hq
  split at hq <;> try exact hq.elim
  rename_i kt vt hT
  have hr' : r = none := by
    cases r with
    | none => rfl
    | some v => simp [VL] at hr
  subst hr'
  split at hq <;> try exact hq.elim
  rename_i ks vs hks hvs
  have e1 : ks.len = 0 := by
    unfold emptyCol at hks
    split at hks <;> cases hks <;> rfl
  have e2 : vs.len = 0 := by
    unfold emptyCol at hvs
    split at hvs <;> cases hvs <;> rfl
  refine ⟨_, _, _, θ.add nx (ptrLoc w.heap.size), .map (some w.heap.size), w.alloc (.map #[] 0), hq, hs.add_new (below_alloc _ _) (fun _ => Nat.le_refl _) (fun θ' X' _ _ _ => ⟨rfl, #[], 0, ?_, ?_⟩), Th.add_ext (hs.fresh nx (Nat.le_refl _)) _, ?_, ?_, by omega⟩
  · show (w.heap.push _)[w.heap.size]? = _
    simp
  · exact ⟨by simp [e1], by rw [e1, e2], fun i e he => by simp at he, fun i e he => by simp at he, fun i j e e' _ he => by simp at he⟩
  · simp only [V]; exact ⟨_, Th.add_self _ _ _, rfl⟩
  · rfl
end
end Go.Z

/- The loud operations are sound: append. -/
namespace Go.Z
open Go.RowKit

section
variable {P : Program} {K : Ctx} {θ : Th} {h : List (Nat × R)} {nx : Nat} {w : World}

theorem run_firstCells {size m : Nat} {w0 : World} {L : Loc} {cs : List Value} (hw : L.wf) (hcap : L.len ≤ L.cap) (hl : cs.length = L.len * size)
    (hload : ∀ j v, cs[j]? = some v → w0.cell? ⟨L.b, L.o + j, none⟩ = some v) (hm : m = L.len) : (Builtin.firstCells size m L.val).run P w0 = .ok cs.toArray w0 := by
  subst hm
  unfold Loc.val
  cases ha : L.a with
  | none =>
    rcases hw with h0 | h0
    · have : L.len = 0 := by omega
      rw [this] at hl; simp at hl; subst hl
      rfl
    · rw [ha] at h0; cases h0
  | some a =>
    rcases hw with h0 | h0
    · have h1 : L.len = 0 := by omega
      rw [h1] at hl ⊢; simp at hl; subst hl
      exact run_firstCells_some w0 size 0 a 0 L.cap [] (by simp) (fun j v hv => by simp at hv)
    · rw [ha] at h0; cases h0
      exact run_firstCells_some w0 size L.len _ _ _ cs hl (fun j v hv => by rw [add_mk]; exact hload j v hv)

/-- What is appended: its cells. -/
theorem srcD_sound (hs : SatH K θ h nx w) {e xT : Nat} {i : TypeInfo} {z : Value} (hi : P.info? e = some i) (hz : i.zero = some z) {x : SV} {u : Value} (hu : V θ x u) {c : Prop} {d : D}
    (hq : srcD P e xT x h = some (c, d)) (hc : c) (hes : d.es = i.size) :
    ∃ news, SrcOk P i z xT u d.len news w ∧ d.cellsAre (Free K θ h) w news := by
  unfold srcD at hq
  split at hq
  · rename_i e' m hT
    split at hq <;> cases hq
    rename_i hd
    obtain ⟨L, hL, hat, hw⟩ := arrOf_sound hs hd
    simp only [V] at hu
    obtain ⟨L', hL', rfl⟩ := hu
    obtain rfl := Option.some.inj (hL.symm.trans hL')
    obtain ⟨l1, l2⟩ := D.at_len hat
    obtain ⟨cs, a1, a2, a3⟩ := D.at_cells hat
    refine ⟨cs, .inl ⟨_, hT, fun k => by simp, fun w' => ?_, ?_, ?_⟩, a3⟩
    · rw [← l1]; rfl
    · exact run_firstCells hw l2 (by rw [a1, l1, hes]) a2 l1.symm
    · exact run_firstCells hw l2 (by rw [a1, l1, hes]) a2 l1.symm
  · rename_i s hT
    split at hq <;> cases hq
    simp only [V] at hu; subst hu
    have hsz : s.extract 0 s.size = s := by
      apply ByteArray.ext; simp
    have hlen : (D.ints IntKind.u8 (s.data.toList.map fun b => (b.toNat : Int))).len = s.size := by
      show (s.data.toList.map _).length = s.data.size
      rw [List.length_map, Array.length_toList]
    refine ⟨s.data.toList.map fun b => .int .u8 (b.toNat : Int), .inl ⟨_, hT, fun k => by simp, fun w' => ?_, ?_, ?_⟩, by simp [D.cellsAre, Function.comp_def]⟩
    · rw [hlen]; rfl
    · rw [hlen]; simp only [Builtin.firstCells, hsz]; simp
      apply Array.ext'; simp
    · rw [hlen]; simp only [Builtin.firstCells, hsz]; simp
      apply Array.ext'; simp
  · rename_i k kk zz hT
    split at hq <;> try (cases hq; done)
    rename_i ke hke
    split at hq <;> try (cases hq; done)
    rename_i i' hi'
    split at hq <;> cases hq
    rename_i k' hz'
    obtain rfl := Option.some.inj (hi.symm.trans hi')
    obtain rfl := Option.some.inj (hz.symm.trans hz')
    obtain ⟨c1, c2, c3, c4⟩ := hc
    subst c4
    simp only [V] at hu; subst hu
    have hlen : (D.ints k' (List.replicate zz.toNat 0)).len = zz.toNat := by simp [D.len]
    refine ⟨(Builtin.zeroCells (Value.int k' 0).cells zz.toNat).toList, .inr ⟨k, kk, hT, by rw [hlen, Int.toNat_of_nonneg c1], by rw [hlen]; omega, by rw [hlen]; exact c3, by rw [hlen]⟩, ?_⟩
    simp only [D.cellsAre, Builtin.zeroCells, Value.cells, Array.toList_map]
    apply List.ext_getElem?
    intro j
    simp only [List.getElem?_map, List.getElem?_replicate]
    by_cases hj : j < zz.toNat
    · simp [hj, Nat.mod_one]
    · simp [hj]
  · cases hq

theorem grown_cells (w : World) (need old e : Nat) : need ≤ grownCap w need old e := grownCap_ge w need old e

theorem size_zero (zs : Array Value) (n : Nat) : (Builtin.zeroCells zs n).size = n * zs.size := by simp [Builtin.zeroCells]

/-- A new array, behind a growth. -/
theorem grow_sat (hs : SatH K θ h nx w) {e : Nat} {r : D} {cells : List Value} {zs : Array Value} {need cap : Nat} (hlen : r.len = need) (hes : zs.size = r.es)
    (hcells : ∀ X' : Nat → Prop, (∀ b, b < w.heap.size → Free K θ h b → X' b) → ∀ w' : World, (∀ b, b < w.heap.size → w'.heap[b]? = w.heap[b]?) → r.cellsAre X' w' cells) :
    SatH K (θ.add nx { a := some ⟨w.heap.size, 0, none⟩, len := need, cap := grownCap w need cap e })
      ((nx, .own e r) :: h) (nx + 1) (w.drew.alloc (.cells (cells.toArray ++ Builtin.zeroCells zs (grownCap w need cap e - need)) e)) := by
  have hb : Below w.heap.size w (w.drew.alloc (.cells (cells.toArray ++ Builtin.zeroCells zs (grownCap w need cap e - need)) e)) :=
    ((Below.refl _ _).drew).alloc (Nat.le_refl _) _
  have hge := grownCap_ge w need cap e
  refine hs.add_new hb (fun _ => Nat.le_refl _) (fun θ' X' hθ hX1 hX2 => ?_)
  have hc := hcells X' hX1 _ (fun b hb' => hb.block b hb')
  have hcl := D.cellsAre_length hc
  have hheap : (w.drew.alloc (.cells (cells.toArray ++ Builtin.zeroCells zs (grownCap w need cap e - need)) e)).heap[w.heap.size]? = some (.cells (cells.toArray ++ Builtin.zeroCells zs (grownCap w need cap e - need)) e (0, 0)) := by
    show (w.heap.push _)[w.heap.size]? = _
    simp
  refine ⟨D.at_of_cells hlen.symm hge (fun j v hv => ?_) hc, .inr rfl, fun _ => ⟨_, hheap, ?_⟩⟩
  · have hj := (List.getElem?_eq_some_iff.1 hv).1
    show World.cell? _ ⟨w.heap.size, 0 + j, none⟩ = _
    simp only [World.cell?, hheap, Nat.zero_add]
    simp only [Option.isSome_none, Bool.false_eq_true, if_false]
    rw [Array.getElem?_append_left (by simpa using hj)]
    simpa using hv
  · show 0 + grownCap w need cap e * r.es ≤ _
    simp only [Array.size_append, List.size_toArray, size_zero, hes, hcl, hlen]
    rw [← Nat.add_mul]
    rw [show need + (grownCap w need cap e - need) = grownCap w need cap e by omega]
    omega

theorem isSl_sound {T : Nat} (hq : appendL.isSl P T = true) : ∃ e, P.underlying T = some (.slice e) := by
  unfold appendL.isSl at hq
  split at hq
  · exact ⟨_, by assumption⟩
  · cases hq

theorem D.app_es {d e r : D} (h : D.app d e = some r) : e.es = d.es := by
  cases d <;> cases e <;> simp only [D.app] at h <;> (try (cases h; done))
  · rfl
  · rename_i es n f es' m g
    cases hb : Nat.beq es es' with
    | false => rw [hb] at h; cases h
    | true => exact (nbeq hb).symm

theorem appendL_sound (hs : SatH K θ h nx w) {sT xT ty : Nat} {s x : SV} {u v : Value} (hu : V θ s u) (hv : V θ x v) {k : HK} (hq : appendL P sT xT s x h nx k) :
    LOK K θ nx k ((Builtin.append_ #[sT, xT] ty #[u, v]).run P w) := by
  unfold appendL at hq
  split at hq <;> try exact hq.elim
  rename_i e hT
  split at hq <;> try exact hq.elim
  rename_i i hi
  split at hq <;> try exact hq.elim
  rename_i z hz
  obtain ⟨hc, hq0⟩ := cond_false hq
  clear hq
  simp only [Bool.and_eq_true] at hc
  have hzs := nbeq hc.1.1
  have hby := nblt hc.2
  have small : ∀ q : Nat, q * i.bytes ≤ 140737488355328 → q ≤ 9223372036854775807 := fun q hq => by
    have := Nat.le_mul_of_pos_right q hby
    omega
  -- nothing is appended
  have none_src : ∀ {e'}, P.underlying xT = some (.slice e') → SrcOk P i z xT (.slice none 0 0) 0 [] w := fun hx => .inl ⟨_, hx, fun k => by simp, fun w' => rfl, rfl, rfl⟩
  split at hq0
  · -- nil, nil
    obtain ⟨h1, h2⟩ := cond_false hq0
    obtain ⟨e', hx⟩ := isSl_sound h1
    simp only [V] at hu hv; subst hu hv
    refine ⟨_, _, _, θ, .slice none 0 0, w, h2, hs, Th.ext_refl _, by simp only [V], ?_, Nat.le_refl _⟩
    exact run_app_room hT hi hz hzs (none_src hx) none 0 0 (Nat.le_refl _) w (fun a ha => by cases ha) (fun _ => rfl)
  · -- a, nil
    rename_i n
    split at hq0 <;> try exact hq0.elim
    rename_i d hd
    obtain ⟨h1, h2⟩ := cond_false hq0
    obtain ⟨e', hx⟩ := isSl_sound h1
    obtain ⟨L, hL, hat, hw⟩ := arrOf_sound hs hd
    simp only [V] at hu hv
    obtain ⟨L', hL', rfl⟩ := hu
    obtain rfl := Option.some.inj (hL.symm.trans hL')
    subst hv
    refine ⟨_, _, _, θ, L.val, w, h2, hs, Th.ext_refl _, by simp only [V]; exact ⟨L, hL, rfl⟩, ?_, Nat.le_refl _⟩
    exact run_app_room hT hi hz hzs (none_src hx) L.a L.len L.cap (D.at_len hat).2 w (fun a _ => rfl) (fun _ => rfl)
  · -- nil, something
    rename_i hne
    split at hq0 <;> try exact hq0.elim
    rename_i c d hsrc
    obtain ⟨h1, h2⟩ := cond_false hq0
    obtain ⟨h3, h4, h5⟩ := h2
    have hes := nbeq h1
    obtain ⟨news, hsr, hcells⟩ := srcD_sound hs hi hz hv hsrc h3 hes
    have hcl := D.cellsAre_length hcells
    simp only [V] at hu; subst hu
    by_cases hm : d.len = 0
    · rw [hm] at hcl hsr
      simp at hcl; subst hcl
      refine ⟨_, _, _, θ.add nx { a := none, len := 0, cap := 0 }, .slice none 0 0, w, h5, ?_, Th.add_ext (hs.fresh nx (Nat.le_refl _)) _, by simp only [V]; exact ⟨_, Th.add_self _ _ _, rfl⟩, ?_, by omega⟩
      · refine hs.add_new (Below.refl _ _) (fun ho => absurd rfl ho) (fun θ' X' _ hX1 _ => ⟨?_, .inl rfl, fun hne => absurd rfl hne⟩)
        exact D.at_of_cells hm.symm (Nat.le_refl _) (fun j v hv => by simp at hv) (D.cellsAre_mono (fun b hb hf => ⟨hX1 b hb hf, rfl⟩) hcells)
      · exact run_app_room hT hi hz hzs hsr none 0 0 (Nat.le_refl _) w (fun a ha => by cases ha) (fun _ => rfl)
    · have h63 := small _ h4
      have hrun := run_app_grow (P := P) (ty := ty) hT hi hz hzs hsr none 0 0 [] (by omega) rfl (by omega) (by simpa using h4)
      refine ⟨_, _, _, _, _, _, h5, grow_sat (need := d.len) (cap := 0) (e := e) (zs := z.cells) (cells := news) hs rfl (by rw [hzs, hes]) (fun X' hX' w' hw' => D.cellsAre_mono (fun b hb hf => ⟨hX' b hb hf, hw' b hb⟩) hcells),
        Th.add_ext (hs.fresh nx (Nat.le_refl _)) _, by simp only [V]; exact ⟨_, Th.add_self _ _ _, rfl⟩, ?_, by omega⟩
      rw [hrun]
      simp [Loc.val]
  · -- an array, something
    rename_i n hne
    split at hq0 <;> try exact hq0.elim
    rename_i T d hf
    split at hq0 <;> try exact hq0.elim
    rename_i c d' hsrc
    split at hq0 <;> try exact hq0.elim
    rename_i r happ
    obtain ⟨h1, h2⟩ := cond_false hq0
    obtain ⟨h3, h4, h5⟩ := h2
    simp only [Bool.and_eq_true] at h1
    obtain ⟨⟨b1, b2⟩, b3⟩ := h1
    obtain rfl := nbeq b1
    have hes := nbeq b2
    obtain ⟨L, hL, hat, hw, hown⟩ := hs.res n _ hf
    simp only [V] at hu
    obtain ⟨L', hL', rfl⟩ := hu
    obtain rfl := Option.some.inj (hL.symm.trans hL')
    obtain ⟨len1, len2⟩ := D.at_len hat
    obtain ⟨olds, a1, a2, a3⟩ := D.at_cells hat
    have hes' : d'.es = i.size := by
      have := (D.app_es happ); omega
    obtain ⟨news, hsr, hcells⟩ := srcD_sound hs hi hz hv hsrc h3 hes'
    obtain ⟨r1, r2, r3, r4⟩ := D.app_cells happ a3 hcells
    have hcl := D.cellsAre_length hcells
    have hone := D.cellsAre_one hcells
    have hnx := hs.fresh nx (Nat.le_refl _)
    by_cases hroom : L.len + d'.len ≤ L.cap
    · by_cases hcap : L.cap = 0
      · -- nothing at all
        have e1 : d'.len = 0 := by omega
        have e2 : d.len = 0 := by omega
        rw [e1] at hcl hsr
        simp at hcl; subst hcl
        rw [e2] at a1
        simp at a1; subst a1
        refine ⟨_, _, _, (θ.add nx L), L.val, w, h5, ?_, Th.add_ext hnx _, by simp only [V]; exact ⟨L, Th.add_self _ _ _, rfl⟩, ?_, by omega⟩
        · refine (hs.kill ⟨L, hL⟩).add_new (Below.refl _ _) (fun ho => absurd hcap ho) (fun θ' X' _ hX1 _ => ⟨?_, hw, fun hne => absurd hcap hne⟩)
          have hX1' : ∀ b, b < w.heap.size → Free K θ h b → X' b := fun b hb hfb => hX1 b hb ⟨fun m hm => by
            obtain ⟨r1, L1, q1, q2, q3, q4⟩ := hm
            rw [hfind_cons] at q1
            split at q1
            · cases q1; exact q3
            · exact hfb.1 m ⟨r1, L1, q1, q2, q3, q4⟩, hfb.2⟩
          exact D.at_of_cells (by omega) (by omega) (fun j v hv => by simp at hv) (D.cellsAre_mono (fun b hb hfb => ⟨hX1' b hb hfb, rfl⟩) r1)
        · have := run_app_room (P := P) (ty := ty) hT hi hz hzs hsr L.a L.len L.cap (by omega) w (fun a _ => rfl) (fun _ => rfl)
          exact this
      · obtain ⟨cur, hb, hcur⟩ := hown hcap
        have ha : L.a = some ⟨L.b, L.o, none⟩ := hw.resolve_left hcap
        have hfit : L.o + L.len * i.size + news.length ≤ cur.size := by
          rw [hcl, hes']
          have : (L.len + d'.len) * d.es ≤ L.cap * d.es := Nat.mul_le_mul_right _ hroom
          rw [hes, Nat.add_mul] at this
          rw [hes] at hcur
          omega
        have hst := run_storeCells_at P L.b (L.o + L.len * i.size) T news 0 cur w hb (by simpa using hfit) hone
        simp only [Nat.add_zero] at hst
        have hrun := run_app_room (P := P) (ty := ty) hT hi hz hzs hsr L.a L.len L.cap hroom _ (fun a ha' => by
          rw [ha] at ha'; cases ha'
          rw [add_mk]; exact hst) (fun h0 => by rw [ha] at h0; cases h0)
        have hLb : ({ a := L.a, len := L.len + d'.len, cap := L.cap } : Loc).b = L.b := rfl
        refine ⟨_, _, _, (θ.add nx { a := L.a, len := L.len + d'.len, cap := L.cap }), _, _, h5, ?_, Th.add_ext hnx _, by simp only [V]; exact ⟨_, Th.add_self _ _ _, rfl⟩, hrun, by omega⟩
        refine hs.move hf hL hcap hLb hcap rfl rfl rfl (by simp) (fun b hne' => setRow_other w L.b b _ hne') (fun X' hX' => ⟨?_, ?_, fun _ => ⟨_, setRow_heap w L.b cur _ T _ hb, ?_⟩⟩)
        · refine D.at_of_cells (cs := olds ++ news) (by simp only; omega) hroom (fun j v hv => ?_) ?_
          · show World.cell? _ ⟨L.b, L.o + j, none⟩ = _
            rw [cell_setRow_same w L.b _ cur _ T _ hb]
            simp only [List.getElem?_toArray]
            have t2 : (cur.toList.take (L.o + L.len * i.size)).length = L.o + L.len * i.size := by simp; omega
            have ol : olds.length = L.len * i.size := by rw [a1, len1, hes]
            by_cases c1 : j < olds.length
            · rw [List.getElem?_append_left c1] at hv
              rw [List.append_assoc, List.getElem?_append_left (by omega), List.getElem?_take, if_pos (by omega)]
              have := a2 j v hv
              simpa [World.cell?, hb] using this
            · rw [List.getElem?_append_right (by omega)] at hv
              rw [List.append_assoc, List.getElem?_append_right (by omega), t2, show L.o + j - (L.o + L.len * i.size) = j - olds.length by omega]
              rw [List.getElem?_append_left (List.getElem?_eq_some_iff.1 hv).1]; exact hv
          · refine D.cellsAre_mono (fun b hb' hfb => ⟨hX' b hb' hfb, setRow_other w L.b b _ (fun e => hfb.1 n (e ▸ ⟨_, L, hf, hL, hcap, rfl⟩))⟩) r1
        · exact .inr ha
        · simp only [List.size_toArray, List.length_append, List.length_take, List.length_drop, Array.length_toList]
          rw [r3]
          show L.o + L.cap * d.es ≤ _
          omega
    · have h63 := small _ h4
      have ol : olds.length = L.len * i.size := by rw [a1, len1, hes]
      have hrun := run_app_grow (P := P) (ty := ty) hT hi hz hzs hsr L.a L.len L.cap olds (by omega) (run_firstCells hw len2 ol a2 rfl) (by omega) (by rw [len1]; exact h4)
      have hk := hs.kill (n := n) ⟨L, hL⟩
      have hkF : ∀ b, Free K θ h b → Free K θ ((n, .dead) :: h) b := fun b hfb => ⟨fun m hm => by
            obtain ⟨r1, L1, q1, q2, q3, q4⟩ := hm
            rw [hfind_cons] at q1
            split at q1
            · cases q1; exact q3
            · exact hfb.1 m ⟨r1, L1, q1, q2, q3, q4⟩, hfb.2⟩
      refine ⟨_, _, _, _, _, _, h5, grow_sat (need := L.len + d'.len) (cap := L.cap) (e := T) (zs := z.cells) (cells := olds ++ news) hk (by omega) (by rw [hzs, r3, hes])
          (fun X' hX' w' hw' => D.cellsAre_mono (fun b hb hfb => ⟨hX' b hb (hkF b hfb), hw' b hb⟩) r1),
        Th.add_ext hnx _, by simp only [V]; exact ⟨_, Th.add_self _ _ _, rfl⟩, ?_, by omega⟩
      rw [show L.val = .slice L.a L.len L.cap from rfl, hrun]
      simp [Loc.val]
  · exact hq0.elim
end
end Go.Z

/- The loud operations are sound: all. -/
namespace Go.Z
open Go.RowKit

section
variable {P : Program} {K : Ctx} {θ : Th} {h : List (Nat × R)} {nx : Nat} {w : World}

/-- A new array, all of it. -/
theorem new_sat (hs : SatH K θ h nx w) {e n cap : Nat} {r : D} {cells : List Value} {arr : Array Value} (hlen : r.len = n) (hle : n ≤ cap) (hsz : cap * r.es ≤ arr.size)
    (hpre : ∀ (j : Nat) (v : Value), cells[j]? = some v → arr[j]? = some v)
    (hcells : ∀ X' : Nat → Prop, (∀ b, b < w.heap.size → Free K θ h b → X' b) → ∀ w' : World, (∀ b, b < w.heap.size → w'.heap[b]? = w.heap[b]?) → r.cellsAre X' w' cells) :
    SatH K (θ.add nx { a := some ⟨w.heap.size, 0, none⟩, len := n, cap := cap }) ((nx, .own e r) :: h) (nx + 1) (w.alloc (.cells arr e)) := by
  have hb := below_alloc w (.cells arr e)
  refine hs.add_new hb (fun _ => Nat.le_refl _) (fun θ' X' hθ hX1 hX2 => ?_)
  have hc := hcells X' hX1 _ (fun b hb' => hb.block b hb')
  have hheap : (w.alloc (.cells arr e)).heap[w.heap.size]? = some (.cells arr e (0, 0)) := by
    show (w.heap.push _)[w.heap.size]? = _
    simp
  refine ⟨D.at_of_cells hlen.symm hle (fun j v hv => ?_) hc, .inr rfl, fun _ => ⟨_, hheap, ?_⟩⟩
  · show World.cell? _ ⟨w.heap.size, 0 + j, none⟩ = _
    simp only [World.cell?, hheap, Nat.zero_add]
    simpa using hpre j v hv
  · show 0 + cap * r.es ≤ _
    omega

theorem makeSliceL_sound (hs : SatH K θ h nx w) {T : Nat} {l c : SV} {u v : Value} (hu : V θ l u) (hv : V θ c v) {k : HK} (hq : makeSliceL P T l c h nx k) :
    LOK K θ nx k ((Instr.makeSlice T u v).run P w) := by
  unfold makeSliceL at hq
  split at hq <;> try exact hq.elim
  rename_i e k1 n k2 m hT
  split at hq <;> try exact hq.elim
  rename_i kk i hke hi
  split at hq <;> try exact hq.elim
  rename_i k' hz
  obtain ⟨b1, c1, h5⟩ := cond_false hq
  obtain ⟨c1, c2, c3, c4, c5⟩ := c1
  have b1 := nbeq b1
  subst c5
  simp only [V] at hu hv; subst hu hv
  have hn : n = (n.toNat : Int) := by omega
  have hm : m = (m.toNat : Int) := by omega
  have w1 : IntKind.i64.wrap n = n := IntWalk.i64_in _ (by omega)
  have w2 : IntKind.i64.wrap m = m := IntWalk.i64_in _ (by omega)
  have e3 : ((m.toNat * i.bytes : Nat) : Int) = (m.toNat : Int) * (i.bytes : Int) := Int.natCast_mul _ _
  have e4 : ¬ (281474976710656 < (i.bytes : Int) * m) := by rw [Int.mul_comm, hm]; omega
  refine ⟨_, _, _, _, _, _, h5, new_sat (n := n.toNat) (cap := m.toNat) (e := e) (cells := (List.replicate n.toNat 0).map (Value.int kk))
    (arr := ((Array.range (m.toNat * i.size)).map fun j => (Value.int kk 0).cells[j % (Value.int kk 0).cells.size]!)) hs (by simp [D.len]) (by omega) (by simp [D.es, b1]) (fun j v hv => ?_) (fun X' _ w' _ => rfl),
    Th.add_ext (hs.fresh nx (Nat.le_refl _)) _, by simp only [V]; exact ⟨_, Th.add_self _ _ _, rfl⟩, ?_, by omega⟩
  · rw [List.getElem?_map, List.getElem?_replicate] at hv
    split at hv <;> simp at hv
    subst hv
    have : j < m.toNat := by omega
    simp [b1, this, Value.cells, Nat.mod_one]
  · have h0 : ¬ (n < 0) := by omega
    have h1 : ¬ (m < n) := by omega
    have h2 : ¬ (m < 0) := by omega
    simp [Instr.makeSlice, run_underlying hT, asInt, asIntOf, run_typeInfo hi, run_sizeOf hi, w1, w2, h0, h1, h2, e4, newRow, Loc.val]
    split
    · rename_i hz0
      rw [hz0]
      congr 2
      simp
    · rw [run_zero hi hz]; rfl

theorem DL.get {X : Nat → Prop} {w' : World} : ∀ {l : List D} {vs : List Value} {p : Nat}, DL.holds X w' l vs → (hp : p < l.length) → ∃ c, vs[p]? = some c ∧ l[p].holds X w' c
  | [], _, _, _, hp => by simp at hp
  | _ :: _, [], _, h, _ => h.elim
  | _ :: _, v :: _, 0, h, _ => ⟨v, rfl, h.1⟩
  | _ :: l, _ :: vs, p + 1, h, hp => by simpa using DL.get (l := l) (vs := vs) h.2 (by simpa using hp)

theorem cellsOne : ∀ {l : List SV} {us : List Value}, VL θ l us → l.all oneS = true → ∀ u ∈ us, u.oneCell' = true
  | [], us, h1, _, u, hu => by rw [VL_nil_left h1] at hu; cases hu
  | s :: l, us, h1, h2, u, hu => by
    obtain ⟨v, vs, rfl, hv, hvs⟩ := VL_cons_left h1
    simp only [List.all_cons, Bool.and_eq_true] at h2
    rcases List.mem_cons.1 hu with rfl | hu
    · exact oneCell_of h2.1 hv
    · exact cellsOne hvs h2.2 u hu

theorem fillS_length {place : Nat → Option (Nat × Nat)} : ∀ {parts : List (Nat × SV)} {cells r : List SV}, fillS place cells parts = some r → r.length = cells.length
  | [], cells, r, h => by simp [fillS] at h; rw [h]
  | (i, s) :: rest, cells, r, h => by
    unfold fillS at h
    split at h <;> try (cases h; done)
    rename_i off size cs _ _
    cases hc : (Nat.beq cs.length size && Nat.ble (off + size) cells.length) with
    | false => rw [hc] at h; cases h
    | true =>
      rw [hc] at h
      simp only [Bool.and_eq_true] at hc
      have e1 := nbeq hc.1
      have e2 := nble hc.2
      rw [fillS_length (parts := rest) h]
      simp; omega

theorem fillS_places {size : Nat} : ∀ i r, placesSl size i = some r → (fun i => some (i * size, size)) i = some r := fun _ _ h => h

theorem buildSliceL_sound (hs : SatH K θ h nx w) {T len : Nat} {parts : List (Nat × Value)} {ixs : List Nat} {vs : List SV} {k : HK}
    (hix : parts.map (·.1) = ixs) (hvs : VL θ vs (parts.map (·.2))) (hq : buildSliceL P T len ixs vs h nx k) :
    LOK K θ nx k ((Instr.buildSlice T len parts.toArray).run P w) := by
  unfold buildSliceL at hq
  split at hq <;> try exact hq.elim
  rename_i e hT
  split at hq <;> try exact hq.elim
  rename_i i hi
  split at hq <;> try exact hq.elim
  rename_i z hz
  obtain ⟨hc, hq0⟩ := cond_false hq
  clear hq
  simp only [Bool.and_eq_true] at hc
  have c1 := nble hc.1.1
  have c2 := nblt hc.1.2
  have c3 := nbeq hc.2
  split at hq0 <;> try exact hq0.elim
  rename_i cs hcs
  have hf2 : PV θ (ixs.zip vs) parts := by
    subst hix
    clear hcs hq0
    induction parts generalizing vs with
    | nil => simp [PV]
    | cons p ps ih =>
      cases vs with
      | nil => simp [VL] at hvs
      | cons s ss =>
        simp only [List.map_cons, VL] at hvs
        simp only [List.map_cons, List.zip_cons_cons]
        exact ⟨⟨rfl, hvs.1⟩, ih hvs.2⟩
  have hz0 : VL θ ((List.range (len * i.size)).map fun j => liftK1 (z.cells.toList.getD (j % i.size) undef)) ((Array.range (len * i.size)).map fun j => z.cells[j % z.cells.size]!).toList := by
    have : ((Array.range (len * i.size)).map fun j => z.cells[j % z.cells.size]!).toList = (List.range (len * i.size)).map fun j => z.cells.toList.getD (j % i.size) undef := by
      rw [Array.toList_map]
      simp only [Array.toList_range]
      apply List.map_congr_left
      intro j _
      rw [c3]
      have hlt : j % i.size < z.cells.size := by rw [c3]; exact Nat.mod_lt _ c2
      rw [getElem!_pos z.cells _ hlt]
      simp [List.getD, List.getElem?_eq_getElem (show j % i.size < z.cells.toList.length by simpa using hlt)]
    rw [this]
    have := VL_liftK1 θ ((List.range (len * i.size)).map fun j => z.cells.toList.getD (j % i.size) undef)
    simpa [Function.comp_def] using this
  obtain ⟨out, h1, h2⟩ := fillS_sound (θ := θ) (placeV := fun j => some (j * i.size, i.size)) (fun j r hr => hr) _ _ _ _ _ hf2 hz0 hcs
  have hrun : (Instr.buildSlice T len parts.toArray).run P w = .ok (.slice (some ⟨w.heap.size, 0, none⟩) len len) (w.alloc (.cells out e)) := by
    have hb : ¬ (16777216 < len * i.size) := by omega
    simp only [Instr.buildSlice, Sem.run_bind, run_underlying hT, Result.andThen, run_sizeOf hi]
    rw [if_neg (by simpa using hb), Sem.run_ite]
    split
    · rename_i h0
      have e0 : (Array.map (fun x => (#[] : Array Value)[x % (#[] : Array Value).size]!) (Array.range (len * i.size))) = ((Array.range (len * i.size)).map fun j => z.cells[j % z.cells.size]!) := by
        rw [h0]; simp
      simp only [Sem.run_bind, Sem.run_pure, Result.andThen]
      rw [e0, h1]; rfl
    · simp only [Sem.run_bind, run_zero hi hz, Result.andThen, Sem.run_pure]
      rw [h1]; rfl
  have hcl := VL_length h2
  have hfl := fillS_length hcs
  simp at hfl
  have hos : out.size = len * i.size := by
    have : out.toList.length = out.size := by simp
    omega
  split at hq0
  · rename_i kk hke
    split at hq0 <;> try exact hq0.elim
    rename_i zs hzs
    obtain ⟨b1, h5⟩ := cond_false hq0
    have b1 := nbeq b1
    have hout := intsOf_sound hzs h2
    refine ⟨_, _, _, _, _, _, h5, new_sat (n := len) (cap := len) (e := e) (cells := out.toList) (arr := out) hs ?_ (Nat.le_refl _) ?_ (fun j v hv => by simpa using hv) (fun X' _ w' _ => hout),
      Th.add_ext (hs.fresh nx (Nat.le_refl _)) _, by simp only [V]; exact ⟨_, Th.add_self _ _ _, rfl⟩, hrun, by omega⟩
    · have := congrArg List.length hout
      simp at this
      simp [D.len]; rw [← this, hos, b1, Nat.mul_one]
    · simp [D.es, hos, b1]
  · rename_i ep hke
    obtain ⟨b1, h5⟩ := cond_false hq0
    have h0 := add_blk (T := e) hs h2
    refine ⟨_, _, _, _, _, _, h5, h0, Th.add_ext (hs.fresh nx (Nat.le_refl _)) _, by simp only [V]; exact ⟨_, Th.add_self _ _ _, rfl⟩, ?_, by omega⟩
    rw [hrun]
    rfl
  · rename_i hke
    split at hq0 <;> try exact hq0.elim
    rename_i ds hds
    have hs1 : SatH K θ (freezeL h cs) nx w := freezeL_sound hs
    have hdl : DL.holds (Free K θ (freezeL h cs)) w ds out.toList := dsOf_sound hs1 h2 hds
    refine ⟨_, _, _, _, _, _, hq0, new_sat (n := len) (cap := len) (e := e) (cells := out.toList) (arr := out) hs1 rfl (Nat.le_refl _) ?_ (fun j v hv => by simpa using hv) (fun X' hX' w' hw' => ?_),
      Th.add_ext (hs.fresh nx (Nat.le_refl _)) _, by simp only [V]; exact ⟨_, Th.add_self _ _ _, rfl⟩, hrun, by omega⟩
    · simp [D.es, hos]
    · refine ⟨by simp [hos], fun i' hi' j' hj' => ?_⟩
      have hdl' : DL.holds X' w' ds out.toList := DL.holds_mono (fun b hb hf => ⟨hX' b hb hf, hw' b hb⟩) hdl
      have hlt : i' * i.size + j' < ds.length := by
        rw [DL.length hdl]
        simp only [Array.length_toList, hos]
        have : (i' + 1) * i.size ≤ len * i.size := Nat.mul_le_mul_right _ hi'
        rw [Nat.add_mul] at this; omega
      obtain ⟨c, g1, g2⟩ := DL.get hdl' hlt
      refine ⟨c, g1, ?_⟩
      simp only [gridD, List.getD, List.getElem?_eq_getElem hlt, Option.getD_some]
      exact g2

theorem copyL_sound (hs : SatH K θ h nx w) {dT ty : Nat} {ts : Array Nat} {s t : SV} {u v : Value} (hts : ts[0]? = some dT) (hu : V θ s u) (hv : V θ t v) {k : HK} (hq : copyL P dT s t h nx k) :
    LOK K θ nx k ((Builtin.copy_ ts ty #[u, v]).run P w) := by
  unfold copyL at hq
  split at hq <;> try exact hq.elim
  rename_i e n l m hT
  split at hq <;> try exact hq.elim
  rename_i T kk xs kk' ys i hf hm hi
  obtain ⟨hc, hq1⟩ := cond_false hq
  obtain ⟨⟨rfl, hle, hpos⟩, hk⟩ := hq1
  have hsz := nbeq hc
  simp only [V] at hu hv
  obtain ⟨L, hL, hl, rfl⟩ := hu
  obtain ⟨M, hM, rfl⟩ := hv
  obtain ⟨L', hL', hat, hw, hown⟩ := hs.res n _ hf
  obtain rfl := Option.some.inj (hL.symm.trans hL')
  obtain ⟨M', hM', hatM, hwM⟩ := arrOf_sound hs hm
  obtain rfl := Option.some.inj (hM.symm.trans hM')
  obtain ⟨len1, len2⟩ := D.at_len hat
  obtain ⟨mlen1, mlen2⟩ := D.at_len hatM
  simp only [D.len] at len1 mlen1
  have hcap : L.cap ≠ 0 := by omega
  obtain ⟨cur, hb, hcur⟩ := hown hcap
  have ha : L.a = some ⟨L.b, L.o, none⟩ := hw.resolve_left hcap
  obtain ⟨cs, a1, a2, a3⟩ := D.at_cells hat
  obtain ⟨ds, b1, b2, b3⟩ := D.at_cells hatM
  simp only [D.cellsAre] at b3 a3
  subst a3 b3
  have hes : (D.ints kk xs).es = 1 := rfl
  have hfit : L.o + l + ((ys.map (Value.int kk)).length) ≤ cur.size := by
    rw [hes] at hcur; simp; omega
  have hone : ∀ u ∈ ys.map (Value.int kk), u.oneCell' = true := by
    intro u hu; simp at hu; obtain ⟨z, _, rfl⟩ := hu; rfl
  have hst := run_storeCells_at P L.b (L.o + l) T (ys.map (Value.int kk)) 0 cur w hb (by simpa using hfit) hone
  simp only [Nat.add_zero] at hst
  have hfc := run_firstCells (P := P) (size := 1) (m := M.len) (w0 := w) hwM mlen2 (by simp; omega) b2 rfl
  have hmin : min M.len (L.len - l) = M.len := Nat.min_eq_left (by omega)
  have hbase : (if L.cap = l then L.a else L.a.map (·.add l)) = some ⟨L.b, L.o + l, none⟩ := by
    rw [if_neg (by omega), ha]; simp [add_mk]
  refine ⟨_, _, _, θ, .int .i64 (ys.length : Int), _, hk, turn_own (d' := .ints kk (xs.take l ++ (ys ++ xs.drop (l + ys.length)))) (p := l) (vs := ys.map (Value.int kk)) hs hf hL hcap (by simp [D.len]; omega) rfl a1 a2 hb (by simp; omega) hcur ?_, Th.ext_refl _, by simp only [V], ?_, Nat.le_refl _⟩
  · intro X' hX' w' hw'
    simp [D.cellsAre]
  · have hz : (sizeOf e).run P w = .ok 1 w := by rw [run_sizeOf hi, hsz]
    have hlo : (Builtin.lenOf M.val).run P w = .ok M.len w := rfl
    have hmin : Nat.min M.len (L.len - l) = M.len := Nat.min_eq_left (by omega)
    simp only [Builtin.copy_, hts, List.getElem?_toArray, List.getElem?_cons_zero, List.getElem?_cons_succ, Sem.run_bind, run_underlying hT, Result.andThen, hlo, hz, hmin, hfc, hbase]
    rw [hst, mlen1]
    simp [goInt]
end
end Go.Z

/- One operation of a region, with its guard: symbolically. -/
namespace Go.Z
open Go.RowKit

def allT (ts : List Bool) : Prop := ∀ t, t ∈ ts → t = true

def swc (want t : Bool) (A B : Prop) : Prop := cond want (sw t A B) (sw t B A)
theorem swc_spec {want t : Bool} {A B : Prop} (h : swc want t A B) : (t = want → A) ∧ (t = (!want) → B) := by
  cases want <;> cases t <;> simpa [swc, sw] using h
def allB : List Bool → Bool
  | [] => true
  | [t] => t
  | t :: l => t && allB l
theorem allB_iff : ∀ {l : List Bool}, allB l = true ↔ allT l
  | [] => by simp [allB, allT]
  | [t] => by simp [allB, allT]
  | t :: u :: l => by
    have := @allB_iff (u :: l)
    simp only [allB, Bool.and_eq_true, this]
    simp [allT]
theorem swT_spec {ctx : List Bool} {A B : Prop} (h : sw (allB ctx) A B) : (allT ctx → A) ∧ (¬ allT ctx → B) := by
  rw [sw_iff] at h
  refine ⟨fun hc => h.1 (allB_iff.2 hc), fun hc => h.2 ?_⟩
  cases hb : allB ctx with
  | false => rfl
  | true => exact absurd (allB_iff.1 hb) hc

mutual
/-- No name from nx on. -/
def below (nx : Nat) : SV → Bool
  | .b _ | .c _ | .nil | .arr _ _ => true
  | .p n _ | .e n _ _ _ | .a n | .q n | .m n | .sl n _ | .vw n _ => Nat.blt n nx
  | .g _ => true
  | .agg l => belowL nx l
  | .tup l => belowL nx l
  | .f _ _ l => belowL nx l
  | _ => false
def belowL (nx : Nat) : List SV → Bool
  | [] => true
  | s :: l => below nx s && belowL nx l
end

def resolve1 (ctx : List Bool) (s : SV) (k : SV → Prop) : Prop :=
  match s with
  | .w ts s' => ts = ctx.drop (ctx.length - ts.length) ∧ k s'
  | s => k s

def resolveL (env : List (Nat × SV)) (ctx : List Bool) : List Operand → (List SV → Prop) → Prop
  | [], k => k []
  | x :: xs, k => match get env x with
    | some s => resolve1 ctx s fun s' => resolveL env ctx xs fun ss => k (s' :: ss)
    | none => False

/-- The same, without the conditions: only to foretell a result. -/
def peel (s : SV) : SV :=
  match s with
  | .w _ s' => s'
  | s => s
def peelL (env : List (Nat × SV)) : List Operand → Option (List SV)
  | [] => some []
  | x :: xs => match get env x, peelL env xs with
    | some s, some ss => some (peel s :: ss)
    | _, _ => none

inductive GM where
  | run
  | skip
  | under (ctx : List Bool)
  | split (d : Nat) (t want : Bool)

def guardM (ops : Array Oper) (env : List (Nat × SV)) : Option (Nat × Bool) → Option GM
  | none => some .run
  | some (j, want) =>
    match ops.toList[j]? with
    | some oj => match oj.dst with
      | some d => match efind env d with
        | some (.b t) => some (cond (t == want) .run .skip)
        | some (.c (.bool t)) => some (.split d t want)
        | some (.c (.tuple _)) => some .skip
        | some (.w ts (.b t)) => some (cond (t == want) (.under ts) .skip)
        | some (.w ts (.c (.bool t))) => some (.under (cond want t (!t) :: ts))
        | _ => none
      | none => none
    | none => none

/-- The value that is picked by an undecided test. -/
def joinS (t : Bool) (x y : SV) : Option SV :=
  match x, y with
  | .b true, .b u => some (.c (.bool (t || u)))
  | .b true, .c (.bool u) => some (.c (.bool (t || u)))
  | .b u, .b false => some (.c (.bool (t && u)))
  | .c (.bool u), .b false => some (.c (.bool (t && u)))
  | .c (.bool u), .c (.bool v) => some (.c (.bool (cond t u v)))
  | .c (.int k a), .c (.int k' b) => if k = k' then some (.c (.int k (cond t a b))) else none
  | .c (.string a), .c (.string b) => some (.c (.string (cond t a b)))
  | _, _ => none

/-- 'pick': the two values each may be there only where the test says so. -/
def pickQ (ctx : List Bool) (c x y : SV) (k : SV → Prop) : Prop :=
  resolve1 ctx c fun c' =>
    match c' with
    | .b true => resolve1 ctx x k
    | .b false => resolve1 ctx y k
    | .c (.bool t) => resolve1 (t :: ctx) x fun x' => resolve1 ((!t) :: ctx) y fun y' => match joinS t x' y' with
      | some r => k r
      | none => False
    | _ => False

def pickR (c x y : SV) : Option SV :=
  match peel c with
  | .b true => some (peel x)
  | .b false => some (peel y)
  | .c (.bool t) => joinS t (peel x) (peel y)
  | _ => none

/-- What a quiet operation will yield, foretold. -/
def foretell (P : Program) (C : CE) (op : Op) (vs : List SV) (h : List (Nat × R)) : Option SV :=
  match op, vs with
  | .move _, [s] => some s
  | .assign _, [s] => some s
  | .fieldAddr S _ f, [s] => match fldT P S f, s with
    | some off, .p n o => some (.p n (o + off))
    | some off, .e n es i o => some (.e n es i (o + off))
    | _, _ => none
  | .load T _, [.p n o] => match hfind h n with
    | some (.blk _ l) => ldBlk P T l o
    | some (.rblk _ l) => ldBlk P T l o
    | _ => none
  | .load T _, [.e n _ i o] => match arrOf h n, kindT P T with
    | some (.ints kk xs), some (false, _) => some (.c (.int kk (xs.getD i 0)))
    | some (.recs _ _ f), some (false, _) => match f i o with
      | .v x => some (.c x)
      | _ => none
    | _, _ => none
  | .nilCheck _, [s] => some s
  | .binOp op T _ _ _, [x, y] => match scal x, scal y with
    | some u, some v => match binV P op T u v with
      | some (_, r) => some (.c r)
      | none => none
    | _, _ => none
  | .unOp op _ _, [x] => match op, x with
    | .not, .b t => some (.b (!t))
    | .not, .c (.bool t) => some (.c (.bool (!t)))
    | .neg, .c (.int kk n) => some (.c (.int kk (kk.wrap (0 - n))))
    | .xor, .c (.int kk n) => some (.c (.int kk (bits .xor kk (if kk.signed then -1 else kk.max) n)))
    | _, _ => none
  | .convert _ dst _, [x] => match P.underlying dst, x with
    | some (.int kk), .c (.int _ n) => some (.c (.int kk (kk.wrap n)))
    | some .string, .c (.string s) => some (.c (.string s))
    | some .string, .nil => some (.c (.string (bstr [])))
    | some .string, .a n => match arrOf h n with
      | some (.ints _ xs) => some (.c (.string (bstr xs)))
      | _ => none
    | _, _ => none
  | .extract _ i, [.tup l] => l[i]?
  | .field T _ f, [.agg l] => match P.underlying T with
    | some (.struct fs) => match fs[f]? with
      | some fl => ldBlk P fl.type l fl.offset
      | none => none
    | _ => none
  | .indexAddr T _ _, [.a n, .c (.int _ z)] => match P.underlying T with
    | some (.slice e) => match kindT P e with
      | some (_, es) => some (.e n es z.toNat 0)
      | _ => none
    | _ => none
  | .indexAddr T _ _, [.p n o, .c (.int _ z)] => match P.underlying T with
    | some (.array _ e) => match kindT P e with
      | some (_, es) => some (.p n (o + z.toNat * es))
      | _ => none
    | _ => none
  | .lookup _ _ _ ok, [.m n, y] => match mapOf h n, scal y with
    | some (ks, vs), some key => match ks.idx key with
      | some o => some (cond ok (.tup [.c (vs.getAt o), .c (.bool o.isSome)]) (.c (vs.getAt o)))
      | none => none
    | _, _ => none
  | .makeFunc fn first _, vs => match fn with
    | .func f => some (.f f first.toList.length vs)
    | _ => none
  | .index _ _ _, [.c (.string s), .c (.int _ z)] => some (.c (.int .u8 ((s.data.toList.getD z.toNat 0).toNat : Int)))
  | .call c, vs => match c.callee, vs with
    | .builtin .len, [x] => match x with
      | .c (.string s) => some (.c (.int .i64 (s.size : Int)))
      | .nil => some (.c (.int .i64 0))
      | .a n => match arrOf h n with
        | some d => some (.c (.int .i64 (d.len : Int)))
        | none => none
      | .m n => match mapOf h n with
        | some (ks, _) => some (.c (.int .i64 (ks.len : Int)))
        | none => none
      | _ => none
    | .value _, .f f nf caps :: args => match C f with
      | some ct => match argsOf P false h ct.own (paramsOf P f) (caps.take nf ++ (args ++ caps.drop nf)) with
        | some (as, [], _) => match scalarsOf (ct.res as) with
          | some xs => some (retS (xs.map .c))
          | none => none
        | _ => none
      | none => none
    | _, _ => none
  | _, _ => none

/-- Does it only read? -/
def isQuiet (P : Program) (C : CE) (op : Op) (env : List (Nat × SV)) : Bool :=
  match op with
  | .move _ | .assign _ | .pick .. | .fieldAddr .. | .load .. | .nilCheck _ | .binOp .. | .unOp .. | .extract .. | .field .. | .indexAddr .. | .index .. | .slice .. | .makeFunc .. | .build .. | .lookup .. => true
  | .convert _ dst _ => match P.underlying dst with
    | some (.slice _) => false
    | _ => true
  | .call c => match c.callee with
    | .builtin .len => true
    | .builtin .cap => true
    | .value x => match get env x with
      | some (.f f _ _) => match C f with
        | some ct => ct.quiet
        | none => false
      | _ => false
    | _ => false
  | _ => false

/-- A quiet operation under a context. -/
def stepOQ (P : Program) (C : CE) (ctx : List Bool) (op : Op) (env : List (Nat × SV)) (h : List (Nat × R)) (nx : Nat) (k : HK) : Prop :=
  match op with
  | .pick c x y => match get env c, get env x, get env y with
    | some c', some x', some y' => pickQ ctx c' x' y' fun r => k r h nx
    | _, _, _ => False
  | .call cl => match cl.callee with
    | .value _ => resolveL env ctx op.operands.toList fun vs => match vs with
      | .f f nf caps :: args => match C f with
        | some ct => callQ P (paramsOf P f) ct (caps.take nf ++ (args ++ caps.drop nf)) h fun r => k r h nx
        | none => False
      | _ => False
    | _ => resolveL env ctx op.operands.toList fun vs => stepQ P op vs h nx k
  | _ => resolveL env ctx op.operands.toList fun vs => stepQ P op vs h nx k

def foretellO (P : Program) (C : CE) (op : Op) (env : List (Nat × SV)) (h : List (Nat × R)) : Option SV :=
  match op with
  | .pick c x y => match get env c, get env x, get env y with
    | some c', some x', some y' => pickR c' x' y'
    | _, _, _ => none
  | _ => match peelL env op.operands.toList with
    | some vs => foretell P C op vs h
    | none => none

def putS (N : Nat) (dst : Option Nat) (s : SV) (env : List (Nat × SV)) (k : List (Nat × SV) → Prop) : Prop :=
  match dst with
  | some d => cond (Nat.blt d N) (k ((d, s) :: env)) False
  | none => k env

/-- A guard that is not known: where the result can be foretold, the operation is carried out under it; else the ways part. -/
def guardX (P : Program) (C : CE) (sp : Bool) (ops : Array Oper) (env : List (Nat × SV)) (h : List (Nat × R)) (nx : Nat) (o : Oper) : Option GM :=
  match guardM ops env o.guard with
  | some (.split d t want) => match cond (!sp && isQuiet P C o.op env) (foretellO P C o.op env h) none with
    | some r => cond (below nx r) (some (.under [cond want t (!t)])) (some (.split d t want))
    | none => some (.split d t want)
  | m => m

/-- The operations of a region, one behind the other. 'quiet': only such as read. -/
def execOps (P : Program) (C : CE) (N : Nat) (sp quiet : Bool) (ops : Array Oper) : List Oper → List (Nat × SV) → List (Nat × R) → Nat →
    (List (Nat × SV) → List (Nat × R) → Nat → Prop) → Prop
  | [], env, h, nx, k => k env h nx
  | o :: rest, env, h, nx, k =>
    match guardX P C sp ops env h nx o with
    | none => False
    | some .skip => putS N o.dst (.c undef) env fun env' => execOps P C N sp quiet ops rest env' h nx k
    | some .run =>
      cond (isQuiet P C o.op env)
        (stepOQ P C [] o.op env h nx fun r h' nx' => putS N o.dst r env fun env' => execOps P C N sp quiet ops rest env' h' nx' k)
        (cond quiet False
          (resolveL env [] o.op.operands.toList fun vs => stepL P C o.op vs h nx fun r h' nx' => putS N o.dst r env fun env' => execOps P C N sp quiet ops rest env' h' nx' k))
    | some (.split d t want) =>
      swc want t (cond (isQuiet P C o.op ((d, .b want) :: env))
        (stepOQ P C [] o.op ((d, .b want) :: env) h nx fun r h' nx' => putS N o.dst r ((d, .b want) :: env) fun env' => execOps P C N sp quiet ops rest env' h' nx' k)
        (cond quiet False
          (resolveL ((d, .b want) :: env) [] o.op.operands.toList fun vs => stepL P C o.op vs h nx fun r h' nx' => putS N o.dst r ((d, .b want) :: env) fun env' => execOps P C N sp quiet ops rest env' h' nx' k)))
      (putS N o.dst (.c undef) ((d, .b (!want)) :: env) fun env' => execOps P C N sp quiet ops rest env' h nx k)
    | some (.under ctx) =>
      match cond (isQuiet P C o.op env) (foretellO P C o.op env h) none with
      | some r => cond (below nx r) (sw (allB ctx) (stepOQ P C ctx o.op env h nx fun r' _ _ => r' = r) True ∧ putS N o.dst (.w ctx r) env fun env' => execOps P C N sp quiet ops rest env' h nx k) False
      | none =>
        sw (allB ctx) (cond (isQuiet P C o.op env)
          (stepOQ P C ctx o.op env h nx fun r h' nx' => putS N o.dst (.w ctx r) env fun env' => execOps P C N sp quiet ops rest env' h' nx' k)
          (cond quiet False
            (resolveL env ctx o.op.operands.toList fun vs => stepL P C o.op vs h nx fun r h' nx' => putS N o.dst (.w ctx r) env fun env' => execOps P C N sp quiet ops rest env' h' nx' k)))
        (putS N o.dst (.c undef) env fun env' => execOps P C N sp quiet ops rest env' h nx k)
end Go.Z

/- Regions: sound. -/
namespace Go.Z
open Go.RowKit

/-- The contracts hold, and the functions have bodies. -/
def EntersOk (P : Program) (f : Nat) : Prop := ∀ (args : Array Value) (w : World), (callFunc f args).run P w = .ok (.enter f args) w
/-- What is walked in place is carried out so. -/
def JOk (P : Program) (j : Nat → List SV → List (Nat × R) → Nat → HK → Prop) : Prop :=
  ∀ (f : Nat) (args : List SV) (h : List (Nat × R)) (nx : Nat) (k : HK) (K : Ctx) (θ : Th) (w : World) (us : List Value), SatH K θ h nx w → VL θ args us → j f args h nx k →
    EntersOk P f ∧ Calls P f us.toArray w fun e w' => ∃ r h' nx' θ' v, e = .returned v ∧ k r h' nx' ∧ SatH K θ' h' nx' w' ∧ θ.ext θ' ∧ V θ' r v
structure COk (P : Program) (C : CE) : Prop where
  c : ∀ f c, C.c f = some c → FnOk P f c ∧ EntersOk P f
  j : JOk P C.j

theorem entersOk {P : Program} {f : Nat} {fn : Func} (hf : P.funcs[f]? = some fn) (hb : fn.body.isSome = true) (hn : (fn.name == "runtime.NumGoroutine") = false) : EntersOk P f := by
  intro args w
  have hb' : fn.body.isNone = false := by simpa using hb
  simp only [callFunc, Sem.run_bind, run_program, Result.andThen, hf, hn, hb', Bool.false_eq_true, if_false]
  rfl

section
variable {P : Program} {C : CE} {K : Ctx} {θ : Th} {h : List (Nat × R)} {nx : Nat} {w : World} {env : List (Nat × SV)} {a : Act}

theorem allT_drop {ctx ts : List Bool} (hc : allT ctx) (he : ts = ctx.drop (ctx.length - ts.length)) : allT ts := by
  intro t ht
  rw [he] at ht
  exact hc t (List.mem_of_mem_drop ht)

theorem resolve1_sound {ctx : List Bool} {s : SV} {v : Value} {k : SV → Prop} (hc : allT ctx) (hv : V θ s v) (hq : resolve1 ctx s k) : ∃ s', k s' ∧ V θ s' v := by
  unfold resolve1 at hq
  split at hq
  · simp only [V] at hv
    exact ⟨_, hq.2, hv.1 (allT_drop hc hq.1)⟩
  · exact ⟨_, hq, hv⟩

theorem resolveL_sound (he : SatE K θ env a) {ctx : List Bool} (hc : allT ctx) : ∀ {xs : List Operand} {k : List SV → Prop}, resolveL env ctx xs k → ∃ ss, k ss ∧ VL θ ss (xs.map a.eval)
  | [], k, hq => ⟨[], hq, by simp [VL]⟩
  | x :: xs, k, hq => by
    unfold resolveL at hq
    split at hq <;> try exact hq.elim
    rename_i s hs
    obtain ⟨s', h1, h2⟩ := resolve1_sound hc (V_get he x s hs) hq
    obtain ⟨ss, h3, h4⟩ := resolveL_sound he hc h1
    exact ⟨_, h3, by simp only [List.map_cons, VL]; exact ⟨h2, h4⟩⟩

mutual
theorem V_below {θ' : Th} (hag : ∀ n, n < nx → θ' n = θ n) : ∀ {s : SV} {v : Value}, below nx s = true → V θ' s v → V θ s v
  | .b _, _, _, hv => by simpa only [V] using hv
  | .c _, _, _, hv => by simpa only [V] using hv
  | .nil, _, _, hv => by simpa only [V] using hv
  | .arr _ _, _, _, hv => by simpa only [V] using hv
  | .g _, _, _, hv => by simpa only [V] using hv
  | .p n o, v, hb, hv => by simp only [below] at hb; simp only [V] at hv ⊢; obtain ⟨L, h1, h2⟩ := hv; exact ⟨L, by rw [← hag _ (nblt hb)]; exact h1, h2⟩
  | .e n es i o, v, hb, hv => by simp only [below] at hb; simp only [V] at hv ⊢; obtain ⟨L, h1, h2⟩ := hv; exact ⟨L, by rw [← hag _ (nblt hb)]; exact h1, h2⟩
  | .a n, v, hb, hv => by simp only [below] at hb; simp only [V] at hv ⊢; obtain ⟨L, h1, h2⟩ := hv; exact ⟨L, by rw [← hag _ (nblt hb)]; exact h1, h2⟩
  | .agg l, v, hb, hv => by simp only [below] at hb; simp only [V] at hv ⊢; obtain ⟨cs, h1, h2⟩ := hv; exact ⟨cs, h1, VL_below hag hb h2⟩
  | .tup l, v, hb, hv => by simp only [below] at hb; simp only [V] at hv ⊢; obtain ⟨cs, h1, h2⟩ := hv; exact ⟨cs, h1, VL_below hag hb h2⟩
  | .unk, _, hb, _ => by simp [below] at hb
  | .f _ _ l, v, hb, hv => by simp only [below] at hb; simp only [V] at hv ⊢; obtain ⟨cs, h1, h2⟩ := hv; exact ⟨cs, h1, VL_below hag hb h2⟩
  | .m n, v, hb, hv => by simp only [below] at hb; simp only [V] at hv ⊢; obtain ⟨L, h1, h2⟩ := hv; exact ⟨L, by rw [← hag _ (nblt hb)]; exact h1, h2⟩
  | .sl n _, v, hb, hv => by simp only [below] at hb; simp only [V] at hv ⊢; obtain ⟨L, h1, h2⟩ := hv; exact ⟨L, by rw [← hag _ (nblt hb)]; exact h1, h2⟩
  | .vw n _, v, hb, hv => by simp only [below] at hb; simp only [V] at hv ⊢; obtain ⟨L, h1, h2⟩ := hv; exact ⟨L, by rw [← hag _ (nblt hb)]; exact h1, h2⟩
  | .q n, v, hb, hv => by simp only [below] at hb; simp only [V] at hv ⊢; obtain ⟨L, h1, h2⟩ := hv; exact ⟨L, by rw [← hag _ (nblt hb)]; exact h1, h2⟩
  | .w _ _, _, hb, _ => by simp [below] at hb
theorem VL_below {θ' : Th} (hag : ∀ n, n < nx → θ' n = θ n) : ∀ {l : List SV} {vs : List Value}, belowL nx l = true → VL θ' l vs → VL θ l vs
  | [], [], _, _ => by simp [VL]
  | [], _ :: _, _, hv => by simp [VL] at hv
  | _ :: _, [], _, hv => by simp [VL] at hv
  | s :: l, v :: vs, hb, hv => by
    simp only [belowL, Bool.and_eq_true] at hb
    simp only [VL] at hv ⊢
    exact ⟨V_below hag hb.1 hv.1, VL_below hag hb.2 hv.2⟩
end

/-- What a quiet operation gives, calls too. -/
def QRes (P : Program) (K : Ctx) (θ : Th) (nx : Nat) (w : World) (k : HK) (o : Oper) (a : Act) : Prop :=
  ∃ r h' nx' θ' v', k r h' nx' ∧ Grows K θ θ' nx nx' h' w ∧ V θ' r v' ∧ ∀ w', Below w.heap.size w w' → o.quietAt P a (Below w.heap.size w) w' v'

theorem QRes.of_out {rd : List SV} {k : HK} {o : Oper} (hq : QOut P K θ nx w rd k o a.eval) : QRes P K θ nx w k o a := by
  obtain ⟨r, h', nx', θ', v', h1, h2, h3, h4⟩ := hq
  refine ⟨r, h', nx', θ', v', h1, h2, h3, fun w' hw' => ?_⟩
  unfold Oper.quietAt
  rw [h4 w' fun s _ => Rd.of_below hw' s]
  exact ⟨rfl, rfl⟩

theorem joinS_sound {t : Bool} {x y r : SV} {u v : Value} (hr : joinS t x y = some r) (hx : t = true → V θ x u) (hy : t = false → V θ y v) : V θ r (if t then u else v) := by
  unfold joinS at hr
  split at hr <;> (try (cases hr; done))
  all_goals cases t <;> simp only [V] at hx hy
  all_goals first
    | (cases hr; simp only [V]; simp [hx, hy]; done)
    | (split at hr <;> cases hr; rename_i hk; subst hk; simp only [V]; simp [hx, hy])

theorem run_pick (ρ : Operand → Value) (o : Oper) {c x y : Operand} (ho : o.op = .pick c x y) {t : Bool} (hc : ρ c = .bool t) (w' : World) :
    (execOp ρ o).run P w' = .ok (.value (if t then ρ x else ρ y)) w' := by
  unfold execOp
  rw [ho]
  simp [hc, asBool]

theorem pickQ_sound (hs : SatH K θ h nx w) {ctx : List Bool} (hctx : allT ctx) {o : Oper} {c x y : Operand} (ho : o.op = .pick c x y) {sc sx sy : SV} (hc : V θ sc (a.eval c)) (hx : V θ sx (a.eval x)) (hy : V θ sy (a.eval y)) {k : HK}
    (hq : pickQ ctx sc sx sy fun r => k r h nx) : QRes P K θ nx w k o a := by
  unfold pickQ at hq
  obtain ⟨c', h1, h2⟩ := resolve1_sound hctx hc hq
  split at h1
  · simp only [V] at h2
    obtain ⟨x', h3, h4⟩ := resolve1_sound hctx hx h1
    exact .of_out (rd := []) (.pure hs h3 h4 fun w' _ => by rw [run_pick a.eval o ho h2 w']; rfl)
  · simp only [V] at h2
    obtain ⟨y', h3, h4⟩ := resolve1_sound hctx hy h1
    exact .of_out (rd := []) (.pure hs h3 h4 fun w' _ => by rw [run_pick a.eval o ho h2 w']; rfl)
  · rename_i t
    simp only [V] at h2
    -- the two values, each where the test says so
    have key : ∀ {ctx : List Bool} {s : SV} {v : Value} {k : SV → Prop}, V θ s v → resolve1 ctx s k → ∃ s', k s' ∧ (allT ctx → V θ s' v) := by
      intro ctx s v k hv hq
      unfold resolve1 at hq
      split at hq
      · simp only [V] at hv
        exact ⟨_, hq.2, fun hc => hv.1 (allT_drop hc hq.1)⟩
      · exact ⟨_, hq, fun _ => hv⟩
    obtain ⟨x', h3, h4⟩ := key hx h1
    obtain ⟨y', h5, h6⟩ := key hy h3
    split at h5 <;> try exact h5.elim
    rename_i r hr
    refine .of_out (rd := []) (.pure hs h5 (joinS_sound hr (fun ht => h4 ?_) (fun ht => h6 ?_)) fun w' _ => run_pick a.eval o ho h2 w')
    · intro u hu
      rcases List.mem_cons.1 hu with rfl | hu
      · exact ht
      · exact hctx u hu
    · intro u hu
      rcases List.mem_cons.1 hu with rfl | hu
      · simp [ht]
      · exact hctx u hu
  · exact h1.elim

theorem exec_call {ρ : Operand → Value} {o : Oper} {c : Call} {x : Operand} (ho : o.op = .call c) (hcal : c.callee = .value x) {f : Nat} {first caps : Array Value} (hx : ρ x = .func (.func f) first caps) (hf : EntersOk P f) (w' : World) :
    (execOp ρ o).run P w' = .ok (.enter f (first ++ c.args.map ρ ++ caps)) w' := by
  unfold execOp
  rw [ho]
  simp [resolve, hcal, hx, Deferred.ofValue, invoke]
  exact hf _ w'

theorem stepOQ_sound (hC : COk P C) (hs : SatH K θ h nx w) (he : SatE K θ env a) {ctx : List Bool} (hctx : allT ctx) {o : Oper} {k : HK} (hq : stepOQ P C ctx o.op env h nx k) : QRes P K θ nx w k o a := by
  unfold stepOQ at hq
  split at hq
  · rename_i c x y ho
    split at hq <;> try exact hq.elim
    rename_i c' x' y' e1 e2 e3
    exact pickQ_sound hs hctx ho (V_get he _ _ e1) (V_get he _ _ e2) (V_get he _ _ e3) hq
  · rename_i cl ho
    split at hq
    · rename_i x hcal
      obtain ⟨vs, h1, h2⟩ := resolveL_sound he hctx hq
      split at h1 <;> try exact h1.elim
      rename_i f nf caps args
      split at h1 <;> try exact h1.elim
      rename_i ct hct
      obtain ⟨hfn, hent⟩ := hC.c f ct hct
      rw [ho] at h2
      simp only [Op.operands, Call.operands, hcal] at h2
      have hops : (#[x] ++ cl.args : Array Operand).toList.map a.eval = a.eval x :: cl.args.toList.map a.eval := by simp
      rw [hops] at h2
      simp only [VL] at h2
      obtain ⟨h3, h4⟩ := h2
      simp only [V] at h3
      obtain ⟨cs, h5, h6⟩ := h3
      obtain ⟨s, v, c1, c2, c3⟩ := callQ_sound hfn hs (VL_append (VL_take nf h6) (VL_append h4 (VL_drop nf h6))) h1
      refine ⟨s, h, nx, θ, v, c1, .refl hs, c2, fun w' hw' => ?_⟩
      unfold Oper.quietAt
      rw [exec_call ho hcal h5 hent w']
      refine ⟨rfl, ?_⟩
      have := c3 w' hw'
      have hargs : ((cs.take nf).toArray ++ cl.args.map a.eval ++ (cs.drop nf).toArray) = (cs.take nf ++ (cl.args.toList.map a.eval ++ cs.drop nf)).toArray := by
        apply Array.ext'; simp
      rw [hargs]
      exact this
    · obtain ⟨vs, h1, h2⟩ := resolveL_sound he hctx hq
      exact .of_out (stepQ_sound hs h2 h1)
  · obtain ⟨vs, h1, h2⟩ := resolveL_sound he hctx hq
    exact .of_out (stepQ_sound hs h2 h1)

theorem q3_spec {vs : List SV} {k : SV → SV → SV → Prop} (hq : q3 vs k) : ∃ s t u, vs = [s, t, u] ∧ k s t u := by
  unfold q3 at hq; split at hq
  · exact ⟨_, _, _, rfl, hq⟩
  · exact hq.elim

theorem stepL_sound (hC : COk P C) (hs : SatH K θ h nx w) {o : Oper} {vs : List SV} (hvs : VL θ vs (o.op.operands.toList.map a.eval)) {k : HK} (hq : stepL P C o.op vs h nx k)
    {Kt : Act → World → Prop} {Q : Exit → Act → World → Prop}
    (hk : ∀ r h' nx' θ' v w', k r h' nx' → SatH K θ' h' nx' w' → θ.ext θ' → V θ' r v → Kt (a.put o.dst v) w') : o.wp P a w Kt Q := by
  have fin : ∀ {s : Sem Value}, LOK K θ nx k (s.run P w) → (∀ w', (execOp a.eval o).run P w' = (do pure (Next.value (← s)) : Sem Next).run P w') → o.wp P a w Kt Q := by
    rintro s ⟨r, h', nx', θ', v, w', h1, h2, h3, h4, h5, _⟩ hrun
    unfold Oper.wp
    rw [hrun]
    simp only [Sem.run_bind, h5, Result.andThen]
    exact hk r h' nx' θ' v w' h1 h2 h3 h4
  obtain ⟨dst, op, type, pos, after, guard⟩ := o
  simp only at hvs hq
  unfold stepL at hq
  split at hq
  · exact fin (allocL_sound hs hq) fun w' => rfl
  · obtain ⟨s, rfl, hk'⟩ := q1_spec hq
    simp [Op.operands, VL] at hvs
    exact fin (boxL_sound hs hvs hk') fun w' => rfl
  · rename_i T x y
    obtain ⟨s, t, rfl, hk'⟩ := q2_spec hq
    simp [Op.operands, VL] at hvs
    obtain ⟨h', w', h1, h2, h3⟩ := storeL_sound hs hvs.1 hvs.2 hk'
    have hrun : (execOp a.eval { dst := dst, op := .store T x y, type := type, pos := pos, after := after, guard := guard }).run P w = .ok .skip w' := by
      simp [execOp, h3]
    unfold Oper.wp
    rw [hrun]
    exact hk .unk h' nx θ undef w' h1 h2 (Th.ext_refl _) (by simp [V])
  · rename_i T len parts
    refine fin (s := Instr.buildSlice T len (parts.map fun (x : Nat × Operand) => (x.1, a.eval x.2))) ?_ fun w' => rfl
    have e : parts.map (fun (x : Nat × Operand) => (x.1, a.eval x.2)) = (parts.toList.map fun (x : Nat × Operand) => (x.1, a.eval x.2)).toArray := by apply Array.ext'; simp
    rw [e]
    exact buildSliceL_sound hs (by simp [Function.comp_def]) (by simpa [Op.operands, Function.comp_def] using hvs) hq
  · obtain ⟨s, t, rfl, hk'⟩ := q2_spec hq
    simp [Op.operands, VL] at hvs
    exact fin (makeSliceL_sound hs hvs.1 hvs.2 hk') fun w' => rfl
  · obtain ⟨s, rfl, hk'⟩ := q1_spec hq
    simp [Op.operands, VL] at hvs
    exact fin (bytesL_sound hs hvs hk') fun w' => rfl
  · rename_i T r
    exact fin (makeMapL_sound (r := r.map a.eval) hs (by cases r <;> simpa [Op.operands] using hvs) hq) fun w' => rfl
  · rename_i T x y z
    obtain ⟨s, t, u, rfl, hk'⟩ := q3_spec hq
    simp [Op.operands, VL] at hvs
    obtain ⟨h', w', h1, h2, h3⟩ := mapUpdateL_sound hs hvs.1 hvs.2.1 hvs.2.2 hk'
    have hrun : (execOp a.eval { dst := dst, op := .mapUpdate T x y z, type := type, pos := pos, after := after, guard := guard }).run P w = .ok .skip w' := by
      simp [execOp, h3]
    unfold Oper.wp
    rw [hrun]
    exact hk .unk h' nx θ undef w' h1 h2 (Th.ext_refl _) (by simp [V])
  · rename_i c
    obtain ⟨callee, args, ts⟩ := c
    simp only at hq
    have two : ∀ {s t : SV}, VL θ [s, t] (args.toList.map a.eval) → ∃ y z, args = #[y, z] ∧ V θ s (a.eval y) ∧ V θ t (a.eval z) := by
      intro s t hvs
      cases hl : args.toList with
      | nil => rw [hl] at hvs; simp [VL] at hvs
      | cons y ys =>
        rw [hl] at hvs
        simp only [List.map_cons, VL] at hvs
        cases ys with
        | nil => simp [VL] at hvs
        | cons z zs =>
          simp only [List.map_cons, VL] at hvs
          have := VL_nil_left hvs.2.2
          have hz : zs = [] := by simpa using this
          subst hz
          exact ⟨y, z, Array.ext' hl, hvs.1, hvs.2.1⟩
    split at hq
    · split at hq <;> try exact hq.elim
      rename_i T rest hts
      obtain ⟨s, t, rfl, hk'⟩ := q2_spec hq
      obtain ⟨y, z, rfl, hy, hz⟩ := two (by simpa [Op.operands, Call.operands] using hvs)
      obtain ⟨r, h', w', v', h1, h2, h3, h4⟩ := deleteL_sound (ts := ts) (ty := type) hs (by rw [← Array.getElem?_toList, hts]; rfl) hy hz hk'
      exact fin (s := Builtin.delete_ ts type #[a.eval y, a.eval z]) ⟨r, h', nx, θ, v', w', h1, h2, Th.ext_refl _, h3, h4, Nat.le_refl _⟩ fun w' => by simp [execOp, resolve, invoke, builtin]
    · split at hq <;> try exact hq.elim
      rename_i T rest hts
      obtain ⟨s, t, rfl, hk'⟩ := q2_spec hq
      obtain ⟨y, z, rfl, hy, hz⟩ := two (by simpa [Op.operands, Call.operands] using hvs)
      exact fin (copyL_sound (ts := ts) (ty := type) hs (by rw [← Array.getElem?_toList, hts]; rfl) hy hz hk') fun w' => by simp [execOp, resolve, invoke, builtin]
    · split at hq <;> try exact hq.elim
      rename_i sT xT hts
      obtain ⟨s, t, rfl, hk'⟩ := q2_spec hq
      have hts' : ts = #[sT, xT] := Array.ext' hts
      subst hts'
      have ha := two (s := s) (t := t) (by simpa [Op.operands, Call.operands] using hvs)
      obtain ⟨y, z, rfl, hy, hz⟩ := ha
      exact fin (appendL_sound (ty := type) hs hy hz hk') fun w' => by simp [execOp, resolve, invoke, builtin]
    · rename_i x f nf caps cargs
      simp only [Op.operands, Call.operands] at hvs
      have hops : (#[x] ++ args : Array Operand).toList.map a.eval = a.eval x :: args.toList.map a.eval := by simp
      rw [hops] at hvs
      simp only [VL] at hvs
      obtain ⟨h3, h4⟩ := hvs
      simp only [V] at h3
      obtain ⟨cs, h5, h6⟩ := h3
      have hvl := VL_append (VL_take nf h6) (VL_append h4 (VL_drop nf h6))
      have hargs : ((cs.take nf).toArray ++ args.map a.eval ++ (cs.drop nf).toArray) = (cs.take nf ++ (args.toList.map a.eval ++ cs.drop nf)).toArray := by
        apply Array.ext'; simp
      have go : EntersOk P f → (Calls P f (cs.take nf ++ (args.toList.map a.eval ++ cs.drop nf)).toArray w fun e w' => ∃ r h' nx' θ' v, e = .returned v ∧ k r h' nx' ∧ SatH K θ' h' nx' w' ∧ θ.ext θ' ∧ V θ' r v) →
          Oper.wp P { dst := dst, op := .call { callee := .value x, args := args, argTypes := ts }, type := type, pos := pos, after := after, guard := guard } a w Kt Q := by
        intro hent hcall
        unfold Oper.wp
        rw [exec_call rfl rfl h5 hent w]
        simp only [Oper.upon]
        rw [hargs]
        refine hcall.mono ?_
        rintro e w' ⟨r, h', nx', θ', v, rfl, k1, k2, k3, k4⟩
        exact hk r h' nx' θ' v w' k1 k2 k3 k4
      split at hq
      · rename_i ct hct
        obtain ⟨hfn, hent⟩ := hC.c f ct hct
        refine go hent ((callX_sound hfn hs hvl hq).mono ?_)
        rintro e w' ⟨r, h', nx', θ', v, e1, k1, k2, k3, k4, _⟩
        exact ⟨r, h', nx', θ', v, e1, k1, k2, k3, k4⟩
      · obtain ⟨hent, hcall⟩ := hC.j f _ h nx k K θ w _ hs hvl hq
        exact go hent hcall
    · exact hq.elim
  · exact hq.elim
end
end Go.Z

/- Regions: the guards; a region in the order of the text; a region that draws its order and only reads. -/
namespace Go.Z
open Go.RowKit

section
variable {P : Program} {C : CE} {K : Ctx} {θ : Th} {h : List (Nat × R)} {nx : Nat} {w : World} {env : List (Nat × SV)} {a : Act} {ops : Array Oper}

def GM.ok (ops : Array Oper) (env : List (Nat × SV)) (o : Oper) (a : Act) : GM → Prop
  | .run => Region.wanted o (yielded ops a.tmps) = true
  | .skip => Region.wanted o (yielded ops a.tmps) = false
  | .under ctx => (allT ctx → Region.wanted o (yielded ops a.tmps) = true) ∧ (¬ allT ctx → Region.wanted o (yielded ops a.tmps) = false)
  | .split d t want => efind env d = some (.c (.bool t)) ∧ Region.wanted o (yielded ops a.tmps) = (t == want)

theorem guardM_sound (he : SatE K θ env a) {o : Oper} {m : GM} (hg : guardM ops env o.guard = some m) :
    m.ok ops env o a := by
  unfold guardM at hg
  unfold GM.ok
  split at hg
  · rename_i hgd
    cases hg
    simp [Region.wanted, hgd]
  · rename_i j want hgd
    split at hg <;> try (cases hg; done)
    rename_i oj hoj
    split at hg <;> try (cases hg; done)
    rename_i d hd
    have hoj' : ops[j]? = some oj := by simpa using hoj
    have hy : ∀ v, a.tmps[d]? = some v → Region.wanted o (yielded ops a.tmps) = (match v with | .bool b => b == want | _ => false) := by
      intro v hv
      simp only [Region.wanted, hgd, yielded, hoj', Option.bind_some, hd, hv]
      cases v <;> simp
    have hcons : ∀ (b : Bool) (ts : List Bool), allT (b :: ts) ↔ b = true ∧ allT ts := fun b ts =>
      ⟨fun h => ⟨h b (by simp), fun t ht => h t (by simp [ht])⟩, fun h t ht => by rcases List.mem_cons.1 ht with rfl | ht; exact h.1; exact h.2 t ht⟩
    split at hg <;> (try (cases hg; done)) <;> rename_i hef <;> obtain ⟨v, hv, hV⟩ := he.val _ _ hef <;> simp only [V] at hV
    · subst hV
      have := hy _ hv
      rename_i t
      cases ht : (t == want) with
      | true => rw [ht] at hg; cases hg; simpa [ht] using this
      | false => rw [ht] at hg; cases hg; simpa [ht] using this
    · subst hV
      have := hy _ hv
      cases hg
      exact ⟨hef, this⟩
    · subst hV
      cases hg
      exact hy _ hv
    · rename_i ts t
      cases ht : (t == want) with
      | true =>
        rw [ht] at hg; cases hg
        refine ⟨fun hc => ?_, fun hc => ?_⟩
        · rw [hy _ hv, hV.1 hc]; simpa using ht
        · rw [hy _ hv, hV.2 hc]; rfl
      | false =>
        rw [ht] at hg; cases hg
        by_cases hc : allT ts
        · rw [hy _ hv, hV.1 hc]; simpa using ht
        · rw [hy _ hv, hV.2 hc]; rfl
    · rename_i ts t
      cases hg
      simp only [hcons]
      refine ⟨fun hc => ?_, fun hc => ?_⟩
      · rw [hy _ hv, hV.1 hc.2]
        have := hc.1
        cases want <;> cases t <;> simp_all
      · by_cases hts : allT ts
        · rw [hy _ hv, hV.1 hts]
          have : ¬ (cond want t (!t) = true) := fun h1 => hc ⟨h1, hts⟩
          cases want <;> cases t <;> simp_all
        · rw [hy _ hv, hV.2 hts]; rfl

theorem guardX_sound (he : SatE K θ env a) {sp : Bool} {o : Oper} {m : GM} (hg : guardX P C sp ops env h nx o = some m) :
    m.ok ops env o a := by
  unfold guardX at hg
  split at hg
  · rename_i d t want hm
    have h1 := guardM_sound he hm
    simp only [GM.ok] at h1
    split at hg
    · cases hb : below nx _ with
      | true =>
        rw [hb] at hg; cases hg
        simp only [GM.ok]
        rw [h1.2]
        have key : allT [cond want t (!t)] ↔ (t == want) = true := by
          constructor
          · intro h
            have := h (cond want t (!t)) (by simp)
            cases want <;> cases t <;> simp_all
          · intro h u hu
            simp at hu; subst hu
            cases want <;> cases t <;> simp_all
        refine ⟨fun hc => key.1 hc, fun hc => ?_⟩
        cases hx : (t == want) with
        | false => rfl
        | true => exact absurd (key.2 hx) hc
      | false => rw [hb] at hg; cases hg; exact h1
    · cases hg; exact h1
  · exact guardM_sound he hg

theorem putS_sound (he : SatE K θ env a) {dst : Option Nat} {s : SV} {v : Value} (hv : V θ s v) {k : List (Nat × SV) → Prop} (hq : putS K.N dst s env k) : ∃ env', k env' ∧ SatE K θ env' (a.put dst v) := by
  unfold putS at hq
  split at hq
  · obtain ⟨h1, h2⟩ := cond_false hq
    exact ⟨_, h2, he.put (nblt h1) hv⟩
  · exact ⟨_, hq, ⟨by simp [Act.put, he.size], he.defers, he.val⟩⟩

theorem ne_not {t u : Bool} (h : ¬ t = u) : t = !u := by cases t <;> cases u <;> simp at h ⊢

/-- A slot whose truth value is known by now. -/
theorem SatE.known (he : SatE K θ env a) {d : Nat} {t b : Bool} (hd : efind env d = some (.c (.bool t))) (ht : t = b) : SatE K θ ((d, .b b) :: env) a := by
  refine ⟨he.size, he.defers, fun u s hs => ?_⟩
  rw [efind_cons] at hs
  split at hs
  · rename_i e; subst e; cases hs; subst ht
    obtain ⟨v, h1, h2⟩ := he.val d _ hd
    exact ⟨v, h1, by simpa only [V] using h2⟩
  · exact he.val u s hs

theorem cond_cases {c : Bool} {p q : Prop} (h : cond c p q) : (c = true ∧ p) ∨ (c = false ∧ q) := by cases c; exact .inr ⟨rfl, h⟩; exact .inl ⟨rfl, h⟩

/-- A region in the order of the text. -/
theorem execOps_sound (hC : COk P C) {sp : Bool} {θ0 : Th} {Q : Exit → Act → World → Prop} : ∀ (l : List Oper) {θ : Th} {env : List (Nat × SV)} {h : List (Nat × R)} {nx : Nat} {a : Act} {w : World}
    {k : List (Nat × SV) → List (Nat × R) → Nat → Prop}, θ0.ext θ → SatH K θ h nx w → SatE K θ env a → execOps P C K.N sp false ops l env h nx k →
    (∀ env' h' nx' θ' a' w', k env' h' nx' → θ0.ext θ' → SatH K θ' h' nx' w' → SatE K θ' env' a' → Q .normal a' w') → wpList P ops Q l a w
  | [], θ, env, h, nx, a, w, k, hx, hs, he, hq, hk => hk _ _ _ _ _ _ hq hx hs he
  | o :: rest, θ, env, h, nx, a, w, k, hx, hs, he, hq, hk => by
    -- the two ways through an operation that is carried out
    have quiet : ∀ {env : List (Nat × SV)} (_ : SatE K θ env a) {ctx : List Bool} {f : SV → SV} {k' : HK}, allT ctx → (∀ r v θ', V θ' r v → V θ' (f r) v) → stepOQ P C ctx o.op env h nx k' →
        (∀ r h' nx', k' r h' nx' → putS K.N o.dst (f r) env fun env' => execOps P C K.N sp false ops rest env' h' nx' k) → o.wp P a w (wpList P ops Q rest) Q := by
      intro env he ctx f k' hctx hf hstep hgo
      obtain ⟨r, h', nx', θ', v', h1, h2, h3, h4⟩ := stepOQ_sound hC hs he hctx hstep
      refine Oper.wp_of_quiet (C := Below w.heap.size w) (K := fun a' => ∃ env', execOps P C K.N sp false ops rest env' h' nx' k ∧ SatE K θ' env' a') (Below.refl _ _) ?_ ⟨v', h4, ?_⟩
      · rintro a' w' hb ⟨env', e1, e2⟩
        exact execOps_sound hC rest (Th.ext_trans hx h2.ext) (h2.sat.below hb) e2 e1 hk
      · exact putS_sound (he.mono h2.ext) (hf _ _ _ h3) (hgo r h' nx' h1)
    have loud : ∀ {env : List (Nat × SV)} (_ : SatE K θ env a) {ctx : List Bool} {f : SV → SV} {k' : HK}, allT ctx → (∀ r v θ', V θ' r v → V θ' (f r) v) → (resolveL env ctx o.op.operands.toList fun vs => stepL P C o.op vs h nx k') →
        (∀ r h' nx', k' r h' nx' → putS K.N o.dst (f r) env fun env' => execOps P C K.N sp false ops rest env' h' nx' k) → o.wp P a w (wpList P ops Q rest) Q := by
      intro env he ctx f k' hctx hf hstep hgo
      obtain ⟨vs, h1, h2⟩ := resolveL_sound he hctx hstep
      refine stepL_sound hC hs h2 h1 fun r h' nx' θ' v w' k1 k2 k3 k4 => ?_
      obtain ⟨env', e1, e2⟩ := putS_sound (he.mono k3) (hf _ _ _ k4) (hgo r h' nx' k1)
      exact execOps_sound hC rest (Th.ext_trans hx k3) k2 e2 e1 hk
    have skip : ∀ {env : List (Nat × SV)} (_ : SatE K θ env a), (putS K.N o.dst (.c undef) env fun env' => execOps P C K.N sp false ops rest env' h nx k) → wpList P ops Q rest (a.put o.dst undef) w := by
      intro env he hp
      obtain ⟨env', e1, e2⟩ := putS_sound he (V_c θ undef) hp
      exact execOps_sound hC rest hx hs e2 e1 hk
    unfold execOps at hq
    unfold wpList
    split at hq
    · exact hq.elim
    · rename_i hg
      have := guardX_sound he hg
      simp only [GM.ok] at this
      rw [this]
      exact skip he hq
    · rename_i hg
      have hw := guardX_sound he hg
      simp only [GM.ok] at hw
      rw [hw, if_pos rfl]
      left
      rcases cond_cases hq with ⟨_, h1⟩ | ⟨_, h1⟩
      · exact quiet he (ctx := []) (f := id) (fun t ht => by cases ht) (fun _ _ _ hv => hv) h1 (fun r h' nx' hk' => hk')
      · exact loud he (ctx := []) (f := id) (fun t ht => by cases ht) (fun _ _ _ hv => hv) h1 (fun r h' nx' hk' => hk')
    · rename_i d t want hg
      have hw := guardX_sound he hg
      simp only [GM.ok] at hw
      have hq := swc_spec hq
      by_cases ht : t = want
      · have hk' := he.known hw.1 ht
        rw [hw.2, show (t == want) = true by simp [ht], if_pos rfl]
        left
        rcases cond_cases (hq.1 ht) with ⟨_, h1⟩ | ⟨_, h1⟩
        · exact quiet hk' (ctx := []) (f := id) (fun t ht => by cases ht) (fun _ _ _ hv => hv) h1 (fun r h' nx' hk' => hk')
        · exact loud hk' (ctx := []) (f := id) (fun t ht => by cases ht) (fun _ _ _ hv => hv) h1 (fun r h' nx' hk' => hk')
      · have ht' : t = !want := ne_not ht
        rw [hw.2, show (t == want) = false by simp [ht], if_neg (by simp)]
        exact skip (he.known hw.1 ht') (hq.2 ht')
    · rename_i ctx hg
      have hw := guardX_sound he hg
      simp only [GM.ok] at hw
      have wrap : allT ctx → ∀ r v θ', V θ' r v → V θ' (.w ctx r) v := fun hc r v θ' hv => by simp only [V]; exact ⟨fun _ => hv, fun hn => absurd hc hn⟩
      split at hq
      · rename_i r hr
        obtain ⟨hb, h1, h2⟩ := cond_false hq
        have h1 := (swT_spec h1).1
        by_cases hc : allT ctx
        · rw [hw.1 hc, if_pos rfl]
          left
          obtain ⟨r', h', nx', θ', v', e1, e2, e3, e4⟩ := stepOQ_sound hC hs he hc (h1 hc)
          subst e1
          have hv : V θ r' v' := V_below e2.agree hb e3
          refine Oper.wp_of_quiet (C := Below w.heap.size w) (K := fun a' => ∃ env', execOps P C K.N sp false ops rest env' h nx k ∧ SatE K θ env' a') (Below.refl _ _) ?_ ⟨v', e4, ?_⟩
          · rintro a' w' hb ⟨env', c1, c2⟩
            exact execOps_sound hC rest hx (hs.below hb) c2 c1 hk
          · exact putS_sound he (wrap hc _ _ _ hv) h2
        · rw [hw.2 hc, if_neg (by simp)]
          obtain ⟨env', c1, c2⟩ := putS_sound he (v := undef) (by simp only [V]; exact ⟨fun h => absurd h hc, fun _ => by trivial⟩) h2
          exact execOps_sound hC rest hx hs c2 c1 hk
      · have hq := swT_spec hq
        by_cases hc : allT ctx
        · rw [hw.1 hc, if_pos rfl]
          left
          rcases cond_cases (hq.1 hc) with ⟨_, h1⟩ | ⟨_, h1⟩
          · exact quiet he (f := fun r => .w ctx r) hc (wrap hc) h1 (fun r h' nx' hk' => hk')
          · exact loud he (f := fun r => .w ctx r) hc (wrap hc) h1 (fun r h' nx' hk' => hk')
        · rw [hw.2 hc, if_neg (by simp)]
          exact skip he (hq.2 hc)

/-- A region whose operations only read: what it says of the class of worlds that have grown of this one. -/
theorem execOps_quiet (hC : COk P C) {sp : Bool} {θ0 : Th} {Q : Act → Prop} : ∀ (l : List Oper) {θ : Th} {env : List (Nat × SV)} {h : List (Nat × R)} {nx : Nat} {a : Act} {w : World}
    {k : List (Nat × SV) → List (Nat × R) → Nat → Prop}, θ0.ext θ → SatH K θ h nx w → SatE K θ env a → execOps P C K.N sp true ops l env h nx k →
    (∀ env' h' nx' θ' a', k env' h' nx' → θ0.ext θ' → SatH K θ' h' nx' w → SatE K θ' env' a' → Q a') → wpQuiet P ops (Below w.heap.size w) Q l a
  | [], θ, env, h, nx, a, w, k, hx, hs, he, hq, hk => hk _ _ _ _ _ hq hx hs he
  | o :: rest, θ, env, h, nx, a, w, k, hx, hs, he, hq, hk => by
    have quiet : ∀ {env : List (Nat × SV)} (_ : SatE K θ env a) {ctx : List Bool} {f : SV → SV} {k' : HK}, allT ctx → (∀ r v θ', V θ' r v → V θ' (f r) v) → stepOQ P C ctx o.op env h nx k' →
        (∀ r h' nx', k' r h' nx' → putS K.N o.dst (f r) env fun env' => execOps P C K.N sp true ops rest env' h' nx' k) → o.quiet P a (Below w.heap.size w) (wpQuiet P ops (Below w.heap.size w) Q rest) := by
      intro env he ctx f k' hctx hf hstep hgo
      obtain ⟨r, h', nx', θ', v', h1, h2, h3, h4⟩ := stepOQ_sound hC hs he hctx hstep
      obtain ⟨env', e1, e2⟩ := putS_sound (he.mono h2.ext) (hf _ _ _ h3) (hgo r h' nx' h1)
      exact ⟨v', h4, execOps_quiet hC rest (Th.ext_trans hx h2.ext) h2.sat e2 e1 hk⟩
    have skip : ∀ {env : List (Nat × SV)} (_ : SatE K θ env a), (putS K.N o.dst (.c undef) env fun env' => execOps P C K.N sp true ops rest env' h nx k) → wpQuiet P ops (Below w.heap.size w) Q rest (a.put o.dst undef) := by
      intro env he hp
      obtain ⟨env', e1, e2⟩ := putS_sound he (V_c θ undef) hp
      exact execOps_quiet hC rest hx hs e2 e1 hk
    unfold execOps at hq
    unfold wpQuiet
    split at hq
    · exact hq.elim
    · rename_i hg
      have := guardX_sound he hg
      simp only [GM.ok] at this
      rw [this]
      exact skip he hq
    · rename_i hg
      have hw := guardX_sound he hg
      simp only [GM.ok] at hw
      rw [hw, if_pos rfl]
      rcases cond_cases hq with ⟨_, h1⟩ | ⟨_, h1⟩
      · exact quiet he (ctx := []) (f := id) (fun t ht => by cases ht) (fun _ _ _ hv => hv) h1 (fun r h' nx' hk' => hk')
      · exact h1.elim
    · rename_i d t want hg
      have hw := guardX_sound he hg
      simp only [GM.ok] at hw
      have hq := swc_spec hq
      by_cases ht : t = want
      · have hk' := he.known hw.1 ht
        rw [hw.2, show (t == want) = true by simp [ht], if_pos rfl]
        rcases cond_cases (hq.1 ht) with ⟨_, h1⟩ | ⟨_, h1⟩
        · exact quiet hk' (ctx := []) (f := id) (fun t ht => by cases ht) (fun _ _ _ hv => hv) h1 (fun r h' nx' hk' => hk')
        · exact h1.elim
      · have ht' : t = !want := ne_not ht
        rw [hw.2, show (t == want) = false by simp [ht], if_neg (by simp)]
        exact skip (he.known hw.1 ht') (hq.2 ht')
    · rename_i ctx hg
      have hw := guardX_sound he hg
      simp only [GM.ok] at hw
      have wrap : allT ctx → ∀ r v θ', V θ' r v → V θ' (.w ctx r) v := fun hc r v θ' hv => by simp only [V]; exact ⟨fun _ => hv, fun hn => absurd hc hn⟩
      split at hq
      · rename_i r hr
        obtain ⟨hb, h1, h2⟩ := cond_false hq
        have h1 := (swT_spec h1).1
        by_cases hc : allT ctx
        · rw [hw.1 hc, if_pos rfl]
          obtain ⟨r', h', nx', θ', v', e1, e2, e3, e4⟩ := stepOQ_sound hC hs he hc (h1 hc)
          subst e1
          have hv : V θ r' v' := V_below e2.agree hb e3
          obtain ⟨env', c1, c2⟩ := putS_sound he (wrap hc _ _ _ hv) h2
          exact ⟨v', e4, execOps_quiet hC rest hx hs c2 c1 hk⟩
        · rw [hw.2 hc, if_neg (by simp)]
          obtain ⟨env', c1, c2⟩ := putS_sound he (v := undef) (by simp only [V]; exact ⟨fun h => absurd h hc, fun _ => by trivial⟩) h2
          exact execOps_quiet hC rest hx hs c2 c1 hk
      · have hq := swT_spec hq
        by_cases hc : allT ctx
        · rw [hw.1 hc, if_pos rfl]
          rcases cond_cases (hq.1 hc) with ⟨_, h1⟩ | ⟨_, h1⟩
          · exact quiet he (f := fun r => .w ctx r) hc (wrap hc) h1 (fun r h' nx' hk' => hk')
          · exact h1.elim
        · rw [hw.2 hc, if_neg (by simp)]
          exact skip he (hq.2 hc)
end
end Go.Z

/- Regions that draw their order: an operation that only reads may be taken first, whatever the others write, if they leave alone what it reads. -/
namespace Go.Z
open Go.RowKit

def Q0 : Exit → Act → World → Prop := fun _ _ _ => False

theorem Oper.wp_of_Q0 {P : Program} {o : Oper} {a : Act} {w : World} {K : Act → World → Prop} {Q : Exit → Act → World → Prop} (hh : o.wp P a w K Q0) : o.wp P a w K Q := by
  unfold Oper.wp at *
  generalize (execOp a.eval o).run P w = r at *
  cases r with
  | ok n w' =>
    cases n <;> simp only [Oper.upon] at hh ⊢ <;>
      first
        | exact hh
        | exact Calls.mono hh (fun e w'' he => by cases e <;> first | exact he | exact he.elim | (obtain ⟨_, _, h0⟩ := he; exact h0.elim))
        | exact Rows.mono hh (fun _ _ he => he)
  | halt x w' => cases x <;> simp only [Oper.upon] at hh ⊢ <;> exact hh.elim

theorem wpOp_of_Q0 {P : Program} {ops : Array Oper} {i : Nat} {a : Act} {w : World} {K : Act → World → Prop} {Q : Exit → Act → World → Prop} (hh : wpOp P ops Q0 i K a w) : wpOp P ops Q i K a w := by
  unfold wpOp at *
  split
  · simpa [*] using hh
  · rename_i o ho
    simp only [ho] at hh
    split
    · rename_i hw; simp only [hw, if_true] at hh
      rcases hh with hh | ⟨_, a', w', hh⟩
      · exact .inl (Oper.wp_of_Q0 hh)
      · exact hh.elim
    · rename_i hw; simp only [hw] at hh; exact hh

/-- Blocks of B that were there are as they were. -/
def KeepB (B : Nat → Prop) (w w' : World) : Prop := w.heap.size ≤ w'.heap.size ∧ ∀ b, b < w.heap.size → B b → w'.heap[b]? = w.heap[b]?
theorem KeepB.refl (B : Nat → Prop) (w : World) : KeepB B w w := ⟨Nat.le_refl _, fun _ _ _ => rfl⟩
theorem KeepB.trans {B : Nat → Prop} {w w' w'' : World} (h : KeepB B w w') (h' : KeepB B w' w'') : KeepB B w w'' :=
  ⟨Nat.le_trans h.1 h'.1, fun b hb hB => (h'.2 b (Nat.lt_of_lt_of_le hb h.1) hB).trans (h.2 b hb hB)⟩

/-- Does j wait for i, directly or through others? -/
def anc (ops : Array Oper) : Nat → Nat → Nat → Bool
  | 0, _, _ => false
  | f + 1, j, i => match ops[j]? with
    | some oj => oj.after.any fun e => Region.binds .any e && (Nat.beq e.on i || anc ops f e.on i)
    | none => false

section
variable {P : Program} {ops : Array Oper}

def ClosedL (ops : Array Oper) (listed : Array Bool) : Prop :=
  ∀ j oj, ops[j]? = some oj → listed.getD j false = true → ∀ e ∈ oj.after, Region.binds .any e = true → listed.getD e.on false = true

theorem getD_tf {listed : Array Bool} {i : Nat} (h : listed.getD i true = false) : listed.getD i false = false := by
  rcases Nat.lt_or_ge i listed.size with h' | h'
  · simp [h'] at h ⊢; exact h
  · simp [Array.getElem?_eq_none h'] at h

theorem ClosedL.set {listed : Array Bool} {i : Nat} (inv : ClosedL ops listed) (hi : i ∈ Region.ready .any ops listed) : ClosedL ops (listed.setIfInBounds i true) := by
  obtain ⟨_, oi, hoi, hall⟩ := mem_ready.1 hi
  intro j oj hj hl e he hb
  by_cases hij : i = j
  · subst hij
    have : oj = oi := Option.some.inj (hj.symm.trans hoi)
    subst this
    exact getD_set_true (hall e he hb)
  · rw [getD_set_ne false hij] at hl
    exact getD_set_true (inv j oj hj hl e he hb)

theorem anc_listed {listed : Array Bool} {i : Nat} (inv : ClosedL ops listed) (hi : listed.getD i false = false) : ∀ (f j : Nat), listed.getD j false = true → anc ops f j i = false
  | 0, _, _ => rfl
  | f + 1, j, hj => by
    unfold anc
    split
    · rename_i oj hoj
      rw [Array.any_eq_false']
      intro e he hc
      simp only [Bool.and_eq_true, Bool.or_eq_true] at hc
      have h1 := inv j oj hoj hj e he hc.1
      rcases hc.2 with h2 | h2
      · have := Nat.eq_of_beq_eq_true h2
        subst this
        rw [hi] at h1; cases h1
      · rw [anc_listed inv hi f e.on h1] at h2; cases h2
    · rfl

theorem anc_ready {listed : Array Bool} {i j : Nat} (inv : ClosedL ops listed) (hi : listed.getD i false = false) (hj : j ∈ Region.ready .any ops listed) (f : Nat) : anc ops f j i = false := by
  obtain ⟨_, oj, hoj, hall⟩ := mem_ready.1 hj
  cases f with
  | zero => rfl
  | succ f =>
    unfold anc
    rw [hoj]
    simp only
    rw [Array.any_eq_false']
    intro e he hc
    simp only [Bool.and_eq_true, Bool.or_eq_true] at hc
    have h1 := hall e he hc.1
    rcases hc.2 with h2 | h2
    · have := Nat.eq_of_beq_eq_true h2
      subst this
      rw [hi] at h1; cases h1
    · rw [anc_listed inv hi f e.on h1] at h2; cases h2

abbrev Prot := List (Nat × (Nat → Prop))

/-- Whatever order is drawn, Q holds at the end; and no operation turns the blocks that one is to read that may come later. -/
def wpAnyC (P : Program) (ops : Array Oper) (pr : Prot) (Q : Act → World → Prop) : Nat → Array Bool → Act → World → Prop
  | 0, listed, a, w => Region.ready .any ops listed = [] ∧ Q a w
  | f + 1, listed, a, w => Region.ready .any ops listed ≠ [] ∧
    ∀ j ∈ Region.ready .any ops listed, wpOp P ops Q0 j (fun a' w' => (∀ x ∈ pr, anc ops ops.size j x.1 = false → KeepB x.2 w w') ∧ wpAnyC P ops pr Q f (listed.setIfInBounds j true) a' w') a w

theorem wpAny_of_C {pr : Prot} {Q : Act → World → Prop} {Q' : Exit → Act → World → Prop} (hQ : ∀ a w, Q a w → Q' .normal a w) : ∀ (f : Nat) (listed : Array Bool) (a : Act) (w : World),
    wpAnyC P ops pr Q f listed a w → wpAny P .any ops Q' f listed a w
  | 0, _, _, _, h => ⟨h.1, hQ _ _ h.2⟩
  | f + 1, _, _, _, h => ⟨fun h0 => absurd h0 h.1, fun j hj => wpOp_of_Q0 (wpOp_mono (fun _ _ h' => wpAny_of_C hQ f _ _ _ h'.2) (h.2 j hj))⟩

theorem wpAnyC_sub {pr pr' : Prot} {Q : Act → World → Prop} (hs : ∀ x ∈ pr', x ∈ pr) : ∀ (f : Nat) (listed : Array Bool) (a : Act) (w : World),
    wpAnyC P ops pr Q f listed a w → wpAnyC P ops pr' Q f listed a w
  | 0, _, _, _, h => h
  | f + 1, _, _, _, h => ⟨h.1, fun j hj => wpOp_mono (fun _ _ h' => ⟨fun x hx => h'.1 x (hs x hx), wpAnyC_sub hs f _ _ _ h'.2⟩) (h.2 j hj)⟩

/-- An operation that is apart from another one's slots: before or behind that one's result, all the same. -/
theorem wpOp_swap {j : Nat} {oi oj : Oper} {v : Value} (hj : ops[j]? = some oj) (hap : oi.apart ops oj = true)
    (hsi : ∀ cs b, oi.op ≠ .select cs b) (hsj : ∀ cs b, oj.op ≠ .select cs b) {K : Act → World → Prop} {a : Act} {w : World}
    (h : wpOp P ops Q0 j K (a.put oi.dst v) w) :
    wpOp P ops Q0 j (fun a' w' => execOp a'.eval oi = execOp a.eval oi ∧ K (a'.put oi.dst v) w') a w := by
  obtain ⟨h1, h2, h3⟩ := Oper.apart_spec hap
  have keep : ∀ u, execOp (a.put oj.dst u).eval oi = execOp a.eval oi := fun u => execOp_put oi hsi a oj.dst u h3
  unfold wpOp at *
  simp only [hj] at *
  rw [wanted_put oj a oi.dst v h1] at h
  split
  · rename_i hw
    simp only [hw, if_true] at h
    rcases h with h | ⟨_, _, _, h⟩
    case inr => exact h.elim
    refine .inl ?_
    unfold Oper.wp at *
    rw [execOp_put oj hsj a oi.dst v h1] at h
    generalize (execOp a.eval oj).run P w = r at *
    cases r with
    | ok n w' =>
      cases n <;> simp only [Oper.upon] at h ⊢
      case value u => exact ⟨keep u, by rw [← Act.put_comm a v u h2]; exact h⟩
      case skip => exact ⟨keep _, by rw [← Act.put_comm a v undef h2]; exact h⟩
      case defer d =>
        refine ⟨execOp_put oi hsi { a with defers := d :: a.defers } oj.dst undef h3, ?_⟩
        rw [← Act.put_comm _ v undef h2, ← Act.put_defers]
        exact h
      case enter f args =>
        refine Calls.mono h fun e w'' he => ?_
        cases e with
        | returned u => exact ⟨keep u, by rw [← Act.put_comm a v u h2]; exact he⟩
        | panicked c => exact he.elim
        | outgrown => obtain ⟨_, _, h0⟩ := he; exact h0.elim
      case row row args => exact Rows.mono h fun u w'' he => ⟨keep u, by rw [← Act.put_comm a v u h2]; exact he⟩
    | halt x w' =>
      cases x <;> simp only [Oper.upon] at h ⊢
      case panic u => exact h.elim
  · rename_i hw
    simp only [hw] at h
    exact ⟨keep _, by rw [← Act.put_comm a v undef h2]; exact h⟩

theorem wpOp_reads {i : Nat} {oi : Oper} {v : Value} {a : Act} {w : World} {K : Act → World → Prop} (hi : ops[i]? = some oi) (hg : oi.guard = none)
    (hy : (execOp a.eval oi).run P w = .ok (.value v) w) (h : K (a.put oi.dst v) w) : wpOp P ops Q0 i K a w := by
  unfold wpOp
  have hw : Region.wanted oi (yielded ops a.tmps) = true := by simp [Region.wanted, hg]
  simp only [hi, hw, if_true, Oper.wp, hy, Oper.upon]
  exact .inl h

theorem wpAnyC_first {pr : Prot} {Q : Act → World → Prop} {i : Nat} {oi : Oper} {v : Value} {B : Nat → Prop} (hi : ops[i]? = some oi) (hg : oi.guard = none)
    (hsel : ∀ (j : Nat) (o : Oper) cs b, ops[j]? = some o → o.op ≠ .select cs b) :
    ∀ (f : Nat) (listed : Array Bool) (a : Act) (w : World), ClosedL ops listed →
      (∀ j oj, ops[j]? = some oj → j ≠ i → listed.getD j true = false → (∀ e ∈ oj.after, Region.binds .any e = true → e.on ≠ i) → oi.apart ops oj = true) →
      i ∈ Region.ready .any ops listed → (∀ w', KeepB B w w' → (execOp a.eval oi).run P w' = .ok (.value v) w') →
      wpAnyC P ops ((i, B) :: pr) Q f (listed.setIfInBounds i true) (a.put oi.dst v) w → wpAnyC P ops pr Q (f + 1) listed a w := by
  have now : ∀ (f : Nat) (listed : Array Bool) (a : Act) (w : World), (∀ w', KeepB B w w' → (execOp a.eval oi).run P w' = .ok (.value v) w') →
      wpAnyC P ops ((i, B) :: pr) Q f (listed.setIfInBounds i true) (a.put oi.dst v) w →
      wpOp P ops Q0 i (fun a' w' => (∀ x ∈ pr, anc ops ops.size i x.1 = false → KeepB x.2 w w') ∧ wpAnyC P ops pr Q f (listed.setIfInBounds i true) a' w') a w := by
    intro f listed a w hy H
    exact wpOp_reads hi hg (hy w (KeepB.refl _ _)) ⟨fun x _ _ => KeepB.refl _ _, wpAnyC_sub (fun x hx => .tail _ hx) _ _ _ _ H⟩
  intro f
  induction f with
  | zero =>
    intro listed a w _ _ hr hy H
    refine ⟨fun h => (by rw [h] at hr; cases hr), fun j hj => ?_⟩
    by_cases hji : j = i
    · subst hji; exact now 0 listed a w hy H
    · have := ready_mono hj hji
      rw [H.1] at this
      cases this
  | succ f ih =>
    intro listed a w hcl hfree hr hy H
    refine ⟨fun h => (by rw [h] at hr; cases hr), fun j hj => ?_⟩
    by_cases hji : j = i
    · subst hji; exact now (f + 1) listed a w hy H
    · have h1 := H.2 j (ready_mono hj hji)
      obtain ⟨hjun, oj, hoj, hall⟩ := mem_ready.1 hj
      have hun := getD_tf (mem_ready.1 hr).1
      have hnot : ∀ e ∈ oj.after, Region.binds .any e = true → e.on ≠ i := fun e he hb heq => by
        have h1 := hall e he hb
        rw [heq, hun] at h1; cases h1
      have h2 := wpOp_swap hoj (hfree j oj hoj hji hjun hnot) (fun cs b => hsel i oi cs b hi) (fun cs b => hsel j oj cs b hoj) h1
      have hfree' : ∀ k ok, ops[k]? = some ok → k ≠ i → (listed.setIfInBounds j true).getD k true = false →
          (∀ e ∈ ok.after, Region.binds .any e = true → e.on ≠ i) → oi.apart ops ok = true := fun k ok hk hki hun hno => by
        refine hfree k ok hk hki ?_ hno
        by_cases hjk : j = k
        · subst hjk; exact hjun
        · rw [getD_set_ne true hjk] at hun; exact hun
      refine wpOp_mono (fun a' w' h3 => ?_) h2
      obtain ⟨e1, e2, e3⟩ := h3
      have hk : KeepB B w w' := e2 (i, B) (.head _) (anc_ready hcl hun hj _)
      refine ⟨fun x hx => e2 x (.tail _ hx), ih (listed.setIfInBounds j true) a' w' (hcl.set hj) hfree' (ready_mono hr (Ne.symm hji)) (fun w'' hw'' => by rw [e1]; exact hy w'' (hk.trans hw'')) ?_⟩
      rw [Array.setIfInBounds_comm _ _ hji]
      exact e3
end
end Go.Z

/- Regions that draw their order and write: the executor; what is hidden from an operation, and known again behind it. -/
namespace Go.Z
open Go.RowKit

/-- What is hidden from an operation: the variables and arrays that another one is still to read. -/
def hid (h : List (Nat × R)) : List SV → List (Nat × R)
  | [] => []
  | s :: l => match s with
    | .p n _ => match hfind h n with
      | some (.blk T c) => (n, .blk T c) :: hid h l
      | _ => hid h l
    | .m n => match hfind h n with
      | some (.map ks vs) => (n, .map ks vs) :: hid h l
      | _ => hid h l
    | .q n => match hfind h n with
      | some (.own T d) => (n, .own T d) :: hid h l
      | _ => hid h l
    | .e n _ _ _ => match hfind h n with
      | some (.own T d) => (n, .own T d) :: hid h l
      | _ => hid h l
    | .a n => match hfind h n with
      | some (.own T d) => (n, .own T d) :: hid h l
      | _ => hid h l
    | _ => hid h l
def deadOf : List (Nat × R) → List (Nat × R)
  | [] => []
  | (n, _) :: l => (n, .dead) :: deadOf l

def okSV (h : List (Nat × R)) : SV → Bool
  | .p n _ => match hfind h n with
    | some (.blk _ _) => true
    | some (.rblk _ _) => true
    | _ => false
  | .m n => match hfind h n with
    | some (.map _ _) => true
    | some (.rmap _ _) => true
    | _ => false
  | .q n => match hfind h n with
    | some (.own _ d) => Nat.blt 0 d.len
    | _ => false
  | .e n _ _ _ => match hfind h n with
    | some (.own _ _) => true
    | some (.ro _) => true
    | _ => false
  | .a n => match hfind h n with
    | some (.own _ _) => true
    | some (.ro _) => true
    | _ => false
  | _ => true
def okSVs (h : List (Nat × R)) : List SV → Bool
  | [] => true
  | s :: l => okSV h s && okSVs h l

/-- What those are still to read that need not have come ahead of j. -/
def protOf (ops : Array Oper) (j : Nat) : List (Nat × List SV) → List SV
  | [] => []
  | (i, l) :: pr => cond (anc ops ops.size j i) (protOf ops j pr) (l ++ protOf ops j pr)

def stillK : Op → Bool
  | .pick .. => false
  | .call c => match c.callee with
    | .value _ => false
    | _ => true
  | _ => true

/-- The first operation that only reads, and may come now. -/
def pickStill (P : Program) (C : CE) (ops : Array Oper) (listed : Array Bool) (env : List (Nat × SV)) : List Nat → Option (Nat × Oper)
  | [] => none
  | i :: is => match ops[i]? with
    | some o => cond (o.guard.isNone && stillK o.op && isQuiet P C o.op env && Region.free .any ops listed i) (some (i, o)) (pickStill P C ops listed env is)
    | none => pickStill P C ops listed env is

def allL : List Nat → (Nat → Prop) → Prop
  | [], _ => True
  | j :: js, p => p j ∧ allL js p

/-- One operation, carried out; 'K': what follows. -/
def anyOp1 (P : Program) (C : CE) (N : Nat) (ops : Array Oper) (pr : List (Nat × List SV)) (j : Nat) (o : Oper) (env : List (Nat × SV)) (h : List (Nat × R)) (nx : Nat)
    (K : List (Nat × SV) → List (Nat × R) → Nat → Prop) : Prop :=
  cond (isQuiet P C o.op env)
    (stepOQ P C [] o.op env h nx fun r h' nx' => putS N o.dst r env fun env' => K env' h' nx')
    (cond (okSVs h (protOf ops j pr))
      (resolveL env [] o.op.operands.toList fun vs => stepL P C o.op vs (deadOf (hid h (protOf ops j pr)) ++ h) nx fun r h' nx' =>
        putS N o.dst r env fun env' => K env' (hid h (protOf ops j pr) ++ h') nx') False)

def stepAny (P : Program) (C : CE) (N : Nat) (ops : Array Oper) : Nat → Array Bool → List (Nat × List SV) → List (Nat × SV) → List (Nat × R) → Nat →
    (List (Nat × SV) → List (Nat × R) → Nat → Prop) → Prop
  | 0, listed, _, env, h, nx, k => cond (Region.ready .any ops listed).isEmpty (k env h nx) False
  | f + 1, listed, pr, env, h, nx, k =>
    match pickStill P C ops listed env (Region.ready .any ops listed) with
    | some (i, o) => resolveL env [] o.op.operands.toList fun vs => stepQ P o.op vs h nx fun r h' nx' =>
        putS N o.dst r env fun env' => stepAny P C N ops f (listed.setIfInBounds i true) ((i, readsOf o.op vs) :: pr) env' h' nx' k
    | none => cond (Region.ready .any ops listed).isEmpty False
        (allL (Region.ready .any ops listed) fun j => match ops[j]? with
          | none => False
          | some o => match guardM ops env o.guard with
            | some .run => anyOp1 P C N ops pr j o env h nx fun env' h' nx' => stepAny P C N ops f (listed.setIfInBounds j true) pr env' h' nx' k
            | some .skip => putS N o.dst (.c undef) env fun env' => stepAny P C N ops f (listed.setIfInBounds j true) pr env' h nx k
            | some (.split d t want) => (t = want → anyOp1 P C N ops pr j o ((d, .b want) :: env) h nx fun env' h' nx' => stepAny P C N ops f (listed.setIfInBounds j true) pr env' h' nx' k) ∧
                (t = (!want) → putS N o.dst (.c undef) ((d, .b (!want)) :: env) fun env' => stepAny P C N ops f (listed.setIfInBounds j true) pr env' h nx k)
            | _ => False)

section
variable {K : Ctx} {θ : Th} {h : List (Nat × R)} {nx : Nat} {w : World}

theorem hid_mem {n : Nat} {r : R} : ∀ {l : List SV}, (n, r) ∈ hid h l → hfind h n = some r
  | [], hm => by cases hm
  | s :: l, hm => by
    have go : (n, r) ∈ hid h l → hfind h n = some r := fun h' => hid_mem h'
    cases s <;> simp only [hid] at hm <;> first
      | exact go hm
      | (split at hm
         · rename_i hf
           rcases List.mem_cons.1 hm with e | hm
           · cases e; exact hf
           · exact go hm
         · exact go hm)

def isHid (h : List (Nat × R)) (l : List SV) (n : Nat) : Prop := ∃ r, (n, r) ∈ hid h l

theorem hfind_append {a b : List (Nat × R)} {n : Nat} : hfind (a ++ b) n = match hfind a n with | some r => some r | none => hfind b n := by
  induction a with
  | nil => rfl
  | cons x a ih =>
    obtain ⟨m, r⟩ := x
    simp only [List.cons_append, hfind_cons]
    split
    · rfl
    · exact ih

theorem hfind_hid {l : List SV} {n : Nat} {r : R} (hm : (n, r) ∈ hid h l) (h' : List (Nat × R)) : hfind (hid h l ++ h') n = some r := by
  rw [hfind_append]
  cases hc : hfind (hid h l) n with
  | some r' =>
    have := hid_mem (mem_of_hfind' hc)
    rw [hid_mem hm] at this
    exact this.symm
  | none => exact absurd hc (hfind_ne hm)
where
  mem_of_hfind' {t : Nat} {s : R} : ∀ {l : List (Nat × R)}, hfind l t = some s → (t, s) ∈ l
    | [], h => by simp [hfind] at h
    | (m, r) :: l, h => by
      rw [hfind_cons] at h
      split at h
      · rename_i e; subst e; cases h; exact .head _
      · exact .tail _ (mem_of_hfind' h)
  hfind_ne {t : Nat} {s : R} : ∀ {l : List (Nat × R)}, (t, s) ∈ l → hfind l t ≠ none
    | [], h => by cases h
    | (m, r) :: l, h => by
      rw [hfind_cons]
      split
      · simp
      · rename_i e
        rcases List.mem_cons.1 h with e' | h
        · cases e'; exact absurd rfl e
        · exact hfind_ne h

theorem hfind_not_hid {l : List SV} {n : Nat} (hn : ¬ isHid h l n) (h' : List (Nat × R)) : hfind (hid h l ++ h') n = hfind h' n := by
  rw [hfind_append]
  cases hc : hfind (hid h l) n with
  | some r' => exact absurd ⟨r', hfind_hid.mem_of_hfind' hc⟩ hn
  | none => rfl

theorem hfind_dead {a : List (Nat × R)} {b : List (Nat × R)} {n : Nat} : hfind (deadOf a ++ b) n = match hfind a n with | some _ => some .dead | none => hfind b n := by
  induction a with
  | nil => rfl
  | cons x a ih =>
    obtain ⟨m, r⟩ := x
    simp only [deadOf, List.cons_append, hfind_cons]
    by_cases e : m = n
    · rw [if_pos e, if_pos e]
    · rw [if_neg e, if_neg e]; exact ih

/-- Who owns what, with some hidden. -/
theorem owns_dead {l : List SV} {n b : Nat} : OwnsAt θ (deadOf (hid h l) ++ h) n b ↔ OwnsAt θ h n b ∧ ¬ isHid h l n := by
  constructor
  · rintro ⟨r, L, h1, h2, h3, h4⟩
    rw [hfind_dead] at h1
    cases hc : hfind (hid h l) n with
    | some r' => rw [hc] at h1; cases h1; exact h3.elim
    | none =>
      rw [hc] at h1
      refine ⟨⟨r, L, h1, h2, h3, h4⟩, ?_⟩
      rintro ⟨r', hr'⟩
      exact hfind_hid.hfind_ne hr' hc
  · rintro ⟨⟨r, L, h1, h2, h3, h4⟩, hn⟩
    refine ⟨r, L, ?_, h2, h3, h4⟩
    rw [hfind_dead]
    cases hc : hfind (hid h l) n with
    | some r' => exact absurd ⟨r', hfind_hid.mem_of_hfind' hc⟩ hn
    | none => exact h1

/-- The circumstances of one operation from which some things are hidden. -/
def Ctx.sub (K : Ctx) (θ : Th) (h hj : List (Nat × R)) (w : World) : Ctx where
  w0 := w
  M b := ∃ n, OwnsAt θ hj n b
  A b := Free K θ h b ∨ ∃ n, OwnsAt θ hj n b
  N := K.N
  ma _ hb := .inr hb

theorem SatH.hide (hs : SatH K θ h nx w) (l : List SV) : SatH (K.sub θ h (deadOf (hid h l) ++ h) w) θ (deadOf (hid h l) ++ h) nx w := by
  have hF : ∀ b, Free K θ h b → Free (K.sub θ h (deadOf (hid h l) ++ h) w) θ (deadOf (hid h l) ++ h) b := fun b hb => ⟨fun n hn => hb.1 n (owns_dead.1 hn).1, .inr (.inl hb)⟩
  refine ⟨hs.fresh, fun n r hr => ?_, fun n m b hn hm => hs.dis n m b (owns_dead.1 hn).1 (owns_dead.1 hm).1, fun n b hn => .inr ⟨n, hn⟩, .refl _ _⟩
  rw [hfind_dead] at hr
  cases hc : hfind (hid h l) n with
  | some r' =>
    rw [hc] at hr; cases hr
    obtain ⟨L, hL, _⟩ := hs.res n _ (hid_mem (hfind_hid.mem_of_hfind' hc))
    exact ⟨L, hL, trivial⟩
  | none =>
    rw [hc] at hr
    obtain ⟨L, hL, h1⟩ := hs.res n r hr
    exact ⟨L, hL, R.holds_mono (Th.ext_refl _) (fun b _ hb => ⟨hF b hb, rfl⟩) (fun _ => rfl) h1⟩

theorem SatH.unhide (hs : SatH K θ h nx w) {l : List SV} {θ' : Th} {h' : List (Nat × R)} {nx' : Nat} {w' : World}
    (hs' : SatH (K.sub θ h (deadOf (hid h l) ++ h) w) θ' h' nx' w') (hx : θ.ext θ') : SatH K θ' (hid h l ++ h') nx' w' ∧
      ∀ b, b < w.heap.size → (∀ n, OwnsAt θ h n b → isHid h l n) → w'.heap[b]? = w.heap[b]? := by
  have hfr := hs'.frame
  -- a block that is hidden, or that nobody owns, is as it was
  have keep : ∀ b, b < w.heap.size → (∀ n, OwnsAt θ h n b → isHid h l n) → w'.heap[b]? = w.heap[b]? := fun b hb hn =>
    hfr.block b hb fun ⟨n, ho⟩ => (owns_dead.1 ho).2 (hn n (owns_dead.1 ho).1)
  have src : ∀ {n b}, OwnsAt θ' (hid h l ++ h') n b → (isHid h l n ∧ OwnsAt θ h n b) ∨ (¬ isHid h l n ∧ OwnsAt θ' h' n b ∧ (w.heap.size ≤ b ∨ ∃ m, OwnsAt θ h m b ∧ ¬ isHid h l m)) := by
    rintro n b ⟨r, L, h1, h2, h3, h4⟩
    by_cases hn : isHid h l n
    · obtain ⟨r', hr'⟩ := hn
      rw [hfind_hid hr'] at h1; cases h1
      obtain ⟨L', hL', _⟩ := hs.res n _ (hid_mem hr')
      obtain rfl := Option.some.inj (h2.symm.trans (hx _ _ hL'))
      exact .inl ⟨⟨r, hr'⟩, r, L, hid_mem hr', hL', h3, h4⟩
    · rw [hfind_not_hid hn] at h1
      have ho : OwnsAt θ' h' n b := ⟨r, L, h1, h2, h3, h4⟩
      refine .inr ⟨hn, ho, (hs'.new n b ho).imp id ?_⟩
      rintro ⟨m, hm⟩
      exact ⟨m, owns_dead.1 hm⟩
  have clash : ∀ {n b}, isHid h l n → OwnsAt θ h n b → (w.heap.size ≤ b ∨ ∃ m, OwnsAt θ h m b ∧ ¬ isHid h l m) → False := by
    intro n b h1 h2 h3
    rcases h3 with h3 | ⟨m, h3, h4⟩
    · have := OwnsAt.lt hs h2; omega
    · exact h4 (hs.dis _ _ _ h2 h3 ▸ h1)
  have hF1 : ∀ b, b < w.heap.size → Free K θ h b → Free K θ' (hid h l ++ h') b := fun b hb hf => ⟨fun n hn => by
    rcases src hn with ⟨_, h1⟩ | ⟨_, _, h1 | ⟨m, h1, _⟩⟩
    · exact hf.1 _ h1
    · omega
    · exact hf.1 _ h1, hf.2⟩
  have hF2 : ∀ b, Free (K.sub θ h (deadOf (hid h l) ++ h) w) θ' h' b → Free K θ' (hid h l ++ h') b := fun b hf => by
    have hall : w.heap.size ≤ b ∨ Free K θ h b ∨ ∃ m, OwnsAt θ h m b ∧ ¬ isHid h l m := by
      rcases hf.2 with h1 | h1 | ⟨m, h1⟩
      · exact .inl h1
      · exact .inr (.inl h1)
      · exact .inr (.inr ⟨m, owns_dead.1 h1⟩)
    refine ⟨fun n hn => ?_, ?_⟩
    · rcases src hn with ⟨h1, h2⟩ | ⟨_, h1, _⟩
      · rcases hall with h3 | h3 | h3
        · have := OwnsAt.lt hs h2; omega
        · exact h3.1 _ h2
        · exact clash h1 h2 (.inr h3)
      · exact hf.1 _ h1
    · rcases hall with h3 | h3 | ⟨m, h3, _⟩
      · exact .inl (Nat.le_trans hs.frame.size h3)
      · exact h3.2
      · exact (hs.new m b h3).imp id (K.ma _)
  refine ⟨⟨hs'.fresh, fun n r hr => ?_, fun n m b hn hm => ?_, fun n b hn => ?_, ?_⟩, keep⟩
  · by_cases hn : isHid h l n
    · obtain ⟨r', hr'⟩ := hn
      rw [hfind_hid hr'] at hr; cases hr
      obtain ⟨L, hL, h1⟩ := hs.res n _ (hid_mem hr')
      refine ⟨L, hx _ _ hL, R.holds_mono hx (fun b hb hf => ⟨hF1 b hb hf, keep b hb fun n hn => absurd hn (hf.1 n)⟩) (fun ho => ?_) h1⟩
      have ow : OwnsAt θ h n L.b := ⟨r, L, hid_mem hr', hL, ho, rfl⟩
      exact keep L.b (OwnsAt.lt hs ow) fun m hm => hs.dis _ _ _ ow hm ▸ ⟨r, hr'⟩
    · rw [hfind_not_hid hn] at hr
      obtain ⟨L, hL, h1⟩ := hs'.res n r hr
      exact ⟨L, hL, R.holds_mono (Th.ext_refl _) (fun b _ hf => ⟨hF2 b hf, rfl⟩) (fun _ => rfl) h1⟩
  · rcases src hn with ⟨h1, h2⟩ | ⟨_, h2, h2'⟩ <;> rcases src hm with ⟨g1, g2⟩ | ⟨_, g2, g2'⟩
    · exact hs.dis _ _ _ h2 g2
    · exact (clash h1 h2 g2').elim
    · exact (clash g1 g2 h2').elim
    · exact hs'.dis _ _ _ h2 g2
  · rcases src hn with ⟨_, h2⟩ | ⟨_, _, h2 | ⟨m, h2, _⟩⟩
    · exact hs.new n b h2
    · exact .inl (Nat.le_trans hs.frame.size h2)
    · exact hs.new m b h2
  · refine ⟨hfr.os.trans hs.frame.os, hfr.tape.trans hs.frame.tape, hfr.output.trans hs.frame.output, Nat.le_trans hs.frame.size hfr.size, fun b hb hM => ?_⟩
    have hbw := Nat.lt_of_lt_of_le hb hs.frame.size
    rw [hfr.block b hbw ?_]
    · exact hs.frame.block b hb hM
    · rintro ⟨n, hn⟩
      rcases hs.new n b (owns_dead.1 hn).1 with h1 | h1
      · omega
      · exact hM h1
end
end Go.Z

/- Regions that draw their order and write: sound. -/
namespace Go.Z
open Go.RowKit

section
variable {P : Program} {C : CE} {K : Ctx} {θ0 : Th} {ops : Array Oper}

/-- What is protected is what those are to read. -/
def ProtOk (θ : Th) (pr : List (Nat × List SV)) (prB : Prot) : Prop := ∀ x ∈ prB, ∃ rds, (x.1, rds) ∈ pr ∧ ∀ b, x.2 b → ∃ s, s ∈ rds ∧ rdB θ s b

theorem rdB_mono {θ θ' : Th} (hx : θ.ext θ') {s : SV} {b : Nat} (h : rdB θ s b) : rdB θ' s b := by
  cases s <;> simp only [rdB] at h ⊢
  all_goals obtain ⟨L, h1, h2⟩ := h; exact ⟨L, hx _ _ h1, h2⟩

theorem ProtOk.mono {θ θ' : Th} (hx : θ.ext θ') {pr : List (Nat × List SV)} {prB : Prot} (h : ProtOk θ pr prB) : ProtOk θ' pr prB := fun x hm => by
  obtain ⟨rds, h1, h2⟩ := h x hm
  refine ⟨rds, h1, fun b hb => ?_⟩
  obtain ⟨s, h3, h4⟩ := h2 b hb
  exact ⟨s, h3, rdB_mono hx h4⟩

theorem mem_protOf {j i : Nat} {l : List SV} (ha : anc ops ops.size j i = false) : ∀ {pr : List (Nat × List SV)}, (i, l) ∈ pr → ∀ s, s ∈ l → s ∈ protOf ops j pr
  | [], h, _, _ => by cases h
  | (i', l') :: pr, h, s, hs => by
    unfold protOf
    rcases List.mem_cons.1 h with e | h
    · cases e
      rw [ha]
      exact List.mem_append.2 (.inl hs)
    · have := mem_protOf ha h s hs
      cases anc ops ops.size j i' with
      | true => exact this
      | false => exact List.mem_append.2 (.inr this)

theorem okSVs_mem {h : List (Nat × R)} {s : SV} : ∀ {l : List SV}, okSVs h l = true → s ∈ l → okSV h s = true
  | [], _, hm => by cases hm
  | t :: l, hk, hm => by
    simp only [okSVs, Bool.and_eq_true] at hk
    rcases List.mem_cons.1 hm with rfl | hm
    · exact hk.1
    · exact okSVs_mem hk.2 hm

theorem hid_blk {h : List (Nat × R)} {n T o : Nat} {c : List SV} (hf : hfind h n = some (.blk T c)) : ∀ {l : List SV}, SV.p n o ∈ l → isHid h l n
  | [], hm => by cases hm
  | t :: l, hm => by
    rcases List.mem_cons.1 hm with rfl | hm
    · refine ⟨.blk T c, ?_⟩
      simp only [hid, hf]
      exact .head _
    · obtain ⟨r, hr⟩ := hid_blk hf hm
      refine ⟨r, ?_⟩
      cases t <;> simp only [hid] <;> first | exact hr | (split <;> first | exact .tail _ hr | exact hr)
theorem hid_own {h : List (Nat × R)} {n T : Nat} {d : D} (hf : hfind h n = some (.own T d)) {s : SV} (hs : s = .a n ∨ s = .q n ∨ ∃ es i o, s = .e n es i o) : ∀ {l : List SV}, s ∈ l → isHid h l n
  | [], hm => by cases hm
  | t :: l, hm => by
    rcases List.mem_cons.1 hm with rfl | hm
    · refine ⟨.own T d, ?_⟩
      rcases hs with rfl | rfl | ⟨es, i, o, rfl⟩ <;> simp only [hid, hf] <;> exact .head _
    · obtain ⟨r, hr⟩ := hid_own hf hs hm
      refine ⟨r, ?_⟩
      cases t <;> simp only [hid] <;> first | exact hr | (split <;> first | exact .tail _ hr | exact hr)

theorem hid_map {h : List (Nat × R)} {n : Nat} {ks vs : Col} (hf : hfind h n = some (.map ks vs)) : ∀ {l : List SV}, SV.m n ∈ l → isHid h l n
  | [], hm => by cases hm
  | t :: l, hm => by
    rcases List.mem_cons.1 hm with rfl | hm
    · refine ⟨.map ks vs, ?_⟩
      simp only [hid, hf]
      exact .head _
    · obtain ⟨r, hr⟩ := hid_map hf hm
      refine ⟨r, ?_⟩
      cases t <;> simp only [hid] <;> first | exact hr | (split <;> first | exact .tail _ hr | exact hr)

/-- A block that is to be read is owned by what is hidden, or by nobody. -/
theorem prot_block {θ : Th} {h : List (Nat × R)} {nx : Nat} {w : World} (hs : SatH K θ h nx w) {l : List SV} (hk : okSVs h l = true) {s : SV} (hm : s ∈ l) {b : Nat} (hb : rdB θ s b) :
    ∀ n, OwnsAt θ h n b → isHid h l n := by
  intro n hn
  have h1 := okSVs_mem hk hm
  have arr : ∀ {m : Nat}, (s = .a m ∨ s = .q m ∨ ∃ es i o, s = .e m es i o) → (∃ L, θ m = some L ∧ L.len ≠ 0 ∧ L.b = b) →
      (match hfind h m with | some (.own _ _) => true | some (.ro _) => true | _ => false) = true → isHid h l n := by
    rintro m hsm ⟨L, g1, g2, rfl⟩ hk'
    split at hk' <;> try (cases hk'; done)
    · rename_i T d hf
      obtain ⟨L', l1, l2, _⟩ := hs.res m _ hf
      obtain rfl := Option.some.inj (g1.symm.trans l1)
      have hcap : L.cap ≠ 0 := by have := D.at_len l2; omega
      obtain rfl := hs.dis n m _ hn ⟨_, L, hf, g1, hcap, rfl⟩
      exact hid_own hf hsm hm
    · rename_i d hf
      obtain ⟨L', l1, l2, l3, l4⟩ := hs.res m _ hf
      obtain rfl := Option.some.inj (g1.symm.trans l1)
      exact absurd hn ((l4 g2).1.1 n)
  cases s <;> simp only [rdB] at hb
  · rename_i m o
    obtain ⟨L, g1, rfl⟩ := hb
    simp only [okSV] at h1
    split at h1 <;> try (cases h1; done)
    · rename_i T c hf
      obtain rfl := hs.dis n m _ hn ⟨_, L, hf, g1, trivial, rfl⟩
      exact hid_blk hf hm
    · rename_i T c hf
      obtain ⟨L', l1, cs, l2, l3, _⟩ := hs.res m _ hf
      obtain rfl := Option.some.inj (g1.symm.trans l1)
      exact absurd hn (l3.1 n)
  · exact arr (.inr (.inr ⟨_, _, _, rfl⟩)) hb h1
  · exact arr (.inl rfl) hb h1
  · rename_i m
    obtain ⟨L, g1, rfl⟩ := hb
    simp only [okSV] at h1
    split at h1 <;> try (cases h1; done)
    rename_i T d hf
    have hlt := nblt h1
    obtain ⟨L', l1, l2, _⟩ := hs.res m _ hf
    obtain rfl := Option.some.inj (g1.symm.trans l1)
    have hcap : L.cap ≠ 0 := by have := D.at_len l2; omega
    obtain rfl := hs.dis n m _ hn ⟨_, L, hf, g1, hcap, rfl⟩
    exact hid_own hf (.inr (.inl rfl)) hm
  · rename_i m
    obtain ⟨L, g1, rfl⟩ := hb
    simp only [okSV] at h1
    split at h1 <;> try (cases h1; done)
    · rename_i ks vs hf
      obtain rfl := hs.dis n m _ hn ⟨_, L, hf, g1, trivial, rfl⟩
      exact hid_map hf hm
    · rename_i ks vs hf
      obtain ⟨L', l1, l2, l3, _⟩ := hs.res m _ hf
      obtain rfl := Option.some.inj (g1.symm.trans l1)
      exact absurd hn (l3.1 n)

theorem allL_mem {p : Nat → Prop} {j : Nat} : ∀ {l : List Nat}, allL l p → j ∈ l → p j
  | [], _, h => by cases h
  | _ :: _, hp, h => by
    rcases List.mem_cons.1 h with rfl | h
    · exact hp.1
    · exact allL_mem hp.2 h

theorem pickStill_spec {listed : Array Bool} {env : List (Nat × SV)} {i : Nat} {o : Oper} : ∀ {l : List Nat}, pickStill P C ops listed env l = some (i, o) →
    i ∈ l ∧ ops[i]? = some o ∧ o.guard = none ∧ Region.free .any ops listed i = true
  | [], h => by simp [pickStill] at h
  | j :: js, h => by
    unfold pickStill at h
    split at h
    · rename_i oj hoj
      cases hc : (oj.guard.isNone && stillK oj.op && isQuiet P C oj.op env && Region.free .any ops listed j) with
      | true =>
        rw [hc] at h
        cases h
        simp only [Bool.and_eq_true] at hc
        exact ⟨.head _, hoj, by simpa using hc.1.1.1, hc.2⟩
      | false =>
        rw [hc] at h
        obtain ⟨h1, h2⟩ := pickStill_spec (l := js) h
        exact ⟨.tail _ h1, h2⟩
    · obtain ⟨h1, h2⟩ := pickStill_spec (l := js) h
      exact ⟨.tail _ h1, h2⟩

theorem stepAny_sound (hC : COk P C) (hsel : Region.noSelect ops = true) {Q : Act → World → Prop} : ∀ (f : Nat) {listed : Array Bool} {pr : List (Nat × List SV)} {prB : Prot} {θ : Th}
    {env : List (Nat × SV)} {h : List (Nat × R)} {nx : Nat} {a : Act} {w : World} {k : List (Nat × SV) → List (Nat × R) → Nat → Prop},
    θ0.ext θ → SatH K θ h nx w → SatE K θ env a → ClosedL ops listed → ProtOk θ pr prB → stepAny P C K.N ops f listed pr env h nx k →
    (∀ env' h' nx' θ' a' w', k env' h' nx' → θ0.ext θ' → SatH K θ' h' nx' w' → SatE K θ' env' a' → Q a' w') → wpAnyC P ops prB Q f listed a w
  | 0, listed, pr, prB, θ, env, h, nx, a, w, k, hx, hs, he, hcl, hpr, hq, hk => by
    obtain ⟨h1, h2⟩ := cond_false hq
    exact ⟨by simpa using h1, hk _ _ _ _ _ _ h2 hx hs he⟩
  | f + 1, listed, pr, prB, θ, env, h, nx, a, w, k, hx, hs, he, hcl, hpr, hq, hk => by
    unfold stepAny at hq
    split at hq
    · rename_i i o hpick
      obtain ⟨p1, p2, p3, p4⟩ := pickStill_spec hpick
      obtain ⟨vs, h1, h2⟩ := resolveL_sound he (fun t ht => by cases ht) hq
      obtain ⟨r, h', nx', θ', v', e1, e2, e3, e4⟩ := stepQ_sound hs h2 h1
      obtain ⟨env', c1, c2⟩ := putS_sound (he.mono e2.ext) e3 e1
      refine wpAnyC_first (B := fun b => ∃ s, s ∈ readsOf o.op vs ∧ rdB θ s b) p2 p3 (Region.noSelect_spec hsel) f listed a w hcl (Region.free_spec p2 p4) p1
        (fun w' hw' => e4 w' fun s hsm b hb hr => hw'.2 b hb ⟨s, hsm, hr⟩) ?_
      refine stepAny_sound hC hsel f (Th.ext_trans hx e2.ext) e2.sat c2 (hcl.set p1) ?_ c1 hk
      intro x hxm
      rcases List.mem_cons.1 hxm with rfl | hxm
      · exact ⟨_, .head _, fun b hb => let ⟨s, g1, g2⟩ := hb; ⟨s, g1, rdB_mono e2.ext g2⟩⟩
      · obtain ⟨rds, g1, g2⟩ := hpr.mono e2.ext x hxm
        exact ⟨rds, .tail _ g1, g2⟩
    · obtain ⟨hne, hq⟩ := (cond_cases hq).elim (fun h => h.2.elim) id
      refine ⟨by simpa using hne, fun j hj => ?_⟩
      have hqj := allL_mem hq hj
      split at hqj <;> try exact hqj.elim
      rename_i o hoj
      have carry : ∀ {env : List (Nat × SV)}, SatE K θ env a → anyOp1 P C K.N ops pr j o env h nx (fun env' h' nx' => stepAny P C K.N ops f (listed.setIfInBounds j true) pr env' h' nx' k) →
          o.wp P a w (fun a' w' => (∀ x ∈ prB, anc ops ops.size j x.1 = false → KeepB x.2 w w') ∧ wpAnyC P ops prB Q f (listed.setIfInBounds j true) a' w') Q0 := by
        intro env he hqj
        rcases cond_cases hqj with ⟨_, hqj⟩ | ⟨_, hqj⟩
        · obtain ⟨r, h', nx', θ', v', e1, e2, e3, e4⟩ := stepOQ_sound hC hs he (fun t ht => by cases ht) hqj
          refine Oper.wp_of_quiet (C := Below w.heap.size w) (K := fun a' => ∃ env', stepAny P C K.N ops f (listed.setIfInBounds j true) pr env' h' nx' k ∧ SatE K θ' env' a') (Below.refl _ _) ?_
            ⟨v', e4, putS_sound (he.mono e2.ext) e3 e1⟩
          rintro a' w' hb ⟨env', c1, c2⟩
          exact ⟨fun x _ _ => ⟨hb.size, fun b hb' _ => hb.block b hb'⟩, stepAny_sound hC hsel f (Th.ext_trans hx e2.ext) (e2.sat.below hb) c2 (hcl.set hj) (hpr.mono e2.ext) c1 hk⟩
        · obtain ⟨hok, hqj⟩ := cond_false hqj
          obtain ⟨vs, h1, h2⟩ := resolveL_sound he (fun t ht => by cases ht) hqj
          refine stepL_sound hC (hs.hide (protOf ops j pr)) h2 h1 fun r h' nx' θ' v w' k1 k2 k3 k4 => ?_
          obtain ⟨env', e1, e2⟩ := putS_sound (he.mono k3) k4 k1
          obtain ⟨u1, u2⟩ := hs.unhide k2 k3
          refine ⟨fun x hxm hanc => ⟨k2.frame.size, fun b hb hB => u2 b hb ?_⟩, stepAny_sound hC hsel f (Th.ext_trans hx k3) u1 e2 (hcl.set hj) (hpr.mono k3) e1 hk⟩
          obtain ⟨rds, g1, g2⟩ := hpr x hxm
          obtain ⟨s, g3, g4⟩ := g2 b hB
          exact prot_block hs hok (mem_protOf hanc g1 s g3) g4
      have skip : ∀ {env : List (Nat × SV)}, SatE K θ env a → (putS K.N o.dst (.c undef) env fun env' => stepAny P C K.N ops f (listed.setIfInBounds j true) pr env' h nx k) →
          (∀ x ∈ prB, anc ops ops.size j x.1 = false → KeepB x.2 w w) ∧ wpAnyC P ops prB Q f (listed.setIfInBounds j true) (a.put o.dst undef) w := by
        intro env he hp
        obtain ⟨env', e1, e2⟩ := putS_sound he (V_c θ undef) hp
        exact ⟨fun x _ _ => .refl _ _, stepAny_sound hC hsel f hx hs e2 (hcl.set hj) hpr e1 hk⟩
      unfold wpOp
      simp only [hoj]
      split at hqj <;> try exact hqj.elim
      · rename_i hg
        have hw := guardM_sound he hg
        simp only [GM.ok] at hw
        rw [if_pos hw]
        exact .inl (carry he hqj)
      · rename_i hg
        have hw := guardM_sound he hg
        simp only [GM.ok] at hw
        rw [hw, if_neg (by simp)]
        exact skip he hqj
      · rename_i d t want hg
        have hw := guardM_sound he hg
        simp only [GM.ok] at hw
        by_cases ht : t = want
        · rw [hw.2, show (t == want) = true by simp [ht], if_pos rfl]
          exact .inl (carry (he.known hw.1 ht) (hqj.1 ht))
        · have ht' : t = !want := ne_not ht
          rw [hw.2, show (t == want) = false by simp [ht], if_neg (by simp)]
          exact skip (he.known hw.1 ht') (hqj.2 ht')

theorem wp_region_anyC (hP : P.follows .mixedOrders = true) (hC : COk P C) (hsel : Region.noSelect ops = true) {id : Nat} {Q : Exit → Act → World → Prop} {θ : Th} {env : List (Nat × SV)} {h : List (Nat × R)} {nx : Nat} {a : Act} {w : World}
    {k : List (Nat × SV) → List (Nat × R) → Nat → Prop} (hx : θ0.ext θ) (hs : SatH K θ h nx w) (he : SatE K θ env a)
    (hq : stepAny P C K.N ops ops.size (Array.replicate ops.size false) [] env h nx k)
    (hk : ∀ env' h' nx' θ' a' w', k env' h' nx' → θ0.ext θ' → SatH K θ' h' nx' w' → SatE K θ' env' a' → Q .normal a' w') : (Code.region id ops true).wp P Q a w := by
  have hb : Below w.heap.size w { w with drawn := w.drawn + 1 } := ⟨rfl, rfl, rfl, Nat.le_refl _, fun _ _ => rfl⟩
  refine wp_region_any hP (wpAny_of_C (Q := fun a w => Q .normal a w) (pr := []) (fun a w h => h) _ _ _ _ ?_)
  refine stepAny_sound hC hsel _ hx (hs.below hb) he ?_ (fun x hx => by cases hx) hq fun env' h' nx' θ' a' w' g1 g2 g3 g4 => hk _ _ _ _ _ _ g1 g2 g3 g4
  intro j oj _ hl
  rcases Nat.lt_or_ge j ops.size with h' | h'
  · simp [h'] at hl
  · simp [h'] at hl
end
end Go.Z
