/- Functions: from the body's symbolic run to the contract. -/
import Derived.Test.YtgnfpcjndhnglaaX23
namespace Go.X
open Go.RowKit

def lentsA : List AD → Nat → List Lent
  | [], _ => []
  | .ptr T l :: as, i => (i, T, l.length) :: lentsA as (i + 1)
  | _ :: as, i => lentsA as i
def lentH : List Lent → List (Nat × R)
  | [] => []
  | (n, T, len) :: ls => (n, .blk T (List.replicate len .unk)) :: lentH ls
def ptrDs : List AD → List (List D)
  | [] => []
  | .ptr _ l :: as => l :: ptrDs as
  | _ :: as => ptrDs as

def entryA : List AD → Nat → List (Nat × R) → Nat → (List SV → List (Nat × R) → Nat → Prop) → Prop
  | [], _, h, nx, k => k [] h nx
  | a :: as, i, h, nx, k =>
    match a with
    | .v x => entryA as i h nx fun ss h' nx' => k (.c x :: ss) h' nx'
    | .d x => instD x h nx fun s h' nx' => entryA as i h' nx' fun ss h'' nx'' => k (s :: ss) h'' nx''
    | .agg l => instL l h nx fun cs h' nx' => entryA as i h' nx' fun ss h'' nx'' => k (.agg cs :: ss) h'' nx''
    | .ptr _ _ => entryA as (i + 1) h nx fun ss h' nx' => k (.p i 0 :: ss) h' nx'

def slotsOf : List SV → Nat → List (Nat × SV)
  | [], _ => []
  | s :: ss, t => (t, s) :: slotsOf ss (t + 1)

/-- The array is the one that the caller is to own. -/
def isO (o : Option Nat) (m : Nat) : Bool := match o with | some n => Nat.beq n m | none => false

/-- A cell's value is this data (o: the name of the array that the caller is to own). -/
def matchD (o : Option Nat) (h : List (Nat × R)) (s : SV) (d : D) : Prop :=
  match d with
  | .v x => match s with
    | .b t => matchV (.bool t) x
    | .c y => cond y.oneCell' (matchV y x) False
    | .nil => matchV (.slice none 0 0) x
    | _ => False
  | d => match s with
    | .a m => match hfind h m with
      | some (.own _ d') => cond (isO o m) False (d'.eqv d)
      | some (.ro d') => d'.eqv d
      | _ => False
    | .nil => d.nilP
    | _ => False

def matchDs (o : Option Nat) (h : List (Nat × R)) : List SV → List D → Prop
  | [], [] => True
  | s :: ss, d :: ds => matchD o h s d ∧ matchDs o h ss ds
  | _, _ => False

/-- The name of the array that the caller is to own. -/
def ownName : List SV → List RD → Option Nat
  | .a n :: _, .own _ _ :: _ => some n
  | _ :: ss, _ :: rs => ownName ss rs
  | _, _ => none

def matchR (o : Option Nat) (h : List (Nat × R)) (s : SV) (r : RD) : Prop :=
  match r with
  | .v x => match s with
    | .b t => matchV (.bool t) x
    | .c y => matchV y x
    | .nil => matchV (.slice none 0 0) x
    | _ => False
  | .d d => matchD o h s d
  | .agg l => match s with
    | .agg ss => matchDs o h ss l
    | _ => False
  | .own T d => match s with
    | .a m => match hfind h m with
      | some (.own T' d') => cond (Nat.beq T T') (d'.eqv d) False
      | _ => False
    | .nil => d.nilP
    | _ => False

def matchRs (o : Option Nat) (h : List (Nat × R)) : List SV → List RD → Prop
  | [], [] => True
  | s :: ss, r :: rs => matchR o h s r ∧ matchRs o h ss rs
  | _, _ => False

def matchU (o : Option Nat) (h : List (Nat × R)) : List Lent → List (List D) → Prop
  | [], [] => True
  | (n, T, _) :: ls, d :: ds => (match hfind h n with
    | some (.blk T' ss) => cond (Nat.beq T T') (matchDs o h ss d) False
    | _ => False) ∧ matchU o h ls ds
  | _, _ => False

def resultS (P : Program) (env : List (Nat × SV)) (h : List (Nat × R)) : List ResultVar → Option (List SV)
  | [] => some []
  | .tmp t :: l => match efind env t, resultS P env h l with
    | some s, some ss => some (s :: ss)
    | _, _ => none
  | .cell t T :: l => match efind env t with
    | some (.p n o) => match hfind h n with
      | some (.blk _ cs) => match ldBlk P T cs o, resultS P env h l with
        | some s, some ss => some (s :: ss)
        | _, _ => none
      | _ => none
    | _ => none

/-- The results and the lent variables are as the contract says. -/
def retOk (P : Program) (rv : List ResultVar) (env : List (Nat × SV)) (h : List (Nat × R)) (ls : List Lent) (res : List RD) (upd : List (List D)) : Prop :=
  match resultS P env h rv with
  | some ss => cond (Nat.ble (ownCount res) 1) (matchRs (ownName ss res) h ss res ∧ matchU (ownName ss res) h ls upd) False
  | none => False

def execF (P : Program) (C : Nat → Option Ctr) (N : Nat) (ann : Nat → Option LoopAnn) (rv : List ResultVar) (code : Code) (c : Ctr) (as : List AD) : Prop :=
  ptrsBack (lentsA as 0) (ptrDs as) (lentH (lentsA as 0)) (lentsA as 0).length fun h nx =>
    entryA as 0 h nx fun ss h' nx' => cond (Nat.ble ss.length N)
      (exec P C N ann code (slotsOf ss 0) h' nx' fun e env h'' _ => match e with
        | .exit _ => False
        | _ => retOk P rv env h'' (lentsA as 0) (c.res as) (c.upd as)) False

section
variable {P : Program} {K : Ctx} {θ : Th} {h : List (Nat × R)} {nx : Nat} {w : World}

theorem efind_slots {v : SV} : ∀ {ss : List SV} {t u : Nat}, efind (slotsOf ss t) u = some v → ∃ i, u = t + i ∧ ss[i]? = some v
  | [], _, _, h => by simp [slotsOf, efind] at h
  | s :: ss, t, u, h => by
    unfold slotsOf at h
    rw [efind_cons] at h
    split at h
    · rename_i e; subst e; cases h; exact ⟨0, rfl, rfl⟩
    · obtain ⟨i, e, hi⟩ := efind_slots h
      exact ⟨i + 1, by omega, by simpa using hi⟩

theorem matchD_sound (hs : SatH K θ h nx w) {o : Option Nat} {X : Nat → Prop} (hf : ∀ b, Free K θ h b → X b)
    (hX : ∀ m b T d', hfind h m = some (.own T d') → OwnsAt θ h m b → o ≠ some m → X b) {s : SV} {v : Value} {d : D} (hv : V θ s v) (hm : matchD o h s d) : d.holds X w v := by
  have hk : Keeps (Free K θ h) X w w := fun b _ hb => ⟨hf b hb, rfl⟩
  have arr : ∀ {d : D} {m : Nat}, (match hfind h m with
      | some (.own _ d') => cond (isO o m) False (d'.eqv d)
      | some (.ro d') => d'.eqv d
      | _ => False) → V θ (.a m) v → d.holds X w v := by
    intro d m hm hv
    simp only [V] at hv
    obtain ⟨L, e1, rfl⟩ := hv
    split at hm <;> try exact hm.elim
    · rename_i T d' hf'
      obtain ⟨L', l1, l2, l3, l4⟩ := hs.res _ _ hf'
      obtain rfl := Option.some.inj (e1.symm.trans l1)
      rcases cond_cases hm with ⟨_, hm⟩ | ⟨ho, hm⟩
      · exact hm.elim
      have hne : o ≠ some m := by
        rintro rfl
        simp [isO] at ho
      obtain ⟨d1, _⟩ := D.at_eqv hm l2
      refine holds_of_at (D.at_mono hk (fun _ => rfl) d1) l3 fun hlen => ?_
      have hcap : L.cap ≠ 0 := by have := D.at_len l2; omega
      have ow : OwnsAt θ h m L.b := ⟨_, L, hf', e1, hcap, rfl⟩
      exact ⟨hX _ _ _ _ hf' ow hne, OwnsAt.lt hs ow⟩
    · rename_i d' hf'
      obtain ⟨L', l1, l2, l3, l4⟩ := hs.res _ _ hf'
      obtain rfl := Option.some.inj (e1.symm.trans l1)
      obtain ⟨d1, _⟩ := D.at_eqv hm l2
      exact holds_of_at (D.at_mono hk (fun _ => rfl) d1) l3 (Loc.inn_mono hk l4)
  have nil : ∀ {d : D}, d.nilP → V θ .nil v → d.holds X w v := by
    intro d hd hv
    simp only [V] at hv
    subst hv
    exact holds_of_at (L := nilLoc) (D.at_nil hd) (.inl rfl) (fun hne => absurd rfl hne)
  cases d with
  | v x =>
    unfold matchD at hm
    simp only at hm
    split at hm <;> try exact hm.elim
    · simp only [V] at hv; subst hv; exact ⟨matchV_eq hm, by rw [← matchV_eq hm]; rfl⟩
    · simp only [V] at hv; subst hv
      obtain ⟨h1, h2⟩ := cond_false hm
      exact ⟨matchV_eq h2, by rw [← matchV_eq h2]; exact h1⟩
    · simp only [V] at hv; subst hv; exact ⟨matchV_eq hm, by rw [← matchV_eq hm]; rfl⟩
  | ints k xs =>
    unfold matchD at hm
    simp only at hm
    split at hm <;> try exact hm.elim
    · exact arr hm hv
    · exact nil hm hv
  | recs es n f =>
    unfold matchD at hm
    simp only at hm
    split at hm <;> try exact hm.elim
    · exact arr hm hv
    · exact nil hm hv

theorem matchDs_sound (hs : SatH K θ h nx w) {o : Option Nat} {X : Nat → Prop} (hf : ∀ b, Free K θ h b → X b)
    (hX : ∀ m b T d', hfind h m = some (.own T d') → OwnsAt θ h m b → o ≠ some m → X b) : ∀ {ss : List SV} {vs : List Value} {ds : List D}, VL θ ss vs → matchDs o h ss ds → DL.holds X w ds vs
  | [], [], [], _, _ => trivial
  | [], _ :: _, _, hv, _ => by simp [VL] at hv
  | _ :: _, [], _, hv, _ => by simp [VL] at hv
  | [], _, _ :: _, _, hm => hm.elim
  | _ :: _, _, [], _, hm => hm.elim
  | s :: ss, v :: vs, d :: ds, hv, hm => by
    simp only [VL] at hv
    exact ⟨matchD_sound hs hf hX hv.1 hm.1, matchDs_sound hs hf hX hv.2 hm.2⟩

theorem ownName_none : ∀ {rs : List RD} {ss : List SV}, ownCount rs = 0 → ownName ss rs = none
  | [], [], _ => rfl
  | [], _ :: _, _ => by simp [ownName]
  | _ :: _, [], _ => by simp [ownName]
  | r :: rs, s :: ss, h => by
    cases r with
    | own T d => simp [ownCount] at h
    | v x => cases s <;> simpa [ownName] using ownName_none (rs := rs) (ss := ss) (by simpa [ownCount] using h)
    | d x => cases s <;> simpa [ownName] using ownName_none (rs := rs) (ss := ss) (by simpa [ownCount] using h)
    | agg x => cases s <;> simpa [ownName] using ownName_none (rs := rs) (ss := ss) (by simpa [ownCount] using h)

theorem ownName_skip {s : SV} {r : RD} {ss : List SV} {rs : List RD} (h : ∀ T d, r ≠ .own T d) : ownName (s :: ss) (r :: rs) = ownName ss rs := by
  cases r with
  | own T d => exact absurd rfl (h T d)
  | _ => cases s <;> rfl

theorem matchRs_sound (hs : SatH K θ h nx w) {o : Option Nat} {X : Nat → Prop} {Lo : Loc} (hf : ∀ b, Free K θ h b → X b)
    (hX : ∀ m b T d', hfind h m = some (.own T d') → OwnsAt θ h m b → o ≠ some m → X b) (hM : ∀ m b T d', hfind h m = some (.own T d') → OwnsAt θ h m b → ¬ K.M b) :
    ∀ {ss : List SV} {vs : List Value} {rs : List RD}, VL θ ss vs → ownCount rs ≤ 1 → (∀ n, ownName ss rs = some n → θ n = some Lo) → (ownCount rs ≠ 0 → ownName ss rs = none → Lo = nilLoc) →
      matchRs o h ss rs → RDL.holds X w K.w0.heap.size Lo rs vs
  | [], [], [], _, _, _, _, _ => trivial
  | [], _ :: _, _, hv, _, _, _, _ => by simp [VL] at hv
  | _ :: _, [], _, hv, _, _, _, _ => by simp [VL] at hv
  | [], _, _ :: _, _, _, _, _, hm => hm.elim
  | _ :: _, _, [], _, _, _, _, hm => hm.elim
  | s :: ss, v :: vs, r :: rs, hv, hc, h1, h2, hm => by
    simp only [VL] at hv
    obtain ⟨hm1, hm2⟩ := hm
    have plain : (∀ T d, r ≠ .own T d) → r.holds X w K.w0.heap.size Lo v → RDL.holds X w K.w0.heap.size Lo (r :: rs) (v :: vs) := by
      intro hr hh
      have ec : ownCount (r :: rs) = ownCount rs := by
        cases r with
        | own T d => exact absurd rfl (hr T d)
        | _ => rfl
      rw [ec] at hc h2
      rw [ownName_skip hr] at h1 h2
      exact ⟨hh, matchRs_sound hs hf hX hM hv.2 hc h1 h2 hm2⟩
    cases r with
    | v x =>
      refine plain (fun _ _ h => by cases h) ?_
      unfold matchR at hm1
      simp only at hm1
      split at hm1 <;> (try exact hm1.elim) <;> have hv1 := hv.1 <;> simp only [V] at hv1 <;> subst hv1 <;> exact matchV_eq hm1
    | d x => exact plain (fun _ _ h => by cases h) (matchD_sound hs hf hX hv.1 hm1)
    | agg l =>
      refine plain (fun _ _ h => by cases h) ?_
      unfold matchR at hm1
      simp only at hm1
      split at hm1 <;> try exact hm1.elim
      have hv1 := hv.1
      simp only [V] at hv1
      obtain ⟨cs, e, hcs⟩ := hv1
      exact ⟨cs, e, matchDs_sound hs hf hX hcs hm1⟩
    | own T d =>
      have hc0 : ownCount rs = 0 := by simp only [ownCount] at hc; omega
      have hn0 := ownName_none (ss := ss) hc0
      refine ⟨?_, matchRs_sound hs hf hX hM hv.2 (by omega) (fun n hn => by rw [hn0] at hn; cases hn) (fun h => absurd hc0 h) hm2⟩
      unfold matchR at hm1
      simp only at hm1
      split at hm1 <;> try exact hm1.elim
      · rename_i m
        split at hm1 <;> try exact hm1.elim
        rename_i T' d' hf'
        obtain ⟨t1, t2⟩ := cond_false hm1
        have := Nat.eq_of_beq_eq_true t1
        subst this
        have hLo := h1 m rfl
        obtain ⟨L, l1, l2, l3, l4⟩ := hs.res _ _ hf'
        obtain rfl := Option.some.inj (hLo.symm.trans l1)
        obtain ⟨d1, d2⟩ := D.at_eqv t2 l2
        have hv1 := hv.1
        simp only [V] at hv1
        obtain ⟨L', e1, rfl⟩ := hv1
        obtain rfl := Option.some.inj (hLo.symm.trans e1)
        refine ⟨rfl, l3, D.at_mono (fun b _ hb => ⟨hf b hb, rfl⟩) (fun _ => rfl) d1, fun hcap => ?_⟩
        have ow : OwnsAt θ h m Lo.b := ⟨_, Lo, hf', hLo, hcap, rfl⟩
        obtain ⟨cs, c1, c2⟩ := l4 hcap
        exact ⟨(hs.new _ _ ow).resolve_right (hM _ _ _ _ hf' ow), cs, c1, by rw [← d2]; exact c2⟩
      · have e : Lo = nilLoc := h2 (by simp [ownCount]) hn0
        subst e
        have hv1 := hv.1
        simp only [V] at hv1
        exact ⟨hv1, .inl rfl, D.at_nil hm1, fun hcap => absurd rfl hcap⟩

def LentNames (θ : Th) : List Lent → List Nat → Prop
  | [], [] => True
  | (n, _, _) :: ls, b :: bs => (∃ L, θ n = some L ∧ L.b = b) ∧ LentNames θ ls bs
  | _, _ => False
theorem LentNames.mono {θ θ' : Th} (hx : θ.ext θ') : ∀ {ls : List Lent} {bs : List Nat}, LentNames θ ls bs → LentNames θ' ls bs
  | [], [], _ => trivial
  | [], _ :: _, h => h.elim
  | _ :: _, [], h => h.elim
  | (_, _, _) :: _, _ :: _, ⟨⟨L, h1, h2⟩, h⟩ => ⟨⟨L, hx _ _ h1, h2⟩, h.mono hx⟩

theorem matchU_own {o : Option Nat} : ∀ {ls : List Lent} {bs : List Nat} {ds : List (List D)}, LentNames θ ls bs → matchU o h ls ds → ∀ b, b ∈ bs → ∃ n T ss, hfind h n = some (.blk T ss) ∧ OwnsAt θ h n b
  | [], [], _, _, _, b, hb => by cases hb
  | [], _ :: _, _, hn, _, _, _ => hn.elim
  | _ :: _, [], _, hn, _, _, _ => hn.elim
  | (_, _, _) :: _, _ :: _, [], _, hm, _, _ => hm.elim
  | (n, T, len) :: ls, b' :: bs, d :: ds, ⟨⟨L, h1, h2⟩, hn⟩, ⟨hm1, hm⟩, b, hb => by
    rcases List.mem_cons.1 hb with rfl | hb
    · split at hm1 <;> try exact hm1.elim
      rename_i hf
      exact ⟨n, _, _, hf, _, L, hf, h1, trivial, h2⟩
    · exact matchU_own hn hm b hb

theorem matchU_sound (hs : SatH K θ h nx w) {o : Option Nat} {X : Nat → Prop} (hf : ∀ b, Free K θ h b → X b)
    (hX : ∀ m b T d', hfind h m = some (.own T d') → OwnsAt θ h m b → o ≠ some m → X b) : ∀ {ls : List Lent} {bs : List Nat} {ds : List (List D)}, LentNames θ ls bs → matchU o h ls ds →
    PTL X w (ls.map (·.2.1)) bs ds
  | [], [], [], _, _ => trivial
  | [], [], _ :: _, _, hm => hm.elim
  | [], _ :: _, _, hn, _ => hn.elim
  | _ :: _, [], _, hn, _ => hn.elim
  | (_, _, _) :: _, _ :: _, [], _, hm => hm.elim
  | (n, T, len) :: ls, b' :: bs, d :: ds, ⟨⟨L, h1, h2⟩, hn⟩, ⟨hm1, hm⟩ => by
    refine ⟨?_, matchU_sound hs hf hX hn hm⟩
    split at hm1 <;> try exact hm1.elim
    rename_i hf'
    obtain ⟨t1, t2⟩ := cond_false hm1
    have := Nat.eq_of_beq_eq_true t1
    subst this
    obtain ⟨L', l1, cs, l2, l3, l4⟩ := hs.res _ _ hf'
    obtain rfl := Option.some.inj (h1.symm.trans l1)
    exact ⟨cs, by rw [← h2]; exact l3, matchDs_sound hs hf hX l4 t2⟩
end
end Go.X
