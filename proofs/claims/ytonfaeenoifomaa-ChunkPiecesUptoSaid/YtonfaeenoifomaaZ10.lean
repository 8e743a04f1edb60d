/- Trees read off the state: data that is only read; what is owned. -/
import Derived.Test.YtonfaeenoifomaaZ9
namespace Go.Z
open Go.RowKit

/-- The type of cell number i of a type. -/
def cellT (P : Program) : Nat → Nat → Nat → Option Nat
  | 0, _, _ => none
  | f + 1, T, i => match P.underlying T with
    | some (.struct fs) => match pickF fs.toList i none with
      | some (U, o) => cellT P f U (i - o)
      | none => none
    | some (.array _ e) => match P.info? e with
      | some inf => cellT P f e (i % inf.size)
      | none => none
    | some _ => some T
    | none => none
where
  pickF : List Field → Nat → Option (Nat × Nat) → Option (Nat × Nat)
    | [], _, r => r
    | fl :: l, i, r => cond (Nat.ble fl.offset i) (pickF l i (some (fl.type, fl.offset))) r

/-- A nil slice, as data of its type. -/
def nilD (P : Program) (T : Option (Nat × Nat)) : D :=
  match T with
  | some (t, i) => match cellT P 8 t i with
    | some u => match P.underlying u with
      | some (.slice e) => match P.underlying e, P.info? e with
        | some (.int kk), _ => .ints kk []
        | _, some inf => .recs inf.size 0 (fun _ _ => .v undef)
        | _, _ => .v (.slice none 0 0)
      | _ => .v (.slice none 0 0)
    | none => .v (.slice none 0 0)
  | none => .v (.slice none 0 0)

def arrR (ro : Bool) (h : List (Nat × R)) (n : Nat) : Option (D × List Nat) :=
  match hfind h n with
  | some (.ro d) => some (d, [])
  | some (.own _ d) => cond ro none (some (d, [n]))
  | _ => none

def ptrD (T : Nat) (ds : List D) : D := .ptr T ds.length (fun i => ds.getD i (.v undef))
def fnD (g m : Nat) (ds : List D) : D := .fn g m ds.length (fun i => ds.getD i (.v undef))

def dsF (f : Option (Nat × Nat) → SV → Option (D × List Nat)) (T : Option Nat) : Nat → List SV → Option (List D × List Nat)
  | _, [] => some ([], [])
  | i, s :: l => match f (match T with | some t => some (t, i) | none => none) s, dsF f T (i + 1) l with
    | some (d, ns), some (ds, ms) => some (d :: ds, ns ++ ms)
    | _, _ => none

/-- Data that is only read; which owned names it leads to. -/
def dOf (P : Program) (ro : Bool) (h : List (Nat × R)) : Nat → Option (Nat × Nat) → SV → Option (D × List Nat)
  | 0, _, _ => none
  | f + 1, T, s => match s with
    | .b t => some (.v (.bool t), [])
    | .c x => cond x.oneCell' (some (.v x, [])) none
    | .nil => some (nilD P T, [])
    | .a n => arrR ro h n
    | .p n 0 => match hfind h n with
      | some (.rblk U l) => match dsF (dOf P ro h f) (some U) 0 l with
        | some (ds, ns) => some (ptrD U ds, ns)
        | none => none
      | some (.blk U l) => cond ro none (match dsF (dOf P ro h f) (some U) 0 l with
        | some (ds, ns) => some (ptrD U ds, n :: ns)
        | none => none)
      | _ => none
    | .f g m l => match dsF (dOf P ro h f) none 0 l with
      | some (ds, ns) => some (fnD g m ds, ns)
      | none => none
    | .m n => match hfind h n with
      | some (.rmap ks vs) => some (.map ks vs, [])
      | some (.map ks vs) => cond ro none (some (.map ks vs, [n]))
      | _ => none
    | _ => none

def dsOf (P : Program) (T : Nat) (h : List (Nat × R)) (l : List SV) : Option (List D) :=
  match dsF (dOf P true h 8) (some T) 0 l with
  | some (ds, _) => some ds
  | none => none

/-- What is owned; its names. -/
def treesF (f : Option (Nat × Nat) → SV → Option (O × List Nat)) (T : Option Nat) : Nat → List SV → Option (List O × List Nat)
  | _, [] => some ([], [])
  | i, s :: l => match f (match T with | some t => some (t, i) | none => none) s, treesF f T (i + 1) l with
    | some (d, ns), some (ds, ms) => some (d :: ds, ns ++ ms)
    | _, _ => none

def toD (r : Option (D × List Nat)) : Option (O × List Nat) :=
  match r with
  | some (d, _) => some (.d d, [])
  | none => none

def treeOf (P : Program) (h : List (Nat × R)) : Nat → Option (Nat × Nat) → SV → Option (O × List Nat)
  | 0, _, _ => none
  | f + 1, T, s => match s with
    | .a n => match hfind h n with
      | some (.own U d) => some (.own U d, [n])
      | some (.ro d) => some (.d d, [])
      | _ => none
    | .p n 0 => match hfind h n with
      | some (.blk U l) => match treesF (treeOf P h f) (some U) 0 l with
        | some (os, ns) => some (.ptr U os, n :: ns)
        | none => none
      | some (.rblk _ _) => toD (dOf P true h f T s)
      | _ => none
    | .q n => match hfind h n with
      | some (.own U (.ints kk xs)) => some (.arr U kk xs, [n])
      | _ => none
    | .m n => match hfind h n with
      | some (.map ks vs) => some (.map ks vs, [n])
      | some (.rmap ks vs) => some (.d (.map ks vs), [])
      | _ => none
    | .agg l => match treesF (treeOf P h f) (match T with | some (t, _) => some t | none => none) 0 l with
      | some (os, ns) => some (.agg os, ns)
      | none => none
    | .arr kk xs => some (.va kk xs, [])
    | .unk => some (.any, [])
    | s => toD (dOf P true h f T s)

/-- An argument that is only read. -/
def readOf (P : Program) (ro : Bool) (h : List (Nat × R)) (T : Option (Nat × Nat)) (s : SV) : Option (O × List Nat) :=
  match s with
  | .agg l => match dsF (dOf P ro h 8) (match T with | some (t, _) => some t | none => none) 0 l with
    | some (ds, ns) => some (.agg (ds.map .d), ns)
    | none => none
  | .arr kk xs => some (.va kk xs, [])
  | s => match dOf P ro h 8 T s with
    | some (d, ns) => some (.d d, ns)
    | none => none

section
variable {P : Program} {K : Ctx} {θ : Th} {h : List (Nat × R)} {nx : Nat} {w : World}

def nilLoc : Loc := ⟨none, 0, 0⟩
theorem nilD_holds {X : Nat → Prop} (T : Option (Nat × Nat)) : (nilD P T).holds X w (.slice none 0 0) := by
  have hv : (D.v (.slice none 0 0)).holds X w (.slice none 0 0) := ⟨rfl, rfl⟩
  unfold nilD
  split
  · split
    · split
      · split
        · exact ⟨nilLoc, rfl, .inl rfl, fun hne => absurd rfl hne, rfl, Nat.le_refl _, fun i z hz => by simp at hz⟩
        · exact ⟨nilLoc, rfl, .inl rfl, fun hne => absurd rfl hne, rfl, Nat.le_refl _, fun i hi => absurd hi (by omega)⟩
        · exact hv
      · exact hv
    · exact hv
  · exact hv

theorem holds_of_at {X : Nat → Prop} {L : Loc} {d : D} (hd : d.at X w L) (hw : L.wf) (hi : L.inn X w) : d.holds X w L.val := by
  cases d with
  | v _ => exact hd.elim
  | ptr _ _ _ => exact hd.elim
  | fn _ _ _ _ => exact hd.elim
  | map _ _ => exact hd.elim
  | ints k xs => exact D.holds_ints.2 ⟨L, rfl, hw, hi, hd⟩
  | recs es n f => exact D.holds_recs.2 ⟨L, rfl, hw, hi, hd⟩

/-- X takes in what is free, and what these names own. -/
def Takes (K : Ctx) (θ : Th) (h : List (Nat × R)) (ns : List Nat) (X : Nat → Prop) : Prop := (∀ b, Free K θ h b → X b) ∧ ∀ n ∈ ns, ∀ b, OwnsAt θ h n b → X b

theorem Takes.keeps {ns : List Nat} {X : Nat → Prop} (t : Takes K θ h ns X) : Keeps (Free K θ h) X w w := fun b _ hf => ⟨t.1 b hf, rfl⟩
theorem Takes.left {ns ms : List Nat} {X : Nat → Prop} (t : Takes K θ h (ns ++ ms) X) : Takes K θ h ns X := ⟨t.1, fun n hn => t.2 n (by simp [hn])⟩
theorem Takes.right {ns ms : List Nat} {X : Nat → Prop} (t : Takes K θ h (ns ++ ms) X) : Takes K θ h ms X := ⟨t.1, fun n hn => t.2 n (by simp [hn])⟩

theorem arrR_sound (hs : SatH K θ h nx w) {ro : Bool} {n : Nat} {d : D} {ns : List Nat} (ha : arrR ro h n = some (d, ns)) :
    ∃ L, θ n = some L ∧ L.wf ∧ (ro = true → ns = []) ∧ ∀ X, Takes K θ h ns X → d.at X w L ∧ L.inn X w := by
  unfold arrR at ha
  split at ha
  · rename_i hf
    cases ha
    obtain ⟨L, h1, h2, h3, h4⟩ := hs.res n _ hf
    exact ⟨L, h1, h3, fun _ => rfl, fun X t => ⟨D.at_mono t.keeps (fun _ => rfl) h2, Loc.inn_mono t.keeps h4⟩⟩
  · rename_i T d' hf
    cases ro with
    | true => cases ha
    | false =>
      cases ha
      obtain ⟨L, h1, h2, h3, h4⟩ := hs.res n _ hf
      have hcap : L.len ≠ 0 → L.cap ≠ 0 := by have := D.at_len h2; omega
      refine ⟨L, h1, h3, fun h => (by cases h), fun X t => ⟨D.at_mono t.keeps (fun _ => rfl) h2, fun hne => ?_⟩⟩
      have ho : OwnsAt θ h n L.b := ⟨_, L, hf, h1, hcap hne, rfl⟩
      exact ⟨t.2 n (by simp) _ ho, OwnsAt.lt hs ho⟩
  · cases ha

def DSound (K : Ctx) (θ : Th) (h : List (Nat × R)) (w : World) (ro : Bool) (f : Option (Nat × Nat) → SV → Option (D × List Nat)) : Prop :=
  ∀ (T : Option (Nat × Nat)) (s : SV) (u : Value) (d : D) (ns : List Nat), V θ s u → f T s = some (d, ns) → (ro = true → ns = []) ∧ ∀ X, Takes K θ h ns X → d.holds X w u

theorem dsF_sound {ro : Bool} {f : Option (Nat × Nat) → SV → Option (D × List Nat)} (hf : DSound K θ h w ro f) {T : Option Nat} : ∀ {l : List SV} {i : Nat} {us : List Value} {ds : List D} {ns : List Nat}, VL θ l us → dsF f T i l = some (ds, ns) →
    (ro = true → ns = []) ∧ ∀ X, Takes K θ h ns X → DL.holds X w ds us
  | [], i, [], ds, ns, _, ha => by simp [dsF] at ha; obtain ⟨rfl, rfl⟩ := ha; exact ⟨fun _ => rfl, fun _ _ => trivial⟩
  | [], _, _ :: _, _, _, hv, _ => by simp [VL] at hv
  | _ :: _, _, [], _, _, hv, _ => by simp [VL] at hv
  | s :: l, i, u :: us, ds, ns, hv, ha => by
    simp only [VL] at hv
    unfold dsF at ha
    split at ha <;> cases ha
    rename_i d ns' ds' ms' h1 h2
    obtain ⟨a1, a2⟩ := hf _ _ _ _ _ hv.1 h1
    obtain ⟨b1, b2⟩ := dsF_sound hf hv.2 h2
    exact ⟨fun hr => by rw [a1 hr, b1 hr]; rfl, fun X t => ⟨a2 X t.left, b2 X t.right⟩⟩

theorem DL.length {X : Nat → Prop} : ∀ {l : List D} {us : List Value}, DL.holds X w l us → l.length = us.length
  | [], [], _ => rfl
  | [], _ :: _, h => h.elim
  | _ :: _, [], h => h.elim
  | _ :: _, _ :: _, h => by simp [DL.length h.2]
theorem DL.getD {X : Nat → Prop} : ∀ {l : List D} {us : List Value}, DL.holds X w l us → ∀ i, i < l.length → ∃ c, us[i]? = some c ∧ (l.getD i (.v undef)).holds X w c
  | [], _, _, i, hi => by simp at hi
  | _ :: _, [], h, _, _ => h.elim
  | d :: l, u :: us, h, 0, _ => ⟨u, rfl, by simpa using h.1⟩
  | d :: l, u :: us, h, i + 1, hi => by
    obtain ⟨c, h1, h2⟩ := DL.getD h.2 i (by simpa using hi)
    exact ⟨c, by simpa using h1, by simpa using h2⟩

theorem ptr_zero {n : Nat} {u : Value} {L : Loc} (hv : V θ (.p n 0) u) (hL : θ n = some L) (ha : L.a = some ⟨L.b, 0, none⟩) : u = .pointer (some ⟨L.b, 0, none⟩) := by
  simp only [V] at hv
  obtain ⟨L', hL', rfl⟩ := hv
  obtain rfl := Option.some.inj (hL.symm.trans hL')
  have : L.o = 0 := by unfold Loc.o; rw [ha]
  rw [this]

theorem dOf_sound (hs : SatH K θ h nx w) {ro : Bool} : ∀ (f : Nat), DSound K θ h w ro (dOf P ro h f)
  | 0 => fun _ _ _ _ _ _ ha => by simp [dOf] at ha
  | f + 1 => fun T s u d ns hv ha => by
    have ih : DSound K θ h w ro (dOf P ro h f) := dOf_sound hs f
    unfold dOf at ha
    split at ha
    · cases ha
      simp only [V] at hv; subst hv
      exact ⟨fun _ => rfl, fun _ _ => ⟨rfl, rfl⟩⟩
    · rename_i x
      cases hx : x.oneCell' with
      | false => rw [hx] at ha; cases ha
      | true => rw [hx] at ha; cases ha; simp only [V] at hv; subst hv; exact ⟨fun _ => rfl, fun _ _ => ⟨rfl, hx⟩⟩
    · cases ha
      simp only [V] at hv; subst hv
      exact ⟨fun _ => rfl, fun _ _ => nilD_holds T⟩
    · simp only [V] at hv
      obtain ⟨L, hL, rfl⟩ := hv
      obtain ⟨L', hL', h1, h2, h3⟩ := arrR_sound hs ha
      obtain rfl := Option.some.inj (hL.symm.trans hL')
      exact ⟨h2, fun X t => holds_of_at (h3 X t).1 h1 (h3 X t).2⟩
    · rename_i n
      split at ha
      · rename_i U l hf
        split at ha <;> cases ha
        rename_i ds ns' hd
        obtain ⟨L, hL, us, e1, e2, e3, e4⟩ := hs.res n _ hf
        obtain ⟨a1, a2⟩ := dsF_sound ih e4 hd
        refine ⟨a1, fun X t => ⟨L.b, us, ptr_zero hv hL e1, t.1 _ e2, e3, (DL.length (a2 X t)).symm, fun i hi => DL.getD (a2 X t) i hi⟩⟩
      · rename_i U l hf
        cases ro with
        | true => cases ha
        | false =>
          simp only [cond] at ha
          split at ha <;> cases ha
          rename_i ds ns' hd
          obtain ⟨L, hL, us, e1, e3, e4⟩ := hs.res n _ hf
          obtain ⟨a1, a2⟩ := dsF_sound ih e4 hd
          refine ⟨fun h => (by cases h), fun X t => ?_⟩
          have t' : Takes K θ h ns' X := ⟨t.1, fun m hm => t.2 m (by simp [hm])⟩
          exact ⟨L.b, us, ptr_zero hv hL e1, t.2 n (by simp) _ ⟨_, L, hf, hL, trivial, rfl⟩, e3, (DL.length (a2 X t')).symm, fun i hi => DL.getD (a2 X t') i hi⟩
      · cases ha
    · rename_i g m l
      split at ha <;> cases ha
      rename_i ds ns' hd
      simp only [V] at hv
      obtain ⟨us, rfl, e4⟩ := hv
      obtain ⟨a1, a2⟩ := dsF_sound ih e4 hd
      exact ⟨a1, fun X t => ⟨us, rfl, (DL.length (a2 X t)).symm, fun i hi => DL.getD (a2 X t) i hi⟩⟩
    · rename_i n
      simp only [V] at hv
      obtain ⟨L, hL, rfl⟩ := hv
      split at ha
      · cases ha
        rename_i ks vs hf
        obtain ⟨L', hL', e1, e2, es, clock, e3, e4⟩ := hs.res n _ hf
        obtain rfl := Option.some.inj (hL.symm.trans hL')
        exact ⟨fun _ => rfl, fun X t => ⟨L.b, es, clock, rfl, t.1 _ e2, e3, e4⟩⟩
      · rename_i ks vs hf
        cases ro with
        | true => cases ha
        | false =>
          cases ha
          obtain ⟨L', hL', e1, es, clock, e3, e4⟩ := hs.res n _ hf
          obtain rfl := Option.some.inj (hL.symm.trans hL')
          exact ⟨fun h => (by cases h), fun X t => ⟨L.b, es, clock, rfl, t.2 n (by simp) _ ⟨_, L, hf, hL, trivial, rfl⟩, e3, e4⟩⟩
      · cases ha
    · cases ha

theorem dsOf_sound (hs : SatH K θ h nx w) {T : Nat} {l : List SV} {us : List Value} {ds : List D} (hv : VL θ l us) (ha : dsOf P T h l = some ds) : DL.holds (Free K θ h) w ds us := by
  unfold dsOf at ha
  split at ha <;> cases ha
  rename_i ns hd
  obtain ⟨a1, a2⟩ := dsF_sound (dOf_sound (P := P) (ro := true) hs 8) hv hd
  rw [a1 rfl] at a2
  exact a2 _ ⟨fun b hb => hb, fun n hn => (by cases hn)⟩

/-! What is owned -/
/-- A tree's blocks are those of its names. -/
def NamesFp (θ : Th) (h : List (Nat × R)) (ns fp : List Nat) : Prop := (∀ b ∈ fp, ∃ n ∈ ns, OwnsAt θ h n b) ∧ (ns.Nodup → fp.Nodup) ∧ ∀ n ∈ ns, ∃ L, θ n = some L

theorem NamesFp.nil : NamesFp θ h [] [] := ⟨fun b hb => (by cases hb), fun _ => List.nodup_nil, fun b hb => (by cases hb)⟩
theorem NamesFp.append (hs : SatH K θ h nx w) {ns ms f g : List Nat} (a : NamesFp θ h ns f) (b : NamesFp θ h ms g) : NamesFp θ h (ns ++ ms) (f ++ g) := by
  refine ⟨fun c hc => ?_, fun hn => ?_, fun n hn => (List.mem_append.1 hn).elim (a.2.2 n) (b.2.2 n)⟩
  · rcases List.mem_append.1 hc with hc | hc
    · obtain ⟨n, h1, h2⟩ := a.1 c hc; exact ⟨n, by simp [h1], h2⟩
    · obtain ⟨n, h1, h2⟩ := b.1 c hc; exact ⟨n, by simp [h1], h2⟩
  · obtain ⟨n1, n2, n3⟩ := List.nodup_append.1 hn
    rw [List.nodup_append]
    refine ⟨a.2.1 n1, b.2.1 n2, fun x hx y hy e => ?_⟩
    subst e
    obtain ⟨n, h1, h2⟩ := a.1 x hx
    obtain ⟨m, h3, h4⟩ := b.1 x hy
    exact n3 n h1 m h3 (hs.dis n m x h2 h4)
theorem NamesFp.one {n b : Nat} (ho : OwnsAt θ h n b) : NamesFp θ h [n] [b] :=
  ⟨fun c hc => by simp at hc; subst hc; exact ⟨n, by simp, ho⟩, fun _ => by simp, fun m hm => by simp at hm; subst hm; obtain ⟨_, L, _, hL, _⟩ := ho; exact ⟨L, hL⟩⟩
theorem NamesFp.none {n : Nat} {L : Loc} (hL : θ n = some L) : NamesFp θ h [n] [] := ⟨fun b hb => (by cases hb), fun _ => List.nodup_nil, fun m hm => by simp at hm; subst hm; exact ⟨L, hL⟩⟩

def TSound (K : Ctx) (θ : Th) (h : List (Nat × R)) (w : World) (f : Option (Nat × Nat) → SV → Option (O × List Nat)) : Prop :=
  ∀ (T : Option (Nat × Nat)) (s : SV) (u : Value) (o : O) (ns : List Nat), V θ s u → f T s = some (o, ns) → ∃ fp, NamesFp θ h ns fp ∧ ∀ X, (∀ b, Free K θ h b → X b) → O.holds X w o u fp

theorem treesF_sound (hs : SatH K θ h nx w) {f : Option (Nat × Nat) → SV → Option (O × List Nat)} (hf : TSound K θ h w f) {T : Option Nat} : ∀ {l : List SV} {i : Nat} {us : List Value} {os : List O} {ns : List Nat}, VL θ l us → treesF f T i l = some (os, ns) →
    ∃ fp, NamesFp θ h ns fp ∧ ∀ X, (∀ b, Free K θ h b → X b) → OL.holds X w os us fp
  | [], i, [], os, ns, _, ha => by simp [treesF] at ha; obtain ⟨rfl, rfl⟩ := ha; exact ⟨[], .nil, fun _ _ => by simp [OL.holds]⟩
  | [], _, _ :: _, _, _, hv, _ => by simp [VL] at hv
  | _ :: _, _, [], _, _, hv, _ => by simp [VL] at hv
  | s :: l, i, u :: us, os, ns, hv, ha => by
    simp only [VL] at hv
    unfold treesF at ha
    split at ha <;> cases ha
    rename_i o ns' os' ms' h1 h2
    obtain ⟨f1, a1, a2⟩ := hf _ _ _ _ _ hv.1 h1
    obtain ⟨f2, b1, b2⟩ := treesF_sound hs hf hv.2 h2
    exact ⟨f1 ++ f2, a1.append hs b1, fun X hX => by simp only [OL.holds]; exact ⟨f1, f2, rfl, a2 X hX, b2 X hX⟩⟩

theorem own_holds (hs : SatH K θ h nx w) {n T : Nat} {d : D} (hf : hfind h n = some (.own T d)) {u : Value} (hv : V θ (.a n) u) :
    ∃ fp, NamesFp θ h [n] fp ∧ ∀ X, (∀ b, Free K θ h b → X b) → O.holds X w (.own T d) u fp := by
  simp only [V] at hv
  obtain ⟨L, hL, rfl⟩ := hv
  obtain ⟨L', hL', h2, h3, h4⟩ := hs.res n _ hf
  obtain rfl := Option.some.inj (hL.symm.trans hL')
  by_cases hc : L.cap = 0
  · refine ⟨[], .none hL, fun X hX => ?_⟩
    simp only [O.holds]
    exact ⟨L, rfl, h3, D.at_mono (fun b _ hb => ⟨hX b hb, rfl⟩) (fun _ => rfl) h2, .inl ⟨hc, trivial⟩⟩
  · refine ⟨[L.b], .one ⟨_, L, hf, hL, hc, rfl⟩, fun X hX => ?_⟩
    simp only [O.holds]
    exact ⟨L, rfl, h3, D.at_mono (fun b _ hb => ⟨hX b hb, rfl⟩) (fun _ => rfl) h2, .inr ⟨hc, rfl, h4 hc⟩⟩

theorem toD_sound (hs : SatH K θ h nx w) {f : Nat} {T : Option (Nat × Nat)} {s : SV} {u : Value} {o : O} {ns : List Nat} (hv : V θ s u) (ha : toD (dOf P true h f T s) = some (o, ns)) :
    ∃ fp, NamesFp θ h ns fp ∧ ∀ X, (∀ b, Free K θ h b → X b) → O.holds X w o u fp := by
  unfold toD at ha
  split at ha <;> cases ha
  rename_i d ns' hd
  obtain ⟨a1, a2⟩ := dOf_sound (P := P) (ro := true) hs f _ _ _ _ _ hv hd
  rw [a1 rfl] at a2
  exact ⟨[], .nil, fun X hX => by simp only [O.holds]; exact ⟨a2 X ⟨hX, fun n hn => (by cases hn)⟩, trivial⟩⟩

theorem arr_holds (hs : SatH K θ h nx w) {n T : Nat} {k : IntKind} {xs : List Int} (hf : hfind h n = some (.own T (.ints k xs))) {u : Value} (hv : V θ (.q n) u) :
    ∃ fp, NamesFp θ h [n] fp ∧ ∀ X, (∀ b, Free K θ h b → X b) → O.holds X w (.arr T k xs) u fp := by
  simp only [V] at hv
  obtain ⟨L, hL, hLL, rfl⟩ := hv
  obtain ⟨L', hL', h2, h3, h4⟩ := hs.res n _ hf
  obtain rfl := Option.some.inj (hL.symm.trans hL')
  have hl := h2.1
  have hLL' : L = ⟨some ⟨L.b, 0, none⟩, xs.length, xs.length⟩ := by rw [← hl]; exact hLL
  by_cases hc : L.cap = 0
  · refine ⟨[], .none hL, fun X hX => ?_⟩
    simp only [O.holds]
    exact ⟨L, rfl, hLL', D.at_mono (fun b _ hb => ⟨hX b hb, rfl⟩) (fun _ => rfl) h2, .inl ⟨hc, trivial⟩⟩
  · refine ⟨[L.b], .one ⟨_, L, hf, hL, hc, rfl⟩, fun X hX => ?_⟩
    simp only [O.holds]
    exact ⟨L, rfl, hLL', D.at_mono (fun b _ hb => ⟨hX b hb, rfl⟩) (fun _ => rfl) h2, .inr ⟨hc, rfl, h4 hc⟩⟩

theorem treeOf_sound (hs : SatH K θ h nx w) : ∀ (f : Nat), TSound K θ h w (treeOf P h f)
  | 0 => fun _ _ _ _ _ _ ha => by simp [treeOf] at ha
  | f + 1 => fun T s u o ns hv ha => by
    have ih : TSound K θ h w (treeOf P h f) := treeOf_sound hs f
    unfold treeOf at ha
    split at ha
    · rename_i n
      split at ha
      · cases ha
        rename_i hf
        exact own_holds hs hf hv
      · cases ha
        rename_i d hf
        simp only [V] at hv
        obtain ⟨L, hL, rfl⟩ := hv
        obtain ⟨L', hL', h2, h3, h4⟩ := hs.res n _ hf
        obtain rfl := Option.some.inj (hL.symm.trans hL')
        refine ⟨[], .nil, fun X hX => ?_⟩
        simp only [O.holds]
        have hk : Keeps (Free K θ h) X w w := fun b _ hb => ⟨hX b hb, rfl⟩
        exact ⟨holds_of_at (D.at_mono hk (fun _ => rfl) h2) h3 (Loc.inn_mono hk h4), trivial⟩
      · cases ha
    · rename_i n
      split at ha
      · rename_i U l hf
        split at ha <;> cases ha
        rename_i os ns' hd
        obtain ⟨L, hL, us, e1, e3, e4⟩ := hs.res n _ hf
        obtain ⟨fp, a1, a2⟩ := treesF_sound hs ih e4 hd
        have h1 := NamesFp.append hs (.one (⟨_, L, hf, hL, trivial, rfl⟩ : OwnsAt θ h n L.b)) a1
        refine ⟨L.b :: fp, by simpa using h1, fun X hX => ?_⟩
        simp only [O.holds]
        exact ⟨L.b, us, fp, ptr_zero hv hL e1, rfl, e3, a2 X hX⟩
      · exact toD_sound hs hv ha
      · cases ha
    · rename_i n
      split at ha <;> cases ha
      rename_i hf
      exact arr_holds hs hf hv
    · rename_i n
      split at ha
      · cases ha
        rename_i ks vs hf
        simp only [V] at hv
        obtain ⟨L, hL, rfl⟩ := hv
        obtain ⟨L', hL', e1, es, clock, e3, e4⟩ := hs.res n _ hf
        obtain rfl := Option.some.inj (hL.symm.trans hL')
        refine ⟨[L.b], .one ⟨_, L, hf, hL, trivial, rfl⟩, fun X hX => ?_⟩
        simp only [O.holds]
        exact ⟨L.b, es, clock, rfl, rfl, e3, e4⟩
      · cases ha
        rename_i ks vs hf
        simp only [V] at hv
        obtain ⟨L, hL, rfl⟩ := hv
        obtain ⟨L', hL', e1, e2, es, clock, e3, e4⟩ := hs.res n _ hf
        obtain rfl := Option.some.inj (hL.symm.trans hL')
        refine ⟨[], .nil, fun X hX => ?_⟩
        simp only [O.holds]
        exact ⟨⟨L.b, es, clock, rfl, hX _ e2, e3, e4⟩, trivial⟩
      · cases ha
    · rename_i l
      split at ha <;> cases ha
      rename_i os ns' hd
      simp only [V] at hv
      obtain ⟨us, rfl, e4⟩ := hv
      obtain ⟨fp, a1, a2⟩ := treesF_sound hs ih e4 hd
      exact ⟨fp, a1, fun X hX => by simp only [O.holds]; exact ⟨us, rfl, a2 X hX⟩⟩
    · cases ha
      simp only [V] at hv
      exact ⟨[], .nil, fun X hX => by simp only [O.holds]; exact ⟨hv, trivial⟩⟩
    · cases ha
      exact ⟨[], .nil, fun X hX => by simp only [O.holds]⟩
    · exact toD_sound hs hv ha

theorem readOf_sound (hs : SatH K θ h nx w) {ro : Bool} {T : Option (Nat × Nat)} {s : SV} {u : Value} {o : O} {ns : List Nat} (hv : V θ s u) (ha : readOf P ro h T s = some (o, ns)) :
    (ro = true → ns = []) ∧ ∀ X, Takes K θ h ns X → O.holds X w o u [] := by
  have dl : ∀ {X : Nat → Prop} {ds : List D} {us : List Value}, DL.holds X w ds us → OL.holds X w (ds.map .d) us [] := by
    intro X ds
    induction ds with
    | nil => intro us h; cases us with
      | nil => simp [OL.holds]
      | cons _ _ => exact h.elim
    | cons d ds ih => intro us h; cases us with
      | nil => exact h.elim
      | cons u us =>
        simp only [List.map_cons, OL.holds, O.holds]
        exact ⟨[], [], rfl, ⟨h.1, rfl⟩, ih h.2⟩
  unfold readOf at ha
  split at ha
  · rename_i l
    split at ha <;> cases ha
    rename_i ds ns' hd
    simp only [V] at hv
    obtain ⟨us, rfl, e4⟩ := hv
    obtain ⟨a1, a2⟩ := dsF_sound (dOf_sound (P := P) hs 8) e4 hd
    exact ⟨a1, fun X t => by simp only [O.holds]; exact ⟨us, rfl, dl (a2 X t)⟩⟩
  · cases ha
    simp only [V] at hv
    exact ⟨fun _ => rfl, fun X t => by simp only [O.holds]; exact ⟨hv, trivial⟩⟩
  · split at ha <;> cases ha
    rename_i d ns' hd
    obtain ⟨a1, a2⟩ := dOf_sound (P := P) hs 8 _ _ _ _ _ hv hd
    exact ⟨a1, fun X t => by simp only [O.holds]; exact ⟨a2 X t, trivial⟩⟩
end
end Go.Z
