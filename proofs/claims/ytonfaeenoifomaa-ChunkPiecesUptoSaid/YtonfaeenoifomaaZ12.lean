/- Calls: what a function takes and gives; what a call does to the caller's symbolic state. -/
import Derived.Test.YtonfaeenoifomaaZ11
namespace Go.Z
open Go.RowKit

def retVal : List Value → Value
  | [v] => v
  | vs => .tuple vs.toArray
def retS : List SV → SV
  | [s] => s
  | l => .tup l

/-- In which blocks what a call hands back for reading may lie. -/
def After (w : World) (A : Nat → Prop) (fp fo : List Nat) (b : Nat) : Prop := (w.heap.size ≤ b ∨ A b ∨ b ∈ fp) ∧ b ∉ fo

/-- own: of each argument, whether it is handed over (and given back as 'upd' says), or only read. ro: what is handed back may lead to what was read. -/
structure Ctr where
  own : List Bool
  pre : List O → Prop
  res : List O → List O
  upd : List O → List O
  ro : Bool
  quiet : Bool

/-- A FUNCTION KEEPS ITS CONTRACT. -/
def FnOk (P : Program) (f : Nat) (c : Ctr) : Prop :=
  ∀ (w : World) (A : Nat → Prop) (as : List O) (vs : List Value) (fp : List Nat), OL.holds (fun b => A b ∧ b ∉ fp) w as vs fp → fp.Nodup → (∀ b ∈ fp, b < w.heap.size) → c.pre as →
    Calls P f vs.toArray w fun e w' => ∃ (rs : List Value) (fu fr : List Nat), e = .returned (retVal rs) ∧ Fr (· ∈ fp) w w' ∧ (fu ++ fr).Nodup ∧ (∀ b ∈ fu ++ fr, b ∈ fp ∨ w.heap.size ≤ b) ∧
      OL.holds (After w A fp (fu ++ fr)) w' (c.upd as) vs fu ∧ OL.holds (After w A fp (fu ++ fr)) w' (c.res as) rs fr

def paramsOf (P : Program) (f : Nat) : List Nat :=
  match P.funcs[f]? with
  | some fn => fn.params.toList
  | none => []

def argsOf (P : Program) (ro : Bool) (h : List (Nat × R)) : List Bool → List Nat → List SV → Option (List O × List Nat × List Nat)
  | _, _, [] => some ([], [], [])
  | ms, ts, s :: l =>
    match argsOf P ro h ms.tail ts.tail l with
    | none => none
    | some (os, ns, rn) =>
      match ms.head? with
      | some true => match treeOf P h 8 (match ts.head? with | some t => some (t, 0) | none => none) s with
        | some (o, ns') => some (o :: os, ns' ++ ns, rn)
        | none => none
      | _ => match readOf P ro h (match ts.head? with | some t => some (t, 0) | none => none) s with
        | some (o, rn') => some (o :: os, ns, rn' ++ rn)
        | none => none

def D.plain : D → Bool
  | .v _ => true
  | _ => false
mutual
/-- Nothing in it leads to memory that is only read. -/
def O.plain : O → Bool
  | .d x => x.plain
  | .own _ (.ints _ _) => true
  | .own _ _ => false
  | .ptr _ l => OL.plain l
  | .agg l => OL.plain l
  | _ => true
def OL.plain : List O → Bool
  | [] => true
  | o :: l => o.plain && OL.plain l
end

def deads : List Nat → List (Nat × R) → List (Nat × R)
  | [], h => h
  | n :: l, h => (n, .dead) :: deads l h

def freezeL (h : List (Nat × R)) : List SV → List (Nat × R)
  | [] => h
  | .a n :: l => freezeL (freezeH h n) l
  | _ :: l => freezeL h l
/-- What is only read, and may be led to by what comes back, is frozen. -/
def freezeRd (h : List (Nat × R)) : List Bool → List SV → List (Nat × R)
  | _, [] => h
  | ms, s :: l =>
    match ms.head? with
    | some true => freezeRd h ms.tail l
    | _ => match s with
      | .a n => freezeRd (freezeH h n) ms.tail l
      | .agg cs => freezeRd (freezeL h cs) ms.tail l
      | _ => freezeRd h ms.tail l

mutual
/-- What was handed over is given back. -/
def backO (h0 : List (Nat × R)) : O → SV → List (Nat × R) → Nat → (List (Nat × R) → Nat → Prop) → Prop
  | .own T x, s, h, nx, k => match s with
    | .a n => k ((n, .own T x) :: h) nx
    | _ => False
  | .ptr T l, s, h, nx, k => match s with
    | .p n 0 => match hfind h0 n with
      | some (.blk _ _) => instOs l h nx fun ss h' nx' => k ((n, .blk T ss) :: h') nx'
      | _ => False
    | _ => False
  | .arr T kk xs, s, h, nx, k => match s with
    | .q n => match hfind h0 n with
      | some (.own _ (.ints _ xs0)) => xs.length = xs0.length ∧ k ((n, .own T (.ints kk xs)) :: h) nx
      | _ => False
    | _ => False
  | .map ks vs, s, h, nx, k => match s with
    | .m n => match hfind h0 n with
      | some (.map _ _) => k ((n, .map ks vs) :: h) nx
      | _ => False
    | _ => False
  | .agg l, s, h, nx, k => match s with
    | .agg ss => backOs h0 l ss h nx k
    | _ => False
  | _, _, h, nx, k => k h nx
def backOs (h0 : List (Nat × R)) : List O → List SV → List (Nat × R) → Nat → (List (Nat × R) → Nat → Prop) → Prop
  | [], [], h, nx, k => k h nx
  | o :: l, s :: ss, h, nx, k => backO h0 o s h nx fun h' nx' => backOs h0 l ss h' nx' k
  | _, _, _, _, _ => False
end

def callX (P : Program) (ts : List Nat) (c : Ctr) (args : List SV) (h : List (Nat × R)) (nx : Nat) (k : HK) : Prop :=
  match argsOf P c.ro (cond c.ro (freezeRd h c.own args) h) c.own ts args with
  | none => False
  | some (as, ns, rn) =>
    c.pre as ∧ cond (nodupB ns && disjB rn ns && (c.ro || (OL.plain (c.res as) && OL.plain (c.upd as))))
      (backOs (cond c.ro (freezeRd h c.own args) h) (c.upd as) args (deads ns (cond c.ro (freezeRd h c.own args) h)) nx fun h1 nx1 => instOs (c.res as) h1 nx1 fun ss h2 nx2 => k (retS ss) h2 nx2) False

/-- A call that only reads, and hands back scalars. -/
def scalarsOf : List O → Option (List Value)
  | [] => some []
  | .d (.v x) :: rs => match scalarsOf rs with
    | some xs => some (x :: xs)
    | none => none
  | _ => none

def callQ (P : Program) (ts : List Nat) (c : Ctr) (args : List SV) (h : List (Nat × R)) (k : SV → Prop) : Prop :=
  match argsOf P false h c.own ts args with
  | some (as, [], _) => match scalarsOf (c.res as) with
    | some xs => c.pre as ∧ k (retS (xs.map .c))
    | none => False
  | _ => False

section
variable {P : Program} {K : Ctx} {θ : Th} {h : List (Nat × R)} {nx : Nat} {w : World}

theorem arrFreeze (hs : SatH K θ h nx w) (n : Nat) : SatH K θ (freezeH h n) nx w := by
  unfold freezeH
  split
  · rename_i T d hf; exact hs.freeze hf
  · exact hs

theorem freezeL_sound : ∀ {l : List SV} {h : List (Nat × R)}, SatH K θ h nx w → SatH K θ (freezeL h l) nx w
  | [], _, hs => hs
  | s :: l, h, hs => by
    cases s <;> simp only [freezeL] <;> first | exact freezeL_sound hs | exact freezeL_sound (arrFreeze hs _)

theorem freezeRd_sound : ∀ {l : List SV} {ms : List Bool} {h : List (Nat × R)}, SatH K θ h nx w → SatH K θ (freezeRd h ms l) nx w
  | [], _, _, hs => hs
  | s :: l, ms, h, hs => by
    unfold freezeRd
    split
    · exact freezeRd_sound hs
    · split
      · exact freezeRd_sound (arrFreeze hs _)
      · exact freezeRd_sound (freezeL_sound hs)
      · exact freezeRd_sound hs

theorem argsOf_sound (hs : SatH K θ h nx w) {ro : Bool} : ∀ {l : List SV} {ms : List Bool} {ts : List Nat} {us : List Value} {os : List O} {ns rn : List Nat}, VL θ l us → argsOf P ro h ms ts l = some (os, ns, rn) →
    ∃ fp, NamesFp θ h ns fp ∧ (ro = true → rn = []) ∧ ∀ X, Takes K θ h rn X → OL.holds X w os us fp
  | [], ms, ts, [], os, ns, rn, _, ha => by
    simp [argsOf] at ha; obtain ⟨rfl, rfl, rfl⟩ := ha
    exact ⟨[], .nil, fun _ => rfl, fun _ _ => by simp [OL.holds]⟩
  | [], _, _, _ :: _, _, _, _, hv, _ => by simp [VL] at hv
  | _ :: _, _, _, [], _, _, _, hv, _ => by simp [VL] at hv
  | s :: l, ms, ts, u :: us, os, ns, rn, hv, ha => by
    simp only [VL] at hv
    unfold argsOf at ha
    split at ha
    · cases ha
    · rename_i os' ns' rn' h1
      obtain ⟨fp, a1, a2, a3⟩ := argsOf_sound hs hv.2 h1
      split at ha
      · split at ha <;> cases ha
        rename_i o ns2 h2
        obtain ⟨f2, b1, b2⟩ := treeOf_sound (P := P) hs 8 _ _ _ _ _ hv.1 h2
        exact ⟨f2 ++ fp, b1.append hs a1, a2, fun X t => by simp only [OL.holds]; exact ⟨f2, fp, rfl, b2 X t.1, a3 X t⟩⟩
      · split at ha <;> cases ha
        rename_i o rn2 h2
        obtain ⟨b1, b2⟩ := readOf_sound (P := P) hs hv.1 h2
        exact ⟨fp, a1, fun hr => by rw [b1 hr, a2 hr]; rfl, fun X t => by simp only [OL.holds]; exact ⟨[], fp, rfl, b2 X t.left, a3 X t.right⟩⟩

theorem D.plain_holds {X Y : Nat → Prop} {d : D} {c : Value} (hp : d.plain = true) (hd : d.holds X w c) : d.holds Y w c := by
  cases d <;> simp [D.plain] at hp
  exact hd

mutual
theorem O.plain_holds {X Y : Nat → Prop} : ∀ (o : O) {v : Value} {fp : List Nat}, o.plain = true → O.holds X w o v fp → O.holds Y w o v fp
  | .any, v, fp, _, h => by simpa only [O.holds] using h
  | .d x, v, fp, hp, h => by simp only [O.holds] at *; exact ⟨D.plain_holds (by simpa [O.plain] using hp) h.1, h.2⟩
  | .own T x, v, fp, hp, h => by
    cases x <;> simp [O.plain] at hp
    simp only [O.holds, D.at] at *
    exact h
  | .ptr T l, v, fp, hp, h => by
    simp only [O.holds] at *
    obtain ⟨b, us, f, h1, rfl, h2, h3⟩ := h
    exact ⟨b, us, f, h1, rfl, h2, OL.plain_holds l (by simpa [O.plain] using hp) h3⟩
  | .arr T k xs, v, fp, _, h => by simp only [O.holds, D.at] at *; exact h
  | .map ks vs, v, fp, _, h => by simp only [O.holds] at *; exact h
  | .agg l, v, fp, hp, h => by
    simp only [O.holds] at *
    obtain ⟨us, h1, h2⟩ := h
    exact ⟨us, h1, OL.plain_holds l (by simpa [O.plain] using hp) h2⟩
  | .va k xs, v, fp, _, h => by simp only [O.holds] at *; exact h
theorem OL.plain_holds {X Y : Nat → Prop} : ∀ (l : List O) {vs : List Value} {fp : List Nat}, OL.plain l = true → OL.holds X w l vs fp → OL.holds Y w l vs fp
  | [], [], fp, _, h => by simpa only [OL.holds] using h
  | [], _ :: _, _, _, h => by simp [OL.holds] at h
  | _ :: _, [], _, _, h => by simp [OL.holds] at h
  | o :: l, v :: vs, fp, hp, h => by
    simp only [OL.plain, Bool.and_eq_true] at hp
    simp only [OL.holds] at *
    obtain ⟨f, g, rfl, h1, h2⟩ := h
    exact ⟨f, g, rfl, O.plain_holds o hp.1 h1, OL.plain_holds l hp.2 h2⟩
end

theorem hfind_deads_mem {n : Nat} : ∀ {ns : List Nat}, n ∈ ns → hfind (deads ns h) n = some .dead
  | [], hm => by cases hm
  | m :: ns, hm => by
    unfold deads
    rw [hfind_cons]
    by_cases e : m = n
    · rw [if_pos e]
    · rw [if_neg e]
      exact hfind_deads_mem ((List.mem_cons.1 hm).resolve_left (Ne.symm e))
theorem hfind_deads_not {n : Nat} : ∀ {ns : List Nat}, n ∉ ns → hfind (deads ns h) n = hfind h n
  | [], _ => rfl
  | m :: ns, hm => by
    simp only [List.mem_cons, not_or] at hm
    unfold deads
    rw [hfind_cons, if_neg (Ne.symm hm.1)]
    exact hfind_deads_not hm.2
theorem ownsAt_deads {ns : List Nat} {m b : Nat} : OwnsAt θ (deads ns h) m b ↔ m ∉ ns ∧ OwnsAt θ h m b := by
  constructor
  · rintro ⟨r, L, h1, h2, h3, h4⟩
    by_cases hm : m ∈ ns
    · rw [hfind_deads_mem hm] at h1; cases h1; exact h3.elim
    · rw [hfind_deads_not hm] at h1; exact ⟨hm, r, L, h1, h2, h3, h4⟩
  · rintro ⟨hm, r, L, h1, h2, h3, h4⟩
    exact ⟨r, L, by rw [hfind_deads_not hm]; exact h1, h2, h3, h4⟩

/-- The state right behind a call: what was handed over is gone. -/
theorem SatH.called (hs : SatH K θ h nx w) {ns fp fo : List Nat} {w' : World} (hN : NamesFp θ h ns fp) (hnames : ∀ n ∈ ns, ∃ L, θ n = some L) (hfr : Fr (· ∈ fp) w w') (hfo : fo.Nodup) (hnew : ∀ b ∈ fo, b ∈ fp ∨ w.heap.size ≤ b) :
    SatX K (fun b => (w.heap.size ≤ b ∨ Free K θ h b ∨ b ∈ fp) ∧ b ∉ fo) θ (deads ns h) nx w' ∧ FpOk K (fun b => (w.heap.size ≤ b ∨ Free K θ h b ∨ b ∈ fp) ∧ b ∉ fo) θ (deads ns h) fo := by
  have own : ∀ b ∈ fp, ∃ n ∈ ns, OwnsAt θ h n b := hN.1
  have notfp : ∀ {m b}, m ∉ ns → OwnsAt θ h m b → b ∉ fp := fun hm ho hb => by
    obtain ⟨n, h1, h2⟩ := own _ hb
    exact hm (hs.dis _ _ _ h2 ho ▸ h1)
  refine ⟨⟨hs.fresh, fun m r hr => ?_, fun a c b h1 h2 => hs.dis a c b (ownsAt_deads.1 h1).2 (ownsAt_deads.1 h2).2, fun m b h1 => hs.new m b (ownsAt_deads.1 h1).2, ?_, fun b hb => ⟨fun m hm => ?_, ?_⟩⟩, hfo, fun b hb => ⟨fun hX => hX.2 hb, fun m hm => ?_, ?_⟩⟩
  · by_cases hm : m ∈ ns
    · rw [hfind_deads_mem hm] at hr; cases hr
      obtain ⟨L, hL⟩ := hnames m hm
      exact ⟨L, hL, trivial⟩
    · rw [hfind_deads_not hm] at hr
      obtain ⟨L, hL, h1⟩ := hs.res m r hr
      refine ⟨L, hL, R.holds_mono (Th.ext_refl _) (fun b hb hf => ?_) (fun ho => hfr.block _ (R.owned_lt h1 ho) (notfp hm ⟨r, L, hr, hL, ho, rfl⟩)) h1⟩
      have hbfp : b ∉ fp := fun h2 => by obtain ⟨n, _, h3⟩ := own b h2; exact hf.1 n h3
      refine ⟨⟨.inr (.inl hf), fun h2 => ?_⟩, hfr.block b hb hbfp⟩
      rcases hnew b h2 with h3 | h3
      · exact hbfp h3
      · omega
  · refine ⟨hfr.os.trans hs.frame.os, hfr.tape.trans hs.frame.tape, hfr.output.trans hs.frame.output, Nat.le_trans hs.frame.size hfr.size, fun b hb1 hb2 => ?_⟩
    rw [hfr.block b (Nat.lt_of_lt_of_le hb1 hs.frame.size) fun hm => ?_]
    · exact hs.frame.block b hb1 hb2
    · obtain ⟨n, _, hn⟩ := own b hm
      rcases hs.new n b hn with h1 | h1
      · omega
      · exact hb2 h1
  · obtain ⟨h1, h2⟩ := ownsAt_deads.1 hm
    rcases hb.1 with h3 | h3 | h3
    · have := OwnsAt.lt hs h2; omega
    · exact h3.1 m h2
    · exact notfp h1 h2 h3
  · rcases hb.1 with h3 | h3 | h3
    · exact .inl (Nat.le_trans hs.frame.size h3)
    · exact h3.2
    · obtain ⟨n, _, hn⟩ := own b h3
      exact (hs.new n b hn).imp id (K.ma b)
  · obtain ⟨h1, h2⟩ := ownsAt_deads.1 hm
    rcases hnew b hb with h3 | h3
    · exact notfp h1 h2 h3
    · have := OwnsAt.lt hs h2; omega
  · rcases hnew b hb with h3 | h3
    · obtain ⟨n, _, hn⟩ := own b h3
      exact hs.new n b hn
    · exact .inl (Nat.le_trans hs.frame.size h3)

structure BacksX (K : Ctx) (X : Nat → Prop) (fp : List Nat) (θ θ' : Th) (h h' : List (Nat × R)) (nx nx' : Nat) (w : World) : Prop where
  sat : SatX K X θ' h' nx' w
  ext : θ.ext θ'
  le : nx ≤ nx'
  agree : ∀ n, n < nx → θ' n = θ n
  own : ∀ n b, OwnsAt θ' h' n b → OwnsAt θ h n b ∨ b ∈ fp

theorem GivesX.backs {X : Nat → Prop} {fp : List Nat} {θ θ' : Th} {h h' : List (Nat × R)} {nx nx' : Nat} (g : GivesX K X fp θ θ' h h' nx nx' w) : BacksX K X fp θ θ' h h' nx nx' w := ⟨g.sat, g.ext, g.le, g.agree, g.own⟩
theorem BacksX.trans {X : Nat → Prop} {f g : List Nat} {θ θ' θ'' : Th} {h h' h'' : List (Nat × R)} {nx nx' nx'' : Nat} (a : BacksX K X f θ θ' h h' nx nx' w) (b : BacksX K X g θ' θ'' h' h'' nx' nx'' w) : BacksX K X (f ++ g) θ θ'' h h'' nx nx'' w :=
  ⟨b.sat, Th.ext_trans a.ext b.ext, Nat.le_trans a.le b.le, fun n hn => (b.agree n (Nat.lt_of_lt_of_le hn a.le)).trans (a.agree n hn), fun n b' ho => by
      rcases b.own n b' ho with h1 | h1
      · rcases a.own n b' h1 with h2 | h2
        · exact .inl h2
        · exact .inr (by simp [h2])
      · exact .inr (by simp [h1])⟩
theorem FpOk.right' {X : Nat → Prop} {θ θ' : Th} {h h' : List (Nat × R)} {nx nx' : Nat} {f g : List Nat} (hf : FpOk K X θ h (f ++ g)) (a : BacksX K X f θ θ' h h' nx nx' w) : FpOk K X θ' h' g := by
  obtain ⟨n1, n2, n3⟩ := List.nodup_append.1 hf.1
  refine ⟨n2, fun b hb => ?_⟩
  obtain ⟨h1, h2, h3⟩ := hf.2 b (by simp [hb])
  refine ⟨h1, fun n hn => ?_, h3⟩
  rcases a.own n b hn with h4 | h4
  · exact h2 n h4
  · exact n3 b h4 b hb rfl

theorem SatX.give_old {X : Nat → Prop} {θ : Th} {h : List (Nat × R)} {nx n : Nat} (hs : SatX K X θ h nx w) {r : R} {L : Loc} {fp : List Nat} (hL : θ n = some L) (hh : r.holds θ X w L) (hf : FpOk K X θ h fp) (ho : r.owns L → L.b ∈ fp) :
    BacksX K X fp θ θ h ((n, r) :: h) nx nx w := by
  obtain ⟨g1, g2⟩ := hs.give (Th.ext_refl _) hs.fresh hL (fun m _ => rfl) hh (fun h1 => (hf.2 _ (ho h1)).1) (fun h1 => (hf.2 _ (ho h1)).2.1) (fun h1 => (hf.2 _ (ho h1)).2.2)
  refine ⟨g1, Th.ext_refl _, Nat.le_refl _, fun _ _ => rfl, fun m b hm => ?_⟩
  rcases g2 m b hm with h1 | ⟨_, h1, rfl⟩
  · exact .inl h1
  · exact .inr (ho h1)

theorem Loc.val_inj {L L' : Loc} (h : L.val = L'.val) : L = L' := by
  cases L; cases L'
  simp only [Loc.val, Value.slice.injEq] at h
  obtain ⟨rfl, rfl, rfl⟩ := h
  rfl

mutual
theorem backO_sound {X : Nat → Prop} {h0 : List (Nat × R)} {θ0 : Th} (hold : ∀ n r, hfind h0 n = some r → ∃ L, θ0 n = some L ∧ (∀ T l, r = .blk T l → L.a = some ⟨L.b, 0, none⟩) ∧ (∀ ks vs, r = .map ks vs → L.a = some ⟨L.b, 0, none⟩) ∧ (∀ T k xs, r = .own T (.ints k xs) → L.len = xs.length)) :
    ∀ (o : O) {s : SV} {θ : Th} {h : List (Nat × R)} {nx : Nat} {v : Value} {fp : List Nat} {k : List (Nat × R) → Nat → Prop}, θ0.ext θ → SatX K X θ h nx w → V θ0 s v → O.holds X w o v fp → FpOk K X θ h fp → backO h0 o s h nx k →
    ∃ h' nx' θ', k h' nx' ∧ BacksX K X fp θ θ' h h' nx nx' w
  | .any, s, θ, h, nx, v, fp, k, hx, hs, hv, hh, hf, hk => by
    simp only [backO] at hk
    exact ⟨_, _, θ, hk, (GivesX.refl hs _).backs⟩
  | .d x, s, θ, h, nx, v, fp, k, hx, hs, hv, hh, hf, hk => by
    simp only [backO] at hk
    exact ⟨_, _, θ, hk, (GivesX.refl hs _).backs⟩
  | .va _ _, s, θ, h, nx, v, fp, k, hx, hs, hv, hh, hf, hk => by
    simp only [backO] at hk
    exact ⟨_, _, θ, hk, (GivesX.refl hs _).backs⟩
  | .own T x, s, θ, h, nx, v, fp, k, hx, hs, hv, hh, hf, hk => by
    simp only [backO] at hk
    split at hk <;> try exact hk.elim
    rename_i n
    simp only [V] at hv
    obtain ⟨L, hL, rfl⟩ := hv
    simp only [O.holds] at hh
    obtain ⟨L', h1, h2, h3, h4⟩ := hh
    obtain rfl := Loc.val_inj h1
    refine ⟨_, _, θ, hk, hs.give_old (r := .own T x) (hx _ _ hL) ⟨h3, h2, fun hc => ?_⟩ hf (fun ho => ?_)⟩
    · rcases h4 with ⟨h5, _⟩ | ⟨_, _, h5⟩
      · exact absurd h5 hc
      · exact h5
    · rcases h4 with ⟨h5, _⟩ | ⟨_, rfl, _⟩
      · exact absurd h5 ho
      · simp
  | .ptr T l, s, θ, h, nx, v, fp, k, hx, hs, hv, hh, hf, hk => by
    simp only [backO] at hk
    split at hk <;> try exact hk.elim
    rename_i n
    split at hk <;> try exact hk.elim
    rename_i hf0
    obtain ⟨L, hL, hLa, _⟩ := hold _ _ hf0
    have ha := hLa _ _ rfl
    have hv' := ptr_zero hv hL ha
    simp only [O.holds] at hh
    obtain ⟨b, us, f, h1, rfl, h2, h3⟩ := hh
    rw [hv'] at h1
    simp only [Value.pointer.injEq, Option.some.injEq, Addr.mk.injEq, and_true] at h1
    subst h1
    have hf' : FpOk K X θ h (f ++ [L.b]) := ⟨by
      have := hf.1
      simp only [List.nodup_cons] at this
      rw [List.nodup_append]
      exact ⟨this.2, by simp, fun x hx y hy => by simp at hy; subst hy; intro e; subst e; exact this.1 hx⟩, fun c hc => hf.2 c (by simp at hc ⊢; exact hc.symm)⟩
    obtain ⟨ss, h', nx', θ', a1, a2, a3⟩ := instOs_sound l hs h3 hf'.left hk
    have g := a2.sat.give_old (r := .blk T ss) (n := n) (L := L) (fp := [L.b]) (a2.ext _ _ (hx _ _ hL)) ⟨us, ha, h2, a3⟩ (hf'.right a2) (fun _ => by simp)
    have r := a2.backs.trans g
    exact ⟨_, _, _, a1, ⟨r.sat, r.ext, r.le, r.agree, fun m c hm => (r.own m c hm).imp id (fun h => by simp at h ⊢; exact h.symm)⟩⟩
  | .arr T kk xs, s, θ, h, nx, v, fp, k, hx, hs, hv, hh, hf, hk => by
    simp only [backO] at hk
    split at hk <;> try exact hk.elim
    rename_i n
    split at hk <;> try exact hk.elim
    rename_i T0 k0 xs0 hf0
    obtain ⟨hlen, hk⟩ := hk
    obtain ⟨L, hL, _, _, hLl⟩ := hold _ _ hf0
    have hl := hLl _ _ _ rfl
    simp only [V] at hv
    obtain ⟨L1, hL1, hLL, rfl⟩ := hv
    obtain rfl := Option.some.inj (hL.symm.trans hL1)
    simp only [O.holds] at hh
    obtain ⟨L', h1, h2, h3, h4⟩ := hh
    simp only [Value.pointer.injEq, Option.some.injEq, Addr.mk.injEq, and_true] at h1
    have : L = L' := by rw [hLL, h2, hl, ← hlen, h1]
    subst this
    refine ⟨_, _, θ, hk, hs.give_old (r := .own T (.ints kk xs)) (hx _ _ hL) ⟨h3, .inr (by rw [h2]; rfl), fun hc => ?_⟩ hf (fun ho => ?_)⟩
    · rcases h4 with ⟨h5, _⟩ | ⟨_, _, h5⟩
      · exact absurd h5 hc
      · exact h5
    · rcases h4 with ⟨h5, _⟩ | ⟨_, rfl, _⟩
      · exact absurd h5 ho
      · simp
  | .map ks vs, s, θ, h, nx, v, fp, k, hx, hs, hv, hh, hf, hk => by
    simp only [backO] at hk
    split at hk <;> try exact hk.elim
    rename_i n
    split at hk <;> try exact hk.elim
    rename_i hf0
    obtain ⟨L, hL, _, hLa, _⟩ := hold _ _ hf0
    have ha := hLa _ _ rfl
    simp only [V] at hv
    obtain ⟨L', hL', rfl⟩ := hv
    obtain rfl := Option.some.inj (hL.symm.trans hL')
    simp only [O.holds] at hh
    obtain ⟨b, es, clock, h1, rfl, h2, h3⟩ := hh
    simp only [Value.map.injEq, Option.some.injEq] at h1
    subst h1
    exact ⟨_, _, θ, hk, hs.give_old (r := .map ks vs) (hx _ _ hL) ⟨ha, es, clock, h2, h3⟩ hf (fun _ => by simp)⟩
  | .agg l, s, θ, h, nx, v, fp, k, hx, hs, hv, hh, hf, hk => by
    simp only [backO] at hk
    split at hk <;> try exact hk.elim
    simp only [V] at hv
    obtain ⟨us, rfl, hvs⟩ := hv
    simp only [O.holds] at hh
    obtain ⟨us', h1, h2⟩ := hh
    have : us = us' := by
      simp only [Value.agg.injEq] at h1
      exact congrArg Array.toList h1
    subst this
    exact backOs_sound hold l hx hs hvs h2 hf hk
theorem backOs_sound {X : Nat → Prop} {h0 : List (Nat × R)} {θ0 : Th} (hold : ∀ n r, hfind h0 n = some r → ∃ L, θ0 n = some L ∧ (∀ T l, r = .blk T l → L.a = some ⟨L.b, 0, none⟩) ∧ (∀ ks vs, r = .map ks vs → L.a = some ⟨L.b, 0, none⟩) ∧ (∀ T k xs, r = .own T (.ints k xs) → L.len = xs.length)) :
    ∀ (l : List O) {ss : List SV} {θ : Th} {h : List (Nat × R)} {nx : Nat} {vs : List Value} {fp : List Nat} {k : List (Nat × R) → Nat → Prop}, θ0.ext θ → SatX K X θ h nx w → VL θ0 ss vs → OL.holds X w l vs fp → FpOk K X θ h fp → backOs h0 l ss h nx k →
    ∃ h' nx' θ', k h' nx' ∧ BacksX K X fp θ θ' h h' nx nx' w
  | [], [], θ, h, nx, vs, fp, k, hx, hs, hv, hh, hf, hk => by
    simp only [backOs] at hk
    exact ⟨_, _, θ, hk, (GivesX.refl hs _).backs⟩
  | [], _ :: _, _, _, _, _, _, _, _, _, _, _, _, hk => by simp [backOs] at hk
  | _ :: _, [], _, _, _, _, _, _, _, _, _, _, _, hk => by simp [backOs] at hk
  | o :: l, s :: ss, θ, h, nx, [], fp, k, hx, hs, hv, hh, hf, hk => by simp [VL] at hv
  | o :: l, s :: ss, θ, h, nx, v :: vs, fp, k, hx, hs, hv, hh, hf, hk => by
    simp only [backOs] at hk
    simp only [VL] at hv
    simp only [OL.holds] at hh
    obtain ⟨f, g, rfl, h1, h2⟩ := hh
    obtain ⟨h', nx', θ', a1, a2⟩ := backO_sound hold o hx hs hv.1 h1 hf.left hk
    obtain ⟨h'', nx'', θ'', b1, b2⟩ := backOs_sound hold l (Th.ext_trans hx a2.ext) a2.sat hv.2 h2 (hf.right' a2) a1
    exact ⟨_, _, _, b1, a2.trans b2⟩
end
end
end Go.Z
