/- Calls: what a call does to the caller's symbolic state, shown. -/
import Derived.Test.YtgnfpcjndhnglaaX9
namespace Go.X
open Go.RowKit

section
variable {P : Program} {K : Ctx} {θ : Th} {h : List (Nat × R)} {nx : Nat} {w : World}

def LentOk (θ : Th) (h : List (Nat × R)) : List Lent → List Nat → Prop
  | [], [] => True
  | (n, T, len) :: ls, b :: bs => (∃ L cs, θ n = some L ∧ L.b = b ∧ hfind h n = some (.blk T cs) ∧ cs.length = len) ∧ LentOk θ h ls bs
  | _, _ => False

theorem arrR_sound (hs : SatH K θ h nx w) {ro : Bool} {n : Nat} {d : D} {X : Nat → Prop} (hX : ∀ b, Free K θ h b → X b)
    (hXo : ro = false → ∀ m b T d', hfind h m = some (.own T d') → OwnsAt θ h m b → X b) (ha : arrR ro h n = some d) :
    ∃ L, θ n = some L ∧ d.at X w L ∧ L.wf ∧ L.inn X w := by
  unfold arrR at ha
  have hk : Keeps (Free K θ h) X w w := fun b _ hf => ⟨hX b hf, rfl⟩
  split at ha
  · cases ha
    rename_i hf
    obtain ⟨L, h1, h2, h3, h4⟩ := hs.res n _ hf
    exact ⟨L, h1, D.at_mono hk (fun _ => rfl) h2, h3, Loc.inn_mono hk h4⟩
  · rename_i T d' hf
    cases ro with
    | true => cases ha
    | false =>
      cases ha
      obtain ⟨L, h1, h2, h3, h4⟩ := hs.res n _ hf
      have hcap : L.len ≠ 0 → L.cap ≠ 0 := by have := D.at_len h2; omega
      refine ⟨L, h1, D.at_mono hk (fun _ => rfl) h2, h3, fun hne => ?_⟩
      have ho : OwnsAt θ h n L.b := ⟨_, L, hf, h1, hcap hne, rfl⟩
      exact ⟨hXo rfl _ _ _ _ hf ho, OwnsAt.lt hs ho⟩
  · cases ha

theorem holds_of_at {X : Nat → Prop} {L : Loc} {d : D} (hd : d.at X w L) (hw : L.wf) (hi : L.inn X w) : d.holds X w L.val := by
  cases d with
  | v x => exact hd.elim
  | ints k xs => exact D.holds_ints.2 ⟨L, rfl, hw, hi, hd⟩
  | recs es n f => exact D.holds_recs.2 ⟨L, rfl, hw, hi, hd⟩

theorem dOf_sound (hs : SatH K θ h nx w) {ro : Bool} {s : SV} {u : Value} {d : D} {X : Nat → Prop} (hX : ∀ b, Free K θ h b → X b)
    (hXo : ro = false → ∀ m b T d', hfind h m = some (.own T d') → OwnsAt θ h m b → X b) (hv : V θ s u) (ha : dOf ro h s = some d) : d.holds X w u := by
  cases s <;> simp only [dOf] at ha <;> (try (cases ha; done)) <;> simp only [V] at hv
  · cases ha; subst hv; exact ⟨rfl, rfl⟩
  · rename_i x
    cases hx : x.oneCell' with
    | false => rw [hx] at ha; cases ha
    | true => rw [hx] at ha; cases ha; subst hv; exact ⟨rfl, hx⟩
  · obtain ⟨L, hL, rfl⟩ := hv
    obtain ⟨L', hL', h1, h2, h3⟩ := arrR_sound hs hX hXo ha
    obtain rfl := Option.some.inj (hL.symm.trans hL')
    exact holds_of_at h1 h2 h3
  · cases ha; subst hv; exact ⟨rfl, rfl⟩

theorem dsOf_sound (hs : SatH K θ h nx w) {ro : Bool} {X : Nat → Prop} (hX : ∀ b, Free K θ h b → X b)
    (hXo : ro = false → ∀ m b T d', hfind h m = some (.own T d') → OwnsAt θ h m b → X b) : ∀ {l : List SV} {us : List Value} {ds : List D}, VL θ l us → dsOf ro h l = some ds → DL.holds X w ds us
  | [], [], ds, _, ha => by simp [dsOf] at ha; subst ha; trivial
  | [], _ :: _, _, hv, _ => by simp [VL] at hv
  | _ :: _, [], _, hv, _ => by simp [VL] at hv
  | s :: l, u :: us, ds, hv, ha => by
    simp only [VL] at hv
    unfold dsOf at ha
    split at ha <;> cases ha
    rename_i d ds' h1 h2
    exact ⟨dOf_sound hs hX hXo hv.1 h1, dsOf_sound hs hX hXo hv.2 h2⟩

theorem adsOf_lent (hs : SatH K θ h nx w) {ro : Bool} : ∀ {l : List SV} {as : List AD} {ls : List Lent}, adsOf ro h l = some (as, ls) → ∃ Bs, LentOk θ h ls Bs
  | [], as, ls, ha => by simp [adsOf] at ha; obtain ⟨_, rfl⟩ := ha; exact ⟨[], trivial⟩
  | s :: l, as, ls, ha => by
    unfold adsOf at ha
    split at ha
    · cases ha
    · rename_i as' ls' hl
      obtain ⟨Bs, hB⟩ := adsOf_lent hs hl
      split at ha <;> (try (cases ha; exact ⟨Bs, hB⟩))
      · split at ha <;> cases ha; exact ⟨Bs, hB⟩
      · split at ha <;> cases ha; exact ⟨Bs, hB⟩
      · split at ha <;> try (cases ha; done)
        rename_i T cs hf
        split at ha <;> cases ha
        obtain ⟨L, hL, _⟩ := hs.res _ _ hf
        exact ⟨L.b :: Bs, ⟨⟨L, cs, hL, rfl, hf, rfl⟩, hB⟩⟩
      · cases ha

theorem adsOf_sound (hs : SatH K θ h nx w) {ro : Bool} {X : Nat → Prop} (hX : ∀ b, Free K θ h b → X b)
    (hXo : ro = false → ∀ m b T d', hfind h m = some (.own T d') → OwnsAt θ h m b → X b) :
    ∀ {l : List SV} {us : List Value} {as : List AD} {ls : List Lent} {Bs : List Nat}, VL θ l us → adsOf ro h l = some (as, ls) → LentOk θ h ls Bs → ADL X w as us Bs
  | [], [], as, ls, Bs, _, ha, hB => by
    simp [adsOf] at ha; obtain ⟨rfl, rfl⟩ := ha
    cases Bs with
    | nil => trivial
    | cons b bs => exact hB.elim
  | [], _ :: _, _, _, _, hv, _, _ => by simp [VL] at hv
  | _ :: _, [], _, _, _, hv, _, _ => by simp [VL] at hv
  | s :: l, u :: us, as, ls, Bs, hv, ha, hB => by
    simp only [VL] at hv
    unfold adsOf at ha
    split at ha
    · cases ha
    · rename_i as' ls' hl
      split at ha
      · cases ha
        refine ⟨?_, adsOf_sound hs hX hXo hv.2 hl hB⟩
        have := hv.1; simpa [V, AD.holds] using this
      · cases ha
        refine ⟨?_, adsOf_sound hs hX hXo hv.2 hl hB⟩
        have := hv.1; simpa [V, AD.holds] using this
      · cases ha
        refine ⟨?_, adsOf_sound hs hX hXo hv.2 hl hB⟩
        have := hv.1; simpa [V, AD.holds] using this
      · split at ha <;> cases ha
        rename_i d hd
        refine ⟨?_, adsOf_sound hs hX hXo hv.2 hl hB⟩
        have h1 := hv.1
        simp only [V] at h1
        obtain ⟨L, hL, rfl⟩ := h1
        obtain ⟨L', hL', h1, h2, h3⟩ := arrR_sound hs hX hXo hd
        obtain rfl := Option.some.inj (hL.symm.trans hL')
        exact holds_of_at h1 h2 h3
      · split at ha <;> cases ha
        rename_i ds hd
        refine ⟨?_, adsOf_sound hs hX hXo hv.2 hl hB⟩
        have h1 := hv.1
        simp only [V] at h1
        obtain ⟨cs, rfl, h2⟩ := h1
        exact ⟨cs, rfl, dsOf_sound hs hX hXo h2 hd⟩
      · split at ha <;> try (cases ha; done)
        rename_i T cs hf
        split at ha <;> cases ha
        rename_i ds hd
        cases Bs with
        | nil => exact hB.elim
        | cons b bs =>
          obtain ⟨⟨L, cs', hL, rfl, hf', _⟩, hB'⟩ := hB
          refine ⟨⟨?_, ?_⟩, adsOf_sound hs hX hXo hv.2 hl hB'⟩
          · have h1 := hv.1
            simp only [V] at h1
            obtain ⟨L', hL', rfl⟩ := h1
            obtain rfl := Option.some.inj (hL.symm.trans hL')
            obtain ⟨L2, hL2, us2, e1, e2, e3⟩ := hs.res _ _ hf
            obtain rfl := Option.some.inj (hL.symm.trans hL2)
            have ho : L.o = 0 := by unfold Loc.o; rw [e1]
            rw [ho]
          · obtain ⟨L2, hL2, us2, e1, e2, e3⟩ := hs.res _ _ hf
            obtain rfl := Option.some.inj (hL.symm.trans hL2)
            exact ⟨us2, e2, dsOf_sound hs hX hXo e3 hd⟩
      · cases ha

/-! The lent variables, unknown for the time of the call -/
theorem lent_owned {ls : List Lent} {Bs : List Nat} (hB : LentOk θ h ls Bs) : ∀ b, b ∈ Bs → ∃ n ∈ namesOf ls, OwnsAt θ h n b := by
  induction ls generalizing Bs with
  | nil => intro b hb; cases Bs with
    | nil => cases hb
    | cons _ _ => exact hB.elim
  | cons x ls ih =>
    obtain ⟨n, T, len⟩ := x
    intro b hb
    cases Bs with
    | nil => exact hB.elim
    | cons b' bs =>
      obtain ⟨⟨L, cs, h1, h2, h3, _⟩, hB'⟩ := hB
      rcases List.mem_cons.1 hb with rfl | hb
      · exact ⟨n, by simp [namesOf], ⟨_, L, h3, h1, trivial, h2⟩⟩
      · obtain ⟨m, hm, ho⟩ := ih hB' b hb
        exact ⟨m, by simp only [namesOf, List.map_cons, List.mem_cons]; exact .inr hm, ho⟩

theorem hfind_unkH : ∀ {ls : List Lent} {Bs : List Nat}, LentOk θ h ls Bs → ∀ m r, hfind (unkH ls h) m = some r →
    (m ∉ namesOf ls ∧ hfind h m = some r) ∨ (∃ T len b L cs, (m, T, len) ∈ ls ∧ r = .blk T (List.replicate len .unk) ∧ b ∈ Bs ∧ θ m = some L ∧ L.b = b ∧ hfind h m = some (.blk T cs) ∧ cs.length = len)
  | [], [], _, m, r, hr => .inl ⟨by simp [namesOf], hr⟩
  | [], _ :: _, hB, _, _, _ => hB.elim
  | _ :: _, [], hB, _, _, _ => hB.elim
  | (n, T, len) :: ls, b :: bs, hB, m, r, hr => by
    obtain ⟨⟨L, cs, h1, h2, h3, h4⟩, hB'⟩ := hB
    unfold unkH at hr
    rw [hfind_cons] at hr
    by_cases e : n = m
    · subst e
      rw [if_pos rfl] at hr; cases hr
      exact .inr ⟨T, len, b, L, cs, by simp, rfl, by simp, h1, h2, h3, h4⟩
    · rw [if_neg e] at hr
      rcases hfind_unkH hB' m r hr with ⟨a1, a2⟩ | ⟨T', len', b', L', cs', a1, a2, a3, a4⟩
      · exact .inl ⟨by simp only [namesOf, List.map_cons, List.mem_cons, not_or]; exact ⟨Ne.symm e, a1⟩, a2⟩
      · exact .inr ⟨T', len', b', L', cs', by simp [a1], a2, by simp [a3], a4⟩

theorem hfind_unkH_other : ∀ {ls : List Lent}, ∀ m, m ∉ namesOf ls → hfind (unkH ls h) m = hfind h m
  | [], m, _ => rfl
  | (n, T, len) :: ls, m, hm => by
    simp only [namesOf, List.map_cons, List.mem_cons, not_or] at hm
    unfold unkH
    rw [hfind_cons, if_neg (Ne.symm hm.1)]
    exact hfind_unkH_other m hm.2

theorem hfind_unkH_mem : ∀ {ls : List Lent} {Bs : List Nat}, LentOk θ h ls Bs → ∀ m ∈ namesOf ls, ∃ T len, hfind (unkH ls h) m = some (.blk T (List.replicate len .unk))
  | [], _, _, m, hm => by simp [namesOf] at hm
  | _ :: _, [], hB, _, _ => hB.elim
  | (n, T, len) :: ls, b :: bs, hB, m, hm => by
    unfold unkH
    rw [hfind_cons]
    by_cases e : n = m
    · rw [if_pos e]; exact ⟨_, _, rfl⟩
    · rw [if_neg e]
      simp only [namesOf, List.map_cons, List.mem_cons] at hm
      exact hfind_unkH_mem hB.2 m (hm.resolve_left (Ne.symm e))

theorem ownsAt_unkH {ls : List Lent} {Bs : List Nat} (hB : LentOk θ h ls Bs) (m b : Nat) : OwnsAt θ (unkH ls h) m b ↔ OwnsAt θ h m b := by
  constructor
  · rintro ⟨r, L, h1, h2, h3, h4⟩
    rcases hfind_unkH hB m r h1 with ⟨_, a2⟩ | ⟨T, len, b', L', cs, _, a2, _, a4, _, a6, _⟩
    · exact ⟨r, L, a2, h2, h3, h4⟩
    · exact ⟨_, L, a6, h2, trivial, h4⟩
  · rintro ⟨r, L, h1, h2, h3, h4⟩
    by_cases hm : m ∈ namesOf ls
    · obtain ⟨T, len, h5⟩ := hfind_unkH_mem hB m hm
      exact ⟨_, L, h5, h2, trivial, h4⟩
    · exact ⟨r, L, by rw [hfind_unkH_other m hm]; exact h1, h2, h3, h4⟩

theorem VL_unk (θ : Th) : ∀ us : List Value, VL θ (List.replicate us.length .unk) us
  | [] => by simp [VL]
  | _ :: us => by
    simp only [List.length_cons, List.replicate_succ, VL]
    exact ⟨by simp [V], VL_unk θ us⟩

/-- What is known of the lent variables' blocks behind the call. -/
def LentAfter (X : Nat → Prop) (w' : World) : List Lent → List Nat → List (List D) → Prop
  | [], [], [] => True
  | (_, T, len) :: ls, b :: bs, l :: ds => (isCells w' X b T l ∧ l.length = len) ∧ LentAfter X w' ls bs ds
  | _, _, _ => False

theorem DL.length {X : Nat → Prop} : ∀ {l : List D} {us : List Value}, DL.holds X w l us → l.length = us.length
  | [], [], _ => rfl
  | [], _ :: _, h => h.elim
  | _ :: _, [], h => h.elim
  | _ :: _, _ :: _, h => by simp [DL.length h.2]

theorem lentAfter_at {X : Nat → Prop} {w' : World} : ∀ {ls : List Lent} {Bs : List Nat} {ds : List (List D)}, LentOk θ h ls Bs → LentAfter X w' ls Bs ds → (namesOf ls).Nodup →
    ∀ m T len L, (m, T, len) ∈ ls → θ m = some L → ∃ us : List Value, w'.heap[L.b]? = some (.cells us.toArray T (0, 0)) ∧ us.length = len
  | [], _, _, _, _, _, m, T, len, L, hm, _ => by cases hm
  | _ :: _, [], _, hB, _, _, _, _, _, _, _, _ => hB.elim
  | _ :: _, _ :: _, [], _, hA, _, _, _, _, _, _, _ => hA.elim
  | (n, T', len') :: ls, b :: bs, l :: ds, hB, hA, hN, m, T, len, L, hm, hL => by
    obtain ⟨⟨L', cs, h1, h2, h3, h4⟩, hB'⟩ := hB
    obtain ⟨⟨⟨us, a1, a2⟩, a3⟩, hA'⟩ := hA
    simp only [namesOf, List.map_cons, List.nodup_cons] at hN
    rcases List.mem_cons.1 hm with e | hm
    · cases e
      obtain rfl := Option.some.inj (h1.symm.trans hL)
      subst h2
      exact ⟨us, a1, by rw [← DL.length a2, a3]⟩
    · exact lentAfter_at hB' hA' hN.2 m T len L hm hL

/-- The state right behind a call: lent variables are unknown; an array that was handed over is the newest name's. -/
theorem SatH.call (hs : SatH K θ h nx w) {ls : List Lent} {Bs : List Nat} {ds : List (List D)} {X : Nat → Prop} {w' : World} (hB : LentOk θ h ls Bs) (hN : (namesOf ls).Nodup)
    (hfr : Fr (· ∈ Bs) w w') (hA : LentAfter X w' ls Bs ds) : SatH K θ (unkH ls h) nx w' ∧ (∀ b, b < w.heap.size → Free K θ h b → Free K θ (unkH ls h) b) := by
  have ho := ownsAt_unkH (θ := θ) (h := h) hB
  have hF : ∀ b, Free K θ h b → Free K θ (unkH ls h) b := fun b hf => ⟨fun n hn => hf.1 n ((ho n b).1 hn), hf.2⟩
  have hbs : ∀ b, b ∈ Bs → ∃ n ∈ namesOf ls, OwnsAt θ h n b := lent_owned hB
  refine ⟨hs.gen (Th.ext_refl _) hs.fresh (fun b hb hf => ⟨hF b hf, hfr.block b hb fun hm => ?_⟩) ?_ (fun a b c h1 h2 => hs.dis a b c ((ho _ _).1 h1) ((ho _ _).1 h2)) (fun a b h1 => hs.new a b ((ho _ _).1 h1)) ?_, fun b _ => hF b⟩
  · obtain ⟨n, _, hn⟩ := hbs b hm
    exact hf.1 n hn
  · intro m r hr
    rcases hfind_unkH hB m r hr with ⟨a1, a2⟩ | ⟨T, len, b', L', cs, a1, a2, a3, a4, a5, a6, a7⟩
    · refine .inl ⟨a2, fun L hL hown => hfr.block _ (OwnsAt.lt hs ⟨r, L, a2, hL, hown, rfl⟩) fun hm => ?_⟩
      obtain ⟨n, hn1, hn2⟩ := hbs _ hm
      have := hs.dis n m L.b hn2 ⟨r, L, a2, hL, hown, rfl⟩
      exact a1 (this ▸ hn1)
    · subst a2
      obtain ⟨us, u1, u2⟩ := lentAfter_at hB hA hN m T len L' a1 a4
      obtain ⟨L2, hL2, us2, e1, e2, e3⟩ := hs.res _ _ a6
      obtain rfl := Option.some.inj (a4.symm.trans hL2)
      exact .inr ⟨L', a4, us, e1, u1, by rw [← u2]; exact VL_unk θ us⟩
  · refine ⟨hfr.os.trans hs.frame.os, hfr.tape.trans hs.frame.tape, hfr.output.trans hs.frame.output, Nat.le_trans hs.frame.size hfr.size, fun b hb1 hb2 => ?_⟩
    rw [hfr.block b (Nat.lt_of_lt_of_le hb1 hs.frame.size) fun hm => ?_]
    · exact hs.frame.block b hb1 hb2
    · obtain ⟨n, _, hn⟩ := hbs b hm
      rcases hs.new n b hn with h1 | h1
      · omega
      · exact hb2 h1
end
end Go.X
