/- Calls: 'callX' and 'callQ' are sound. -/
import Derived.Test.YtgnfpcjndhnglaaX11
namespace Go.X
open Go.RowKit

section
variable {P : Program} {K : Ctx} {θ : Th} {h : List (Nat × R)} {nx : Nat} {w : World}

theorem ownsAt_new (hn : θ nx = none) (h : List (Nat × R)) (r : R) (L : Loc) (n b : Nat) :
    OwnsAt (θ.add nx L) ((nx, r) :: h) n b ↔ (n = nx ∧ r.owns L ∧ L.b = b) ∨ (n ≠ nx ∧ OwnsAt θ h n b) := by
  constructor
  · rintro ⟨r', L', h1, h2, h3, h4⟩
    rw [hfind_cons] at h1
    by_cases e : n = nx
    · subst e
      rw [if_pos rfl] at h1
      rw [Th.add_self] at h2
      cases h1; cases h2
      exact .inl ⟨rfl, h3, h4⟩
    · rw [if_neg (Ne.symm e)] at h1
      rw [Th.add_other _ _ e] at h2
      exact .inr ⟨e, r', L', h1, h2, h3, h4⟩
  · rintro (⟨rfl, h3, h4⟩ | ⟨e, r', L', h1, h2, h3, h4⟩)
    · exact ⟨r, L, by rw [hfind_cons, if_pos rfl], Th.add_self _ _ _, h3, h4⟩
    · exact ⟨r', L', by rw [hfind_cons, if_neg (Ne.symm e)]; exact h1, by rw [Th.add_other _ _ e]; exact h2, h3, h4⟩

/-- The state right behind a call that handed an array over. -/
theorem SatH.callOwn (hs : SatH K θ h nx w) {ls : List Lent} {Bs : List Nat} {ds : List (List D)} {X : Nat → Prop} {w' : World} (hB : LentOk θ h ls Bs) (hN : (namesOf ls).Nodup)
    (hfr : Fr (· ∈ Bs) w w') (hA : LentAfter X w' ls Bs ds) {T : Nat} {x : D} {Lo : Loc}
    (hw : Lo.wf) (hc : Lo.cap ≠ 0 → w.heap.size ≤ Lo.b ∧ ∃ cs : Array Value, w'.heap[Lo.b]? = some (.cells cs T (0, 0)) ∧ Lo.o + Lo.cap * x.es ≤ cs.size)
    (hx : ∀ Y : Nat → Prop, (∀ b, b < w.heap.size → Free K θ h b → Y b) → (∀ b, w.heap.size ≤ b → (Lo.cap ≠ 0 → b ≠ Lo.b) → Y b) → x.at Y w' Lo) :
    SatH K (θ.add nx Lo) ((nx, .own T x) :: unkH ls h) (nx + 1) w' ∧ (∀ b, b < w.heap.size → Free K θ h b → Free K (θ.add nx Lo) ((nx, .own T x) :: unkH ls h) b) ∧
      (∀ b, w.heap.size ≤ b → (Lo.cap ≠ 0 → b ≠ Lo.b) → Free K (θ.add nx Lo) ((nx, .own T x) :: unkH ls h) b) := by
  have hnx := hs.fresh nx (Nat.le_refl _)
  have ho1 := ownsAt_unkH (θ := θ) (h := h) hB
  have ho := ownsAt_new hnx (unkH ls h) (.own T x) Lo
  have hlt : ∀ n b, OwnsAt θ h n b → b < w.heap.size := fun n b => OwnsAt.lt hs
  have hF1 : ∀ b, b < w.heap.size → Free K θ h b → Free K (θ.add nx Lo) ((nx, .own T x) :: unkH ls h) b := fun b hb hf => ⟨fun n hn => by
    rcases (ho n b).1 hn with ⟨_, a1, a2⟩ | ⟨_, a1⟩
    · have := (hc a1).1; omega
    · exact hf.1 n ((ho1 n b).1 a1), hf.2⟩
  have hF2 : ∀ b, w.heap.size ≤ b → (Lo.cap ≠ 0 → b ≠ Lo.b) → Free K (θ.add nx Lo) ((nx, .own T x) :: unkH ls h) b := fun b hb hne => ⟨fun n hn => by
    rcases (ho n b).1 hn with ⟨_, a1, a2⟩ | ⟨_, a1⟩
    · exact hne a1 a2.symm
    · have := hlt n b ((ho1 n b).1 a1); omega, .inl (Nat.le_trans hs.frame.size hb)⟩
  have hbs : ∀ b, b ∈ Bs → ∃ n ∈ namesOf ls, OwnsAt θ h n b := lent_owned hB
  have hnl : ∀ m ∈ namesOf ls, m ≠ nx := fun m hm e => by
    subst e
    obtain ⟨T', len, h5⟩ := hfind_unkH_mem hB _ hm
    rcases hfind_unkH hB _ _ h5 with ⟨a1, _⟩ | ⟨_, _, _, L', _, _, _, _, a4, _⟩
    · exact a1 hm
    · rw [hnx] at a4; cases a4
  refine ⟨hs.gen (Th.add_ext hnx Lo) (fun n hn => by rw [Th.add_other _ _ (by omega)]; exact hs.fresh n (by omega)) (fun b hb hf => ⟨hF1 b hb hf, hfr.block b hb fun hm => ?_⟩) ?_ ?_ ?_ ?_, hF1, hF2⟩
  · obtain ⟨n, _, hn⟩ := hbs b hm
    exact hf.1 n hn
  · intro m r hr
    rw [hfind_cons] at hr
    split at hr
    · rename_i e; subst e; cases hr
      exact .inr ⟨Lo, Th.add_self _ _ _, hx _ hF1 hF2, hw, fun h1 => (hc h1).2⟩
    · rename_i hmx
      rcases hfind_unkH hB m r hr with ⟨a1, a2⟩ | ⟨T', len, b', L', cs, a1, a2, a3, a4, a5, a6, a7⟩
      · refine .inl ⟨a2, fun L hL hown => hfr.block _ (OwnsAt.lt hs ⟨r, L, a2, hL, hown, rfl⟩) fun hm => ?_⟩
        obtain ⟨n, hn1, hn2⟩ := hbs _ hm
        have := hs.dis n m L.b hn2 ⟨r, L, a2, hL, hown, rfl⟩
        exact a1 (this ▸ hn1)
      · subst a2
        obtain ⟨us, u1, u2⟩ := lentAfter_at hB hA hN m T' len L' a1 a4
        obtain ⟨L2, hL2, us2, e1, e2, e3⟩ := hs.res _ _ a6
        obtain rfl := Option.some.inj (a4.symm.trans hL2)
        exact .inr ⟨L', by rw [Th.add_other _ _ (Ne.symm hmx)]; exact a4, us, e1, u1, by rw [← u2]; exact VL_unk _ us⟩
  · intro n m b h1 h2
    rcases (ho n b).1 h1 with ⟨e1, a1, a2⟩ | ⟨e1, a1⟩ <;> rcases (ho m b).1 h2 with ⟨e2, b1, b2⟩ | ⟨e2, b1⟩
    · omega
    · have := hlt _ _ ((ho1 _ _).1 b1); have := (hc a1).1; omega
    · have := hlt _ _ ((ho1 _ _).1 a1); have := (hc b1).1; omega
    · exact hs.dis n m b ((ho1 _ _).1 a1) ((ho1 _ _).1 b1)
  · intro n b h1
    rcases (ho n b).1 h1 with ⟨e1, a1, a2⟩ | ⟨e1, a1⟩
    · have := (hc a1).1; have := hs.frame.size; exact .inl (by omega)
    · exact hs.new n b ((ho1 _ _).1 a1)
  · refine ⟨hfr.os.trans hs.frame.os, hfr.tape.trans hs.frame.tape, hfr.output.trans hs.frame.output, Nat.le_trans hs.frame.size hfr.size, fun b hb1 hb2 => ?_⟩
    rw [hfr.block b (Nat.lt_of_lt_of_le hb1 hs.frame.size) fun hm => ?_]
    · exact hs.frame.block b hb1 hb2
    · obtain ⟨n, _, hn⟩ := hbs b hm
      rcases hs.new n b hn with h1 | h1
      · omega
      · exact hb2 h1

theorem nodupB_sound : ∀ {l : List Nat}, nodupB l = true → l.Nodup
  | [], _ => List.nodup_nil
  | n :: l, hl => by
    simp only [nodupB, Bool.and_eq_true, List.all_eq_true, Bool.not_eq_true'] at hl
    rw [List.nodup_cons]
    refine ⟨fun hm => ?_, nodupB_sound hl.2⟩
    have := hl.1 n hm
    simp at this

theorem lent_nodup (hs : SatH K θ h nx w) : ∀ {ls : List Lent} {Bs : List Nat}, LentOk θ h ls Bs → (namesOf ls).Nodup → Bs.Nodup
  | [], [], _, _ => List.nodup_nil
  | [], _ :: _, hB, _ => hB.elim
  | _ :: _, [], hB, _ => hB.elim
  | (n, T, len) :: ls, b :: bs, hB, hN => by
    obtain ⟨⟨L, cs, h1, h2, h3, h4⟩, hB'⟩ := hB
    simp only [namesOf, List.map_cons, List.nodup_cons] at hN
    rw [List.nodup_cons]
    refine ⟨fun hm => ?_, lent_nodup hs hB' hN.2⟩
    obtain ⟨m, hm1, hm2⟩ := lent_owned hB' b hm
    have := hs.dis n m b ⟨_, L, h3, h1, trivial, h2⟩ hm2
    exact hN.1 (this ▸ hm1)

theorem D.plain_holds {X Y : Nat → Prop} {d : D} {c : Value} (hp : d.plain = true) (hd : d.holds X w c) : d.holds Y w c := by
  cases d with
  | v x => exact hd
  | ints k xs => cases hp
  | recs es n f => cases hp

theorem DL.plain_holds {X Y : Nat → Prop} : ∀ {l : List D} {cs : List Value}, l.all D.plain = true → DL.holds X w l cs → DL.holds Y w l cs
  | [], [], _, _ => trivial
  | [], _ :: _, _, hd => hd.elim
  | _ :: _, [], _, hd => hd.elim
  | d :: l, c :: cs, hp, hd => by
    simp only [List.all_cons, Bool.and_eq_true] at hp
    exact ⟨D.plain_holds hp.1 hd.1, DL.plain_holds hp.2 hd.2⟩

theorem RD.plain_holds {X Y : Nat → Prop} {s0 : Nat} {Lo : Loc} {r : RD} {c : Value} (hp : r.plain = true) (hd : r.holds X w s0 Lo c) : r.holds Y w s0 Lo c := by
  cases r with
  | v x => exact hd
  | d x => exact D.plain_holds hp hd
  | agg l =>
    obtain ⟨cs, h1, h2⟩ := hd
    exact ⟨cs, h1, DL.plain_holds hp h2⟩
  | own T x =>
    cases x with
    | ints k xs => exact hd
    | v x => simp [RD.plain] at hp
    | recs es n f => simp [RD.plain] at hp

theorem RDL.plain_holds {X Y : Nat → Prop} {s0 : Nat} {Lo : Loc} : ∀ {l : List RD} {cs : List Value}, l.all RD.plain = true → RDL.holds X w s0 Lo l cs → RDL.holds Y w s0 Lo l cs
  | [], [], _, _ => trivial
  | [], _ :: _, _, hd => hd.elim
  | _ :: _, [], _, hd => hd.elim
  | d :: l, c :: cs, hp, hd => by
    simp only [List.all_cons, Bool.and_eq_true] at hp
    exact ⟨RD.plain_holds hp.1 hd.1, RDL.plain_holds hp.2 hd.2⟩

theorem RD.holds_mono {X Y : Nat → Prop} {s0 : Nat} {Lo : Loc} {r : RD} {c : Value} (hk : ∀ b, b < w.heap.size → X b → Y b) (hd : r.holds X w s0 Lo c) : r.holds Y w s0 Lo c := by
  have hk' : Keeps X Y w w := fun b hb hx => ⟨hk b hb hx, rfl⟩
  cases r with
  | v x => exact hd
  | d x => exact D.holds_mono hk' x c hd
  | agg l => obtain ⟨cs, h1, h2⟩ := hd; exact ⟨cs, h1, DL.holds_mono hk' h2⟩
  | own T x => obtain ⟨h1, h2, h3, h4⟩ := hd; exact ⟨h1, h2, D.at_mono hk' (fun _ => rfl) h3, h4⟩

theorem RDL.holds_mono {X Y : Nat → Prop} {s0 : Nat} {Lo : Loc} (hk : ∀ b, b < w.heap.size → X b → Y b) : ∀ {l : List RD} {cs : List Value}, RDL.holds X w s0 Lo l cs → RDL.holds Y w s0 Lo l cs
  | [], [], _ => trivial
  | [], _ :: _, hd => hd.elim
  | _ :: _, [], hd => hd.elim
  | _ :: _, _ :: _, hd => ⟨RD.holds_mono hk hd.1, RDL.holds_mono hk hd.2⟩

theorem lentOk_weaken {θ' : Th} {h' : List (Nat × R)} : ∀ {ls : List Lent} {Bs : List Nat}, (∀ n T len, (n, T, len) ∈ ls → ∀ L, θ n = some L → θ' n = some L ∧ ∀ cs, hfind h n = some (.blk T cs) → cs.length = len → ∃ cs', hfind h' n = some (.blk T cs') ∧ cs'.length = len) →
    LentOk θ h ls Bs → LentOk θ' h' ls Bs
  | [], [], _, _ => trivial
  | [], _ :: _, _, hB => hB.elim
  | _ :: _, [], _, hB => hB.elim
  | (n, T, len) :: ls, b :: bs, hh, hB => by
    obtain ⟨⟨L, cs, h1, h2, h3, h4⟩, hB'⟩ := hB
    obtain ⟨e1, e2⟩ := hh n T len (by simp) L h1
    obtain ⟨cs', e3, e4⟩ := e2 cs h3 h4
    exact ⟨⟨L, cs', e1, h2, e3, e4⟩, lentOk_weaken (fun n T len hm => hh n T len (by simp [hm])) hB'⟩

theorem hfind_unkH_eq : ∀ {ls : List Lent}, (namesOf ls).Nodup → ∀ n T len, (n, T, len) ∈ ls → hfind (unkH ls h) n = some (.blk T (List.replicate len .unk))
  | [], _, _, _, _, hm => by cases hm
  | (n', T', len') :: ls, hN, n, T, len, hm => by
    simp only [namesOf, List.map_cons, List.nodup_cons] at hN
    unfold unkH
    rw [hfind_cons]
    rcases List.mem_cons.1 hm with e | hm
    · cases e; rw [if_pos rfl]
    · have : n ∈ namesOf ls := List.mem_map.2 ⟨_, hm, rfl⟩
      rw [if_neg (fun (e : n' = n) => hN.1 (e ▸ this))]
      exact hfind_unkH_eq hN.2 n T len hm

theorem lentOk_unkH {ls : List Lent} {Bs : List Nat} (hB : LentOk θ h ls Bs) (hN : (namesOf ls).Nodup) : LentOk θ (unkH ls h) ls Bs :=
  lentOk_weaken (fun n T len hm L hL => ⟨hL, fun cs _ _ => ⟨_, hfind_unkH_eq hN n T len hm, by simp⟩⟩) hB

theorem lentOk_add {ls : List Lent} {Bs : List Nat} {r : R} {Lo : Loc} (hn : θ nx = none) (hB : LentOk θ h ls Bs) : LentOk (θ.add nx Lo) ((nx, r) :: h) ls Bs :=
  lentOk_weaken (fun n T len hm L hL => by
    have hne : n ≠ nx := fun e => by subst e; rw [hn] at hL; cases hL
    exact ⟨by rw [Th.add_other _ _ hne]; exact hL, fun cs hc hl => ⟨cs, by rw [hfind_cons, if_neg (Ne.symm hne)]; exact hc, hl⟩⟩) hB

/-- From the callee's word on the lent variables to the caller's. -/
theorem lentAfter_of {X Y : Nat → Prop} {ro : Bool} : ∀ {l : List SV} {as : List AD} {ls : List Lent} {Bs : List Nat} {ds : List (List D)}, adsOf ro h l = some (as, ls) → LentOk θ h ls Bs →
    (∀ b l, l ∈ ds → ∀ us, DL.holds X w l us → DL.holds Y w l us ∧ (b : Nat) = b) → (ds.map List.length = ls.map (·.2.2)) → PTL X w (ptrTs as) Bs ds → LentAfter Y w ls Bs ds := by
  intro l
  induction l with
  | nil =>
    intro as ls Bs ds ha hB _ _ hP
    simp [adsOf] at ha; obtain ⟨rfl, rfl⟩ := ha
    cases Bs with
    | nil => cases ds with
      | nil => trivial
      | cons _ _ => exact hP.elim
    | cons _ _ => exact hB.elim
  | cons s l ih =>
    intro as ls Bs ds ha hB hXY hlen hP
    unfold adsOf at ha
    split at ha
    · cases ha
    · rename_i as' ls' hl
      split at ha
      · cases ha; exact ih hl hB hXY hlen hP
      · cases ha; exact ih hl hB hXY hlen hP
      · cases ha; exact ih hl hB hXY hlen hP
      · split at ha <;> cases ha; exact ih hl hB hXY hlen hP
      · split at ha <;> cases ha; exact ih hl hB hXY hlen hP
      · split at ha <;> try (cases ha; done)
        split at ha <;> cases ha
        cases Bs with
        | nil => exact hB.elim
        | cons b bs =>
          cases ds with
          | nil => exact hP.elim
          | cons d ds =>
            obtain ⟨⟨us, e1, e2⟩, hP'⟩ := hP
            simp only [List.map_cons, List.cons.injEq] at hlen
            exact ⟨⟨⟨us, e1, (hXY b d (by simp) us e2).1⟩, hlen.1⟩, ih hl hB.2 (fun b l hl => hXY b l (by simp [hl])) hlen.2 hP'⟩
      · cases ha

theorem lensB_sound : ∀ {ds : List (List D)} {ls : List Lent}, lensB ds ls = true → ds.map List.length = ls.map (·.2.2)
  | [], [], _ => rfl
  | [], _ :: _, hl => by simp [lensB] at hl
  | _ :: _, [], hl => by simp [lensB] at hl
  | d :: ds, x :: ls, hl => by
    simp only [lensB, Bool.and_eq_true] at hl
    simp only [List.map_cons]
    rw [nbeq hl.1, lensB_sound hl.2]

theorem ownOf_none : ∀ {rs : List RD}, ownOf rs = none → ownCount rs = 0
  | [], _ => rfl
  | r :: rs, ho => by cases r <;> simp only [ownOf] at ho <;> first | (cases ho; done) | (simp only [ownCount]; exact ownOf_none ho)

theorem ownOf_some {X : Nat → Prop} {s0 : Nat} {Lo : Loc} {T : Nat} {x : D} : ∀ {rs : List RD} {us : List Value}, ownOf rs = some (T, x) → RDL.holds X w s0 Lo rs us →
    Lo.wf ∧ x.at X w Lo ∧ (Lo.cap ≠ 0 → s0 ≤ Lo.b ∧ ∃ cs : Array Value, w.heap[Lo.b]? = some (.cells cs T (0, 0)) ∧ Lo.o + Lo.cap * x.es ≤ cs.size)
  | [], _, ho, _ => by cases ho
  | _ :: _, [], _, hr => hr.elim
  | r :: rs, u :: us, ho, hr => by
    cases r with
    | own T' x' => simp only [ownOf] at ho; cases ho; exact hr.1.2
    | v y => exact ownOf_some (rs := rs) ho hr.2
    | d y => exact ownOf_some (rs := rs) ho hr.2
    | agg l => exact ownOf_some (rs := rs) ho hr.2

theorem callX_sound {f : Nat} {c : Ctr} (hf : FnOk P f c) (hs : SatH K θ h nx w) {args : List SV} {vs : List Value} (hv : VL θ args vs) {k : HK} (hq : callX c args h nx k) :
    Calls P f vs.toArray w fun e w' => ∃ s h' nx' θ' v, e = .returned v ∧ k s h' nx' ∧ SatH K θ' h' nx' w' ∧ θ.ext θ' ∧ V θ' s v := by
  unfold callX at hq
  have hs0 : SatH K θ (cond c.ro (freezeArgs h args) h) nx w := by
    cases c.ro
    · exact hs
    · exact freezeArgs_sound hs
  generalize cond c.ro (freezeArgs h args) h = h0 at hq hs0
  split at hq
  · exact hq.elim
  rename_i as ls hads
  obtain ⟨hpre, hq1⟩ := hq
  obtain ⟨hc, hq2⟩ := cond_false hq1
  simp only [Bool.and_eq_true] at hc
  obtain ⟨⟨⟨hlens, hnd⟩, hcount⟩, hro⟩ := hc
  have hlens := lensB_sound hlens
  have hnd := nodupB_sound hnd
  obtain ⟨Bs, hB⟩ := adsOf_lent hs0 hads
  have hNB := lent_nodup hs0 hB hnd
  have hbs : ∀ b, b ∈ Bs → ∃ n ∈ namesOf ls, OwnsAt θ h0 n b := lent_owned hB
  -- in which blocks what is read may lie
  let A : Nat → Prop := fun b => c.ro = true → Free K θ h0 b
  have hX : ∀ b, Free K θ h0 b → A b ∧ b ∉ Bs := fun b hb => ⟨fun _ => hb, fun hm => by obtain ⟨n, _, hn⟩ := hbs b hm; exact hb.1 n hn⟩
  have hXo : c.ro = false → ∀ m b T d', hfind h0 m = some (.own T d') → OwnsAt θ h0 m b → A b ∧ b ∉ Bs := by
    intro hr m b T d' hfm ho
    refine ⟨fun hr' => absurd (hr'.symm.trans hr) (by decide), fun hm => ?_⟩
    obtain ⟨n, hn1, hn2⟩ := hbs b hm
    have := hs0.dis n m b hn2 ho
    subst this
    obtain ⟨T', len, h5⟩ := hfind_unkH_mem hB n hn1
    rcases hfind_unkH hB n _ h5 with ⟨a1, _⟩ | ⟨_, _, _, L', cs', _, _, _, _, _, a6, _⟩
    · exact a1 hn1
    · rw [hfm] at a6; cases a6
  have hADL := adsOf_sound (X := fun b => A b ∧ b ∉ Bs) hs0 hX hXo hv hads hB
  refine (hf w A Bs as vs hADL hNB hpre).mono ?_
  rintro e w' ⟨rs, Lo, rfl, hfr, hres, hptr⟩
  -- what is handed back lies in blocks that nobody owns
  have conv : ∀ (Y : Nat → Prop), (∀ b, b < w.heap.size → Free K θ h0 b → b ∉ Bs → Y b) → (∀ b, w.heap.size ≤ b → b ∉ Bs → ((ownOf (c.res as)).isSome = true → Lo.cap ≠ 0 → b ≠ Lo.b) → Y b) →
      RDL.holds Y w' w.heap.size Lo (c.res as) rs ∧ LentAfter Y w' ls Bs (c.upd as) := by
    intro Y hY1 hY2
    cases hr : c.ro with
    | true =>
      have hk : ∀ b, b < w'.heap.size → After w A Bs (ownOf (c.res as)) Lo b → Y b := by
        rintro b _ ⟨h1, h2, h3⟩
        by_cases hb : b < w.heap.size
        · exact hY1 b hb (h1.resolve_left (by omega) hr) h2
        · exact hY2 b (by omega) h2 h3
      exact ⟨RDL.holds_mono hk hres, lentAfter_of hads hB (fun b l _ us hl => ⟨DL.holds_mono (fun b hb hx => ⟨hk b hb hx, rfl⟩) hl, rfl⟩) hlens hptr⟩
    | false =>
      rw [hr] at hro
      simp only [Bool.false_or, Bool.and_eq_true] at hro
      refine ⟨RDL.plain_holds hro.1 hres, lentAfter_of hads hB (fun b l hl us hh => ⟨DL.plain_holds ?_ hh, rfl⟩) hlens hptr⟩
      exact List.all_eq_true.1 hro.2 l hl
  split at hq2
  · rename_i hown
    obtain ⟨hs1, hF1⟩ := hs0.call hB hnd hfr (conv (fun _ => True) (fun _ _ _ _ => trivial) (fun _ _ _ _ => trivial)).2
    have hfresh : ∀ b, w.heap.size ≤ b → Free K θ (unkH ls h0) b := fun b hb => ⟨fun n hn => by
      have := OwnsAt.lt hs0 ((ownsAt_unkH hB n b).1 hn); omega, .inl (Nat.le_trans hs0.frame.size hb)⟩
    obtain ⟨hres', hlent'⟩ := conv (Free K θ (unkH ls h0)) (fun b hb hfb _ => hF1 b hb hfb) (fun b hb _ _ => hfresh b hb)
    have hB1 : LentOk θ (unkH ls h0) ls Bs := lentOk_unkH hB hnd
    obtain ⟨h1, nx1, θ1, k1, g1, f1⟩ := ptrsBack_sound (X := Free K θ (unkH ls h0)) hs1 hB1 hlent' (fun b _ hb => hb) hq2
    obtain ⟨ss, h2, nx2, θ2, k2, g2, v2⟩ := resBack_sound (Lo := Lo) (X := Free K θ (unkH ls h0)) g1.sat (fun hne => absurd (ownOf_none hown) hne) hres' (fun b _ hb => f1 b hb) k1
    exact ⟨_, h2, nx2, θ2, _, rfl, k2, g2.sat, Th.ext_trans g1.ext g2.ext, V_ret v2⟩
  · rename_i T x hown
    obtain ⟨o1, o2, o3⟩ := ownOf_some hown hres
    obtain ⟨hs1, hF1, hF2⟩ := hs0.callOwn hB hnd hfr (conv (fun _ => True) (fun _ _ _ _ => trivial) (fun _ _ _ _ => trivial)).2 o1 o3 (fun Y hY1 hY2 =>
      (ownOf_some hown (conv Y (fun b hb hfb _ => hY1 b hb hfb) (fun b hb _ hne => hY2 b hb (hne (by rw [hown]; rfl)))).1).2.1)
    obtain ⟨hres', hlent'⟩ := conv _ (fun b hb hfb _ => hF1 b hb hfb) (fun b hb _ hne => hF2 b hb (hne (by rw [hown]; rfl)))
    have hnx := hs0.fresh nx (Nat.le_refl _)
    have hB1 : LentOk (θ.add nx Lo) ((nx, .own T x) :: unkH ls h0) ls Bs := lentOk_add hnx (lentOk_unkH hB hnd)
    obtain ⟨h1, nx1, θ1, k1, g1, f1⟩ := ptrsBack_sound (X := Free K (θ.add nx Lo) ((nx, .own T x) :: unkH ls h0)) hs1 hB1 hlent' (fun b _ hb => hb) hq2
    obtain ⟨ss, h2, nx2, θ2, k2, g2, v2⟩ := resBack_sound (Lo := Lo) (X := Free K (θ.add nx Lo) ((nx, .own T x) :: unkH ls h0)) g1.sat (fun _ => g1.ext _ _ (Th.add_self _ _ _)) hres' (fun b _ hb => f1 b hb) k1
    exact ⟨_, h2, nx2, θ2, _, rfl, k2, g2.sat, Th.ext_trans (Th.add_ext hnx Lo) (Th.ext_trans g1.ext g2.ext), V_ret v2⟩

theorem scalars_holds {X : Nat → Prop} {s0 : Nat} {Lo : Loc} : ∀ {rs : List RD} {xs us : List Value}, scalarsOf rs = some xs → RDL.holds X w s0 Lo rs us → us = xs
  | [], xs, [], hx, _ => by simp [scalarsOf] at hx; exact hx.symm
  | [], _, _ :: _, _, hr => hr.elim
  | _ :: _, _, [], _, hr => hr.elim
  | r :: rs, xs, u :: us, hx, hr => by
    cases r with
    | v x =>
      simp only [scalarsOf] at hx
      split at hx <;> cases hx
      rename_i ys hy
      obtain ⟨h1, h2⟩ := hr
      have e : u = x := h1
      rw [e, scalars_holds hy h2]
    | d x => cases hx
    | agg l => cases hx
    | own T x => cases hx

theorem VL_c (θ : Th) : ∀ xs : List Value, VL θ (xs.map .c) xs
  | [] => by simp [VL]
  | x :: xs => by simp only [List.map_cons, VL]; exact ⟨by simp only [V], VL_c θ xs⟩

theorem callQ_sound {f : Nat} {c : Ctr} (hf : FnOk P f c) (hs : SatH K θ h nx w) {args : List SV} {vs : List Value} (hv : VL θ args vs) {k : SV → Prop} (hq : callQ c args h k) :
    ∃ s v, k s ∧ V θ s v ∧ ∀ w', Below w.heap.size w w' → Calls P f vs.toArray w' fun e w'' => e = .returned v ∧ Below w.heap.size w w'' := by
  unfold callQ at hq
  split at hq <;> try exact hq.elim
  rename_i as hads
  split at hq <;> try exact hq.elim
  rename_i xs hsc hupd
  obtain ⟨hpre, hk⟩ := hq
  refine ⟨_, retVal xs, hk, V_ret (VL_c θ xs), fun w' hw' => ?_⟩
  have hs' := hs.below hw'
  have hADL := adsOf_sound (X := fun b => True ∧ b ∉ ([] : List Nat)) (Bs := []) hs' (fun b _ => ⟨trivial, by simp⟩) (fun _ _ b _ _ _ _ => ⟨trivial, by simp⟩) hv hads trivial
  refine (hf w' (fun _ => True) [] as vs hADL List.nodup_nil hpre).mono ?_
  rintro e w'' ⟨rs, Lo, rfl, hfr, hres, _⟩
  rw [scalars_holds hsc hres]
  refine ⟨rfl, hw'.trans ⟨hfr.os, hfr.tape, hfr.output, hfr.size, fun b hb => hfr.block b (Nat.lt_of_lt_of_le hb hw'.size) (by simp)⟩⟩
end
end Go.X
