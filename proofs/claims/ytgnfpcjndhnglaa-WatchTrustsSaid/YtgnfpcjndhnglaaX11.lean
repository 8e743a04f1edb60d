/- Calls, to the end: the lent variables are known again, the results have names. -/
import Derived.Test.YtgnfpcjndhnglaaX10
namespace Go.X
open Go.RowKit

section
variable {P : Program} {K : Ctx} {θ : Th} {h : List (Nat × R)} {nx : Nat} {w : World}

theorem arrFreeze (hs : SatH K θ h nx w) (n : Nat) : SatH K θ (freezeH h n) nx w := by
  unfold freezeH
  split
  · rename_i T d hf; exact hs.freeze hf
  · exact hs

theorem freezeL_sound : ∀ {l : List SV} {h : List (Nat × R)}, SatH K θ h nx w → SatH K θ (freezeL h l) nx w
  | [], _, hs => hs
  | s :: l, h, hs => by
    cases s <;> simp only [freezeL] <;> first | exact freezeL_sound hs | exact freezeL_sound (arrFreeze hs _)

theorem freezeArgs_sound : ∀ {l : List SV} {h : List (Nat × R)}, SatH K θ h nx w → SatH K θ (freezeArgs h l) nx w
  | [], _, hs => hs
  | s :: l, h, hs => by
    cases s <;> simp only [freezeArgs] <;> first
      | exact freezeArgs_sound hs
      | exact freezeArgs_sound (arrFreeze hs _)
      | exact freezeArgs_sound (freezeL_sound hs)
      | (split <;> first | exact freezeArgs_sound hs | exact freezeArgs_sound (freezeL_sound hs))

/-- A lent variable whose content is known again. -/
theorem SatH.retell (hs : SatH K θ h nx w) {n T : Nat} {l l' : List SV} {L : Loc} {us : List Value} (hn : hfind h n = some (.blk T l)) (hL : θ n = some L)
    (hu : w.heap[L.b]? = some (.cells us.toArray T (0, 0))) (hv : VL θ l' us) : SatH K θ ((n, .blk T l') :: h) nx w := by
  obtain ⟨L', hL', cs, e1, e2, e3⟩ := hs.res n _ hn
  obtain rfl := Option.some.inj (hL.symm.trans hL')
  refine hs.turn hn hL trivial rfl rfl rfl rfl (fun b _ => rfl) trivial (fun X' _ => ⟨us, e1, hu, hv⟩)

theorem free_retell {n T : Nat} {l l' : List SV} (hn : hfind h n = some (.blk T l)) (b : Nat) (hb : Free K θ h b) : Free K θ ((n, .blk T l') :: h) b := by
  refine ⟨?_, hb.2⟩
  rintro m ⟨r, L, h1, h2, h3, h4⟩
  rw [hfind_cons] at h1
  by_cases e : n = m
  · subst e
    exact hb.1 n ⟨_, L, hn, h2, trivial, h4⟩
  · rw [if_neg e] at h1
    exact hb.1 m ⟨r, L, h1, h2, h3, h4⟩

/-- Names are added; the lent variables may be told anew: what was found is found still, but for their content. -/
def Same (h h' : List (Nat × R)) (ns : List Nat) : Prop := ∀ n ∈ ns, ∀ T l, hfind h n = some (.blk T l) → ∃ l', hfind h' n = some (.blk T l')

theorem instL_mono : ∀ (l : List D) {h : List (Nat × R)} {nx : Nat} {k k' : List SV → List (Nat × R) → Nat → Prop}, (∀ s h n, k s h n → k' s h n) → instL l h nx k → instL l h nx k'
  | [], _, _, _, _, hh, hi => hh _ _ _ hi
  | d :: l, h, nx, k, k', hh, hi => by
    cases d with
    | v x => exact instL_mono l (fun s h n hk => hh _ _ _ hk) hi
    | ints kk xs => exact instL_mono l (fun s h n hk => hh _ _ _ hk) hi
    | recs es m f => exact instL_mono l (fun s h n hk => hh _ _ _ hk) hi

theorem instL_rem : ∀ (l : List D) {h : List (Nat × R)} {nx : Nat} {k : List SV → List (Nat × R) → Nat → Prop}, instL l h nx k →
    instL l h nx (fun s h' nx' => k s h' nx' ∧ ∀ n, n < nx → hfind h' n = hfind h n)
  | [], _, _, _, hk => ⟨hk, fun _ _ => rfl⟩
  | d :: l, h, nx, k, hk => by
    cases d with
    | v x => exact instL_rem l (k := fun ss => k (.c x :: ss)) hk
    | ints kk xs =>
      exact instL_mono l (fun s h' n hk' => ⟨hk'.1, fun m hm => by rw [hk'.2 m (by omega), hfind_cons, if_neg (by omega)]⟩) (instL_rem l (k := fun ss => k (.a nx :: ss)) hk)
    | recs es m f =>
      exact instL_mono l (fun s h' n hk' => ⟨hk'.1, fun m hm => by rw [hk'.2 m (by omega), hfind_cons, if_neg (by omega)]⟩) (instL_rem l (k := fun ss => k (.a nx :: ss)) hk)

/-- 'instL', with what it leaves of the state told. -/
theorem instL_full {l : List D} {cs : List Value} (hs : SatH K θ h nx w) (hd : DL.holds (Free K θ h) w l cs)
    {k : List SV → List (Nat × R) → Nat → Prop} (hk : instL l h nx k) :
    ∃ s h' nx' θ', k s h' nx' ∧ Grows K θ θ' nx nx' h' w ∧ VL θ' s cs ∧ (∀ b, Free K θ h b → Free K θ' h' b) ∧ ∀ n, n < nx → hfind h' n = hfind h n := by
  obtain ⟨s, h', nx', θ', ⟨a1, a2⟩, a3, a4, a5⟩ := instL_sound hs hd (instL_rem l hk)
  exact ⟨s, h', nx', θ', a1, a3, a4, a5, a2⟩

theorem ptrsBack_sound : ∀ {ls : List Lent} {Bs : List Nat} {ds : List (List D)} {θ : Th} {h : List (Nat × R)} {nx : Nat} {X : Nat → Prop} {k : List (Nat × R) → Nat → Prop}, SatH K θ h nx w →
    LentOk θ h ls Bs → LentAfter X w ls Bs ds → (∀ b, b < w.heap.size → X b → Free K θ h b) → ptrsBack ls ds h nx k →
    ∃ h' nx' θ', k h' nx' ∧ Grows K θ θ' nx nx' h' w ∧ (∀ b, Free K θ h b → Free K θ' h' b)
  | [], [], [], θ, h, nx, X, k, hs, _, _, _, hk => ⟨h, nx, θ, hk, .refl hs, fun _ hb => hb⟩
  | [], [], _ :: _, _, _, _, _, _, _, _, hA, _, _ => hA.elim
  | [], _ :: _, _, _, _, _, _, _, _, hB, _, _, _ => hB.elim
  | _ :: _, [], _, _, _, _, _, _, _, hB, _, _, _ => hB.elim
  | _ :: _, _ :: _, [], _, _, _, _, _, _, _, hA, _, _ => hA.elim
  | (n, T, len) :: ls, b :: bs, l :: ds, θ, h, nx, X, k, hs, hB, hA, hX, hk => by
    obtain ⟨⟨L, cs, h1, h2, h3, h4⟩, hB'⟩ := hB
    obtain ⟨⟨⟨us, a1, a2⟩, a3⟩, hA'⟩ := hA
    have hd : DL.holds (Free K θ h) w l us := DL.holds_mono (fun b hb hx => ⟨hX b hb hx, rfl⟩) a2
    obtain ⟨ss, h', nx', θ', b1, b2, b3, b4, b5⟩ := instL_full hs hd hk
    have hn : n < nx := hs.named_lt h1
    have hf' : hfind h' n = some (.blk T cs) := by rw [b5 n hn]; exact h3
    have hs' := b2.sat.retell hf' (b2.ext _ _ h1) (by rw [h2]; exact a1) b3
    have hfree : ∀ b, Free K θ h b → Free K θ' ((n, .blk T ss) :: h') b := fun b hb => free_retell hf' b (b4 b hb)
    -- the others are lent still
    have hB2 : LentOk θ' ((n, .blk T ss) :: h') ls bs := by
      have : ∀ {ls : List Lent} {bs : List Nat}, LentOk θ h ls bs → LentOk θ' ((n, .blk T ss) :: h') ls bs := by
        intro ls
        induction ls with
        | nil => intro bs hb; cases bs with
          | nil => trivial
          | cons _ _ => exact hb.elim
        | cons x ls ih =>
          obtain ⟨m, T', len'⟩ := x
          intro bs hb
          cases bs with
          | nil => exact hb.elim
          | cons b' bs =>
            obtain ⟨⟨L', cs', c1, c2, c3, c4⟩, c5⟩ := hb
            refine ⟨?_, ih c5⟩
            by_cases e : n = m
            · subst e
              obtain rfl := Option.some.inj (h1.symm.trans c1)
              rw [h3] at c3; cases c3
              refine ⟨L, ss, b2.ext _ _ h1, c2, by rw [hfind_cons, if_pos rfl], ?_⟩
              rw [VL_length b3, ← DL.length a2, a3]
              rw [← h4, c4]
            · exact ⟨L', cs', b2.ext _ _ c1, c2, by rw [hfind_cons, if_neg e, b5 m (hs.named_lt c1)]; exact c3, c4⟩
      exact this hB'
    obtain ⟨h2', nx2, θ2, d1, d2, d3⟩ := ptrsBack_sound (X := X) hs' hB2 hA' (fun b hb hx => hfree b (hX b hb hx)) b1
    refine ⟨h2', nx2, θ2, d1, Grows.trans ⟨hs', b2.ext, b2.le, b2.agree⟩ d2, fun b hb => d3 b (hfree b hb)⟩

theorem resBack_sound {own : Nat} {Lo : Loc} {s0 : Nat} : ∀ {rs : List RD} {us : List Value} {θ : Th} {h : List (Nat × R)} {nx : Nat} {X : Nat → Prop} {k : List SV → List (Nat × R) → Nat → Prop}, SatH K θ h nx w →
    (ownCount rs ≠ 0 → θ own = some Lo) → RDL.holds X w s0 Lo rs us → (∀ b, b < w.heap.size → X b → Free K θ h b) → resBack own rs h nx k →
    ∃ ss h' nx' θ', k ss h' nx' ∧ Grows K θ θ' nx nx' h' w ∧ VL θ' ss us
  | [], [], θ, h, nx, X, k, hs, _, _, _, hk => ⟨[], h, nx, θ, hk, .refl hs, by simp [VL]⟩
  | [], _ :: _, _, _, _, _, _, _, _, hr, _, _ => hr.elim
  | _ :: _, [], _, _, _, _, _, _, _, hr, _, _ => hr.elim
  | r :: rs, u :: us, θ, h, nx, X, k, hs, ho, hr, hX, hk => by
    obtain ⟨hr1, hr2⟩ := hr
    have hkeep : Keeps X (Free K θ h) w w := fun b hb hx => ⟨hX b hb hx, rfl⟩
    cases r with
    | v x =>
      have hk' : resBack own rs h nx (fun ss => k (.c x :: ss)) := hk
      obtain ⟨ss, h', nx', θ', a1, a2, a3⟩ := resBack_sound (rs := rs) (us := us) (X := X) hs ho hr2 hX hk'
      have e : u = x := hr1
      subst e
      exact ⟨_, h', nx', θ', a1, a2, by simp only [VL]; exact ⟨by simp only [V], a3⟩⟩
    | d x =>
      have hk' : instD x h nx (fun s h' nx' => resBack own rs h' nx' fun ss => k (s :: ss)) := hk
      obtain ⟨s, h1, nx1, θ1, b1, b2, b3, b4⟩ := instD_sound' hs (D.holds_mono hkeep x u hr1) hk'
      obtain ⟨ss, h', nx', θ', a1, a2, a3⟩ := resBack_sound (rs := rs) (us := us) (X := X) b2.sat (fun hne => b2.ext _ _ (ho hne)) hr2 (fun b hb hx => b4 b (hX b hb hx)) b1
      exact ⟨_, h', nx', θ', a1, b2.trans a2, by simp only [VL]; exact ⟨V_mono a2.ext _ _ b3, a3⟩⟩
    | agg l =>
      obtain ⟨cs, rfl, hcs⟩ := hr1
      have hk' : instL l h nx (fun cs h' nx' => resBack own rs h' nx' fun ss => k (.agg cs :: ss)) := hk
      obtain ⟨s, h1, nx1, θ1, b1, b2, b3, b4⟩ := instL_sound hs (DL.holds_mono hkeep hcs) hk'
      obtain ⟨ss, h', nx', θ', a1, a2, a3⟩ := resBack_sound (rs := rs) (us := us) (X := X) b2.sat (fun hne => b2.ext _ _ (ho hne)) hr2 (fun b hb hx => b4 b (hX b hb hx)) b1
      exact ⟨_, h', nx', θ', a1, b2.trans a2, by simp only [VL]; exact ⟨by simp only [V]; exact ⟨cs, rfl, VL_mono a2.ext _ _ b3⟩, a3⟩⟩
    | own T x =>
      have hk' : resBack own rs h nx (fun ss => k (.a own :: ss)) := hk
      obtain ⟨ss, h', nx', θ', a1, a2, a3⟩ := resBack_sound (rs := rs) (us := us) (X := X) hs (fun _ => ho (by simp [ownCount])) hr2 hX hk'
      obtain ⟨rfl, _⟩ := hr1
      exact ⟨_, h', nx', θ', a1, a2, by simp only [VL]; exact ⟨by simp only [V]; exact ⟨Lo, a2.ext _ _ (ho (by simp [ownCount])), rfl⟩, a3⟩⟩

theorem V_ret {ss : List SV} {us : List Value} (hv : VL θ ss us) : V θ (retS ss) (retVal us) := by
  match ss, us, hv with
  | [], [], _ => simp only [retS, retVal, V]; exact ⟨[], rfl, by simp [VL]⟩
  | [s], [u], hv => simp only [VL] at hv; exact hv.1
  | s :: t :: ss, u :: v :: us, hv => simp only [retS, retVal, V]; exact ⟨_, rfl, hv⟩
  | [], _ :: _, hv => simp [VL] at hv
  | _ :: _, [], hv => simp [VL] at hv
  | [_], _ :: _ :: _, hv => simp [VL] at hv
  | _ :: _ :: _, [_], hv => simp [VL] at hv
end
end Go.X
