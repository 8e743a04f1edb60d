/- Calls: sound. -/
import Derived.Test.YtonfaeenoifomaaZ12
namespace Go.Z
open Go.RowKit

section
variable {P : Program} {K : Ctx} {θ : Th} {h : List (Nat × R)} {nx : Nat} {w : World}

theorem V_ret {ss : List SV} {us : List Value} (hv : VL θ ss us) : V θ (retS ss) (retVal us) := by
  match ss, us, hv with
  | [], [], _ => simp only [retS, retVal, V]; exact ⟨[], rfl, by simp [VL]⟩
  | [s], [u], hv => simp only [VL] at hv; exact hv.1
  | s :: t :: ss, u :: v :: us, hv => simp only [retS, retVal, V]; exact ⟨_, rfl, hv⟩
  | [], _ :: _, hv => simp [VL] at hv
  | _ :: _, [], hv => simp [VL] at hv
  | [_], _ :: _ :: _, hv => simp [VL] at hv
  | _ :: _ :: _, [_], hv => simp [VL] at hv

theorem hold_of (hs : SatH K θ h nx w) : ∀ n r, hfind h n = some r → ∃ L, θ n = some L ∧ (∀ T l, r = .blk T l → L.a = some ⟨L.b, 0, none⟩) ∧ (∀ ks vs, r = .map ks vs → L.a = some ⟨L.b, 0, none⟩) ∧ (∀ T k xs, r = .own T (.ints k xs) → L.len = xs.length) := by
  intro n r hr
  obtain ⟨L, hL, h1⟩ := hs.res n r hr
  refine ⟨L, hL, ?_, ?_, ?_⟩
  · rintro T l rfl; obtain ⟨_, h2, _⟩ := h1; exact h2
  · rintro ks vs rfl; exact h1.1
  · rintro T k xs rfl; exact h1.1.1

theorem callX_sound {f : Nat} {c : Ctr} (hf : FnOk P f c) (hs : SatH K θ h nx w) {ts : List Nat} {args : List SV} {vs : List Value} (hv : VL θ args vs) {k : HK} (hq : callX P ts c args h nx k) :
    Calls P f vs.toArray w fun e w' => ∃ s h' nx' θ' v, e = .returned v ∧ k s h' nx' ∧ SatH K θ' h' nx' w' ∧ θ.ext θ' ∧ V θ' s v ∧ nx ≤ nx' := by
  unfold callX at hq
  have hs0 : SatH K θ (cond c.ro (freezeRd h c.own args) h) nx w := by
    cases c.ro
    · exact hs
    · exact freezeRd_sound hs
  generalize cond c.ro (freezeRd h c.own args) h = h0 at hq hs0
  split at hq
  · exact hq.elim
  rename_i as ns rn hargs
  obtain ⟨hpre, hq1⟩ := hq
  obtain ⟨hc, hq2⟩ := cond_false hq1
  simp only [Bool.and_eq_true, Bool.or_eq_true] at hc
  obtain ⟨⟨hnd, hdj⟩, hro⟩ := hc
  have hnd := nodupB_sound hnd
  have hdj := disjB_sound hdj
  obtain ⟨fp, hN, hrn, hhold⟩ := argsOf_sound hs0 hv hargs
  have hfpn := hN.2.1 hnd
  have notfree : ∀ b, Free K θ h0 b → b ∉ fp := fun b hb hm => by obtain ⟨n, _, hn⟩ := hN.1 b hm; exact hb.1 n hn
  let A : Nat → Prop := fun b => c.ro = true → Free K θ h0 b
  have hT : Takes K θ h0 rn (fun b => A b ∧ b ∉ fp) := by
    refine ⟨fun b hb => ⟨fun _ => hb, notfree b hb⟩, fun n hn b ho => ⟨fun hr => ?_, fun hm => ?_⟩⟩
    · rw [hrn hr] at hn; cases hn
    · obtain ⟨m, h1, h2⟩ := hN.1 b hm
      exact hdj n hn (hs0.dis _ _ _ h2 ho ▸ h1)
  have hlt : ∀ b ∈ fp, b < w.heap.size := fun b hb => by obtain ⟨n, _, hn⟩ := hN.1 b hb; exact OwnsAt.lt hs0 hn
  refine (hf w A as vs fp (hhold _ hT) hfpn hlt hpre).mono ?_
  rintro e w' ⟨rs, fu, fr, rfl, hfr, hfo, hnew, hup, hres⟩
  obtain ⟨s1, s2⟩ := hs0.called hN hN.2.2 hfr hfo hnew
  have conv : OL.holds (fun b => (w.heap.size ≤ b ∨ Free K θ h0 b ∨ b ∈ fp) ∧ b ∉ fu ++ fr) w' (c.upd as) vs fu ∧
      OL.holds (fun b => (w.heap.size ≤ b ∨ Free K θ h0 b ∨ b ∈ fp) ∧ b ∉ fu ++ fr) w' (c.res as) rs fr := by
    rcases hro with hr | hp
    · have hk : Keeps (After w A fp (fu ++ fr)) (fun b => (w.heap.size ≤ b ∨ Free K θ h0 b ∨ b ∈ fp) ∧ b ∉ fu ++ fr) w' w' :=
        fun b _ hb => ⟨⟨hb.1.imp id (fun h => h.imp (fun h => h hr) id), hb.2⟩, rfl⟩
      exact ⟨OL.holds_mono hk _ _ _ (fun _ _ => rfl) hup, OL.holds_mono hk _ _ _ (fun _ _ => rfl) hres⟩
    · exact ⟨OL.plain_holds _ hp.2 hup, OL.plain_holds _ hp.1 hres⟩
  obtain ⟨h1, nx1, θ1, b1, b2⟩ := backOs_sound (hold_of hs0) _ (Th.ext_refl _) s1 hv conv.1 s2.left hq2
  obtain ⟨ss, h2, nx2, θ2, c1, c2, c3⟩ := instOs_sound _ b2.sat conv.2 (s2.right' b2) b1
  exact ⟨_, _, _, _, _, rfl, c1, c2.sat.toH, Th.ext_trans b2.ext c2.ext, V_ret c3, Nat.le_trans b2.le c2.le⟩

theorem scalars_holds {X : Nat → Prop} : ∀ {rs : List O} {xs : List Value} {us : List Value} {fp : List Nat}, scalarsOf rs = some xs → OL.holds X w rs us fp → us = xs
  | [], xs, us, fp, h, hh => by
    simp [scalarsOf] at h; subst h
    cases us with
    | nil => rfl
    | cons _ _ => simp [OL.holds] at hh
  | r :: rs, xs, us, fp, h, hh => by
    unfold scalarsOf at h
    split at h
    · rename_i heq; cases heq
    · rename_i x rs' heq
      cases heq
      split at h <;> cases h
      rename_i ys hys
      cases us with
      | nil => simp [OL.holds] at hh
      | cons u us =>
        simp only [OL.holds, O.holds] at hh
        obtain ⟨f, g, _, ⟨⟨rfl, _⟩, _⟩, h2⟩ := hh
        rw [scalars_holds hys h2]
    · cases h

theorem callQ_sound {f : Nat} {c : Ctr} (hf : FnOk P f c) (hs : SatH K θ h nx w) {ts : List Nat} {args : List SV} {vs : List Value} (hv : VL θ args vs) {k : SV → Prop} (hq : callQ P ts c args h k) :
    ∃ s v, k s ∧ V θ s v ∧ ∀ w', Below w.heap.size w w' → Calls P f vs.toArray w' fun e w'' => e = .returned v ∧ Below w.heap.size w w'' := by
  unfold callQ at hq
  split at hq <;> try exact hq.elim
  rename_i as rn hargs
  split at hq <;> try exact hq.elim
  rename_i xs hsc
  obtain ⟨hpre, hk⟩ := hq
  have hvx : VL θ (xs.map .c) xs := by
    clear hsc hk
    induction xs with
    | nil => simp [VL]
    | cons x xs ih => simp only [List.map_cons, VL]; exact ⟨by simp only [V], ih⟩
  refine ⟨_, retVal xs, hk, V_ret hvx, fun w' hw' => ?_⟩
  have hs' := hs.below hw'
  obtain ⟨fp, hN, _, hhold⟩ := argsOf_sound hs' hv hargs
  have hfp : fp = [] := by
    cases fp with
    | nil => rfl
    | cons b fp =>
      obtain ⟨n, hn, _⟩ := hN.1 b (by simp)
      cases hn
  subst hfp
  refine (hf w' (fun _ => True) as vs [] (hhold _ ⟨fun b _ => ⟨trivial, by simp⟩, fun n _ b _ => ⟨trivial, by simp⟩⟩) List.nodup_nil (fun b hb => by cases hb) hpre).mono ?_
  rintro e w'' ⟨rs, fu, fr, rfl, hfr, _, _, _, hres⟩
  rw [scalars_holds hsc hres]
  exact ⟨rfl, hw'.trans ⟨hfr.os, hfr.tape, hfr.output, hfr.size, fun b hb => hfr.block b (Nat.lt_of_lt_of_le hb hw'.size) (by simp)⟩⟩
end
end Go.Z
