/- Part 5 of what the closing text rests on. -/
import Derived.Test.YtdamnoleoakehaaGreatDoorH4
namespace Go.Z
open Go.RowKit

section
variable {P : Program} {K : Ctx} {θ : Th} {h : List (Nat × R)} {nx : Nat} {w : World}

theorem freezeH_sound (hs : SatH K θ h nx w) {n : Nat} {d : D} (ha : arrOf h n = some d) :
    SatH K θ (freezeH h n) nx w ∧ ∃ L, θ n = some L ∧ d.at (Free K θ (freezeH h n)) w L ∧ L.wf ∧ L.inn (Free K θ (freezeH h n)) w := by
  unfold arrOf at ha
  split at ha <;> cases ha
  · rename_i hf
    have e : freezeH h n = h := by simp [freezeH, hf]
    rw [e]
    obtain ⟨L, h1, h2, h3, h4⟩ := hs.res n _ hf
    exact ⟨hs, L, h1, h2, h3, h4⟩
  · rename_i T hf
    have e : freezeH h n = (n, .ro d) :: h := by simp [freezeH, hf]
    rw [e]
    have hs' := hs.freeze hf
    obtain ⟨L, h1, h2, h3, h4⟩ := hs'.res n (.ro d) (by rw [hfind_cons, if_pos rfl])
    exact ⟨hs', L, h1, h2, h3, h4⟩

theorem run_sliceBounds_ok (w' : World) (len cap : Nat) (lo hi : Option Value) (l m : Nat) (hl : match lo with | none => l = 0 | some v => ∃ kk, v = .int kk (l : Int)) (hm : match hi with | none => m = len | some v => ∃ kk, v = .int kk (m : Int))
    (hlm : l ≤ m) (hmc : m ≤ cap) : (Instr.sliceBounds true len cap lo hi none).run P w' = .ok (l, m, cap) w' := by
  unfold Instr.sliceBounds
  cases lo with
  | none =>
    cases hi with
    | none => simp only at hl hm; subst hl hm; rfl
    | some v =>
      obtain ⟨kk, rfl⟩ := hm
      simp only at hl; subst hl
      simp [run_sliceBound, hmc]
  | some u =>
    obtain ⟨kk, rfl⟩ := hl
    cases hi with
    | none => simp only at hm; subst hm; simp [run_sliceBound, hlm]
    | some v => obtain ⟨kk', rfl⟩ := hm; simp [run_sliceBound, hlm, hmc]

theorem run_slice_sub {T e es : Nat} {g : Bool} (hT : P.underlying T = some (.slice e)) (hk : kindT P e = some (g, es)) (L : Loc) (lo hi : Option Value) (l m : Nat)
    (hl : match lo with | none => l = 0 | some v => ∃ kk, v = .int kk (l : Int)) (hm : match hi with | none => m = L.len | some v => ∃ kk, v = .int kk (m : Int))
    (hlm : l ≤ m) (hmc : m ≤ L.cap) (w' : World) : (Instr.sliceAt T L.val lo hi none).run P w' = .ok (L.sub l m L.cap es).val w' := by
  obtain ⟨_, k2⟩ := run_kind hk w'
  simp [Instr.sliceAt, run_underlying hT, Instr.slice, Loc.val, run_sliceBounds_ok w' L.len L.cap lo hi l m hl hm hlm hmc, k2, Loc.sub]

theorem run_slice_str {T : Nat} (hT : P.underlying T = some .string) (s : ByteArray) (lo hi : Option Value) (l m : Nat)
    (hl : match lo with | none => l = 0 | some v => ∃ kk, v = .int kk (l : Int)) (hm : match hi with | none => m = s.size | some v => ∃ kk, v = .int kk (m : Int))
    (hlm : l ≤ m) (hmc : m ≤ s.size) (w' : World) : (Instr.sliceAt T (.string s) lo hi none).run P w' = .ok (.string (s.extract l m)) w' := by
  have : (Instr.sliceBounds false s.size s.size lo hi none).run P w' = .ok (l, m, s.size) w' := by
    unfold Instr.sliceBounds
    cases lo with
    | none =>
      cases hi with
      | none => simp only at hl hm; subst hl hm; rfl
      | some v =>
        obtain ⟨kk, rfl⟩ := hm
        simp only at hl; subst hl
        simp [run_sliceBound, hmc]
    | some u =>
      obtain ⟨kk, rfl⟩ := hl
      cases hi with
      | none => simp only at hm; subst hm; simp [run_sliceBound, hlm]
      | some v => obtain ⟨kk', rfl⟩ := hm; simp [run_sliceBound, hlm, hmc]
  simp [Instr.sliceAt, run_underlying hT, Instr.slice, this]

theorem POwn.tail {X : Nat → Prop} {L : Loc} {T S m len l : Nat} {bs : List Nat} {f : Nat → Nat → D} (hp : POwn X w L T S m bs len f) (hl : l ≤ len) :
    POwn X w (L.sub l L.len L.cap 1) T S m (bs.drop l) (len - l) (fun i => f (l + i)) ∧ (∀ b, ((L.sub l L.len L.cap 1).cap ≠ 0 ∧ (L.sub l L.len L.cap 1).b = b) ∨ b ∈ bs.drop l → (L.cap ≠ 0 ∧ L.b = b) ∨ b ∈ bs) := by
  obtain ⟨p1, p2, p3, p4, p5, p6, p7⟩ := hp
  have hcap : (L.sub l L.len L.cap 1).cap = L.cap - l := rfl
  refine ⟨⟨Loc.sub_wf p1 (Nat.le_refl _), by simp [Loc.sub, p2], by simp [Loc.sub]; omega, by simp [p4], p5.sublist (List.drop_sublist _ _), fun hc => ?_, fun i b hi => ?_⟩, fun b hb => ?_⟩
  · obtain ⟨a1, a2, a3⟩ := Loc.sub_ne (l := l) (h := L.len) (m := L.cap) (es := 1) p1 (Nat.le_refl _) (by omega)
    obtain ⟨g1, cs, g2, g3⟩ := p6 (by omega)
    exact ⟨by rw [a2]; exact fun hm => g1 (List.mem_of_mem_drop hm), cs, by rw [a2]; exact g2, by rw [a3, hcap]; omega⟩
  · rw [List.getElem?_drop] at hi
    have hlt := (List.getElem?_eq_some_iff.1 hi).1
    obtain ⟨a1, a2, a3⟩ := Loc.sub_ne (l := l) (h := L.len) (m := L.cap) (es := 1) p1 (Nat.le_refl _) (by omega)
    obtain ⟨g1, g2⟩ := p7 _ _ hi
    refine ⟨?_, g2⟩
    rw [a2, a3, show L.o + l * 1 + i = L.o + (l + i) by omega]
    exact g1
  · rcases hb with ⟨h1, h2⟩ | h1
    · obtain ⟨a1, a2, a3⟩ := Loc.sub_ne (l := l) (h := L.len) (m := L.cap) (es := 1) p1 (Nat.le_refl _) (by omega)
      exact .inl ⟨by omega, by rw [← h2, a2]⟩
    · exact .inr (List.mem_of_mem_drop h1)

theorem sliceP_sound (hs : SatH K θ h nx w) {T e es n : Nat} {g : Bool} {u : Value} {lo hi : Option SV} {vlo vhi : Option Value} {k : HK} (hT : P.underlying T = some (.slice e)) (hk : kindT P e = some (g, es)) (hu : V θ (.a n) u)
    (hlo : match lo, vlo with | none, none => True | some s, some v => V θ s v | _, _ => False)
    (hhi : match hi, vhi with | none, none => True | some s, some v => V θ s v | _, _ => False) (hq : sliceP n es lo hi h nx k) :
    ∃ r h' nx' θ' v', k r h' nx' ∧ Grows K θ θ' nx nx' h' w ∧ V θ' r v' ∧ ∀ w', (Instr.sliceAt T u vlo vhi none).run P w' = .ok v' w' := by
  unfold sliceP at hq
  split at hq <;> try exact hq.elim
  rename_i T' S m bs len f hp
  obtain ⟨hc, hq1⟩ := cond_false hq
  obtain rfl := nbeq hc
  obtain ⟨hf, L, hL, hpo⟩ := pownOf_sound hs hp
  have hpo' := hpo
  obtain ⟨p1, p2, p3, p4, p5, p6, p7⟩ := hpo'
  simp only [V] at hu
  obtain ⟨L1, hL1, rfl⟩ := hu
  obtain rfl := Option.some.inj (hL.symm.trans hL1)
  split at hq1
  · cases vlo <;> cases vhi <;> simp only at hlo hhi
    refine ⟨_, _, _, θ, _, hq1, .refl hs, by simp only [V]; exact ⟨L, hL, rfl⟩, fun w' => ?_⟩
    rw [run_slice_sub hT hk L none none 0 L.len rfl rfl (by omega) p3 w']
    simp only [Loc.val]
    congr 2
    show (if L.cap = 0 then L.a else L.a.map (·.add (0 * 1))) = L.a
    split
    · rfl
    · cases L.a <;> simp [Addr.add_zero']
  · rename_i kl l
    cases vlo <;> simp only at hlo
    cases vhi <;> simp only at hhi
    simp only [V] at hlo; subst hlo
    obtain ⟨⟨c1, c2⟩, hk'⟩ := hq1
    have hle : l.toNat ≤ len := by omega
    have hle' : l = (l.toNat : Int) := by omega
    obtain ⟨t1, t2⟩ := hpo.tail hle
    have hnx := hs.fresh nx (Nat.le_refl _)
    refine ⟨_, _, _, θ.add nx (L.sub l.toNat L.len L.cap 1), _, hk', ⟨?_, Th.add_ext hnx _, by omega, fun m hm => Th.add_other _ _ (by omega)⟩, by simp only [V]; exact ⟨_, Th.add_self _ _ _, rfl⟩,
      fun w' => run_slice_sub hT hk L (some (.int kl l)) none l.toNat L.len ⟨kl, by rw [← hle']⟩ rfl (by omega) p3 w'⟩
    have := hs.trade (ns := [n]) (r := .pown T' S m (bs.drop l.toNat) (len - l.toNat) (fun i => f (l.toNat + i))) (L' := L.sub l.toNat L.len L.cap 1) (w' := w) (fun m hm => by simp at hm; subst hm; exact ⟨L, hL⟩)
      (fun b hb => .inl ⟨n, by simp, _, L, hf, hL, t2 b hb⟩) rfl rfl rfl (Nat.le_refl _) (fun _ _ _ => rfl) (fun X' hX => ?_)
    · simpa [deads] using this
    · refine POwn.mono (fun b hb hfr => ⟨hX b hb hfr, rfl⟩) (fun _ _ => rfl) t1
  · rename_i km z
    cases vlo <;> simp only at hlo
    cases vhi <;> simp only at hhi
    simp only [V] at hhi; subst hhi
    obtain ⟨⟨c1, c2⟩, hk'⟩ := hq1
    have hle' : z = (z.toNat : Int) := by omega
    refine ⟨_, _, _, θ, .slice L.a z.toNat L.cap, hk', .refl hs, by simp only [V]; exact ⟨L, hL, by omega, rfl⟩, fun w' => ?_⟩
    rw [run_slice_sub hT hk L none (some (.int km z)) 0 z.toNat rfl ⟨km, by rw [← hle']⟩ (Nat.zero_le _) (by omega) w']
    simp only [Loc.val, Loc.sub, Nat.sub_zero]
    congr 2
    split
    · rfl
    · cases L.a <;> simp [Addr.add_zero']
  · exact hq1.elim

theorem sliceQ_sound (hs : SatH K θ h nx w) {T : Nat} {s : SV} {u : Value} {lo hi : Option SV} {vlo vhi : Option Value} {k : HK} (hu : V θ s u)
    (hlo : match lo, vlo with | none, none => True | some s, some v => V θ s v | _, _ => False)
    (hhi : match hi, vhi with | none, none => True | some s, some v => V θ s v | _, _ => False) (hq : sliceQ P T s lo hi h nx k) :
    ∃ r h' nx' θ' v', k r h' nx' ∧ Grows K θ θ' nx nx' h' w ∧ V θ' r v' ∧ ∀ w', (Instr.sliceAt T u vlo vhi none).run P w' = .ok v' w' := by
  unfold sliceQ at hq
  split at hq
  · rename_i e n hT
    split at hq <;> try exact hq.elim
    rotate_left
    · rename_i g es hd hk
      exact sliceP_sound hs hT hk hu hlo hhi hq
    rename_i d g es hd hk
    obtain ⟨hc, hq1⟩ := cond_false hq
    have hes := nbeq hc
    simp only [V] at hu
    obtain ⟨L, hL, rfl⟩ := hu
    obtain ⟨L1, hL1, hat1, hw1⟩ := arrOf_sound hs hd
    obtain rfl := Option.some.inj (hL.symm.trans hL1)
    obtain ⟨len1, len2⟩ := D.at_len hat1
    obtain ⟨hs', L2, hL2, hat, hw, hin⟩ := freezeH_sound hs hd
    obtain rfl := Option.some.inj (hL.symm.trans hL2)
    -- what is shown of each of the three forms
    have key : ∀ (l m : Nat) (d' : D), l ≤ m → m ≤ L.len → d'.at (Free K θ (freezeH h n)) w (L.sub l m L.cap es) →
        k (.a nx) ((nx, .ro d') :: freezeH h n) (nx + 1) →
        (∀ w', (Instr.sliceAt T L.val vlo vhi none).run P w' = .ok (L.sub l m L.cap es).val w') →
        ∃ r h' nx' θ' v', k r h' nx' ∧ Grows K θ θ' nx nx' h' w ∧ V θ' r v' ∧ ∀ w', (Instr.sliceAt T L.val vlo vhi none).run P w' = .ok v' w' := by
      intro l m d' hlm hml hd' hk' hrun
      refine ⟨_, _, _, _, _, hk', Grows.add_ro hs' hd' (Loc.sub_wf hw (Nat.le_refl _)) (Loc.sub_inn hw hin (Nat.le_refl _) (by omega) hml), ?_, hrun⟩
      simp only [V]
      exact ⟨_, Th.add_self _ _ _, rfl⟩
    split at hq1
    · cases vlo <;> cases vhi <;> simp only at hlo hhi
      refine ⟨_, _, _, θ, _, hq1, .refl hs, by simp only [V]; exact ⟨L, hL, rfl⟩, fun w' => ?_⟩
      rw [run_slice_sub hT hk L none none 0 L.len rfl rfl (by omega) len2 w']
      simp only [Loc.val]
      congr 2
      show (if L.cap = 0 then L.a else L.a.map (·.add (0 * es))) = L.a
      split
      · rfl
      · cases L.a <;> simp [Addr.add_zero']
    · rename_i kl l
      cases vlo <;> simp only at hlo
      cases vhi <;> simp only at hhi
      rename_i ul
      simp only [V] at hlo; subst hlo
      have hsw : (∃ T' kk xs, hfind h n = some (.own T' (.ints kk xs)) ∧ (0 ≤ l ∧ l ≤ (xs.length : Int)) ∧ k (.vw n l.toNat) h nx) ∨ (∃ T' es' len f', hfind h n = some (.own T' (.recs es' len f')) ∧ l = 1 ∧ 0 < len ∧ k (.a nx) ((nx, .own T' (d.dropD 1)) :: (n, .dead) :: h) (nx + 1)) ∨ ((0 ≤ l ∧ l ≤ (d.len : Int)) ∧ k (.a nx) ((nx, .ro (d.dropD l.toNat)) :: freezeH h n) (nx + 1)) := by
        unfold viewT at hq1
        split at hq1
        · rename_i T' kk xs hf
          exact hq1.imp (fun h => ⟨T', kk, xs, hf, h.1, h.2⟩) .inr
        · rename_i T' es' len f' hf
          rw [sw_iff] at hq1
          by_cases hl1 : l = 1
          · obtain ⟨q1, q2⟩ := hq1.1 (by simpa using hl1)
            exact .inr (.inl ⟨T', es', len, f', hf, hl1, q1, q2⟩)
          · exact .inr (.inr (hq1.2 (by simpa using hl1)))
        · exact .inr (.inr hq1)
      rcases hsw with ⟨T', kk, xs, hf, ⟨c1, c2⟩, hk'⟩ | ⟨T', es', len, f', hf, rfl, hpos, hk'⟩ | hq1
      · have hdd : d = .ints kk xs := by unfold arrOf at hd; rw [hf] at hd; cases hd; rfl
        subst hdd
        have hes1 : es = 1 := hes
        subst hes1
        have hxl : L.len = xs.length := len1
        have hle : l.toNat ≤ L.len := by omega
        have hle' : l = (l.toNat : Int) := by omega
        refine ⟨_, _, _, θ, _, hk', .refl hs, by simp only [V]; exact ⟨L, hL, hle, rfl⟩, fun w' => ?_⟩
        have hr := run_slice_sub hT hk L (some (.int kl l)) none l.toNat L.len ⟨kl, by rw [← hle']⟩ rfl hle len2 w'
        rw [hr]
        simp [Loc.sub, Loc.val]
      · have hdd : d = .recs es' len f' := by unfold arrOf at hd; rw [hf] at hd; cases hd; rfl
        subst hdd
        have hes' : es = es' := hes
        subst hes'
        have hxl : L.len = len := len1
        have hnx := hs.fresh nx (Nat.le_refl _)
        have hr := fun w' => run_slice_sub hT hk L (some (.int kl 1)) none 1 L.len ⟨kl, rfl⟩ rfl (by omega) len2 w'
        have hat' := D.dropD_at (m := L.len - 1) (by simp [D.len]; omega) (D.sub_at (l := 1) (h := L.len) (m := L.cap) (es := es) hw1 hat1 rfl (Nat.le_refl _) (by omega) len2 (Nat.le_refl _))
        obtain ⟨L3, hL3, _, _, hown⟩ := hs.res n _ hf
        obtain rfl := Option.some.inj (hL.symm.trans hL3)
        have hcap : L.cap ≠ 0 := by omega
        obtain ⟨cs, g1, g2⟩ := hown hcap
        have hwf := Loc.sub_wf (l := 1) (h := L.len) (m := L.cap) (es := es) hw1 (Nat.le_refl _)
        refine ⟨_, _, _, θ.add nx (L.sub 1 L.len L.cap es), _, hk', ⟨?_, Th.add_ext hnx _, by omega, fun m hm => Th.add_other _ _ (by omega)⟩, by simp only [V]; exact ⟨_, Th.add_self _ _ _, rfl⟩, hr⟩
        have tr := hs.trade (ns := [n]) (r := .own T' ((D.recs es len f').dropD 1)) (L' := L.sub 1 L.len L.cap es) (w' := w) (fun m hm => by simp at hm; subst hm; exact ⟨L, hL⟩)
          (fun b hb => .inl ⟨n, by simp, _, L, hf, hL, hcap, ?_⟩) rfl rfl rfl (Nat.le_refl _) (fun _ _ _ => rfl) (fun X' hX => ⟨D.at_mono (fun b hb hfr => ⟨hX b hb hfr, rfl⟩) (fun _ => rfl) hat', hwf, fun hc => ?_⟩)
        · simpa [deads] using tr
        · obtain ⟨hb1, hb2⟩ := hb
          have hb1' : L.cap - 1 ≠ 0 := hb1
          obtain ⟨_, a2, _⟩ := Loc.sub_ne (l := 1) (h := L.len) (m := L.cap) (es := es) hw1 (Nat.le_refl _) (by omega)
          rw [← hb2, a2]
        · have hc' : L.cap - 1 ≠ 0 := hc
          obtain ⟨_, a2, a3⟩ := Loc.sub_ne (l := 1) (h := L.len) (m := L.cap) (es := es) hw1 (Nat.le_refl _) (by omega)
          refine ⟨cs, by rw [a2]; exact g1, ?_⟩
          have g2' : L.o + L.cap * es ≤ cs.size := g2
          have e1 : (L.sub 1 L.len L.cap es).cap = L.cap - 1 := rfl
          have e2 : ((D.recs es len f').dropD 1).es = es := rfl
          rw [a3, e1, e2]
          have e3 : L.cap * es = 1 * es + (L.cap - 1) * es := by rw [← Nat.add_mul]; congr 1; omega
          omega
      obtain ⟨⟨c1, c2⟩, hq2⟩ := hq1
      have hle : l.toNat ≤ L.len := by omega
      have hle' : l = (l.toNat : Int) := by omega
      refine key l.toNat L.len _ hle (Nat.le_refl _) (D.dropD_at (by omega) (D.sub_at hw hat hes (Nat.le_refl _) hle len2 (Nat.le_refl _))) hq2 fun w' => ?_
      exact run_slice_sub hT hk L (some (.int kl l)) none l.toNat L.len ⟨kl, by rw [← hle']⟩ rfl hle len2 w'
    · rename_i km m
      cases vlo <;> simp only at hlo
      cases vhi <;> simp only at hhi
      rename_i um
      simp only [V] at hhi; subst hhi
      have own : ∀ T' d', hfind h n = some (.own T' d') → m = 0 → k (.a nx) ((nx, .own T' (d.takeD 0)) :: (n, .dead) :: h) (nx + 1) →
          ∃ r h' nx' θ' v', k r h' nx' ∧ Grows K θ θ' nx nx' h' w ∧ V θ' r v' ∧ ∀ w', (Instr.sliceAt T L.val none (some (.int km m)) none).run P w' = .ok v' w' := by
        intro T' d' hf hm hk'
        have hdd : d = d' := by unfold arrOf at hd; rw [hf] at hd; cases hd; rfl
        subst hdd
        have hnx := hs.fresh nx (Nat.le_refl _)
        have hrun := fun w' => run_slice_sub hT hk L none (some (.int km m)) 0 0 rfl ⟨km, by rw [hm]; rfl⟩ (Nat.le_refl _) (Nat.zero_le _) w'
        have hat0 : ∀ X', (d.takeD 0).at X' w (L.sub 0 0 L.cap es) := by
          intro X'
          cases d with
          | v x => exact hat1.elim
          | ptr _ _ _ => exact hat1.elim
          | fn _ _ _ _ => exact hat1.elim
          | map _ _ => exact hat1.elim
          | ints kk xs => exact ⟨by simp [Loc.sub], by simp [Loc.sub], fun i z hz => by simp at hz⟩
          | recs es n f => exact ⟨by simp [Loc.sub], by simp [Loc.sub], fun i hi => by omega⟩
        have hes0 : (d.takeD 0).es = d.es := by cases d <;> rfl
        have hwf := Loc.sub_wf (l := 0) (h := 0) (m := L.cap) (es := es) hw1 (Nat.le_refl _)
        refine ⟨_, _, _, θ.add nx (L.sub 0 0 L.cap es), _, hk', ⟨?_, Th.add_ext hnx _, by omega, fun m hm => Th.add_other _ _ (by omega)⟩, by simp only [V]; exact ⟨_, Th.add_self _ _ _, rfl⟩, hrun⟩
        by_cases hcap : L.cap = 0
        · exact (hs.kill ⟨L, hL⟩).add_new (Below.refl _ _) (fun b ho => absurd (show (L.sub 0 0 L.cap es).cap = 0 by simp [Loc.sub, hcap]) ho.1) (fun θ' X' _ _ _ => ⟨hat0 X', hwf, fun hne => absurd (show (L.sub 0 0 L.cap es).cap = 0 by simp [Loc.sub, hcap]) hne⟩)
        · obtain ⟨a1, a2, a3⟩ := Loc.sub_ne (l := 0) (h := 0) (m := L.cap) (es := es) hw1 (Nat.le_refl _) (by omega)
          obtain ⟨L3, hL3, _, _, hown⟩ := hs.res n _ hf
          obtain rfl := Option.some.inj (hL.symm.trans hL3)
          obtain ⟨cs, c1, c2⟩ := hown hcap
          refine hs.move hf hL hcap a2 (by simpa [Loc.sub] using hcap) rfl rfl rfl rfl (fun _ _ => rfl) (fun X' _ => ⟨hat0 X', hwf, fun _ => ⟨cs, by rw [a2]; exact c1, ?_⟩⟩)
          rw [a3, hes0]
          simpa [Loc.sub] using c2
      have hsw : (∃ T' d', hfind h n = some (.own T' d') ∧ m = 0 ∧ k (.a nx) ((nx, .own T' (d.takeD 0)) :: (n, .dead) :: h) (nx + 1)) ∨ (∃ T' es' len f', hfind h n = some (.own T' (.recs es' len f')) ∧ (0 < m ∧ m ≤ (len : Int)) ∧ k (.a nx) ((nx, .own T' (d.takeD m.toNat)) :: (n, .dead) :: h) (nx + 1)) ∨ ((0 ≤ m ∧ m ≤ (d.len : Int)) ∧ k (.a nx) ((nx, .ro (d.takeD m.toNat)) :: freezeH h n) (nx + 1)) := by
        unfold ownT at hq1
        split at hq1
        · rename_i T' kx xs' hf
          rw [sw_iff] at hq1
          by_cases hm : m = 0
          · exact .inl ⟨T', _, hf, hm, hq1.1 (by simpa using hm)⟩
          · exact .inr (.inr (hq1.2 (by simpa using hm)))
        · rename_i T' es' len f' hf
          rw [sw_iff] at hq1
          by_cases hm : m = 0
          · rcases hq1.1 (by simpa using hm) with hA | hB
            · exact .inl ⟨T', _, hf, hm, hA⟩
            · exact .inr (.inr hB)
          · rcases hq1.2 (by simpa using hm) with hA | hB
            · exact .inr (.inl ⟨T', es', len, f', hf, hA.1, hA.2⟩)
            · exact .inr (.inr hB)
        · rename_i T' d' _ _ hf
          rw [sw_iff] at hq1
          by_cases hm : m = 0
          · rcases hq1.1 (by simpa using hm) with hA | hB
            · exact .inl ⟨T', d', hf, hm, hA⟩
            · exact .inr (.inr hB)
          · exact .inr (.inr (hq1.2 (by simpa using hm)))
        · exact .inr (.inr hq1)
      rcases hsw with ⟨T', d', e1, e2, e3⟩ | ⟨T', es', len, f', hf, ⟨hm0, hml⟩, hk'⟩ | hq1
      · exact own T' d' e1 e2 e3
      · have hdd : d = .recs es' len f' := by unfold arrOf at hd; rw [hf] at hd; cases hd; rfl
        subst hdd
        have hes' : es = es' := hes
        subst hes'
        have hxl : L.len = len := len1
        have hnx := hs.fresh nx (Nat.le_refl _)
        have hle : m.toNat ≤ L.len := by omega
        have hle' : m = (m.toNat : Int) := by omega
        have hr := fun w' => run_slice_sub hT hk L none (some (.int km m)) 0 m.toNat rfl ⟨km, by rw [← hle']⟩ (Nat.zero_le _) (by omega) w'
        have hat' := D.takeD_at (D.sub_at (l := 0) (h := m.toNat) (m := L.cap) (es := es) hw1 hat1 rfl (Nat.le_refl _) (Nat.zero_le _) (by omega) hle)
        obtain ⟨L3, hL3, _, _, hown⟩ := hs.res n _ hf
        obtain rfl := Option.some.inj (hL.symm.trans hL3)
        have hcap : L.cap ≠ 0 := by omega
        obtain ⟨cs, g1, g2⟩ := hown hcap
        have hwf := Loc.sub_wf (l := 0) (h := m.toNat) (m := L.cap) (es := es) hw1 (Nat.le_refl _)
        obtain ⟨_, a2, a3⟩ := Loc.sub_ne (l := 0) (h := m.toNat) (m := L.cap) (es := es) hw1 (Nat.le_refl _) (by omega)
        refine ⟨_, _, _, θ.add nx (L.sub 0 m.toNat L.cap es), _, hk', ⟨?_, Th.add_ext hnx _, by omega, fun m hm => Th.add_other _ _ (by omega)⟩, by simp only [V]; exact ⟨_, Th.add_self _ _ _, rfl⟩, hr⟩
        have tr := hs.trade (ns := [n]) (r := .own T' ((D.recs es len f').takeD m.toNat)) (L' := L.sub 0 m.toNat L.cap es) (w' := w) (fun m hm => by simp at hm; subst hm; exact ⟨L, hL⟩)
          (fun b hb => .inl ⟨n, by simp, _, L, hf, hL, hcap, ?_⟩) rfl rfl rfl (Nat.le_refl _) (fun _ _ _ => rfl) (fun X' hX => ⟨D.at_mono (fun b hb hfr => ⟨hX b hb hfr, rfl⟩) (fun _ => rfl) hat', hwf, fun hc => ?_⟩)
        · simpa [deads] using tr
        · rw [← hb.2, a2]
        · refine ⟨cs, by rw [a2]; exact g1, ?_⟩
          have g2' : L.o + L.cap * es ≤ cs.size := g2
          have e1 : (L.sub 0 m.toNat L.cap es).cap = L.cap := rfl
          have e2 : ((D.recs es len f').takeD m.toNat).es = es := rfl
          rw [a3, e1, e2]
          omega
      obtain ⟨⟨c1, c2⟩, hq2⟩ := hq1
      have hle : m.toNat ≤ L.len := by omega
      have hle' : m = (m.toNat : Int) := by omega
      refine key 0 m.toNat _ (Nat.zero_le _) hle (D.takeD_at (D.sub_at (h := m.toNat) hw hat hes (Nat.le_refl _) (Nat.zero_le _) (by omega) hle)) hq2 fun w' => ?_
      exact run_slice_sub hT hk L none (some (.int km m)) 0 m.toNat rfl ⟨km, by rw [← hle']⟩ (Nat.zero_le _) (by omega) w'
    · rename_i kl l km m
      cases vlo <;> simp only at hlo
      cases vhi <;> simp only at hhi
      rename_i ul um
      obtain ⟨⟨c1, c2, c3⟩, hq2⟩ := hq1
      simp only [V] at hlo hhi; subst hlo hhi
      have hle : m.toNat ≤ L.len := by omega
      have hle' : m = (m.toNat : Int) := by omega
      have hll' : l = (l.toNat : Int) := by omega
      have hlm : l.toNat ≤ m.toNat := by omega
      refine key l.toNat m.toNat _ hlm hle (D.sub_at hw hat hes (Nat.le_refl _) hlm (by omega) hle) hq2 fun w' => ?_
      exact run_slice_sub hT hk L (some (.int kl l)) (some (.int km m)) l.toNat m.toNat ⟨kl, by rw [← hll']⟩ ⟨km, by rw [← hle']⟩ hlm (by omega) w'
    · exact hq1.elim
  · rename_i e hT
    split at hq <;> try exact hq.elim
    rename_i gk km m hk
    obtain ⟨g, es⟩ := gk
    cases vlo <;> simp only at hlo
    cases vhi <;> simp only at hhi
    simp only [V] at hu hhi; subst hu hhi
    obtain ⟨rfl, hk'⟩ := hq
    refine ⟨_, _, _, θ, .slice none 0 0, hk', .refl hs, by simp only [V], fun w' => ?_⟩
    exact run_slice_sub hT hk ⟨none, 0, 0⟩ none (some (.int km 0)) 0 0 rfl ⟨km, rfl⟩ (Nat.le_refl _) (Nat.le_refl _) w'
  · rename_i str hT
    simp only [V] at hu; subst hu
    split at hq
    · cases vlo <;> cases vhi <;> simp only at hlo hhi
      exact ⟨_, _, _, θ, _, hq, .refl hs, V_c _ _, fun w' => run_slice_str hT str none none 0 str.size rfl rfl (Nat.zero_le _) (Nat.le_refl _) w'⟩
    · rename_i kl l
      cases vlo <;> simp only at hlo
      cases vhi <;> simp only at hhi
      obtain ⟨⟨c1, c2⟩, hq2⟩ := hq
      simp only [V] at hlo; subst hlo
      exact ⟨_, _, _, θ, _, hq2, .refl hs, V_c _ _, fun w' => run_slice_str hT str (some (.int kl l)) none l.toNat str.size ⟨kl, by rw [Int.toNat_of_nonneg c1]⟩ rfl (by omega) (Nat.le_refl _) w'⟩
    · rename_i km m
      cases vlo <;> simp only at hlo
      cases vhi <;> simp only at hhi
      obtain ⟨⟨c1, c2⟩, hq2⟩ := hq
      simp only [V] at hhi; subst hhi
      exact ⟨_, _, _, θ, _, hq2, .refl hs, V_c _ _, fun w' => run_slice_str hT str none (some (.int km m)) 0 m.toNat rfl ⟨km, by rw [Int.toNat_of_nonneg c1]⟩ (Nat.zero_le _) (by omega) w'⟩
    · rename_i kl l km m
      cases vlo <;> simp only at hlo
      cases vhi <;> simp only at hhi
      obtain ⟨⟨c1, c2, c3⟩, hq2⟩ := hq
      simp only [V] at hlo hhi; subst hlo hhi
      exact ⟨_, _, _, θ, _, hq2, .refl hs, V_c _ _, fun w' => run_slice_str hT str (some (.int kl l)) (some (.int km m)) l.toNat m.toNat ⟨kl, by rw [Int.toNat_of_nonneg c1]⟩ ⟨km, by rw [Int.toNat_of_nonneg (by omega)]⟩ (by omega) (by omega) w'⟩
    · exact hq.elim
  · exact hq.elim

theorem run_slice00 {T e es : Nat} {g : Bool} (hT : P.underlying T = some (.slice e)) (hk : kindT P e = some (g, es)) (a : Option Addr) (len cap : Nat) (k1 k2 : IntKind) (w' : World) :
    (Instr.sliceAt T (.slice a len cap) none (some (.int k1 0)) (some (.int k2 0))).run P w' = .ok (.slice a 0 0) w' := by
  obtain ⟨_, k3⟩ := run_kind hk w'
  have h1 : (Instr.sliceBounds true len cap none (some (.int k1 0)) (some (.int k2 0))).run P w' = .ok (0, 0, 0) w' := by
    simp [Instr.sliceBounds, run_sliceBound]
  simp [Instr.sliceAt, run_underlying hT, Instr.slice, h1, k3]

theorem slice0Q_sound (hs : SatH K θ h nx w) {T : Nat} {s m c : SV} {u vm vc : Value} {k : HK} (hu : V θ s u) (hm : V θ m vm) (hc : V θ c vc) (hq : slice0Q P T s m c h nx k) :
    ∃ r h' nx' θ' v', k r h' nx' ∧ Grows K θ θ' nx nx' h' w ∧ V θ' r v' ∧ ∀ w', (Instr.sliceAt T u none (some vm) (some vc)).run P w' = .ok v' w' := by
  unfold slice0Q at hq
  split at hq <;> try exact hq.elim
  rename_i e k1 k2 hT
  simp only [V] at hm hc
  subst hm hc
  split at hq
  · split at hq <;> try exact hq.elim
    rename_i gk hk
    obtain ⟨g, es⟩ := gk
    simp only [V] at hu; subst hu
    exact ⟨_, _, _, θ, _, hq, .refl hs, by simp only [V], fun w' => run_slice00 hT hk _ _ _ _ _ w'⟩
  · rename_i n
    split at hq <;> try exact hq.elim
    rename_i d gk hd hk
    obtain ⟨g, es⟩ := gk
    simp only [V] at hu
    obtain ⟨L, hL, rfl⟩ := hu
    obtain ⟨L1, hL1, hat, hw⟩ := arrOf_sound hs hd
    have hz : ∀ X', (d.takeD 0).at X' w { a := L.a, len := 0, cap := 0 } := by
      intro X'
      cases d with
      | v x => exact hat.elim
      | ptr _ _ _ => exact hat.elim
      | fn _ _ _ _ => exact hat.elim
      | map _ _ => exact hat.elim
      | ints kk xs => exact ⟨by simp, by simp, fun i z hz => by simp at hz⟩
      | recs es n f => exact ⟨by simp, by simp, fun i hi => by omega⟩
    refine ⟨_, _, _, θ.add nx { a := L.a, len := 0, cap := 0 }, _, hq, ⟨?_, Th.add_ext (hs.fresh nx (Nat.le_refl _)) _, by omega, fun n hn => Th.add_other _ _ (by omega)⟩,
      by simp only [V]; exact ⟨_, Th.add_self _ _ _, rfl⟩, fun w' => run_slice00 hT hk _ _ _ _ _ w'⟩
    refine hs.add_new (Below.refl _ _) (fun _ ho => absurd rfl ho.1) (fun θ' X' _ _ _ => ⟨hz X', .inl rfl, fun hne => absurd rfl hne⟩)
  · exact hq.elim

theorem splice_foldl : ∀ (cs : List Value) (off : Nat) (arr : Array Value), off + cs.length ≤ arr.size →
    ((cs.zipIdx off).foldl (fun a (x : Value × Nat) => a.setIfInBounds x.2 x.1) arr).toList = arr.toList.take off ++ (cs ++ arr.toList.drop (off + cs.length))
  | [], off, arr, _ => by simp
  | c :: cs, off, arr, hle => by
    simp only [List.length_cons] at hle
    simp only [List.zipIdx_cons, List.foldl_cons]
    rw [splice_foldl cs (off + 1) _ (by simp; omega)]
    have hlt : off < arr.toList.length := by simp; omega
    have e1 : (arr.setIfInBounds off c).toList = arr.toList.set off c := by simp
    rw [e1]
    have hd : arr.toList.drop off = arr.toList[off] :: arr.toList.drop (off + 1) := (List.getElem_cons_drop hlt).symm
    have e2 : (arr.toList.set off c).take (off + 1) = arr.toList.take off ++ [c] := by
      rw [List.take_succ_eq_append_getElem (by simpa using hlt), List.take_set_of_le (Nat.le_refl _)]
      simp
    have e3 : (arr.toList.set off c).drop (off + 1 + cs.length) = arr.toList.drop (off + (cs.length + 1)) := by
      rw [List.drop_set_of_lt (by omega)]
      congr 1; omega
    rw [e2, e3]
    simp
end
end Go.Z

namespace Go.Z
open Go.RowKit

section
variable {P : Program} {K : Ctx} {θ : Th} {h : List (Nat × R)} {nx : Nat} {w : World}

theorem splice_zip (cs : List Value) (off : Nat) : ∀ (n : Nat) (arr : Array Value), (cs.zipIdx n).foldl (fun a (x : Value × Nat) => a.setIfInBounds (off + x.2) x.1) arr = (cs.zipIdx (off + n)).foldl (fun a (x : Value × Nat) => a.setIfInBounds x.2 x.1) arr := by
  induction cs with
  | nil => intro n arr; rfl
  | cons c cs ih =>
    intro n arr
    simp only [List.zipIdx_cons, List.foldl_cons]
    rw [ih (n + 1)]
    rfl

theorem fill_step (cells : Array Value) (off : Nat) (cs : Array Value) (hle : off + cs.size ≤ cells.size) :
    (cs.zipIdx.foldl (fun a (x : Value × Nat) => a.setIfInBounds (off + x.2) x.1) cells).toList = cells.toList.take off ++ (cs.toList ++ cells.toList.drop (off + cs.size)) := by
  rw [← Array.foldl_toList, Array.toList_zipIdx, splice_zip cs.toList off 0]
  simpa using splice_foldl cs.toList off cells (by simpa using hle)

def PV (θ : Th) : List (Nat × SV) → List (Nat × Value) → Prop
  | [], [] => True
  | x :: l, y :: m => (x.1 = y.1 ∧ V θ x.2 y.2) ∧ PV θ l m
  | _, _ => False

theorem fillS_sound {placeV placeS : Nat → Option (Nat × Nat)} (hp : ∀ i r, placeS i = some r → placeV i = some r) :
    ∀ (parts : List (Nat × SV)) (vparts : List (Nat × Value)) (cells : List SV) (vcells : Array Value) (r : List SV),
      PV θ parts vparts → VL θ cells vcells.toList → fillS placeS cells parts = some r →
      ∃ out : Array Value, Instr.fill placeV vcells vparts = some out ∧ VL θ r out.toList
  | [], _ :: _, _, _, _, hf, _, _ => hf.elim
  | _ :: _, [], _, _, _, hf, _, _ => hf.elim
  | [], [], cells, vcells, r, hf, hv, hr => by
    simp [fillS] at hr; subst hr
    exact ⟨vcells, rfl, hv⟩
  | (i, s) :: rest, (j, v) :: ys, cells, vcells, r, hf, hv, hr => by
      obtain ⟨⟨hj, hvv⟩, ht⟩ := hf
      simp only at hj hvv
      subst hj
      unfold fillS at hr
      split at hr <;> try (cases hr; done)
      rename_i off size cs hpl hcs
      cases hc : (Nat.beq cs.length size && Nat.ble (off + size) cells.length) with
      | false => rw [hc] at hr; cases hr
      | true =>
        rw [hc] at hr
        simp only [cond_true] at hr
        simp only [Bool.and_eq_true] at hc
        have e1 := nbeq hc.1
        have e2 := nble hc.2
        have hcv := V_cellsS hcs hvv
        have l1 := VL_length hcv
        have l2 := VL_length hv
        have hsz : v.cells.size = size := by have : v.cells.toList.length = v.cells.size := by simp
                                             omega
        have hsz2 : vcells.toList.length = vcells.size := by simp
        have hst := fill_step vcells off v.cells (by omega)
        have hvl : VL θ (cells.take off ++ (cs ++ cells.drop (off + size))) (v.cells.zipIdx.foldl (fun a (x : Value × Nat) => a.setIfInBounds (off + x.2) x.1) vcells).toList := by
          rw [hst, hsz]
          exact VL_append (VL_take off hv) (VL_append hcv (VL_drop _ hv))
        obtain ⟨out, h1, h2⟩ := fillS_sound hp rest ys _ _ r ht hvl hr
        refine ⟨out, ?_, h2⟩
        unfold Instr.fill
        rw [hp i _ hpl]
        simp only
        rw [if_neg (by simp only [Bool.or_eq_true, decide_eq_true_eq, not_or]; exact ⟨fun hne => hne hsz, by omega⟩)]
        exact h1

theorem run_mapM_list {α β : Type} (f : α → Sem β) (g : α → β) (w' : World) : ∀ (l : List α), (∀ a ∈ l, (f a).run P w' = .ok (g a) w') → (l.mapM f).run P w' = .ok (l.map g) w'
  | [], _ => by simp
  | a :: l, hl => by
    have h1 := hl a (by simp)
    have h2 := run_mapM_list f g w' l (fun b hb => hl b (by simp [hb]))
    simp [List.mapM_cons, h1, h2]

theorem run_mapM_array {α β : Type} (f : α → Sem β) (g : α → β) (w' : World) (xs : Array α) (hl : ∀ a ∈ xs.toList, (f a).run P w' = .ok (g a) w') : (xs.mapM f).run P w' = .ok (xs.map g) w' := by
  rw [Array.mapM_eq_mapM_toList]
  simp only [Sem.run_map, run_mapM_list f g w' xs.toList hl, Result.andThen]
  congr 1
  apply Array.ext'
  simp

theorem run_zero {T : Nat} {i : TypeInfo} {z : Value} (hi : P.info? T = some i) (hz : i.zero = some z) (w' : World) : (zeroValue T).run P w' = .ok z w' := by
  simp [zeroValue, run_typeInfo hi, hz]

theorem buildQ0_sound {T : Nat} {parts : List (Nat × Value)} {ixs : List Nat} {vs : List SV} {k : SV → Prop}
    (hix : parts.map (·.1) = ixs) (hvs : VL θ vs (parts.map (·.2))) (hq : buildQ0 P T ixs vs k) :
    ∃ r v', k r ∧ V θ r v' ∧ ∀ w', (Instr.build T parts.toArray).run P w' = .ok v' w' := by
  unfold buildQ0 at hq
  split at hq <;> try exact hq.elim
  rename_i z pl hz hpl hall
  split at hq <;> try exact hq.elim
  rename_i cs hcs
  unfold zeroS at hz
  split at hz <;> try (cases hz; done)
  rename_i ti hti
  split at hz <;> cases hz
  rename_i zv hzv
  have hf2 : PV θ (ixs.zip vs) parts := by
    subst hix
    clear hcs hq
    induction parts generalizing vs with
    | nil => simp [PV]
    | cons p ps ih =>
      cases vs with
      | nil => simp [VL] at hvs
      | cons s ss =>
        simp only [List.map_cons, VL] at hvs
        simp only [List.map_cons, List.zip_cons_cons]
        exact ⟨⟨rfl, hvs.1⟩, ih hvs.2⟩
  have hz0 : VL θ (zv.cells.toList.map liftK1) zv.cells.toList := VL_liftK1 θ _
  unfold placesT at hpl
  split at hpl
  · rename_i fs hu
    cases hpl
    obtain ⟨out, h1, h2⟩ := fillS_sound (θ := θ) (placeV := fun i => (fs.map fun f => (f.offset, P.cellsOf f.type))[i]?) (fun i r hr => by
      cases hfi : fs[i]? with
      | none => rw [hfi] at hr; cases hr
      | some f =>
        rw [hfi] at hr
        simp only at hr
        cases hti' : P.info? f.type with
        | none => rw [hti'] at hr; cases hr
        | some t =>
          rw [hti'] at hr; cases hr
          simp [hfi, Program.cellsOf, hti']) _ _ _ _ _ hf2 hz0 hcs
    refine ⟨.agg cs, .agg out, hq, by simp only [V]; exact ⟨out.toList, by simp, h2⟩, fun w' => ?_⟩
    have hm : (fs.mapM fun f => (do pure (f.offset, ← sizeOf f.type) : Sem (Nat × Nat))).run P w' = .ok (fs.map fun f => (f.offset, P.cellsOf f.type)) w' := by
      refine run_mapM_array _ _ w' fs (fun f hf => ?_)
      unfold allInfo at hall
      rw [hu] at hall
      have := List.all_eq_true.1 hall f hf
      obtain ⟨t, ht⟩ := Option.isSome_iff_exists.1 this
      simp [run_sizeOf ht, Program.cellsOf, ht]
    simp only [Instr.build, Sem.run_bind, run_zero hti hzv, Result.andThen, run_underlying hu, hm]
    rw [h1]
    rfl
  · rename_i n e hu
    split at hpl <;> cases hpl
    rename_i t ht
    obtain ⟨out, h1, h2⟩ := fillS_sound (θ := θ) (placeV := fun i => some (i * t.size, t.size)) (fun i r hr => hr) _ _ _ _ _ hf2 hz0 hcs
    refine ⟨.agg cs, .agg out, hq, by simp only [V]; exact ⟨out.toList, by simp, h2⟩, fun w' => ?_⟩
    simp only [Instr.build, Sem.run_bind, run_zero hti hzv, Result.andThen, run_underlying hu, run_sizeOf ht]
    rw [h1]
    rfl
  · cases hpl

theorem q1_spec {vs : List SV} {k : SV → Prop} (hq : q1 vs k) : ∃ s, vs = [s] ∧ k s := by
  unfold q1 at hq; split at hq
  · exact ⟨_, rfl, hq⟩
  · exact hq.elim
theorem q2_spec {vs : List SV} {k : SV → SV → Prop} (hq : q2 vs k) : ∃ s t, vs = [s, t] ∧ k s t := by
  unfold q2 at hq; split at hq
  · exact ⟨_, _, rfl, hq⟩
  · exact hq.elim

theorem intsOf_sound {kk : IntKind} : ∀ {cs : List SV} {zs : List Int} {us : List Value}, intsOf kk cs = some zs → VL θ cs us → us = zs.map (Value.int kk)
  | [], zs, us, h1, h2 => by simp [intsOf] at h1; subst h1; rw [VL_nil_left h2]; rfl
  | c :: cs, zs, us, h1, h2 => by
    obtain ⟨v, vs, rfl, hv, hvs⟩ := VL_cons_left h2
    unfold intsOf at h1
    split at h1 <;> try (cases h1; done)
    · rename_i heq; cases heq
    · rename_i k' z l heq
      cases heq
      split at h1 <;> try (cases h1; done)
      rename_i zs' hz
      split at h1 <;> cases h1
      rename_i hk; subst hk
      simp only [V] at hv
      rw [hv, intsOf_sound hz hvs]; rfl

theorem arrS_sound {T : Nat} {s : SV} {v : Value} (hv : V θ s v) : V θ (arrS P T s) v := by
  unfold arrS
  split
  · split
    · split
      · rename_i zs hz
        simp only [V] at hv ⊢
        obtain ⟨cs, rfl, h⟩ := hv
        rw [intsOf_sound hz h]
      · exact hv
    · exact hv
  · exact hv
theorem buildQ_sound {T : Nat} {parts : List (Nat × Value)} {ixs : List Nat} {vs : List SV} {k : SV → Prop}
    (hix : parts.map (·.1) = ixs) (hvs : VL θ vs (parts.map (·.2))) (hq : buildQ P T ixs vs k) :
    ∃ r v', k r ∧ V θ r v' ∧ ∀ w', (Instr.build T parts.toArray).run P w' = .ok v' w' := by
  obtain ⟨r, v', h1, h2, h3⟩ := buildQ0_sound hix hvs hq
  exact ⟨_, v', h1, arrS_sound h2, h3⟩

def readsOf : Op → List SV → List SV
  | .load .., vs => vs
  | .convert .., vs => vs
  | .lookup .., vs => vs
  | .call _, vs => vs.filter isMapS
  | _, _ => []
where
  isMapS : SV → Bool
    | .m _ => true
    | _ => false

def QOut (P : Program) (K : Ctx) (θ : Th) (nx : Nat) (w : World) (rd : List SV) (k : HK) (o : Oper) (ρ : Operand → Value) : Prop :=
  ∃ r h' nx' θ' v', k r h' nx' ∧ Grows K θ θ' nx nx' h' w ∧ V θ' r v' ∧ ∀ w', (∀ s, s ∈ rd → Rd θ s w w') → (execOp ρ o).run P w' = .ok (.value v') w'

theorem QOut.pure {rd : List SV} {k : HK} {o : Oper} {ρ : Operand → Value} {r : SV} {v : Value} (hs : SatH K θ h nx w) (hk : k r h nx) (hv : V θ r v) (hrun : ∀ w', (∀ s, s ∈ rd → Rd θ s w w') → (execOp ρ o).run P w' = .ok (.value v) w') :
    QOut P K θ nx w rd k o ρ := ⟨r, h, nx, θ, v, hk, .refl hs, hv, hrun⟩

theorem run_v {s : Sem Value} {v : Value} {w' : World} (hrun : s.run P w' = .ok v w') : (do pure (Next.value (← s)) : Sem Next).run P w' = .ok (.value v) w' := by
  simp [hrun]

theorem sliceOpQ_sound (hs : SatH K θ h nx w) {T : Nat} {ρ : Operand → Value} {x : Operand} {lo hi mx : Option Operand} {vs : List SV} {k : HK}
    (hvs : VL θ vs ((#[x] ++ lo.toArray ++ hi.toArray ++ mx.toArray).toList.map ρ)) (hq : sliceOpQ P T lo.isSome hi.isSome mx.isSome vs h nx k) :
    ∃ r h' nx' θ' v', k r h' nx' ∧ Grows K θ θ' nx nx' h' w ∧ V θ' r v' ∧ ∀ w', (Instr.sliceAt T (ρ x) (lo.map ρ) (hi.map ρ) (mx.map ρ)).run P w' = .ok v' w' := by
  unfold sliceOpQ at hq
  split at hq <;> rename_i e1 e2 e3 <;> (try exact hq.elim) <;> cases lo <;> cases hi <;> cases mx <;> (try simp at e1) <;> (try simp at e2) <;> (try simp at e3) <;> simp [VL] at hvs
  · exact sliceQ_sound (vlo := none) (vhi := none) hs hvs trivial trivial hq
  · exact sliceQ_sound (vlo := some _) (vhi := none) hs hvs.1 hvs.2 trivial hq
  · exact sliceQ_sound (vlo := none) (vhi := some _) hs hvs.1 trivial hvs.2 hq
  · exact sliceQ_sound (vlo := some _) (vhi := some _) hs hvs.1 hvs.2.1 hvs.2.2 hq
  · exact slice0Q_sound hs hvs.1 hvs.2.1 hvs.2.2 hq

theorem stepQ_sound (hs : SatH K θ h nx w) {o : Oper} {ρ : Operand → Value} {vs : List SV} {k : HK} (hvs : VL θ vs (o.op.operands.toList.map ρ))
    (hq : stepQ P o.op vs h nx k) : QOut P K θ nx w (readsOf o.op vs) k o ρ := by
  obtain ⟨dst, op, type, pos, after, guard⟩ := o
  simp only at hvs hq
  unfold stepQ at hq
  split at hq
  · obtain ⟨s, rfl, hk⟩ := q1_spec hq
    simp [Op.operands, VL] at hvs
    exact .pure hs hk hvs fun w' _ => rfl
  · obtain ⟨s, rfl, hk⟩ := q1_spec hq
    simp [Op.operands, VL] at hvs
    exact .pure hs hk hvs fun w' _ => rfl
  · obtain ⟨s, rfl, hk⟩ := q1_spec hq
    simp [Op.operands, VL] at hvs
    obtain ⟨r, v', h1, h2, h3⟩ := fieldAddrQ_sound hvs hk
    exact .pure hs h1 h2 fun w' _ => run_v (h3 w')
  · obtain ⟨s, rfl, hk⟩ := q1_spec hq
    simp [Op.operands, VL] at hvs
    obtain ⟨r, h', nx', θ', v', h1, h2, h3, h4⟩ := loadQ_sound hs hvs hk
    exact ⟨r, h', nx', θ', v', h1, h2, h3, fun w' hw' => run_v (h4 w' (hw' s (by simp [readsOf])))⟩
  · obtain ⟨s, rfl, hk⟩ := q1_spec hq
    simp [Op.operands, VL] at hvs
    unfold nilCheckQ at hk
    rename_i x
    split at hk
    · refine .pure hs hk hvs fun w' _ => ?_
      simp only [V] at hvs
      obtain ⟨L, _, hv⟩ := hvs
      simp [execOp, hv]
    · refine .pure hs hk hvs fun w' _ => ?_
      simp only [V] at hvs
      obtain ⟨L, _, _, hv⟩ := hvs
      simp [execOp, hv]
    · refine .pure hs hk hvs fun w' _ => ?_
      simp only [V] at hvs
      obtain ⟨L, hv, _⟩ := hvs
      simp [execOp, hv]
    · refine .pure hs hk hvs fun w' _ => ?_
      simp only [V] at hvs
      obtain ⟨L, _, _, hv⟩ := hvs
      simp [execOp, hv]
    · refine .pure hs hk hvs fun w' _ => ?_
      simp only [V] at hvs
      simp [execOp, hvs]
    · exact hk.elim
  · obtain ⟨s, t, rfl, hk⟩ := q2_spec hq
    simp [Op.operands, VL] at hvs
    split at hk
    · rename_i p hp
      obtain ⟨r, v', h1, h2, h3⟩ := nilQ_sound hs hvs.1 hvs.2 hp hk
      exact .pure hs h1 h2 fun w' _ => run_v (h3 _ _ w')
    · obtain ⟨r, v', h1, h2, h3⟩ := binQ_sound hvs.1 hvs.2 hk
      exact .pure hs h1 h2 fun w' _ => run_v (h3 _ _ w')
  · obtain ⟨s, rfl, hk⟩ := q1_spec hq
    simp [Op.operands, VL] at hvs
    obtain ⟨r, v', h1, h2, h3⟩ := unQ_sound (P := P) hvs hk
    exact .pure hs h1 h2 fun w' _ => run_v (h3 w')
  · obtain ⟨s, rfl, hk⟩ := q1_spec hq
    simp [Op.operands, VL] at hvs
    obtain ⟨r, v', h1, h2, h3⟩ := convQ_sound hs hvs hk
    exact .pure hs h1 h2 fun w' hw' => run_v (h3 w' (hw' s (by simp [readsOf])))
  · obtain ⟨s, rfl, hk⟩ := q1_spec hq
    simp [Op.operands, VL] at hvs
    obtain ⟨r, v', h1, h2, h3⟩ := extractQ_sound (P := P) hvs hk
    exact .pure hs h1 h2 fun w' _ => run_v (h3 w')
  · obtain ⟨s, rfl, hk⟩ := q1_spec hq
    simp [Op.operands, VL] at hvs
    obtain ⟨r, v', h1, h2, h3⟩ := fieldQ_sound hvs hk
    exact .pure hs h1 h2 fun w' _ => run_v (h3 w')
  · obtain ⟨s, t, rfl, hk⟩ := q2_spec hq
    simp [Op.operands, VL] at hvs
    split at hk
    · obtain ⟨r, h', nx', θ', v', h1, h2, h3, h4⟩ := indexG_sound hs hvs.1 hvs.2 hk
      exact ⟨r, h', nx', θ', v', h1, h2, h3, fun w' _ => run_v (h4 w')⟩
    · obtain ⟨r, v', h1, h2, h3⟩ := indexAddrQ_sound hs hvs.1 hvs.2 hk
      exact .pure hs h1 h2 fun w' _ => run_v (h3 w')
  · obtain ⟨s, t, rfl, hk⟩ := q2_spec hq
    simp [Op.operands, VL] at hvs
    obtain ⟨r, v', h1, h2, h3⟩ := indexQ_sound hvs.1 hvs.2 hk
    exact .pure hs h1 h2 fun w' _ => run_v (h3 w')
  · rename_i T x lo hi mx
    obtain ⟨r, h', nx', θ', v', h1, h2, h3, h4⟩ := sliceOpQ_sound (ρ := ρ) hs (by simpa [Op.operands] using hvs) hq
    exact ⟨r, h', nx', θ', v', h1, h2, h3, fun w' _ => run_v (h4 w')⟩
  · rename_i fn first captured
    split at hq <;> try exact hq.elim
    rename_i f
    refine .pure hs hq (v := .func (.func f) (first.map ρ) (captured.map ρ)) ?_ fun w' _ => by simp [execOp, Instr.makeFunc]
    simp only [V]
    refine ⟨(first ++ captured).toList.map ρ, ?_, hvs⟩
    have e1 : ((first ++ captured).toList.map ρ).take first.toList.length = first.toList.map ρ := by
      simp
    have e2 : ((first ++ captured).toList.map ρ).drop first.toList.length = captured.toList.map ρ := by
      simp
    rw [e1, e2, ← Array.toList_map, ← Array.toList_map]
  · obtain ⟨s, t, rfl, hk⟩ := q2_spec hq
    simp [Op.operands, VL] at hvs
    unfold lookupX at hk
    split at hk
    · rename_i hmo
      obtain ⟨r, v', h1, h2, h3⟩ := lookupS_sound hs hmo hvs.1 hvs.2 hk
      exact .pure hs h1 h2 fun w' hw' => run_v (h3 w' (hw' s (by simp [readsOf])))
    · split at hk
      · rename_i hmo
        obtain ⟨r, h', nx', θ', v', h1, h2, h3, h4⟩ := lookupR_sound hs hmo hvs.1 hvs.2 hk
        exact ⟨r, h', nx', θ', v', h1, h2, h3, fun w' hw' => run_v (h4 w' (hw' s (by simp [readsOf])))⟩
      · obtain ⟨r, v', h1, h2, h3⟩ := lookupQ_sound hs hvs.1 hvs.2 hk
        exact .pure hs h1 h2 fun w' hw' => run_v (h3 w' (hw' s (by simp [readsOf])))
  · rename_i T parts
    obtain ⟨r, v', h1, h2, h3⟩ := buildQ_sound (θ := θ) (parts := parts.toList.map fun (i, x) => (i, ρ x)) (by simp [Function.comp_def]) (by simpa [Op.operands, Function.comp_def] using hvs) hq
    have e : parts.map (fun (x : Nat × Operand) => (x.1, ρ x.2)) = (parts.toList.map fun (x : Nat × Operand) => (x.1, ρ x.2)).toArray := by apply Array.ext'; simp
    exact .pure hs h1 h2 fun w' _ => run_v (by
      show (Instr.build T (parts.map (fun (x : Nat × Operand) => (x.1, ρ x.2)))).run P w' = _
      rw [e]; exact h3 w')
  · rename_i T x
    obtain ⟨s, rfl, hk⟩ := q1_spec hq
    simp [Op.operands, VL] at hvs
    unfold ifaceQ at hk
    split at hk <;> try exact hk.elim
    rename_i d hn hd
    refine .pure hs hk (v := .iface T (ρ x)) (by simp only [V]; exact ⟨_, rfl, hvs⟩) fun w' _ => run_v ?_
    simp only [Instr.makeInterface, Sem.run_bind, run_underlying hd, Result.andThen]
    cases d <;> first | (exfalso; exact hn _ hd) | rfl
  · rename_i x xT T ok
    obtain ⟨s, rfl, hk⟩ := q1_spec hq
    simp [Op.operands, VL] at hvs
    unfold assertQ at hk
    split at hk <;> try exact hk.elim
    rename_i d t s' hn hd
    cases hb : Nat.beq t T with
    | false => rw [hb] at hk; exact hk.elim
    | true =>
      rw [hb] at hk
      obtain rfl := Nat.eq_of_beq_eq_true hb
      simp only [V] at hvs
      obtain ⟨u, hu, hv⟩ := hvs
      refine .pure hs hk hv fun w' _ => run_v ?_
      rw [hu]
      simp only [Instr.typeAssert, Sem.run_bind, run_underlying hd, Result.andThen]
      cases d <;> first | (exfalso; exact hn _ hd) | simp
  · rename_i c
    split at hq <;> try exact hq.elim
    · rename_i hcal
      obtain ⟨callee, args, ts⟩ := c
      simp only at hcal
      subst hcal
      obtain ⟨s, rfl, hk⟩ := q1_spec hq
      obtain ⟨r, v', h1, h2, h3⟩ := lenQ_sound (u := ρ (args.toList.headD (.const undef))) hs (by
        simp [Op.operands, Call.operands] at hvs
        cases hl : args.toList with
        | nil => rw [hl] at hvs; simp [VL] at hvs
        | cons y ys => rw [hl] at hvs; simp only [List.map_cons, VL] at hvs; exact hvs.1) hk
      refine .pure hs h1 h2 fun w' hw' => ?_
      have ha : args.map ρ = #[ρ (args.toList.headD (.const undef))] := by
        simp [Op.operands, Call.operands] at hvs
        apply Array.ext'
        cases hl : args.toList with
        | nil => rw [hl] at hvs; simp [VL] at hvs
        | cons y ys =>
          rw [hl] at hvs; simp only [List.map_cons, VL] at hvs
          have := VL_nil_left hvs.2
          have hys : ys = [] := by simpa using this
          subst hys
          simp [hl]
      have := h3 ts type w' (by
        cases s with
        | m n => exact .inl (hw' _ (by simp [readsOf, readsOf.isMapS]))
        | _ => exact .inr (fun n h => by cases h)) rfl
      generalize ρ (args.toList.headD (.const undef)) = u at ha this
      simp [execOp, resolve, invoke, builtin, ha, this]
    · rename_i hcal
      obtain ⟨callee, args, ts⟩ := c
      simp only at hcal
      subst hcal
      obtain ⟨s, rfl, hk⟩ := q1_spec hq
      obtain ⟨r, v', h1, h2, h3⟩ := capQ_sound (u := ρ (args.toList.headD (.const undef))) (by
        simp [Op.operands, Call.operands] at hvs
        cases hl : args.toList with
        | nil => rw [hl] at hvs; simp [VL] at hvs
        | cons y ys => rw [hl] at hvs; simp only [List.map_cons, VL] at hvs; exact hvs.1) hk
      refine .pure hs h1 h2 fun w' _ => ?_
      have ha : args.map ρ = #[ρ (args.toList.headD (.const undef))] := by
        simp [Op.operands, Call.operands] at hvs
        apply Array.ext'
        cases hl : args.toList with
        | nil => rw [hl] at hvs; simp [VL] at hvs
        | cons y ys =>
          rw [hl] at hvs; simp only [List.map_cons, VL] at hvs
          have := VL_nil_left hvs.2
          have hys : ys = [] := by simpa using this
          subst hys
          simp [hl]
      have := h3 ts type w' rfl
      generalize ρ (args.toList.headD (.const undef)) = u at ha this
      simp [execOp, resolve, invoke, builtin, ha, this]
  · exact hq.elim
end
end Go.Z
