/- Part 20 of what the closing text rests on. -/
import Derived.Test.YtdamnoleoakehaaGreatDoorKX19
import Derived.ChangeSlices
namespace Go.Q
noncomputable section
open Go.RowKit Go.Proofs
open Go.Z hiding cond_false get resF
noncomputable section
section
variable {Γ : Cx} {ρ : Rh} {n : Nat} {o : Lin} {nx0 N : Nat} {θ : Tz} {w : World} {call : CallF}
theorem onF_off {L : Array Bool} {k j : Nat} {c : Int} (h : L.getD k false = false) : onF n o L k j c = [] := by unfold onF; rw [if_neg (by rw [h]; simp)]
theorem onF_on {L : Array Bool} {k j : Nat} {c : Int} (h : k < L.size) : onF n o (L.setIfInBounds k true) k j c = [entF n o j c] := by unfold onF; rw [if_pos ((listed_set h).2 (.inl rfl))]
theorem onF_ne {L : Array Bool} {k k' j : Nat} {c : Int} (h : k ≠ k') : onF n o (L.setIfInBounds k true) k' j c = onF n o L k' j c := by unfold onF; rw [getD_set_ne false h]
theorem onF_key {L : Array Bool} {k j : Nat} {c : Int} {x : DV × DV} (h : x ∈ onF n o L k j c) : x.1 = .n .u8 (lit c) := by
  unfold onF at h
  split at h
  · simp only [List.mem_singleton] at h; rw [h]; rfl
  · cases h
theorem canF_keys {L : Array Bool} {x : DV × DV} (h : x ∈ canF n o L) : (x.1 = .n .u8 (lit 128) ∧ L.getD 4 false = true) ∨ (x.1 = .n .u8 (lit 64) ∧ L.getD 8 false = true) ∨ (x.1 = .n .u8 (lit 32) ∧ L.getD 12 false = true) ∨ (x.1 = .n .u8 (lit 16) ∧ L.getD 16 false = true) := by
  have on : ∀ {k j : Nat} {c : Int}, x ∈ onF n o L k j c → x.1 = .n .u8 (lit c) ∧ L.getD k false = true := fun {k j c} h => ⟨onF_key h, by
    unfold onF at h
    split at h
    · assumption
    · cases h⟩
  unfold canF at h
  simp only [List.mem_append] at h
  rcases h with h | h | h | h
  · exact .inl (on h)
  · exact .inr (.inl (on h))
  · exact .inr (.inr (.inl (on h)))
  · exact .inr (.inr (.inr (on h)))
theorem mstep (hΓ : CxOk Γ ρ) (hC : CallOk ρ Tryz.prog call) (hnx : nx0 + 1 < 32768) (hN3 : 3 < N) {L : Array Bool} {a : Act} {w' : World} {Q : Exit → Act → World → Prop} (I : FInv ρ n o nx0 N θ w L a w') (hk : 0 ∈ Region.ready .any ops106 L) :
    wpOp Tryz.prog ops106 Q 0 (FInv ρ n o nx0 N θ w (L.setIfInBounds 0 true)) a w' := by
  obtain ⟨oj, ho, _, hkn, hun⟩ := ready_op hk
  obtain ⟨e1, e2, e3⟩ := fields ho (x := (.makeMap 187 none, some 3, none)) (by kernel_rfl)
  simp only at e1 e2 e3
  obtain ⟨θ', st, g, he, hN, h0, h1⟩ := I.ex
  obtain ⟨rfl, hcan⟩ := h0 hun
  have hks : 0 < L.size := by rw [I.size]; decide
  obtain ⟨t', ht'⟩ := put_some (.nil : Tr (Option Ob)) (k := nx0 + 1) (some (Ob.map [] nx0)) hnx
  have hnew : (emptyS nx0).ver.2.new (.map [] nx0) = .ok (nx0 + 1, { (emptyS nx0).ver.2 with h := t', nx := nx0 + 2 }) := by
    unfold St.new
    rw [show (emptyS nx0).ver.2.h = (.nil : Tr (Option Ob)) from rfl, show (emptyS nx0).ver.2.nx = nx0 + 1 from rfl, ht']
  have hstep : stepD Γ Tryz.prog call oj.op (envF n o (nx0 + 1) L) (emptyS nx0) = .ok [(.m (nx0 + 1), { (emptyS nx0).ver.2 with h := t', nx := nx0 + 2 })] := by
    rw [stepD_loud (vs := []) (by rw [e1]; simp) (by rw [e1]; rfl) (by rw [e1]; rfl), e1]
    simp only [loudD, makeMapD, Tryz.underlying187, newMap]
    rw [show (emptyS nx0).nx = nx0 from rfl, hnew]
  unfold wpOp
  simp only [ho]
  rw [if_pos (by simp [Region.wanted, e3])]
  left
  refine stepD_sound (o := oj) hΓ hC g.sat he hstep _ _ fun d s' θ2 v w2 hin g2 hv => ?_
  simp only [List.mem_singleton, Prod.mk.injEq] at hin
  obtain ⟨rfl, rfl⟩ := hin
  rw [e2]
  obtain ⟨q1, q2⟩ := env_put (k := 0) (t := 3) (c := 4) hks (he.mono g2.ext) (by decide) (by decide) hun (by decide) hv hN hN3
  refine ⟨by rw [Array.size_setIfInBounds]; exact I.size, θ2, _, g.trans g2, q1, q2, fun hl => ?_, fun _ => ?_⟩
  · have := (listed_set hks).2 (.inl rfl : (0 : Nat) = 0 ∨ _)
    rw [this] at hl; cases hl
  · obtain ⟨_, _, _, s1, _⟩ := St.new_spec hnew
    refine ⟨[], nx0, s1, ?_, rfl⟩
    rw [can_same (by decide), hcan]
theorem mem_preds {k j : Nat} {l : List Nat} (h : predsO ops106 k = l) (hj : j ∈ l) : j ∈ predsO ops106 k := by rw [h]; exact hj
theorem step106 (hΓ : CxOk Γ ρ) (hC : CallOk ρ Tryz.prog call) (hnx : nx0 + 1 < 32768) (hN : 17 ≤ N) {L : Array Bool} {a : Act} {w' : World} {Q : Exit → Act → World → Prop} (I : FInv ρ n o nx0 N θ w L a w') {k : Nat} (hk : k ∈ Region.ready .any ops106 L) :
    wpOp Tryz.prog ops106 Q k (FInv ρ n o nx0 N θ w (L.setIfInBounds k true)) a w' := by
  obtain ⟨_, _, _, hkn, hun⟩ := ready_op hk
  have hks : k < L.size := by rw [I.size]; exact hkn
  rw [size106] at hkn
  have e0 : envF n o (nx0 + 1) L 0 = some (.p n o) := rfl
  have f0 : fldT Tryz.prog 48 0 = some 0 := by kernel_rfl
  have f1 : fldT Tryz.prog 48 1 = some 1 := by kernel_rfl
  have f2 : fldT Tryz.prog 48 2 = some 2 := by kernel_rfl
  have f3 : fldT Tryz.prog 48 3 = some 3 := by kernel_rfl
  match k, hkn with
  | 0, _ => exact mstep hΓ hC hnx (by omega) I hk
  | 1, _ => exact vstep hΓ hC I hk (op := .move (.tmp 0)) (t := 4) (c := 5) (by kernel_rfl) (by decide) (by decide) (by decide) (by omega) (by decide) (by decide) fun st => stepD_quiet (by simp) (res1 e0) rfl
  | 2, _ => exact vstep hΓ hC I hk (op := .nilCheck (.tmp 4)) (t := 5) (c := 5) (by kernel_rfl) (by decide) (by decide) (by decide) (by omega) (by decide) (by decide) fun st => stepD_quiet (by simp) (res1 (env_at (k := 1) (c := 5) rfl (by decide) (preds hk (mem_preds (l := [1]) (by kernel_rfl) (by decide))))) rfl
  | 3, _ => exact vstep hΓ hC I hk (op := .fieldAddr 48 (.tmp 5) 0) (t := 6) (c := 0) (by kernel_rfl) (by decide) (by decide) (by decide) (by omega) (by decide) (by decide) fun st => stepD_quiet (by simp) (res1 (env_at (k := 2) (c := 5) rfl (by decide) (preds hk (mem_preds (l := [2]) (by kernel_rfl) (by decide))))) (by simp only [quietD, r1, valF, f0]; rfl)
  | 5, _ => exact vstep hΓ hC I hk (op := .move (.tmp 0)) (t := 7) (c := 5) (by kernel_rfl) (by decide) (by decide) (by decide) (by omega) (by decide) (by decide) fun st => stepD_quiet (by simp) (res1 e0) rfl
  | 6, _ => exact vstep hΓ hC I hk (op := .nilCheck (.tmp 7)) (t := 8) (c := 5) (by kernel_rfl) (by decide) (by decide) (by decide) (by omega) (by decide) (by decide) fun st => stepD_quiet (by simp) (res1 (env_at (k := 5) (c := 5) rfl (by decide) (preds hk (mem_preds (l := [5]) (by kernel_rfl) (by decide))))) rfl
  | 7, _ => exact vstep hΓ hC I hk (op := .fieldAddr 48 (.tmp 8) 1) (t := 9) (c := 1) (by kernel_rfl) (by decide) (by decide) (by decide) (by omega) (by decide) (by decide) fun st => stepD_quiet (by simp) (res1 (env_at (k := 6) (c := 5) rfl (by decide) (preds hk (mem_preds (l := [6]) (by kernel_rfl) (by decide))))) (by simp only [quietD, r1, valF, f1]; rfl)
  | 9, _ => exact vstep hΓ hC I hk (op := .move (.tmp 0)) (t := 10) (c := 5) (by kernel_rfl) (by decide) (by decide) (by decide) (by omega) (by decide) (by decide) fun st => stepD_quiet (by simp) (res1 e0) rfl
  | 10, _ => exact vstep hΓ hC I hk (op := .nilCheck (.tmp 10)) (t := 11) (c := 5) (by kernel_rfl) (by decide) (by decide) (by decide) (by omega) (by decide) (by decide) fun st => stepD_quiet (by simp) (res1 (env_at (k := 9) (c := 5) rfl (by decide) (preds hk (mem_preds (l := [9]) (by kernel_rfl) (by decide))))) rfl
  | 11, _ => exact vstep hΓ hC I hk (op := .fieldAddr 48 (.tmp 11) 2) (t := 12) (c := 2) (by kernel_rfl) (by decide) (by decide) (by decide) (by omega) (by decide) (by decide) fun st => stepD_quiet (by simp) (res1 (env_at (k := 10) (c := 5) rfl (by decide) (preds hk (mem_preds (l := [10]) (by kernel_rfl) (by decide))))) (by simp only [quietD, r1, valF, f2]; rfl)
  | 13, _ => exact vstep hΓ hC I hk (op := .move (.tmp 0)) (t := 13) (c := 5) (by kernel_rfl) (by decide) (by decide) (by decide) (by omega) (by decide) (by decide) fun st => stepD_quiet (by simp) (res1 e0) rfl
  | 14, _ => exact vstep hΓ hC I hk (op := .nilCheck (.tmp 13)) (t := 14) (c := 5) (by kernel_rfl) (by decide) (by decide) (by decide) (by omega) (by decide) (by decide) fun st => stepD_quiet (by simp) (res1 (env_at (k := 13) (c := 5) rfl (by decide) (preds hk (mem_preds (l := [13]) (by kernel_rfl) (by decide))))) rfl
  | 15, _ => exact vstep hΓ hC I hk (op := .fieldAddr 48 (.tmp 14) 3) (t := 15) (c := 3) (by kernel_rfl) (by decide) (by decide) (by decide) (by omega) (by decide) (by decide) fun st => stepD_quiet (by simp) (res1 (env_at (k := 14) (c := 5) rfl (by decide) (preds hk (mem_preds (l := [14]) (by kernel_rfl) (by decide))))) (by simp only [quietD, r1, valF, f3]; rfl)
  | 17, _ => exact vstep hΓ hC I hk (op := .move (.tmp 3)) (t := 16) (c := 4) (by kernel_rfl) (by decide) (by decide) (by decide) (by omega) (by decide) (by decide) fun st => stepD_quiet (by simp) (res1 (env_at (k := 0) (c := 4) rfl (by decide) (preds hk (mem_preds (l := [0, 1, 2, 3, 4, 5, 6, 7, 8, 9, 10, 11, 12, 13, 14, 15, 16]) (by kernel_rfl) (by decide))))) rfl
  | 18, _ => exact vstep hΓ hC I hk (op := .assign (.tmp 16)) (t := 2) (c := 4) (by kernel_rfl) (by decide) (by decide) (by decide) (by omega) (by decide) (by decide) fun st => stepD_quiet (by simp) (res1 (env_at (k := 17) (c := 4) rfl (by decide) (preds hk (mem_preds (l := [17, 0, 1, 2, 3, 4, 5, 6, 7, 8, 9, 10, 11, 12, 13, 14, 15, 16, 17]) (by kernel_rfl) (by decide))))) rfl
  | 4, _ =>
    have p : ∀ j, j ∈ [0, 3] → L.getD j false = true := fun j hj => preds hk (mem_preds (l := [0, 3]) (by kernel_rfl) hj)
    refine istep hΓ hC hnx I hk (j := 0) (t := 6) (c := 128) (by kernel_rfl) (by decide) (by decide) (env_at (k := 0) (c := 4) rfl (by decide) (p 0 (by decide))) (env_at (k := 3) (c := 0) rfl (by decide) (p 3 (by decide))) (p 0 (by decide)) (fun x hx => ?_) ?_
    · rcases canF_keys hx with ⟨h, h2⟩ | ⟨h, h2⟩ | ⟨h, h2⟩ | ⟨h, h2⟩
      · rw [hun] at h2; cases h2
      · exact ⟨_, h, by decide⟩
      · exact ⟨_, h, by decide⟩
      · exact ⟨_, h, by decide⟩
    · unfold canF
      rw [onF_off hun, onF_on hks, onF_ne (by decide), onF_ne (by decide), onF_ne (by decide)]
      exact mid_perm [] _ _
  | 8, _ =>
    have p : ∀ j, j ∈ [0, 7] → L.getD j false = true := fun j hj => preds hk (mem_preds (l := [0, 7]) (by kernel_rfl) hj)
    refine istep hΓ hC hnx I hk (j := 1) (t := 9) (c := 64) (by kernel_rfl) (by decide) (by decide) (env_at (k := 0) (c := 4) rfl (by decide) (p 0 (by decide))) (env_at (k := 7) (c := 1) rfl (by decide) (p 7 (by decide))) (p 0 (by decide)) (fun x hx => ?_) ?_
    · rcases canF_keys hx with ⟨h, h2⟩ | ⟨h, h2⟩ | ⟨h, h2⟩ | ⟨h, h2⟩
      · exact ⟨_, h, by decide⟩
      · rw [hun] at h2; cases h2
      · exact ⟨_, h, by decide⟩
      · exact ⟨_, h, by decide⟩
    · unfold canF
      rw [onF_off (k := 8) hun, onF_on hks, onF_ne (by decide), onF_ne (by decide), onF_ne (by decide)]
      exact mid_perm _ _ _
  | 12, _ =>
    have p : ∀ j, j ∈ [0, 11] → L.getD j false = true := fun j hj => preds hk (mem_preds (l := [0, 11]) (by kernel_rfl) hj)
    refine istep hΓ hC hnx I hk (j := 2) (t := 12) (c := 32) (by kernel_rfl) (by decide) (by decide) (env_at (k := 0) (c := 4) rfl (by decide) (p 0 (by decide))) (env_at (k := 11) (c := 2) rfl (by decide) (p 11 (by decide))) (p 0 (by decide)) (fun x hx => ?_) ?_
    · rcases canF_keys hx with ⟨h, h2⟩ | ⟨h, h2⟩ | ⟨h, h2⟩ | ⟨h, h2⟩
      · exact ⟨_, h, by decide⟩
      · exact ⟨_, h, by decide⟩
      · rw [hun] at h2; cases h2
      · exact ⟨_, h, by decide⟩
    · unfold canF
      rw [onF_off (k := 12) hun, onF_on hks, onF_ne (by decide), onF_ne (by decide), onF_ne (by decide), List.nil_append, ← List.append_assoc, ← List.append_assoc, ← List.append_assoc]
      have := mid_perm (onF n o L 4 0 128 ++ onF n o L 8 1 64) (onF n o L 16 3 16) (entF n o 2 32)
      rw [← List.append_assoc] at this
      simpa [List.append_assoc] using this
  | 16, _ =>
    have p : ∀ j, j ∈ [0, 15] → L.getD j false = true := fun j hj => preds hk (mem_preds (l := [0, 15]) (by kernel_rfl) hj)
    refine istep hΓ hC hnx I hk (j := 3) (t := 15) (c := 16) (by kernel_rfl) (by decide) (by decide) (env_at (k := 0) (c := 4) rfl (by decide) (p 0 (by decide))) (env_at (k := 15) (c := 3) rfl (by decide) (p 15 (by decide))) (p 0 (by decide)) (fun x hx => ?_) ?_
    · rcases canF_keys hx with ⟨h, h2⟩ | ⟨h, h2⟩ | ⟨h, h2⟩ | ⟨h, h2⟩
      · exact ⟨_, h, by decide⟩
      · exact ⟨_, h, by decide⟩
      · exact ⟨_, h, by decide⟩
      · rw [hun] at h2; cases h2
    · unfold canF
      rw [onF_off (k := 16) hun, onF_on hks, onF_ne (by decide), onF_ne (by decide), onF_ne (by decide)]
      simp [List.append_assoc]
theorem any106 (hΓ : CxOk Γ ρ) (hC : CallOk ρ Tryz.prog call) (hnx : nx0 + 1 < 32768) (hN : 17 ≤ N) {Q : Exit → Act → World → Prop} (hfin : ∀ L a w', FInv ρ n o nx0 N θ w L a w' → (∀ i, i < 19 → L.getD i false = true) → Q .normal a w') :
    ∀ (f : Nat) {L : Array Bool} {a : Act} {w' : World}, FInv ρ n o nx0 N θ w L a w' → unl ops106 L ≤ f → wpAny Tryz.prog .any ops106 Q f L a w'
  | 0, L, a, w', I, hf => by
    have hall : ∀ i, i < 19 → L.getD i false = true := fun i hi => by
      cases hl : L.getD i false with
      | true => rfl
      | false =>
        have h0 : unl ops106 L = 0 := by omega
        unfold unl at h0
        rw [List.countP_eq_zero] at h0
        have := h0 i (List.mem_range.2 (by rw [size106]; exact hi))
        rw [hl] at this
        exact absurd rfl this
    refine ⟨?_, hfin L a w' I hall⟩
    cases hr : Region.ready .any ops106 L with
    | nil => rfl
    | cons k l =>
      obtain ⟨_, _, _, h1, h2⟩ := ready_op (k := k) (ops := ops106) (listed := L) (by rw [hr]; exact .head _)
      rw [size106] at h1
      rw [hall k h1] at h2; cases h2
  | f + 1, L, a, w', I, hf => by
    refine ⟨fun hr => hfin L a w' I fun i hi => all_listed (by rw [I.size, size106]) (by kernel_rfl) hr i (by rw [size106]; exact hi), fun k hk => ?_⟩
    obtain ⟨_, _, _, h1, h2⟩ := ready_op hk
    refine wpOp_mono (fun a' w2 I' => ?_) (step106 hΓ hC hnx hN I hk)
    refine any106 hΓ hC hnx hN hfin f I' ?_
    have hks : k < L.size := by rw [I.size, ← size106]; exact h1
    have : unl ops106 (L.setIfInBounds k true) < unl ops106 L := by
      refine countP_less (k := k) (fun i hi => ?_) (by rw [h2]; rfl) ?_ (List.mem_range.2 h1)
      · cases hl : L.getD i false with
        | false => rfl
        | true => rw [(listed_set hks).2 (.inr hl)] at hi; cases hi
      · rw [(listed_set hks).2 (.inl rfl)]; rfl
    omega
end
end
end
end Go.Q

namespace Go.Q
noncomputable section
open Go.RowKit Go.Proofs
open Go.Z hiding cond_false get resF
noncomputable section
theorem EW_perm {ρ : Rh} {θ : Tz} {es es' : List (DV × DV)} (h : es.Perm es') : ∀ {ms : List MapEntry}, EW ρ θ es ms → ∃ ms', ms.Perm ms' ∧ EW ρ θ es' ms' := by
  induction h with
  | nil => intro ms h; exact ⟨ms, .refl _, h⟩
  | cons x h ih =>
    intro ms hm
    cases ms with
    | nil => exact hm.elim
    | cons e ms =>
      obtain ⟨h1, h2, h3⟩ := hm
      obtain ⟨ms', p, q⟩ := ih h3
      exact ⟨e :: ms', p.cons e, h1, h2, q⟩
  | swap x y l =>
    intro ms hm
    match ms, hm with
    | [], hm => exact hm.elim
    | [_], hm => exact hm.2.2.elim
    | e :: e' :: ms, hm =>
      obtain ⟨h1, h2, h3, h4, h5⟩ := hm
      exact ⟨e' :: e :: ms, .swap _ _ _, h3, h4, h1, h2, h5⟩
  | trans _ _ ih1 ih2 =>
    intro ms hm
    obtain ⟨m1, p1, q1⟩ := ih1 hm
    obtain ⟨m2, p2, q2⟩ := ih2 q1
    exact ⟨m2, p1.trans p2, q2⟩
def canon (n : Nat) (o : Lin) : List (DV × DV) := [entF n o 0 128, entF n o 1 64, entF n o 2 32, entF n o 3 16]
theorem canF_all {n : Nat} {o : Lin} {L : Array Bool} (h : ∀ i, i < 19 → L.getD i false = true) : canF n o L = canon n o := by
  unfold canF onF canon
  rw [if_pos (h 4 (by decide)), if_pos (h 8 (by decide)), if_pos (h 12 (by decide)), if_pos (h 16 (by decide))]
  rfl
def flagsH (args : List DV) (s : St) : RS := match args with
  | [.p n o] => cond (Nat.ble s.nx 32000) (match s.ver.2.new (.map (canon n o) s.nx) with
    | .ok (m, s') => .ok [(.m m, s')]
    | .error e => .error e) (fail "flags" [])
  | _ => fail "flags" []
theorem EW_agree {ρ : Rh} {θ θ' : Tz} {n : Nat} (h : θ' n = θ n) {o : Lin} {ms : List MapEntry} (hm : EW ρ θ' (canon n o) ms) : EW ρ θ (canon n o) ms := by
  have one : ∀ {j : Nat} {c : Int} {e : MapEntry}, W ρ θ' (entF n o j c).1 e.key ∧ W ρ θ' (entF n o j c).2 e.val → W ρ θ (entF n o j c).1 e.key ∧ W ρ θ (entF n o j c).2 e.val := fun {j c e} ⟨h1, h2⟩ => by
    simp only [entF, W] at h1 h2 ⊢
    rw [h] at h2
    exact ⟨h1, h2⟩
  match ms, hm with
  | [a, b, c, d], hm =>
    obtain ⟨a1, a2, b1, b2, c1, c2, d1, d2, _⟩ := hm
    obtain ⟨a1, a2⟩ := one ⟨a1, a2⟩
    obtain ⟨b1, b2⟩ := one ⟨b1, b2⟩
    obtain ⟨c1, c2⟩ := one ⟨c1, c2⟩
    obtain ⟨d1, d2⟩ := one ⟨d1, d2⟩
    exact ⟨a1, a2, b1, b2, c1, c2, d1, d2, trivial⟩
  | [], hm => exact hm.elim
  | [_], hm => exact hm.2.2.elim
  | [_, _], hm => exact hm.2.2.2.2.elim
  | [_, _, _], hm => exact hm.2.2.2.2.2.2.elim
  | _ :: _ :: _ :: _ :: _ :: _, hm => exact hm.2.2.2.2.2.2.2.2.elim
theorem hook106 {Γ : Cx} {ρ : Rh} {θ : Tz} {s : St} {w : World} {call : CallF} (hP : Tryz.prog.follows .mixedOrders = true) (hΓ : CxOk Γ ρ) (hC : CallOk ρ Tryz.prog call) (hs : Sat ρ θ s w) {args : List DV} {l : List (DV × St)} {us : List Value} (hv : WL ρ θ args us) (h : flagsH args s = .ok l) :
    EntersOk Tryz.prog 106 ∧ Calls Tryz.prog 106 us.toArray w fun e w' => ∃ d s' θ' v, e = .returned v ∧ (d, s') ∈ l ∧ Gon ρ θ s w θ' s' w' ∧ W ρ θ' d v := by
  unfold flagsH at h
  split at h <;> try exact (fail_ok h).elim
  rename_i n o
  obtain ⟨hc, h'⟩ := cond_fail h
  clear h
  have hnx := nble hc
  split at h' <;> cases h'
  rename_i m s' hnew
  obtain ⟨p, us', rfl, hp, hus⟩ := WL_cons_left hv
  obtain rfl := WL_nil_left hus
  -- the pointer's name is an old one
  obtain ⟨L0, hL0⟩ : ∃ L0, θ n = some L0 := by
    simp only [W] at hp
    obtain ⟨L0, h1, _⟩ := hp
    exact ⟨L0, h1⟩
  have hn : n < s.nx := Nat.lt_of_not_le fun hle => by rw [hs.fresh n hle] at hL0; cases hL0
  have none_e : ∀ k, (emptyS s.nx).get k = none := fun k => by simp [emptyS, St.get, Tr.get_nil]
  have hse : Sat ρ θ (emptyS s.nx) w := ⟨Nat.le_refl _, fun k hk => hs.fresh k hk, fun k ob hk => (by rw [none_e] at hk; cases hk), fun k k' ob ob' L M hk => (by rw [none_e] at hk; cases hk)⟩
  refine ⟨entersOk Tryz.func106 (by kernel_rfl) (by kernel_rfl), ?_⟩
  refine calls_of_wp Tryz.func106 body106 ?_
  have hN : Tryz.f106.ntmps = 17 := by kernel_rfl
  refine wp_seq ?_
  have he0 : EnvOk ρ θ (E.get [(0, .p n o)]) { tmps := [p].toArray ++ Array.replicate (Tryz.f106.ntmps - [p].toArray.size) undef, defers := [] } := fun t d hd => by
    unfold E.get at hd
    cases hb : Nat.beq 0 t with
    | true =>
      rw [hb] at hd; cases hd
      obtain rfl := Nat.eq_of_beq_eq_true hb
      exact ⟨p, by simp, hp⟩
    | false => rw [hb] at hd; cases hd
  have hN0 : SzOk 17 { tmps := [p].toArray ++ Array.replicate (Tryz.f106.ntmps - [p].toArray.size) undef, defers := [] } := ⟨by simp [], rfl⟩
  have h0 : opsD Γ Tryz.prog call 17 0 ops106a ops106a.toList 0 [(0, .p n o)] (emptyS s.nx) = .ok [([(2, .c (.map none)), (0, .p n o)], emptyS s.nx)] := by rfl
  refine wp_region_list (opsD_sound hΓ hC ops106a.toList 0 hse he0 hN0 h0 fun env' s2 θ2 a2 w2 hin g2 he2 hN2 _ => ?_)
  simp only [List.mem_singleton, Prod.mk.injEq] at hin
  obtain ⟨rfl, rfl⟩ := hin
  show Code.wp _ _ _ _ _
  refine wp_seq ?_
  refine wp_region_any hP ?_
  have gd : Gon ρ θ (emptyS s.nx) w θ2 (emptyS s.nx) { w2 with drawn := w2.drawn + 1 } := g2.trans (g2.sat.below ⟨rfl, rfl, rfl, Nat.le_refl _, fun _ _ => rfl⟩)
  have hun : ∀ i, (Array.replicate ops106.size false).getD i false = false := fun i => by
    rw [Array.getD_eq_getD_getElem?, Array.getElem?_replicate]
    split <;> rfl
  have I0 : FInv ρ n o s.nx 17 θ w (Array.replicate ops106.size false) a2 { w2 with drawn := w2.drawn + 1 } := by
    refine ⟨by rw [Array.size_replicate, size106], θ2, emptyS s.nx, gd, fun t d hd => ?_, hN2, fun _ => ⟨rfl, ?_⟩, fun hl => (by rw [hun] at hl; cases hl)⟩
    · unfold envF at hd
      by_cases ht : t = 0
      · subst ht
        rw [if_pos rfl] at hd; cases hd
        exact he2 0 _ rfl
      · rw [if_neg ht] at hd
        split at hd
        · rw [if_neg (by rw [hun]; simp)] at hd; cases hd
        · cases hd
    · unfold canF
      rw [onF_off (hun 4), onF_off (hun 8), onF_off (hun 12), onF_off (hun 16)]; rfl
  refine any106 hΓ hC (by omega) (Nat.le_refl _) ?_ ops106.size I0 (by
    unfold unl
    exact Nat.le_trans List.countP_le_length (by simp))
  intro L a3 w3 I hall
  obtain ⟨_, θ3, st, g3, he3, hN3, _, h1⟩ := I
  obtain ⟨es, ver, hm, hperm, _⟩ := h1 (hall 0 (by decide))
  rw [canF_all hall] at hperm
  show Code.wp _ _ _ _ _
  refine wp_ret ?_
  -- the map
  obtain ⟨LM, hLM, V, hV, hVb, ms, hh1, hh2, hh3, hh4, hh5⟩ := g3.sat.res _ _ hm
  obtain ⟨vs', pv, hew⟩ := EW_perm hperm hh3
  have hag : θ3 n = θ n := g3.agree n hn
  have hew2 := EW_agree hag hew
  have hown : w.heap.size ≤ LM.b := by
    rcases g3.own (s.nx + 1) _ LM (Nat.le_succ _) hm hLM with h | ⟨k, ob, _, _, hk, _⟩
    · exact h
    · rw [none_e] at hk; cases hk
  have hbel : Below w.heap.size w w3 := ⟨g3.env.1, g3.env.2.1, g3.env.2.2, g3.size, fun b hb => g3.still b hb fun k ob L1 _ hk => by rw [none_e] at hk; cases hk⟩
  obtain ⟨gv, gv1, gv2, gv3⟩ := hs.ver (w := w) ⟨LM.b, V.sz, vs'⟩
  have hx : (s.ver.2).nx = s.nx + 1 := rfl
  obtain ⟨gm, gm1, gm2⟩ := gv.sat.addAt hnew (g := LM.b) (sz := LM.sz) hown hbel (by
    refine ⟨⟨LM.b, V.sz, vs'⟩, ?_, rfl, ms, hh1, hh2.trans pv, ?_, ?_, ?_⟩
    · show (if s.nx = s.ver.2.nx then _ else _) = _
      rw [if_neg (by rw [hx]; omega)]; exact gv1
    · refine EW_mono (fun k L1 hk => ?_) hew2
      show (if k = s.ver.2.nx then _ else _) = _
      have : k < s.nx := Nat.lt_of_not_le fun hle => by rw [hs.fresh k hle] at hk; cases hk
      rw [if_neg (by rw [hx]; omega)]
      exact gv.ext k L1 hk
    · exact (pv.map _).nodup_iff.1 hh4
    · intro e he; exact hh5 e (pv.mem_iff.2 he))
  subst gm1
  obtain ⟨v, hv1, hv2⟩ := he3 2 (.m (s.nx + 1)) (env_at (k := 18) (c := 4) rfl (by decide) (hall 18 (by decide)))
  simp only [W] at hv2
  obtain ⟨LM', hLM', rfl⟩ := hv2
  rw [hLM] at hLM'; cases hLM'
  refine ⟨hN3.2, .map (some LM.b), ?_, .m s.ver.2.nx, s', _, .map (some LM.b), rfl, .head _, gv.trans gm, ?_⟩
  · have hrv : Tryz.f106.results = #[.tmp 2] := by kernel_rfl
    rw [results_eq, hrv]
    have e3 : a3.tmps.getD 2 undef = .map (some LM.b) := by simp [Array.getD_eq_getD_getElem?, hv1]
    simp [Go.Z.resF, e3]
  · simp only [W]
    exact ⟨_, gm2, rfl⟩
def hookT (Γ : Cx) (_ : CallF) (f : Nat) : Option (List DV → St → RS) :=
  cond (Nat.beq f 106) (some flagsH) (cond (Nat.beq f 142) (some fun args s => match args with
    | [.f (.func g) _ _] => cond (Nat.beq g 144) (valsH Γ args s) (keysH .i64 (-9223372036854775808) 9223372036854775807 3 151 args s)
    | _ => fail "collect" []) (cond (Nat.beq f 213) (some (keysH .u32 0 4294967295 34 215)) none))
theorem hookT_ok {Γ : Cx} {ρ : Rh} (hP : Tryz.prog.follows .mixedOrders = true) (hΓ : CxOk Γ ρ) : HookOk ρ Tryz.prog (hookT Γ) := by
  intro call hC f k hk args s l θ w us hs hv h
  unfold hookT at hk
  cases h1 : Nat.beq f 106 with
  | true =>
    rw [h1] at hk; cases hk
    obtain rfl := Nat.eq_of_beq_eq_true h1
    exact hook106 hP hΓ hC hs hv h
  | false =>
    rw [h1] at hk
    cases h2 : Nat.beq f 142 with
    | true =>
      rw [h2] at hk; cases hk
      obtain rfl := Nat.eq_of_beq_eq_true h2
      simp only at h
      split at h
      · rename_i g a b
        cases hb : Nat.beq g 144 with
        | true => rw [hb] at h; exact hook142v hΓ hs hv h
        | false => rw [hb] at h; exact hook142k hs hv h
      · exact (fail_ok h).elim
    | false =>
      rw [h2] at hk
      cases h3 : Nat.beq f 213 with
      | true =>
        rw [h3] at hk; cases hk
        obtain rfl := Nat.eq_of_beq_eq_true h3
        exact hook213k hs hv h
      | false => rw [h3] at hk; cases hk
end
end
end Go.Q

namespace Go.Q
noncomputable section
open Go.RowKit Go.Proofs
open Go.Z hiding cond_false get resF
noncomputable abbrev tP : Program := Tryz.prog
def ksL : List (List Nat) := [
  [],
  [],
  [],
  [0, 1, 2, 3, 6, 7, 8, 9, 10, 11, 15, 52, 54],
  [0, 1, 2, 6, 7, 8, 9, 10, 11, 12, 13, 14, 15, 16, 17, 18, 19, 20, 23, 45, 57, 98, 100, 124, 148, 175, 212, 213, 262],
  [0, 1, 4, 5, 6, 7, 8, 9, 10, 11, 26, 37, 60, 97, 130, 172],
  [0, 1, 2, 6, 7, 8, 9, 10, 11, 12, 13, 14, 15, 16, 17, 18, 33, 48, 84, 105],
  [0, 1, 2, 3, 6, 8, 9, 11, 12, 13, 14, 32, 61, 65, 78, 82, 110],
  [0, 4, 5, 6, 7, 8, 9, 10, 11, 12, 13, 14, 15, 16, 17, 18, 19, 20, 35, 59, 61, 74, 82, 91, 107, 148, 160],
  [0, 1, 2, 3, 6, 7, 8, 9, 10, 11, 12, 13, 14, 15, 16, 17, 18, 20, 38, 49, 55, 63, 64, 71, 72, 94, 99, 120, 131, 137, 149, 155, 187],
  [0, 1, 4, 5, 7, 8, 9],
  [0, 2, 3, 4, 5, 6, 7, 8, 9, 10, 11, 12, 13, 15, 16, 17, 18, 20, 21, 35, 62, 78, 86, 107, 137, 140, 180, 190, 232],
  [0, 1, 2, 13],
  [0, 1, 2, 3, 4, 5, 6, 7, 8, 9, 10, 60, 65, 90, 93, 104, 108, 113, 153, 158, 176, 181, 192],
  [0, 1, 2, 3, 4, 5, 7, 9, 38, 41, 42, 43, 44, 52, 53, 54, 55, 61, 77, 82, 83, 84, 85, 110],
  [0, 1, 2, 3, 4, 5, 6, 7, 12, 29],
  [0, 1, 2, 3, 6, 7, 8, 9, 10, 12, 14, 15, 19, 72, 73, 74, 75, 96, 97, 98, 99, 118, 119, 120, 121],
  [0],
  [0, 1, 2, 6, 11, 20],
  [0, 2, 4],
  [0, 2, 4],
  [0, 1, 2, 6, 7, 8, 17, 22],
  [0, 1, 3, 4, 5, 6],
  [0, 1, 2, 3, 4, 5, 6, 7, 10, 12, 20, 25, 27, 31, 35, 39],
  [0, 2, 3, 4, 8, 37],
  [0, 1, 2, 3, 8, 9, 10, 11, 12, 13, 25, 32, 52, 64, 66, 74, 81],
  [0, 1, 2, 3, 4, 5, 10, 11, 12, 18],
  [0, 2, 4],
  [0, 2, 3, 5],
  [0, 1, 2, 6, 11, 20],
  [0, 1, 2, 3, 4, 5, 29, 53],
  [0, 1, 2, 3, 4, 10, 11, 12, 13, 14, 37, 52],
  [0, 1, 2, 3, 8, 9, 10, 11, 12, 13, 16, 28, 32, 46],
  [0, 2, 3, 4, 5, 6, 8, 15, 26],
  [0, 1, 2, 3, 6, 7, 8, 9, 10, 11, 12, 13, 14, 15, 28, 36, 46, 47, 54, 61, 72, 85],
  [0, 1, 2, 3, 12],
  [0, 1, 4, 5, 7, 9, 11, 16, 24, 26, 46, 47, 48, 49, 63, 64, 65, 66, 71],
  [0, 2],
  [0, 1, 2, 4, 5, 6, 7, 8, 34, 44, 45, 49, 52, 56, 59, 62, 67, 71, 75, 80, 84, 88, 91, 94, 97, 102, 105, 109, 112],
  [0, 1, 4, 5, 9, 17],
  [0, 1, 2, 6],
  [0, 1, 4, 5, 7, 9, 12, 13, 14, 23, 24, 32, 33, 41, 42, 46, 50, 54, 64, 67],
  [0, 2, 3],
  [0, 1, 2],
  [0, 1, 4],
  [0],
  [0],
  [0, 2, 4],
  [0, 2, 4],
  [0, 1, 4, 5, 19],
  [0, 1, 4, 6],
  [0, 1, 2, 3, 8, 9, 10, 11, 14, 37, 38, 39, 40, 43, 44, 59, 68, 77, 86, 100, 122],
  [0, 2, 3],
  [0, 1, 2, 3, 4],
  [0, 2],
  [0, 1, 2],
  [0, 2, 3, 4, 5, 6, 7, 8, 11, 15, 25, 32, 38, 42, 61, 74],
  [0, 2, 3, 4, 5, 12, 24],
  [0, 2, 3, 4, 6, 7, 8, 9, 10, 12, 13, 14, 18, 27, 33, 37, 44, 46, 70, 83, 84, 85, 86],
  [0, 1, 2, 3, 4, 7, 10],
  [0, 1, 2, 3, 8, 9, 10, 33, 48, 54, 77, 99, 105],
  [0, 1, 2, 3, 6, 8, 9, 10, 12, 14, 15, 21, 35, 56, 57, 85, 94, 100, 111, 120],
  [0, 1, 2, 3, 6, 8, 9, 10, 11, 13, 14, 18, 23, 39, 46],
  [0, 2, 3],
  [0, 2, 3],
  [0, 2],
  [0, 1, 2, 6],
  [0, 1, 4],
  [0, 2, 4],
  [0, 1, 3],
  [0, 1, 2, 4, 6, 7, 8, 9, 10, 14, 52, 64, 75, 82],
  [0, 2, 3, 4, 5, 8, 15, 18, 23, 73],
  [0, 2, 3, 4, 5, 6, 7, 8, 9, 12, 16, 19, 40, 47, 54, 64, 88, 97],
  [0, 2, 4],
  [0, 2, 3, 4, 5, 10],
  [0, 2, 4],
  [0, 1, 2, 6, 7, 8, 18, 29, 51],
  [0, 1, 4, 5, 6, 7, 20],
  [0, 1, 4],
  [0, 1, 2, 3, 4],
  [0, 1, 3, 4],
  [0, 1, 2, 3, 5, 9],
  [0, 2, 3, 4, 8, 12, 14],
  [0, 2, 3, 4, 5],
  [0, 2, 3, 4, 5],
  [0, 2, 3, 4, 5, 6, 15, 20, 31, 46, 69, 82, 83, 103, 106, 138, 141, 185],
  [0, 2, 3],
  [0, 2, 3, 4],
  [0, 2, 3, 4, 5, 6, 7, 10, 14, 17, 28],
  [0, 2, 3],
  [0, 1, 2],
  [0, 2, 3, 4, 5, 8, 13, 25, 32, 44],
  [0, 1, 4],
  [0, 1, 2, 3],
  [0, 1, 4],
  [0, 1, 3],
  [0, 1, 4, 5, 7, 8, 9, 16],
  [0, 1, 2, 6, 7, 8, 9, 10, 24, 25, 33, 43, 54],
  [0, 1, 2, 5, 6, 7, 8, 15],
  [0, 1, 2, 6, 7, 8, 16, 18, 19, 20],
  [0, 1, 2, 7, 13, 14, 15, 16],
  [0, 1, 4, 5, 6, 7, 12, 19, 29],
  [0, 1, 2],
  [0, 1, 2, 4],
  [0, 2, 3, 10],
  [0, 1, 2, 6, 7, 8, 10, 16, 24, 25, 26, 27],
  [0, 2],
  [0, 1, 2],
  [0, 1, 2, 3, 4, 5, 10, 11, 13, 36, 47, 48, 49, 50],
  [0, 1, 2, 4, 5, 6, 7, 33, 36, 37, 40, 43, 49],
  [0, 2, 3, 8, 9, 14],
  [0, 1, 4, 5, 6, 7, 9, 10, 11, 12, 13, 15, 18, 20, 21, 22, 23, 41, 52, 58, 59, 60, 61, 73],
  [0, 2, 3, 4, 6, 7, 9, 10, 13, 14, 15, 16, 17, 25, 27, 28, 29, 30, 62],
  [0, 1, 2, 3, 4, 5, 6, 12],
  [0, 1, 2, 3, 6, 8, 10, 48],
  [0, 1, 2, 3, 5, 14],
  [0, 1, 2, 3, 8, 9, 10, 11, 13, 40],
  [0, 1, 2, 3, 4, 5, 6, 7, 8, 9, 11, 12, 16, 25, 29, 41, 43, 49, 67, 68, 69, 70],
  [0, 1, 2, 4, 6, 8, 12, 31],
  [0, 1, 4],
  [0, 1, 2, 3, 4, 5, 8, 10, 11, 12, 14, 15, 16, 17, 18, 19, 20, 21, 22, 31, 32, 33, 34, 44, 59, 65, 70, 76, 88, 102, 108, 119, 129],
  [0, 2],
  [0, 1, 2, 4, 8, 15],
  [0, 1, 2, 4, 6, 8, 9, 10, 12, 13, 34, 67],
  [0, 1, 3, 4, 5, 6, 7, 10, 24],
  [0, 1, 2, 6, 7],
  [0, 2, 9],
  [0, 1, 9],
  [0, 1],
  [0, 2, 3, 14],
  [0, 2, 3],
  [0, 1, 2, 3, 4, 10, 11, 12, 13, 14, 15, 16, 17, 18, 19, 20, 25, 32, 39, 56, 75, 80, 97, 125],
  [0, 2],
  [0, 1, 4, 5, 7, 8, 9, 11, 13, 19, 20, 21, 22, 34, 47, 48, 49, 50],
  [0, 1, 2, 3],
  [0, 1, 4, 5, 6, 7, 21],
  [],
  [],
  [0, 2],
  [0, 2],
  [0, 1, 4],
  [0, 2, 3, 4, 5, 6, 7, 9, 11, 27, 45, 85, 87, 97],
  [0, 2],
  [0, 2],
  [0, 1, 4, 5, 6, 7, 8, 14],
  [0, 1, 4, 5, 7, 8, 9, 16],
  [0, 1, 4, 5, 7, 8, 9, 16],
  [0, 1, 2, 6, 7, 8, 14, 19, 20, 22, 23, 31, 35, 39, 41, 42, 46, 50],
  [0, 1, 4, 5, 6, 9, 15, 18, 19, 24, 29, 34, 42, 51],
  [0, 1, 2, 6, 7, 8, 9, 11, 12, 16, 20, 22, 23, 27, 32, 36, 38, 39, 43, 51, 55],
  [0, 1, 3, 4],
  [0, 1, 3, 5, 7, 13],
  [0, 1, 2, 6, 7, 8, 15],
  [0, 2, 6, 7, 16],
  [0, 2, 3, 13],
  [0, 1, 4, 8, 9, 23, 40, 43, 52],
  [0, 2, 3, 17, 46, 56],
  [0, 2, 3, 5, 6, 9, 11, 12, 13, 14, 51],
  [0, 1, 4, 5, 7, 8, 9, 16],
  [0, 1, 2, 3],
  [0, 1, 2, 4, 6, 7, 14, 17, 23, 36, 37, 39],
  [0, 1, 2],
  [0, 1, 2],
  [0, 1, 4, 5],
  [0, 2, 3],
  [0, 2],
  [0, 1, 4, 5, 7, 8, 9, 16],
  [0, 1, 2, 3],
  [0, 2, 4],
  [0, 1, 3, 4, 5],
  [0, 2, 3, 5, 6, 8, 9, 10, 11, 12, 20, 25, 26, 27, 28],
  [0, 1, 2, 4],
  [0, 1, 4],
  [0, 1, 4, 15],
  [0, 1, 2, 3],
  [0, 2],
  [0, 1, 2, 3, 8, 9, 10, 12, 22],
  [0, 1, 2, 3, 4, 10, 11, 13, 20, 25, 45],
  [0, 1, 2, 3, 13, 14, 15],
  [0, 1, 2, 6, 7, 8, 9, 10, 11, 21, 30, 35],
  [0, 1, 2, 6, 7, 8, 9, 10, 21, 33, 39],
  [0, 1, 4, 17],
  [0, 1, 2, 3, 8, 9, 14, 34],
  [0, 1, 2, 3, 8, 9, 10, 11, 12, 21, 33],
  [0, 1, 2, 8, 9, 10, 11, 12, 17, 35, 45],
  [0, 1, 2, 3, 8, 9, 10, 11, 12, 13, 14, 34, 36, 55, 57, 60],
  [0, 1, 2, 8, 9, 15],
  [0, 1, 2, 3, 8, 9, 10, 11, 12, 16, 36, 41, 45, 65, 69, 84, 104, 109, 124],
  [0, 1, 2, 3, 4, 10, 11, 12, 47, 65, 70],
  [0, 1, 2, 3, 4, 10, 11, 12, 13, 47, 66, 71, 120, 139, 144],
  [0, 2, 4, 8],
  [0, 2, 4, 8, 14],
  [0, 2, 3],
  [0, 1, 2],
  [0, 1, 4],
  [0, 1, 2, 3, 4],
  [0, 1, 4, 5, 7, 8, 9, 16],
  [0, 2, 4],
  [0, 1, 2, 4],
  [0, 1, 2, 3, 8, 9, 10, 11, 12, 13, 14, 15, 16, 17, 18, 23, 29, 35, 50, 68, 72, 87, 113],
  [0, 1, 4],
  [0, 1, 2, 4, 5, 6, 7],
  [0, 1, 2, 3],
  [0, 6],
  [0, 1, 4, 6, 16],
  [0, 1, 2, 3],
  [0, 1, 3, 4],
  [0, 1, 2, 6, 7, 13, 25],
  [0, 1, 2, 3, 4, 10, 11, 18, 40, 58],
  [0, 2],
  [0, 2],
  [0, 1, 2, 3, 8],
  [0, 1, 2, 3, 4, 5, 12],
  [0, 2],
  [0, 2],
  [0, 1, 3, 5, 7, 13],
  [0, 1, 2, 3, 4, 10, 11, 12, 13, 14, 15, 16, 17, 18, 19, 20, 25, 32, 39, 56, 75, 80, 97, 125],
  [0, 1, 2, 6, 7, 12, 30],
  [0, 1, 2, 6, 7, 8, 9, 10, 19, 30],
  [0, 1, 2, 6, 7, 8, 9, 10, 15, 33, 43],
  [0, 1, 2, 6, 7, 8, 9, 10, 11, 12, 32, 34, 49, 51, 54],
  [0, 1, 2, 6, 7, 13],
  [0, 1, 2, 6, 7, 8, 9, 10, 14, 32, 37, 41, 61, 65, 78, 98, 103, 116],
  [0, 1, 4],
  [0, 1, 2, 3, 8, 9, 10, 43, 59, 64],
  [0, 1, 2, 3, 8, 9, 10, 11, 43, 60, 65, 112, 129, 134],
  [0, 1, 4, 5, 6, 7, 12, 19, 29],
  [0, 1, 2, 3, 4],
  [0, 1, 4, 5, 7, 8, 9, 16],
  [0, 1, 2, 3],
  [0, 1, 2, 3, 4, 10, 11, 22],
  [0, 1, 2, 4],
  [0, 1, 2, 3, 8, 9, 10, 11, 12, 13, 14, 15, 16, 17, 18, 23, 29, 35, 50, 68, 72, 87, 113],
  [0, 1, 2, 3, 8, 9, 14, 34],
  [0, 1, 2, 3, 8, 9, 10, 11, 12, 21, 33],
  [0, 1, 2, 8, 9, 10, 11, 12, 17, 35, 45],
  [0, 1, 2, 3, 8, 9, 10, 11, 12, 13, 14, 34, 36, 55, 57, 60],
  [0, 1, 2, 8, 9, 15],
  [0, 1, 2, 3, 8, 9, 10, 11, 12, 16, 36, 41, 45, 65, 69, 84, 104, 109, 124],
  [0, 1, 2, 3, 4, 10, 11, 12, 47, 65, 70],
  [0, 1, 2, 3, 4, 10, 11, 12, 13, 47, 66, 71, 120, 139, 144],
  [0, 1, 2, 3, 8, 9, 16, 36, 52],
  [0, 1, 2, 6],
  [0, 1, 2, 3, 4, 10],
  [0, 2],
  [0, 1, 2, 6, 7, 12, 30],
  [0, 1, 2, 6, 7, 8, 9, 10, 19, 30],
  [0, 1, 2, 6, 7, 8, 9, 10, 15, 33, 43],
  [0, 1, 2, 6, 7, 8, 9, 10, 11, 12, 32, 34, 49, 51, 54],
  [0, 1, 2, 6, 7, 13],
  [0, 1, 2, 6, 7, 8, 9, 10, 14, 32, 37, 41, 61, 65, 78, 98, 103, 116],
  [0, 1, 4],
  [0, 1, 2, 3, 8, 9, 10, 43, 59, 64],
  [0, 1, 2, 3, 8, 9, 10, 11, 43, 60, 65, 112, 129, 134],
  [0, 1, 2, 3, 4, 10, 11, 18, 40, 58],
  [0, 1, 2, 3, 8],
  [0, 1, 2, 3, 4, 5, 12],
  [0, 1, 2, 3, 8, 9, 18],
  [0, 1, 2, 3, 8, 9, 16, 36, 52],
  [0, 1, 2, 6],
  [0, 1, 2, 3, 4, 10],
  [0, 2],
  [0, 1, 2, 3, 4, 10, 11, 22],
  [0, 1, 2, 3, 8, 9, 18],
  [],
  [],
  [],
  [],
  [],
  [],
  [],
  [],
  [],
  [],
  [],
  [],
  [],
  [],
  [],
  [],
  [0, 2],
  [0, 1, 2, 6],
  [0, 2, 3, 4],
  [0, 1, 4],
  [0, 1, 2],
  [0, 1, 2, 3, 4],
  [0, 2, 3, 5, 6, 7, 8, 9, 14],
  [0, 1, 4, 5, 6, 11, 12, 13, 16, 19],
  [0, 2, 4],
  [0, 1, 4, 6],
  [],
  [],
  [],
  [],
  [],
  []]
def drL (f : Nat) : List (Nat × List Nat) := cond (Nat.beq f 117) [(13, [8, 9, 42, 43, 44, 45, 46, 47, 48, 49, 50, 51, 52])] []
noncomputable def tI (f : Nat) : Option Fd := match tP.funcs[f]? with
  | some fn => match fn.body with
    | some c => some ⟨c, fn.ntmps, fn.results.toList, drL f, ksL.getD f []⟩
    | none => none
  | none => none
theorem names_ok : tP.funcs.toList.all (fun fn => !(fn.name == "runtime.NumGoroutine")) = true := by kernel_rfl
theorem tI_ok : IOk tP tI := by
  intro f F h
  unfold tI at h
  split at h <;> try (cases h; done)
  rename_i fn hf
  split at h <;> cases h
  rename_i c hc
  refine ⟨fn, hf, hc, rfl, rfl, ?_⟩
  have h1 := List.all_eq_true.1 names_ok fn (Array.mem_toList_iff.2 (Array.mem_of_getElem? hf))
  simpa using h1
theorem ksL_nodup : ∀ l ∈ ksL, l.Nodup := by decide +kernel
theorem tI_ks : ∀ f F, tI f = some F → F.ks.Nodup := by
  intro f F h
  unfold tI at h
  split at h <;> try (cases h; done)
  split at h <;> cases h
  show (ksL.getD f []).Nodup
  rw [List.getD_eq_getElem?_getD]
  cases hk : ksL[f]? with
  | none => exact List.nodup_nil
  | some l => exact ksL_nodup l (List.mem_of_getElem? hk)
theorem mixed : tP.follows .mixedOrders = true := by kernel_rfl
noncomputable def cS (Γ : Cx) : CallF := callS Γ tP tI (hookT Γ) 100000 60
theorem cS_ok {Γ : Cx} {ρ : Rh} (hΓ : CxOk Γ ρ) : CallOk ρ tP (cS Γ) := callS_sound mixed hΓ tI_ok (hookT_ok mixed hΓ) tI_ks 60
def loopAt (r : Nat) : Code → Option Code
  | .seq a b => match loopAt r a with
    | some c => some c
    | none => loopAt r b
  | .cond _ a b => match loopAt r a with
    | some c => some c
    | none => loopAt r b
  | .block _ a => loopAt r a
  | .loop a => match firstRegion a with
    | some i => cond (Nat.beq i r) (some a) (loopAt r a)
    | none => loopAt r a
  | _ => none
noncomputable def bodyAt (Γ : Cx) (f r : Nat) : KF := match tI f with
  | some F => match loopAt r F.code with
    | some c => stK Γ tP F.N (visOf F.ks 0) F.dr 100000 (fun _ => none) (retF tP (visOf F.ks 0) F.rv) c normF exitF
    | none => badF
  | none => badF
def u (n : Nat) : Cl := .v (.n .u8 ⟨.ofNat n, []⟩)
def y (n : Nat) : Sg := .y ⟨.ofNat n, []⟩
end
end Go.Q

namespace Go.Q
noncomputable section
open Go.RowKit Go.Proofs
open Go.Z hiding cond_false get resF
noncomputable section
def cntL (r : Nat) : Code → Nat
  | .seq a b => cntL r a + cntL r b
  | .cond _ a b => cntL r a + cntL r b
  | .block _ a => cntL r a
  | .loop a => cond (match firstRegion a with | some i => Nat.beq i r | none => false) 1 0 + cntL r a
  | _ => 0
theorem cntL_pos {c : Code} {r : Nat} (hr : firstRegion c = some r) : ∀ {code : Code}, LoopIn c code → 1 ≤ cntL r code
  | .seq a b, h => by
    simp only [cntL]
    rcases h with h | h
    · have := cntL_pos hr h; omega
    · have := cntL_pos hr h; omega
  | .cond _ a b, h => by
    simp only [cntL]
    rcases h with h | h
    · have := cntL_pos hr h; omega
    · have := cntL_pos hr h; omega
  | .block _ a, h => by
    have := cntL_pos (code := a) hr h
    simpa only [cntL] using this
  | .loop a, h => by
    simp only [cntL]
    rcases h with h | h
    · subst h
      rw [hr]
      simp [Nat.beq_refl]
    · have := cntL_pos hr h; omega
  | .skip, h | .label _, h | .ret, h | .exit _, h | .region _ _ _, h | .rangeFunc _ _ _ _, h | .scope _, h | .goto _, h | .refuse _, h => h.elim
theorem loopAt_pos {r : Nat} : ∀ {code c0 : Code}, loopAt r code = some c0 → 1 ≤ cntL r code
  | .seq a b, c0, h => by
    simp only [cntL]
    unfold loopAt at h
    split at h
    · rename_i c hc
      have := loopAt_pos hc; omega
    · have := loopAt_pos h; omega
  | .cond _ a b, c0, h => by
    simp only [cntL]
    unfold loopAt at h
    split at h
    · rename_i c hc
      have := loopAt_pos hc; omega
    · have := loopAt_pos h; omega
  | .block _ a, c0, h => by
    have := loopAt_pos (code := a) h
    simpa only [cntL] using this
  | .loop a, c0, h => by
    simp only [cntL]
    unfold loopAt at h
    split at h
    · rename_i i hi
      try rw [hi]
      show 1 ≤ cond (Nat.beq i r) 1 0 + cntL r a
      cases hb : Nat.beq i r with
      | true => show 1 ≤ 1 + cntL r a; omega
      | false =>
        rw [hb] at h
        have := loopAt_pos (code := a) h; omega
    · have := loopAt_pos h; omega
theorem loopAt_only {c c0 : Code} {r : Nat} (hr : firstRegion c = some r) : ∀ {code : Code}, cntL r code ≤ 1 → loopAt r code = some c0 → LoopIn c code → c = c0
  | .seq a b, h1, h2, h => by
    simp only [cntL] at h1
    unfold loopAt at h2
    split at h2
    · rename_i c1 hc
      cases h2
      have hp := loopAt_pos hc
      rcases h with h | h
      · exact loopAt_only hr (by omega) hc h
      · have := cntL_pos hr h; omega
    · rename_i hc
      have hp := loopAt_pos h2
      rcases h with h | h
      · have := cntL_pos hr h; omega
      · exact loopAt_only hr (by omega) h2 h
  | .cond _ a b, h1, h2, h => by
    simp only [cntL] at h1
    unfold loopAt at h2
    split at h2
    · rename_i c1 hc
      cases h2
      have hp := loopAt_pos hc
      rcases h with h | h
      · exact loopAt_only hr (by omega) hc h
      · have := cntL_pos hr h; omega
    · rename_i hc
      have hp := loopAt_pos h2
      rcases h with h | h
      · have := cntL_pos hr h; omega
      · exact loopAt_only hr (by omega) h2 h
  | .block _ a, h1, h2, h => loopAt_only (code := a) hr (by simpa only [cntL] using h1) h2 h
  | .loop a, h1, h2, h => by
    simp only [cntL] at h1
    unfold loopAt at h2
    split at h2
    · rename_i i hi
      try rw [hi] at h1
      replace h1 : cond (Nat.beq i r) 1 0 + cntL r a ≤ 1 := h1
      cases hb : Nat.beq i r with
      | true =>
        rw [hb] at h1 h2
        have h3 : a = c0 := Option.some.inj h2
        rcases h with h | h
        · exact h.symm.trans h3
        · have := cntL_pos hr h
          replace h1 : 1 + cntL r a ≤ 1 := h1
          omega
      | false =>
        rw [hb] at h1 h2
        rcases h with h | h
        · subst h
          rw [hr] at hi; cases hi
          simp [Nat.beq_refl] at hb
        · exact loopAt_only (code := a) hr (by simpa using h1) h2 h
    · rename_i hi
      rcases h with h | h
      · subst h
        rw [hr] at hi; cases hi
      · exact loopAt_only hr (by omega) h2 h
def tvO : R (List (DV × St)) → Bool
  | .ok l => l.all fun x => match x.1 with | .c (.bool b) => b | _ => false
  | _ => false
def oneL (f r : Nat) : Bool := match tI f with
  | some F => Nat.ble (cntL r F.code) 1 && (match loopAt r F.code with | some c => (match firstRegion c with | some j => Nat.beq j r | none => false) | none => false)
  | none => false
end
end
end Go.Q

set_option maxRecDepth 100000
namespace Go.Q
noncomputable section
open Go.RowKit Go.Proofs Go.ChangeShapes Go.WideShapes Go.ChangeAt
open Go.Z hiding cond_false get resF
def atomsOf (ls : List Int) (k : Int) : List Int := ls.flatMap fun c => [(c + 4 * k) / 256, (c + 4 * k) % 256]
theorem plainCx {Γ : Cx} {ρ : Rh} (h1 : ∀ i, 0 ≤ ρ.a i ∧ (0 ≤ Γ.hiOf i → ρ.a i ≤ Γ.hiOf i)) (h2 : ∀ i, ((ρ.b i).length : Int) = (Γ.bl.getD i (lit 0)).ev ρ.a) (h6 : ∀ i, ∀ n ∈ ρ.b i, 0 ≤ n ∧ n < 256) (h3 : Γ.ops = []) (h4 : Γ.cv = []) (h5 : Γ.sq = []) (h7 : Γ.zs = []) : CxOk Γ ρ :=
  ⟨h1, h2, h6, fun x hx => (by rw [h3] at hx; cases hx), fun x hx => (by rw [h4] at hx; cases hx), fun x hx => (by rw [h5] at hx; cases hx), fun x hx => (by rw [h7] at hx; cases hx)⟩

section
variable {H : Type} {enc : TypeId × Value → H} {w : World}
def LiesAt (w : World) (b o : Nat) (l : List Int) : Prop := ∃ (pre post : List Value) (T : Nat) (fz : Nat × Nat), w.heap[b]? = some (.cells (pre ++ (l.map (Value.int .u8) ++ post)).toArray T fz) ∧ pre.length = o
end
def thL (b o c : Nat) : Tz
  | 0 => some ⟨b, o + c, []⟩
  | _ + 1 => none
theorem st0_get (b : Tr Ob) (f m : Nat) : (⟨b, .nil, f, f⟩ : St).get m = b.get m := by
  show (match (Tr.nil : Tr (Option Ob)).get m with | some x => x | none => b.get m) = b.get m
  rw [Tr.get_nil]
theorem sat_nil {ρ : Rh} {w : World} {b o c : Nat} : Sat ρ (thL b o c) ⟨.nil, .nil, 1, 1⟩ w := by
  refine ⟨Nat.le_refl _, fun n hn => ?_, fun n x hx => ?_, fun n m x y L M hx hy _ _ _ => ?_⟩
  · match n, hn with
    | 0, hn => exact absurd (show (1 : Nat) ≤ 0 from hn) (by decide)
    | n + 1, _ => rfl
  · rw [st0_get, Tr.get_nil] at hx; cases hx
  · rw [st0_get, Tr.get_nil] at hx; cases hx
theorem sat_none {ρ : Rh} {w : World} : Sat ρ (fun _ => none) ⟨.nil, .nil, 0, 0⟩ w := by
  refine ⟨Nat.le_refl _, fun n hn => rfl, fun n x hx => ?_, fun n m x y L M hx hy _ _ _ => ?_⟩
  · rw [st0_get, Tr.get_nil] at hx; cases hx
  · rw [st0_get, Tr.get_nil] at hx; cases hx
theorem below_of {ρ : Rh} {θ θ' : Tz} {s s' : St} {w w' : World} (g : Gon ρ θ s w θ' s' w') (h : ∀ n, s.fl ≤ n → s.get n = none) : Below w.heap.size w w' :=
  ⟨g.env.1, g.env.2.1, g.env.2.2, g.size, fun b hb => g.still b hb fun n o L h1 h2 _ => by rw [h n h1] at h2; cases h2⟩
end
end Go.Q

namespace Go.Q
noncomputable section
open Go.RowKit Go.Proofs
open Go.Z hiding cond_false get resF
noncomputable section
structure Mm where
  f : Nat
  args : List DV
  h0 : List (Nat × Ob)
  n0 : Nat
  d : DV
  h1 : List (Nat × Ob)
  n1 : Nat
def Mm.k0 (m : Mm) : Ck := ⟨badE, m.h0, m.n0⟩
def Mm.k1 (m : Mm) : Ck := ⟨badE, m.h1, m.n1⟩
def mmOk (b : Tr Ob) (fl : Nat) (call : CallF) (m : Mm) : Bool := match call m.f m.args (m.k0.st b fl) with
  | .ok [(d, s)] => d.eqb m.d && subC m.k1 badE s
  | _ => false
end
end
end Go.Q

namespace Go.Q
noncomputable section
open Go.RowKit Go.Proofs
open Go.Z hiding cond_false get resF
def unsig : IntKind → Bool
  | .u8 => true
  | .u16 => true
  | .u32 => true
  | .u64 => true
  | _ => false
def natLit (x : Lin) : Option Nat := match x.isLit, x.c with
  | true, .ofNat n => some n
  | _, _ => none
theorem natLit_ev {ρ : Nat → Int} {x : Lin} {n : Nat} (h : natLit x = some n) : x.ev ρ = n := by
  unfold natLit at h
  split at h
  · rename_i m h1 h2
    cases h
    rw [Lin.ev_of_lit h1, h2]; rfl
  · cases h
def divT (m : Int) (l : List (Nat × Int)) : List (Nat × Int) := l.map fun x => (x.1, x.2 / m)
def Lin.over (x : Lin) (m : Int) : Lin := ⟨x.c / m, divT m x.t⟩
def timesOf (m : Int) (x : Lin) : Bool := x.eqb ((x.over m).mul m)
theorem timesOf_ev {ρ : Nat → Int} {m : Int} {x : Lin} (h : timesOf m x = true) : x.ev ρ = m * (x.over m).ev ρ := by
  rw [← ev_mul, ← Lin.eqb_eq h]
def orAt (Γ : Cx) (x y : Lin) (n : Nat) : Bool := timesOf (2 ^ n) x && (loGe Γ 0 x && inI Γ 0 (2 ^ n - 1) y)
def symOp (Γ : Cx) (op : BinOp) (k : IntKind) (x y : Lin) (r : Option Lin) : Bool := match r with
  | none => false
  | some r => unsig k && (match op with
    | .shr => (match natLit y with
      | some n => Nat.ble n k.bits && inI Γ 0 (2 ^ n - 1) (x.sub (r.mul (2 ^ n)))
      | none => false)
    | .shl => (match natLit y with
      | some n => Nat.ble n k.bits && (r.eqb (x.mul (2 ^ n)) && inI Γ k.min k.max r)
      | none => false)
    | .or => inI Γ k.min k.max r && (r.eqb (x.add y) && (inI Γ k.min k.max x && (inI Γ k.min k.max y && (orAt Γ x y 8 || (orAt Γ x y 16 || orAt Γ x y 24)))))
    | _ => false)
theorem unsig_min {k : IntKind} (h : unsig k = true) : k.min = 0 := by
  cases k <;> simp only [unsig] at h <;> simp [IntKind.min, IntKind.signed] at *
theorem unsig_max {k : IntKind} (h : unsig k = true) : k.max = 2 ^ k.bits - 1 := by
  cases k <;> simp only [unsig] at h <;> simp [IntKind.max, IntKind.signed] at *
theorem bits_or {k : IntKind} (hk : unsig k = true) {a b : Nat} (ha : (a : Int) ≤ k.max) (hb : (b : Int) ≤ k.max) (hs : ((a ||| b : Nat) : Int) ≤ k.max) : bits .or k a b = ((a ||| b : Nat) : Int) := by
  have hm := unsig_max hk
  have h1 : (BitVec.ofInt k.bits (a : Int)).toNat = a := by
    rw [BitVec.ofInt_natCast, BitVec.toNat_ofNat]
    apply Nat.mod_eq_of_lt
    have : (a : Int) < 2 ^ k.bits := by omega
    exact_mod_cast this
  have h2 : (BitVec.ofInt k.bits (b : Int)).toNat = b := by
    rw [BitVec.ofInt_natCast, BitVec.toNat_ofNat]
    apply Nat.mod_eq_of_lt
    have : (b : Int) < 2 ^ k.bits := by omega
    exact_mod_cast this
  show k.wrap (((BitVec.ofInt k.bits (a : Int)) ||| (BitVec.ofInt k.bits (b : Int))).toNat : Int) = _
  rw [BitVec.toNat_or, h1, h2]
  exact wrap_in _ ⟨by rw [unsig_min hk]; exact Int.natCast_nonneg _, hs⟩
theorem or_add {x y : Int} {n : Nat} {q : Int} (hx : x = 2 ^ n * q) (h0 : 0 ≤ x) (h1 : 0 ≤ y) (h2 : y ≤ 2 ^ n - 1) : ∃ a b : Nat, x = a ∧ y = b ∧ a ||| b = a + b := by
  have hp : (0 : Int) < 2 ^ n := Int.pow_pos (by decide)
  have hq : 0 ≤ q := by
    apply Int.not_lt.1
    intro hq
    have : 2 ^ n * q < 0 := Int.mul_neg_of_pos_of_neg hp hq
    omega
  obtain ⟨m, rfl⟩ := Int.eq_ofNat_of_zero_le hq
  obtain ⟨b, rfl⟩ := Int.eq_ofNat_of_zero_le h1
  refine ⟨2 ^ n * m, b, by rw [hx]; push_cast; rfl, rfl, ?_⟩
  have hb : b < 2 ^ n := by
    have : (b : Int) < 2 ^ n := by omega
    exact_mod_cast this
  exact (Nat.two_pow_add_eq_or_of_lt hb m).symm
theorem symOp_sound {Γ : Cx} {ρ : Nat → Int} (hb : Bnds Γ ρ) {op : BinOp} {k : IntKind} {x y : Lin} {r : Option Lin} (h : symOp Γ op k x y r = true) : ∃ q, r = some q ∧ intBin op k k (x.ev ρ) (y.ev ρ) = some (.int k (q.ev ρ)) := by
  unfold symOp at h
  split at h
  · cases h
  · rename_i q
    refine ⟨q, rfl, ?_⟩
    simp only [Bool.and_eq_true] at h
    obtain ⟨hk, h⟩ := h
    cases op with
    | shr =>
      simp only at h
      split at h
      · rename_i n hn
        simp only [Bool.and_eq_true] at h
        have hy := natLit_ev (ρ := ρ) hn
        have h2 := inI_sound hb h.2
        rw [ev_sub, ev_mul] at h2
        have h3 := nble h.1
        have e : intLe 0 (y.ev ρ) = true := intLe_iff.2 (by omega)
        simp only [intBin, e, _root_.cond_true]
        congr 2
        unfold shrI
        rw [hy, Int.toNat_natCast, Nat.min_eq_left h3]
        have hp : (0 : Int) < 2 ^ n := Int.pow_pos (by decide)
        rw [Int.fdiv_eq_ediv_of_nonneg _ (Int.le_of_lt hp)]
        have : x.ev ρ = (x.ev ρ - 2 ^ n * q.ev ρ) + 2 ^ n * q.ev ρ := by omega
        rw [this, Int.add_mul_ediv_left _ _ (Int.ne_of_gt hp), Int.ediv_eq_zero_of_lt h2.1 (by omega), Int.zero_add]
      · cases h
    | shl =>
      simp only at h
      split at h
      · rename_i n hn
        simp only [Bool.and_eq_true] at h
        have hy := natLit_ev (ρ := ρ) hn
        have h3 := nble h.1
        have h4 := Lin.eqb_eq h.2.1
        have h5 := inI_sound hb h.2.2
        have e : intLe 0 (y.ev ρ) = true := intLe_iff.2 (by omega)
        simp only [intBin, e, _root_.cond_true]
        congr 2
        unfold shlI
        rw [hy, Int.toNat_natCast, Nat.min_eq_left h3]
        have h6 : q.ev ρ = x.ev ρ * 2 ^ n := by rw [h4, ev_mul, Int.mul_comm]
        rw [← h6]
        exact wrap_in _ ⟨h5.1, h5.2⟩
      · cases h
    | or =>
      simp only [Bool.and_eq_true] at h
      obtain ⟨h1, h2, h3, h4, h5⟩ := h
      have h1 := inI_sound hb h1
      have h2 : q.ev ρ = x.ev ρ + y.ev ρ := by rw [Lin.eqb_eq h2, ev_add]
      have h3 := inI_sound hb h3
      have h4 := inI_sound hb h4
      have key : ∃ a b : Nat, x.ev ρ = a ∧ y.ev ρ = b ∧ a ||| b = a + b := by
        have one : ∀ n, orAt Γ x y n = true → ∃ a b : Nat, x.ev ρ = a ∧ y.ev ρ = b ∧ a ||| b = a + b := fun n hn => by
          simp only [orAt, Bool.and_eq_true] at hn
          obtain ⟨g1, g2, g3⟩ := hn
          have g3 := inI_sound hb g3
          exact or_add (timesOf_ev g1) (loGe_sound hb g2) g3.1 g3.2
        simp only [Bool.or_eq_true] at h5
        rcases h5 with h5 | h5 | h5
        · exact one _ h5
        · exact one _ h5
        · exact one _ h5
      obtain ⟨a, b, ea, eb, eo⟩ := key
      simp only [intBin, if_true]
      congr 2
      rw [h2, ea, eb]
      rw [ea] at h3; rw [eb] at h4
      rw [h2, ea, eb] at h1
      rw [bits_or hk h3.2 h4.2 (by rw [eo]; push_cast; exact h1.2), eo]; push_cast; rfl
    | _ => simp only at h; cases h
def symCv (Γ : Cx) (k : IntKind) (x r : Lin) : Bool := unsig k && (inI Γ k.min k.max r && timesOf (2 ^ k.bits) (x.sub r))
theorem symCv_sound {Γ : Cx} {ρ : Nat → Int} (hb : Bnds Γ ρ) {k : IntKind} {x r : Lin} (h : symCv Γ k x r = true) : k.wrap (x.ev ρ) = r.ev ρ := by
  simp only [symCv, Bool.and_eq_true] at h
  obtain ⟨hk, h1, h2⟩ := h
  have h1 := inI_sound hb h1
  have h2 := timesOf_ev (ρ := ρ) h2
  rw [ev_sub] at h2
  have h3 : x.ev ρ = r.ev ρ + 2 ^ k.bits * ((x.sub r).over (2 ^ k.bits)).ev ρ := by omega
  have h4 := unsig_min hk
  have h5 := unsig_max hk
  rw [h3]
  have : k.wrap (r.ev ρ + 2 ^ k.bits * ((x.sub r).over (2 ^ k.bits)).ev ρ) = k.wrap (r.ev ρ) := by
    unfold IntKind.wrap
    rw [Int.add_mul_emod_self_left]
  rw [this]
  exact wrap_in _ ⟨h1.1, h1.2⟩
end
end Go.Q

namespace Go.Q
noncomputable section
open Go.RowKit Go.Proofs
open Go.Z hiding cond_false get resF
def allK (p : Nat → Bool) : Nat → Bool
  | 0 => true
  | n + 1 => p n && allK p n
theorem allK_get {p : Nat → Bool} : ∀ {n : Nat}, allK p n = true → ∀ k, k < n → p k = true
  | 0, _, k, h => by omega
  | n + 1, h, k, hk => by
    simp only [allK, Bool.and_eq_true] at h
    by_cases e : k = n
    · subst e; exact h.1
    · exact allK_get h.2 k (by omega)
theorem bytes4 {h : Int} (h0 : 0 ≤ h) (h1 : h ≤ 4294967295) : ∃ b0 b1 b2 b3 : Int, (0 ≤ b0 ∧ b0 ≤ 255) ∧ (0 ≤ b1 ∧ b1 ≤ 255) ∧ (0 ≤ b2 ∧ b2 ≤ 255) ∧ (0 ≤ b3 ∧ b3 ≤ 255) ∧ h = 16777216 * b0 + 65536 * b1 + 256 * b2 + b3 :=
  ⟨h / 16777216, h / 65536 % 256, h / 256 % 256, h % 256, by omega, by omega, by omega, by omega, by omega⟩
end
end Go.Q

namespace Go.Q
noncomputable section
open Go.RowKit Go.Proofs
open Go.Z hiding cond_false get resF
noncomputable section
def subG (c : Ck) (e : EK) (s : St) : Bool := subKL c.e.toL e.toL && (Nat.ble s.nx c.nx && (allIn s c.h && lowOk s s.fl))
section
variable {ρ : Rh} {θ : Tz} {s : St} {w : World}
theorem subG_gon {c : Ck} {e : EK} (hg : GroundOk s.b s.fl) (h : subG c e s = true) (hs : Sat ρ θ s w) : Gon ρ θ s w θ (c.st s.b s.fl) w := by
  simp only [subG, Bool.and_eq_true] at h
  obtain ⟨_, h2, h3, h4⟩ := h
  have hnx : s.nx ≤ c.nx := nble h2
  have low : ∀ n, n < s.fl → (c.st s.b s.fl).get n = s.get n := fun n hn => by
    show (match (hOf c.h).get n with | some x => x | none => s.b.get n) = (match s.h.get n with | some x => x | none => s.b.get n)
    rw [lowOk_get h4 n hn]
    cases hx : (hOf c.h).get n with
    | none => rfl
    | some x =>
      obtain ⟨o, _, e2⟩ := hOf_get hx
      have := (allIn_get h3 n o e2).1
      omega
  have sub : ∀ n o, (c.st s.b s.fl).get n = some o → s.get n = some o := fun n o hn => by
    by_cases hl : n < s.fl
    · rw [low n hl] at hn; exact hn
    · exact st_get h3 (by omega) hn hg
  exact ⟨⟨by show s.fl ≤ c.nx; have := hs.fln; omega, fun n hn => hs.fresh n (by have : c.nx ≤ n := hn; omega), fun n o hn => hs.res n o (sub n o hn), fun n m o o' L M h1 h2 => hs.inj n m o o' L M (sub n o h1) (sub m o' h2)⟩,
    Tz.ext_refl _, by show s.nx ≤ c.nx; omega, fun _ _ => rfl, rfl, rfl, low, ⟨rfl, rfl, rfl⟩, Nat.le_refl _, fun _ _ _ => rfl, fun n o L h1 h2 h3 => .inr ⟨n, o, L, h1, sub n o h2, h3, rfl⟩⟩
end
end
end
end Go.Q

