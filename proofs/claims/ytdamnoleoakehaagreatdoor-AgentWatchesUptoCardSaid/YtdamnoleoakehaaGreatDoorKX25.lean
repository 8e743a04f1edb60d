/- Part 25 of what the closing text rests on. -/
import Derived.Test.YtdamnoleoakehaaGreatDoorKX23
import Derived.Test.YtdamnoleoakehaaGreatDoorKX24
set_option maxRecDepth 100000
namespace Go.Q
noncomputable section
open Go.RowKit Go.Proofs
open Go.Z hiding cond_false get resF
noncomputable section
theorem st0_like : likeA [(nowG, lit 2), (alG, lit 21)] piW (kG false) (k0W (.d (.x 0))).e ⟨.nil, hOf (k0W (.d (.x 0))).h, (k0W (.d (.x 0))).nx, 1⟩ = true := by kernel_rfl
def posB : List (Nat × Ob) → Bool
  | [] => true
  | (n, _) :: l => Nat.ble 1 n && posB l
theorem posB_get : ∀ {l : List (Nat × Ob)}, posB l = true → ∀ n o, (n, o) ∈ l → 1 ≤ n
  | (m, x) :: l, h, n, o, hm => by
    simp only [posB, Bool.and_eq_true] at h
    rcases List.mem_cons.1 hm with e | hm
    · cases e; exact nble h.1
    · exact posB_get h.2 n o hm
theorem st0_pos : posB (k0W (.d (.x 0))).h = true := by kernel_rfl
theorem st0_nx : Nat.ble (k0W (.d (.x 0))).nx 30000 = true := by kernel_rfl
def OwnOf (θ : Tz) (s : St) (w : World) (b : Nat) : Prop := (∃ m o M, 1 ≤ m ∧ s.get m = some o ∧ θ m = some M ∧ M.b = b) ∨ w.heap.size ≤ b
theorem end_gon {ρ : Rh} {θ : Tz} {b : Tr Ob} {w w1 : World} {sy : KV} (hb : GroundOk b 1) (hs : Sat ρ θ ((k0W sy).st b 1) w) (hk : KeptW w (OwnOf θ ((k0W sy).st b 1) w) w1) : Gon ρ θ ((k0W sy).st b 1) w θ (ceW.st b 1) w1 := by
  have get1 : ∀ n, (ceW.st b 1).get n = b.get n := fun n => by
    show (match (hOf []).get n with | some x => x | none => b.get n) = b.get n
    rw [show hOf [] = Tr.nil from rfl, Tr.get_nil]
  have get0 : ((k0W sy).st b 1).get 0 = b.get 0 := by
    show (match (hOf (k0W sy).h).get 0 with | some x => x | none => b.get 0) = b.get 0
    cases hx : (hOf (k0W sy).h).get 0 with
    | none => rfl
    | some x =>
      obtain ⟨o, _, e2⟩ := hOf_get hx
      have := posB_get st0_pos 0 o e2
      omega
  have hnx : (k0W sy).nx ≤ 30000 := nble st0_nx
  refine ⟨⟨(by decide : (1 : Nat) ≤ 30000), fun n hn => hs.fresh n (Nat.le_trans hnx hn), fun n o hn => ?_, fun n m o o' L M hn hm _ _ _ => ?_⟩, Tz.ext_refl _, hnx, fun _ _ => rfl, rfl, rfl, fun n hn => ?_, hk.env, hk.size, fun x hx hno => hk.still x hx fun ho => ?_, fun n o L h1 h2 h3 => ?_⟩
  · rw [get1] at hn
    by_cases h0 : n = 0
    · subst h0
      obtain ⟨L, k1, k2⟩ := hs.res 0 o (by rw [get0]; exact hn)
      refine ⟨L, k1, Ob.holds_mono (Tz.ext_refl _) ?_ k2⟩
      refine hk.still L.b (Ob.holds_lt k2) fun ho => ?_
      rcases ho with ⟨m, o', M, g1, g2, g3, g4⟩ | ho
      · have := hs.inj m 0 o' o M L g2 (by rw [get0]; exact hn) g3 k1 g4
        omega
      · have := Ob.holds_lt k2; omega
    · rw [hb n (by omega)] at hn; cases hn
  · rw [get1] at hn hm
    have h0 : n = 0 := by
      by_cases h0 : n = 0
      · exact h0
      · rw [hb n (by omega)] at hn; cases hn
    have h1 : m = 0 := by
      by_cases h1 : m = 0
      · exact h1
      · rw [hb m (by omega)] at hm; cases hm
    rw [h0, h1]
  · have h0 : n = 0 := by have : n < 1 := hn; omega
    rw [h0, get1, get0]
  · rcases ho with ⟨m, o', M, g1, g2, g3, g4⟩ | ho
    · exact hno m o' M g1 g2 g3 g4
    · omega
  · rw [get1] at h2
    have h1' : 1 ≤ n := h1
    rw [hb n h1'] at h2; cases h2
theorem badE_env {ρ : Rh} {θ : Tz} {vis0 : Vs} {a : Act} : EnvOk ρ θ (visE vis0 ceW.e) a := fun t d hd => by
  unfold visE at hd
  split at hd
  · rename_i p hp
    rw [show ceW.e = badE from rfl, badE_get] at hd; cases hd
  · cases hd
theorem orcW_snd {ρ : Rh} {N : Nat} {fn : Func} {vis0 : Vs} {b : Tr Ob} {sy : DV} {c : Code} (hl : LpOk fn vis0 N c) (hb : GroundOk b 1) (hsay : ∀ θ w v, Sat ρ θ ((k0W (.d sy)).st b 1) w → W ρ θ sy v → ∃ L0, SaysIs w (OwnOf θ ((k0W (.d sy)).st b 1) w) L0 v)
    (ex : Nat → KF) (Ge : Nat → Tf) (hex : ∀ i, Snd ρ tP fn vis0 N vis0 (ex i) (Ge i)) :
    Snd ρ tP fn vis0 N vis0 (orcF b 1 0 (k0W (.d sy)) ceW ex) (fun Q a w => (Code.loop c).wp tP (fun x a w => match x with | .exit i => Ge i Q a w | .ret => Q .ret a w | _ => False) a w) := by
  intro call' hC' env θ s a w L Q hs he hN h ho
  have h0 : (@Bool.rec (fun _ => O3) .no ((ex 0).r call' ceW.e (ceW.st b 1)) (eqbT eqw s.b b && (Nat.beq s.fl 1 && subC (k0W (.d sy)) env s))).L = some L := h
  cases hc2 : (eqbT eqw s.b b && (Nat.beq s.fl 1 && subC (k0W (.d sy)) env s)) with
  | false => rw [hc2] at h0; cases h0
  | true =>
    rw [hc2] at h0
    simp only [Bool.and_eq_true] at hc2
    obtain ⟨e1, e2, e3⟩ := hc2
    have hbb : s.b = b := eqbT_eq eqw_eq e1
    have hf : s.fl = 1 := nbeq e2
    have g := sub_gon (by rw [hbb, hf]; exact hb) e3 hs
    rw [hbb, hf] at g
    have he' := sub_env e3 he
    obtain ⟨v, k1, k2⟩ := he' 0 sy (by unfold visE; rw [hl.vis]; rfl)
    obtain ⟨L0, hS⟩ := hsay θ w v g.sat k2
    have hp : PsOk [(nowG, lit 2), (alG, lit 21)] (rhoG (0 : Nat) 21 v) ρ := fun q hq => by
      rcases List.mem_cons.1 hq with rfl | hq
      · show nowG.ev (aW (0 : Nat) 21) = (lit 2).ev ρ.a
        rw [ev_lit]; rfl
      · obtain rfl := List.mem_singleton.1 hq
        show alG.ev (aW (0 : Nat) 21) = (lit 21).ev ρ.a
        rw [ev_lit]; rfl
    have hl0 : likeA [(nowG, lit 2), (alG, lit 21)] piW (kG false) (k0W (.d sy)).e ((k0W (.d sy)).st b 1) = true := likeA_eq (b := .nil) nil_ground1 hb st0_like
    have hI : WInv vis0 w (OwnOf θ ((k0W (.d sy)).st b 1) w) L0 v 0 false 21 a w := by
      refine ⟨⟨_, Hold.of hp hl0 (show 1 ≤ 1125 by decide) g.sat (fun n o L h1 h2 h3 => .inl ⟨n, o, L, h1, h2, h3, rfl⟩), env_of hp hl0 he' fun t d ht hd => ?_⟩, ⟨⟨rfl, rfl, rfl⟩, Nat.le_refl _, fun _ _ _ => rfl⟩⟩
      obtain rfl := hl.uniq t ht
      have hd' : some (DV.x 0) = some d := hd
      cases hd'
      exact ⟨v, k1, rfl⟩
    refine loopW hl (fun x hx => .inr hx) hS hI hN fun a1 w1 hk hN1 => ?_
    have g2 := end_gon hb g.sat hk
    have g3 := g.trans g2
    exact hex 0 call' hC' ceW.e θ (ceW.st b 1) a1 w1 L Q g3.sat badE_env hN1 h0 (ho.go g3 fun _ hz => hz)
theorem ks11 {F : Fd} (h : tI 11 = some F) : ∃ l, F.ks = 0 :: l := by
  unfold tI at h
  split at h <;> try (cases h; done)
  split at h <;> cases h
  exact ⟨_, rfl⟩
theorem runW_sound {Γ : Cx} {ρ : Rh} (hΓ : CxOk Γ ρ) {b : Tr Ob} {sy : DV} {args : List DV} {s : St} {θ : Tz} {w : World} {us : List Value} (hb : GroundOk b 1) (h2 : tvO (runL Γ 11 13 0 b 1 (k0W (.d sy)) ceW args s) = true)
    (hsay : ∀ θ w v, Sat ρ θ ((k0W (.d sy)).st b 1) w → W ρ θ sy v → ∃ L0, SaysIs w (OwnOf θ ((k0W (.d sy)).st b 1) w) L0 v)
    (hs : Sat ρ θ s w) (hv : WL ρ θ args us) : EntersOk tP 11 ∧ Calls tP 11 us.toArray w fun e w' => e = .returned (.bool true) ∧ ∃ s' θ', Gon ρ θ s w θ' s' w' := by
  have h1 := one11
  unfold oneL at h1
  unfold runL at h2
  cases hF : tI 11 with
  | none => rw [hF] at h1; cases h1
  | some F =>
    rw [hF] at h1 h2
    simp only [Bool.and_eq_true] at h1
    obtain ⟨h3, h4⟩ := h1
    cases hl : loopAt 13 F.code with
    | none => rw [hl] at h4; cases h4
    | some c0 =>
      simp only [hl] at h4
      obtain ⟨fn, f1, f2, f3, f4, f5⟩ := tI_ok 11 F hF
      have hks := tI_ks 11 F hF
      have hgood : Good (visOf F.ks 0) (visOf F.ks 0).length := by have := visOf_good F.ks 0; rw [Nat.zero_add] at this; rw [visOf_length]; exact this
      obtain ⟨kl, hkl⟩ := ks11 hF
      have hlp : LpOk fn (visOf F.ks 0) F.N c0 := by
        refine ⟨by rw [hkl]; rfl, fun t ht => ?_, fun Γ' ρ' hΓ' => ?_⟩
        · rw [hkl] at ht
          have ht' : posOf ((0, 0) :: visOf kl 1) t = some 0 := ht
          rw [posOf_cons] at ht'
          cases hb0 : Nat.beq 0 t with
          | true => exact (nbeq hb0).symm
          | false =>
            rw [hb0] at ht'
            have := visOf_ge (show posOf (visOf kl 1) t = some 0 from ht')
            omega
        · have hret : Snd ρ' tP fn (visOf F.ks 0) F.N (visOf F.ks 0) (retF tP (visOf F.ks 0) F.rv) (fun Q a w => Q .ret a w) := by
            rw [← f4]; exact retF_snd
          have e0 : bodyAt Γ' 11 13 = stK Γ' tP F.N (visOf F.ks 0) F.dr 100000 (fun _ => none) (retF tP (visOf F.ks 0) F.rv) c0 normF exitF := by
            unfold bodyAt; rw [hF]; simp only [hl]
          rw [e0]
          intro call hC env θ s a w L Q hs he hN h ho
          have := stK_snd hgood (visOf_pos hks) mixed hΓ' (dr := F.dr) (rounds := 100000) hret (orc := fun _ => none) c0 normF exitF (fun Q a w => Q .normal a w) (fun i Q a w => Q (.exit i) a w) (fun c _ i _ O hO => by cases hO)
            (fun call hC env θ s a w L Q hs he hN h ho => by cases h; exact ho.n _ _ (.head _) θ a w (Gon.refl hs) he hN)
            (fun i call hC env θ s a w L Q hs he hN h ho => by cases h; exact ho.x _ _ _ (.head _) θ a w (Gon.refl hs) he hN) call hC env θ s a w L Q hs he hN h ho
          refine wp_mono this fun e a w hq => ?_
          cases e <;> first | exact hq | exact hq.elim
      have hO : OrcAll ρ tP fn (visOf F.ks 0) F.N (orc1 b 1 0 13 (k0W (.d sy)) ceW) F.code := by
        intro c hin j hj O hO ex Ge hex
        unfold orc1 at hO
        cases hbj : Nat.beq j 13 with
        | false => rw [hbj] at hO; cases hO
        | true =>
          rw [hbj] at hO
          cases hO
          have hjr : j = 13 := Nat.eq_of_beq_eq_true hbj
          subst hjr
          obtain rfl := loopAt_only hj (nble h3) hl hin
          exact orcW_snd hlp hb hsay ex Ge hex
      cases hgo : (fnS Γ tP 100000 (orc1 b 1 0 13 (k0W (.d sy)) ceW) F).go (cS Γ) args s with
      | error x => simp only [hgo] at h2; cases h2
      | ok l =>
        simp only [hgo] at h2
        obtain ⟨g1, g2⟩ := fnS_sound mixed hΓ (cS_ok hΓ) f1 f2 f3 f4 f5 hks hO hs hv hgo
        refine ⟨g1, g2.mono fun e w' hq => ?_⟩
        obtain ⟨d, s', θ', v, rfl, hm, hG, hW⟩ := hq
        have h6 : l.all (fun x => match x.1 with | .c (.bool b) => b | _ => false) = true := h2
        have h7 := List.all_eq_true.1 h6 _ hm
        refine ⟨?_, s', θ', hG⟩
        cases d with
        | c v' =>
          simp only [W] at hW
          subst hW
          cases v with
          | bool t => cases t with
            | true => rfl
            | false => cases h7
          | _ => cases h7
        | _ => cases h7
end
end
end Go.Q

