/- Part 50 of what the closing text rests on. -/
import Derived.Test.YtdamnoleoakehaaGreatDoorKE20
namespace Go.Q
noncomputable section
open Go.RowKit Go.Proofs
open Go.Z hiding cond_false get resF
noncomputable section
def subG (c : Ck) (e : EK) (s : St) : Bool := subKL c.e.toL e.toL && (Nat.ble s.nx c.nx && (allIn s c.h && lowOk s s.fl))
section
variable {ρ : Rh} {θ : Tz} {s : St} {w : World}
theorem subG_gon {c : Ck} {e : EK} (hg : GroundOk s.b s.fl) (h : subG c e s = true) (hs : Sat ρ θ s w) : Gon ρ θ s w θ (c.st s.b s.fl) w := by
  simp only [subG, Bool.and_eq_true] at h
  obtain ⟨_, h2, h3, h4⟩ := h
  have hnx : s.nx ≤ c.nx := nble h2
  have low : ∀ n, n < s.fl → (c.st s.b s.fl).get n = s.get n := fun n hn => by
    show (match (hOf c.h).get n with | some x => x | none => s.b.get n) = (match s.h.get n with | some x => x | none => s.b.get n)
    rw [lowOk_get h4 n hn]
    cases hx : (hOf c.h).get n with
    | none => rfl
    | some x =>
      obtain ⟨o, _, e2⟩ := hOf_get hx
      have := (allIn_get h3 n o e2).1
      omega
  have sub : ∀ n o, (c.st s.b s.fl).get n = some o → s.get n = some o := fun n o hn => by
    by_cases hl : n < s.fl
    · rw [low n hl] at hn; exact hn
    · exact st_get h3 (by omega) hn hg
  exact ⟨⟨by show s.fl ≤ c.nx; have := hs.fln; omega, fun n hn => hs.fresh n (by have : c.nx ≤ n := hn; omega), fun n o hn => hs.res n o (sub n o hn), fun n m o o' L M h1 h2 => hs.inj n m o o' L M (sub n o h1) (sub m o' h2)⟩,
    Tz.ext_refl _, by show s.nx ≤ c.nx; omega, fun _ _ => rfl, rfl, rfl, low, ⟨rfl, rfl, rfl⟩, Nat.le_refl _, fun _ _ _ => rfl, fun n o L h1 h2 h3 => .inr ⟨n, o, L, h1, sub n o h2, h3, rfl⟩⟩
theorem subG_env {vis0 : Vs} {c : Ck} {e : EK} {a : Act} (h : subG c e s = true) (he : EnvOk ρ θ (visE vis0 e) a) : EnvOk ρ θ (visE vis0 c.e) a := by
  simp only [subG, Bool.and_eq_true] at h
  intro t d hd
  refine he t d ?_
  unfold visE at hd ⊢
  split at hd
  · exact subKL_get h.1 _ _ hd
  · cases hd
end
def xOk2 (i : Nat) (r : O3) (c : Ck) : Bool := @O3.rec (fun _ => Bool) false (fun _ _ => false) (fun j e s => Nat.beq i j && subG c e s) (fun _ _ => false) (fun _ => false) r
def Ch2 (ρ : Rh) (f r : Nat) (call : CallF) (b : Tr Ob) (fl i : Nat) (ce : Ck) : Nat → EK → St → Prop
  | 0, e, s => ∃ Γ' : Cx, CxOk Γ' ρ ∧ xOk2 i ((bodyAt Γ' f r).r call e s) ce = true
  | n + 1, e, s => ∃ (Γ' : Cx) (k' : Ck), CxOk Γ' ρ ∧ rOk ((bodyAt Γ' f r).r call e s) k' = true ∧ Ch2 ρ f r call b fl i ce n k'.e (k'.st b fl)
theorem ch2_wp {ρ : Rh} {θ : Tz} {w : World} {N : Nat} {fn : Func} {vis0 : Vs} {b : Tr Ob} {fl f r : Nat} {call : CallF} {i : Nat} {ce : Ck} {c : Code} (hC : CallOk ρ tP call)
    (hB : ∀ Γ', CxOk Γ' ρ → Snd ρ tP fn vis0 N vis0 (bodyAt Γ' f r) (fun Q a w => c.wp tP Q a w)) (hg : GroundOk b fl) {n : Nat} {e0 : EK} {s0 : St} (hb0 : s0.b = b) (hf0 : s0.fl = fl) (hc : Ch2 ρ f r call b fl i ce n e0 s0)
    {a : Act} (hs : Sat ρ θ s0 w) (he : EnvOk ρ θ (visE vis0 e0) a) (hN : SzOk N a) {Q : Exit → Act → World → Prop}
    (hQ : ∀ θ' a' w', Gon ρ θ s0 w θ' (ce.st b fl) w' → EnvOk ρ θ' (visE vis0 ce.e) a' → SzOk N a' → Q (.exit i) a' w') : (Code.loop c).wp tP Q a w := by
  refine wp_loop_ghost (fun m a' w' => ∃ e' s' θ', Ch2 ρ f r call b fl i ce m e' s' ∧ Gon ρ θ s0 w θ' s' w' ∧ EnvOk ρ θ' (visE vis0 e') a' ∧ SzOk N a') n ⟨e0, s0, θ, hc, Gon.refl hs, he, hN⟩ ?_
  rintro m a' w' ⟨e', s', θ', hch, g, he', hN'⟩
  have hb1 : s'.b = b := g.bs.trans hb0
  have hf1 : s'.fl = fl := g.fl.trans hf0
  cases m with
  | zero =>
    obtain ⟨Γ', hΓ', hx⟩ := hch
    cases hr : (bodyAt Γ' f r).r call e' s' with
    | x j e1 s1 =>
      rw [hr] at hx
      have hx2 : (Nat.beq i j && subG ce e1 s1) = true := hx
      simp only [Bool.and_eq_true] at hx2
      obtain rfl := nbeq hx2.1
      refine hB Γ' hΓ' call hC e' θ' s' a' w' [.x i e1 s1] _ g.sat he' hN' (by rw [hr]; rfl) ⟨fun e2 s2 hin => (by simp at hin), fun i2 e2 s2 hin θ2 a2 w2 g2 he2 hN2 => ?_, fun d2 s2 hin => (by simp at hin)⟩
      simp only [List.mem_singleton, XK.x.injEq] at hin
      obtain ⟨rfl, rfl, rfl⟩ := hin
      have hb : s2.b = b := g2.bs.trans hb1
      have hf : s2.fl = fl := g2.fl.trans hf1
      have g3 := subG_gon (by rw [hb, hf]; exact hg) hx2.2 g2.sat
      rw [hb, hf] at g3
      exact hQ θ2 a2 w2 ((g.trans g2).trans g3) (subG_env hx2.2 he2) hN2
    | _ => rw [hr] at hx; cases hx
  | succ m =>
    obtain ⟨Γ', k2, hΓ', hx, hch2⟩ := hch
    cases hr : (bodyAt Γ' f r).r call e' s' with
    | n e1 s1 =>
      rw [hr] at hx
      have hx2 : subC k2 e1 s1 = true := hx
      refine hB Γ' hΓ' call hC e' θ' s' a' w' [.n e1 s1] _ g.sat he' hN' (by rw [hr]; rfl) ⟨fun e2 s2 hin θ2 a2 w2 g2 he2 hN2 => ?_, fun i2 e2 s2 hin => (by simp at hin), fun d2 s2 hin => (by simp at hin)⟩
      simp only [List.mem_singleton, XK.n.injEq] at hin
      obtain ⟨rfl, rfl⟩ := hin
      have hb : s2.b = b := g2.bs.trans hb1
      have hf : s2.fl = fl := g2.fl.trans hf1
      have g3 := sub_gon (by rw [hb, hf]; exact hg) hx2 g2.sat
      rw [hb, hf] at g3
      exact ⟨m, Nat.lt_succ_self m, k2.e, k2.st b fl, θ2, hch2, (g.trans g2).trans g3, sub_env hx2 he2, hN2⟩
    | _ => rw [hr] at hx; cases hx
theorem orcF_snd2 {ρ : Rh} {N : Nat} {fn : Func} {vis0 : Vs} {b : Tr Ob} {fl f r : Nat} {call : CallF} {i : Nat} {k0 ce : Ck} {c : Code} (hC : CallOk ρ tP call) (hB : ∀ Γ', CxOk Γ' ρ → Snd ρ tP fn vis0 N vis0 (bodyAt Γ' f r) (fun Q a w => c.wp tP Q a w)) (hg : GroundOk b fl) {n : Nat} (hc : Ch2 ρ f r call b fl i ce n k0.e (k0.st b fl))
    (ex : Nat → KF) (Ge : Nat → Tf) (hex : ∀ i, Snd ρ tP fn vis0 N vis0 (ex i) (Ge i)) :
    Snd ρ tP fn vis0 N vis0 (orcF b fl i k0 ce ex) (fun Q a w => (Code.loop c).wp tP (fun x a w => match x with | .exit i => Ge i Q a w | .ret => Q .ret a w | _ => False) a w) := by
  intro call' hC' env θ s a w L Q hs he hN h ho
  have h0 : (@Bool.rec (fun _ => O3) .no ((ex i).r call' ce.e (ce.st b fl)) (eqbT eqw s.b b && (Nat.beq s.fl fl && subC k0 env s))).L = some L := h
  cases hc2 : (eqbT eqw s.b b && (Nat.beq s.fl fl && subC k0 env s)) with
  | false => rw [hc2] at h0; cases h0
  | true =>
    rw [hc2] at h0
    simp only [Bool.and_eq_true] at hc2
    obtain ⟨e1, e2, e3⟩ := hc2
    have hb : s.b = b := eqbT_eq eqw_eq e1
    have hf : s.fl = fl := nbeq e2
    have g := sub_gon (by rw [hb, hf]; exact hg) e3 hs
    rw [hb, hf] at g
    refine ch2_wp hC hB hg (s0 := k0.st b fl) rfl rfl hc g.sat (sub_env e3 he) hN fun θ' a' w' g2 he2 hN2 => ?_
    have g3 := g.trans g2
    exact hex i call' hC' ce.e θ' (ce.st b fl) a' w' L Q g3.sat he2 hN2 h0 (ho.go g3 fun _ hz => hz)
theorem runL2_sound {Γ : Cx} {ρ : Rh} (hΓ : CxOk Γ ρ) {f r i n : Nat} {b : Tr Ob} {fl : Nat} {k0 ce : Ck} {args : List DV} {s : St} {θ : Tz} {w : World} {us : List Value} (hg : GroundOk b fl) (h1 : oneL f r = true) (hc : Ch2 ρ f r (cS Γ) b fl i ce n k0.e (k0.st b fl)) (h2 : tvO (runL Γ f r i b fl k0 ce args s) = true)
    (hs : Sat ρ θ s w) (hv : WL ρ θ args us) : EntersOk tP f ∧ Calls tP f us.toArray w fun e w' => e = .returned (.bool true) ∧ ∃ s' θ', Gon ρ θ s w θ' s' w' := by
  unfold oneL at h1
  unfold runL at h2
  cases hF : tI f with
  | none => rw [hF] at h1; cases h1
  | some F =>
    rw [hF] at h1 h2
    simp only [Bool.and_eq_true] at h1
    obtain ⟨h3, h4⟩ := h1
    cases hl : loopAt r F.code with
    | none => rw [hl] at h4; cases h4
    | some c0 =>
      simp only [hl] at h4
      obtain ⟨fn, f1, f2, f3, f4, f5⟩ := tI_ok f F hF
      have hks := tI_ks f F hF
      have hgood : Good (visOf F.ks 0) (visOf F.ks 0).length := by have := visOf_good F.ks 0; rw [Nat.zero_add] at this; rw [visOf_length]; exact this
      have hret : Snd ρ tP fn (visOf F.ks 0) F.N (visOf F.ks 0) (retF tP (visOf F.ks 0) F.rv) (fun Q a w => Q .ret a w) := by
        rw [← f4]; exact retF_snd
      have hB : ∀ Γ', CxOk Γ' ρ → Snd ρ tP fn (visOf F.ks 0) F.N (visOf F.ks 0) (bodyAt Γ' f r) (fun Q a w => c0.wp tP Q a w) := fun Γ' hΓ' => by
        have e0 : bodyAt Γ' f r = stK Γ' tP F.N (visOf F.ks 0) F.dr 100000 (fun _ => none) (retF tP (visOf F.ks 0) F.rv) c0 normF exitF := by
          unfold bodyAt; rw [hF]; simp only [hl]
        rw [e0]
        intro call hC env θ s a w L Q hs he hN h ho
        have := stK_snd hgood (visOf_pos hks) mixed hΓ' (dr := F.dr) (rounds := 100000) hret (orc := fun _ => none) c0 normF exitF (fun Q a w => Q .normal a w) (fun i Q a w => Q (.exit i) a w) (fun c _ i _ O hO => by cases hO)
          (fun call hC env θ s a w L Q hs he hN h ho => by cases h; exact ho.n _ _ (.head _) θ a w (Gon.refl hs) he hN)
          (fun i call hC env θ s a w L Q hs he hN h ho => by cases h; exact ho.x _ _ _ (.head _) θ a w (Gon.refl hs) he hN) call hC env θ s a w L Q hs he hN h ho
        refine wp_mono this fun e a w hq => ?_
        cases e <;> first | exact hq | exact hq.elim
      have hO : OrcAll ρ tP fn (visOf F.ks 0) F.N (orc1 b fl i r k0 ce) F.code := by
        intro c hin j hj O hO ex Ge hex
        unfold orc1 at hO
        cases hb : Nat.beq j r with
        | false => rw [hb] at hO; cases hO
        | true =>
          rw [hb] at hO
          cases hO
          have hjr : j = r := Nat.eq_of_beq_eq_true hb
          subst hjr
          obtain rfl := loopAt_only hj (nble h3) hl hin
          exact orcF_snd2 (cS_ok hΓ) hB hg hc ex Ge hex
      cases hgo : (fnS Γ tP 100000 (orc1 b fl i r k0 ce) F).go (cS Γ) args s with
      | error x => simp only [hgo] at h2; cases h2
      | ok l =>
        simp only [hgo] at h2
        obtain ⟨g1, g2⟩ := fnS_sound mixed hΓ (cS_ok hΓ) f1 f2 f3 f4 f5 hks hO hs hv hgo
        refine ⟨g1, g2.mono fun e w' hq => ?_⟩
        obtain ⟨d, s', θ', v, rfl, hm, hG, hW⟩ := hq
        have h6 : l.all (fun x => match x.1 with | .c (.bool b) => b | _ => false) = true := h2
        have h7 := List.all_eq_true.1 h6 _ hm
        refine ⟨?_, s', θ', hG⟩
        cases d with
        | c v' =>
          simp only [W] at hW
          subst hW
          cases v with
          | bool t => cases t with
            | true => rfl
            | false => cases h7
          | _ => cases h7
        | _ => cases h7
end
end
end Go.Q

namespace Go.Q
noncomputable section
open Go.RowKit Go.Proofs
open Go.Z hiding cond_false get resF
noncomputable section
def leqG (Γ : Cx) (i : Int) (t : Bool) : Cx := { Γ with ops := (.leq, .i64, lit i, ⟨1, [(15, 1)]⟩, none, t) :: Γ.ops }
def ceA : Ck := ⟨badE, [], 30000⟩
end
end
end Go.Q

set_option maxRecDepth 100000
namespace Go.Q
noncomputable section
open Go.RowKit Go.Proofs
open Go.Z hiding cond_false get resF
def padA (k : Int) : Int := (3 - k) % 4
def asAtoms (k : Int) : List Int := [padA k, (9 + k) / 256, (9 + k) % 256, (69 + k + padA k) / 256, (69 + k + padA k) % 256, (81 + k + padA k) / 256, (81 + k + padA k) % 256, (13 + k) / 256, (13 + k) % 256, (73 + k + padA k) / 256, (73 + k + padA k) % 256]
def aA (ys : List Int) (k o c tm n : Int) : Nat → Int
  | 0 => k
  | 1 => o
  | 2 => c
  | m + 3 => (ys ++ [tm, n]).getD m 0
def freeA : List (Nat × Int) → Bool
  | [] => true
  | (i, _) :: l => (Nat.beq i 0 || (Nat.ble 3 i && Nat.ble i 13)) && freeA l
theorem freeA_ev {ys : List Int} {k o c tm n : Int} (h11 : ys.length = 11) : ∀ {t : List (Nat × Int)}, freeA t = true → evT (aA ys k o c tm n) t = evT (aA ys k 0 0 0 0) t
  | [], _ => rfl
  | (i, z) :: l, h => by
    simp only [freeA, Bool.and_eq_true, Bool.or_eq_true] at h
    have h3 := freeA_ev (k := k) (o := o) (c := c) (tm := tm) (n := n) h11 h.2
    simp only [evT, h3]
    match i, h.1 with
    | 0, _ => rfl
    | 1, h => rcases h with h | h <;> (try cases h) <;> (rename_i h _; cases h)
    | 2, h => rcases h with h | h <;> (try cases h) <;> (rename_i h _; cases h)
    | m + 3, h =>
      have hm : m < 11 := by
        rcases h with h | h
        · cases h
        · have := nble h.2; omega
      have e1 : aA ys k o c tm n (m + 3) = aA ys k 0 0 0 0 (m + 3) := by
        show (ys ++ [tm, n]).getD m 0 = (ys ++ [0, 0]).getD m 0
        rw [List.getD_eq_getElem?_getD, List.getD_eq_getElem?_getD, List.getElem?_append_left (by omega), List.getElem?_append_left (by omega)]
      rw [e1]
theorem freeA_lin {ys : List Int} {k o c tm n : Int} (h11 : ys.length = 11) {x : Lin} (h : freeA x.t = true) : x.ev (aA ys k o c tm n) = x.ev (aA ys k 0 0 0 0) := by unfold Lin.ev; rw [freeA_ev h11 h]
def opAtA (a : Nat → Int) (x : BinOp × IntKind × Lin × Lin × Option Lin × Bool) : Bool :=
  freeA x.2.2.1.t && (freeA x.2.2.2.1.t && (match x.2.2.2.2.1 with
    | some r => freeA r.t && (match intBin x.1 x.2.1 x.2.1 (x.2.2.1.ev a) (x.2.2.2.1.ev a) with
      | some (.int k n) => decide (k = x.2.1) && intB n (r.ev a)
      | _ => false)
    | none => false))
def cvAtA (a : Nat → Int) (x : IntKind × Lin × Lin) : Bool := freeA x.2.1.t && (freeA x.2.2.t && intB (x.1.wrap (x.2.1.ev a)) (x.2.2.ev a))
def remE : BinOp × IntKind × Lin × Lin × Option Lin × Bool := (.rem, .u8, ⟨0, [(14, 1)]⟩, lit 20, some ⟨0, [(15, 1)]⟩, false)
def askOk (Γ : Cx) (ys his : List Int) (k : Int) : Bool := hiOk ys his && (Γ.ops.dropLast.all (opAtA (aA ys k 0 0 0 0)) && Γ.cv.all (cvAtA (aA ys k 0 0 0 0)))
theorem askCx {Γ : Cx} {K tm : Int} {ys his : List Int} {k o c : Nat} {b : Nat → List Int} {x : Nat → Value} (h11 : ys.length = 11) (hi11 : his.length = 11) (h1 : Γ.hi = K :: -1 :: -1 :: (his ++ [255, 19])) (hk : (k : Int) ≤ K) (hops : Γ.ops = Γ.ops.dropLast ++ [remE]) (ht : askOk Γ ys his k = true)
    (htm : 0 ≤ tm ∧ tm ≤ 255) (hlen : ∀ i, ((b i).length : Int) = (Γ.bl.getD i (lit 0)).ev (aA ys k o c tm (tm % 20))) (hby : ∀ i, ∀ n ∈ b i, 0 ≤ n ∧ n < 256) (hsq : Γ.sq = [])
    (hz : ∀ x ∈ Γ.zs, ∃ n : Nat, b x.2.2 = List.replicate n 0 ∧ x.1.ev (aA ys k o c tm (tm % 20)) = ((x.2.1 + n : Nat) : Int)) : CxOk Γ ⟨aA ys k o c tm (tm % 20), b, x⟩ := by
  simp only [askOk, Bool.and_eq_true] at ht
  obtain ⟨t1, t2, t3⟩ := ht
  have a14 : aA ys k o c tm (tm % 20) 14 = tm := by
    show (ys ++ [tm, tm % 20]).getD 11 0 = tm
    rw [List.getD_eq_getElem?_getD, List.getElem?_append_right (by omega), h11]; rfl
  have a15 : aA ys k o c tm (tm % 20) 15 = tm % 20 := by
    show (ys ++ [tm, tm % 20]).getD 12 0 = tm % 20
    rw [List.getD_eq_getElem?_getD, List.getElem?_append_right (by omega), h11]; rfl
  have hb : Bnds Γ (aA ys k o c tm (tm % 20)) := fun i => by
    unfold Cx.hiOf
    rw [h1]
    match i with
    | 0 => exact ⟨Int.natCast_nonneg k, fun _ => hk⟩
    | 1 => exact ⟨Int.natCast_nonneg o, fun h => absurd (show (0 : Int) ≤ -1 from h) (by decide)⟩
    | 2 => exact ⟨Int.natCast_nonneg c, fun h => absurd (show (0 : Int) ≤ -1 from h) (by decide)⟩
    | m + 3 =>
      have hg : (K :: -1 :: -1 :: (his ++ [255, 19])).getD (m + 3) 0 = (his ++ [255, 19]).getD m 0 := rfl
      rw [hg]
      by_cases hm : m < 11
      · have e1 : aA ys k o c tm (tm % 20) (m + 3) = ys.getD m 0 := by
          show (ys ++ [tm, tm % 20]).getD m 0 = _
          rw [List.getD_eq_getElem?_getD, List.getD_eq_getElem?_getD, List.getElem?_append_left (by omega)]
        have e2 : (his ++ [255, 19]).getD m 0 = his.getD m 0 := by
          rw [List.getD_eq_getElem?_getD, List.getD_eq_getElem?_getD, List.getElem?_append_left (by omega)]
        rw [e1, e2]
        exact ⟨(hiOk_get t1 m).1, fun _ => (hiOk_get t1 m).2⟩
      · have e2 : (his ++ [255, 19]).getD m 0 = ([255, 19] : List Int).getD (m - 11) 0 := by
          rw [List.getD_eq_getElem?_getD, List.getD_eq_getElem?_getD, List.getElem?_append_right (by omega), hi11]
        have e1 : aA ys k o c tm (tm % 20) (m + 3) = ([tm, tm % 20] : List Int).getD (m - 11) 0 := by
          show (ys ++ [tm, tm % 20]).getD m 0 = _
          rw [List.getD_eq_getElem?_getD, List.getD_eq_getElem?_getD, List.getElem?_append_right (by omega), h11]
        rw [e1, e2]
        generalize m - 11 = j
        match j with
        | 0 => exact ⟨htm.1, fun _ => htm.2⟩
        | 1 => exact ⟨by show 0 ≤ tm % 20; omega, fun _ => by show tm % 20 ≤ 19; omega⟩
        | j + 2 => exact ⟨Int.le_refl 0, fun _ => Int.le_refl 0⟩
  refine ⟨hb, hlen, hby, fun x hx => ?_, fun x hx => ?_, fun x hx => ?_, hz⟩
  · rw [hops] at hx
    rcases List.mem_append.1 hx with hx | hx
    · have h6 := List.all_eq_true.1 t2 x hx
      unfold opAtA at h6
      simp only [Bool.and_eq_true] at h6
      obtain ⟨f1, f2, h7⟩ := h6
      split at h7
      · rename_i q hq
        simp only [Bool.and_eq_true] at h7
        obtain ⟨f3, h8⟩ := h7
        split at h8
        · rename_i kk n hi
          simp only [Bool.and_eq_true, decide_eq_true_eq] at h8
          obtain ⟨e1, e2⟩ := h8
          have e3 := intB_eq e2
          subst e1
          obtain ⟨c', w1, w2⟩ := intBin_sound (P := default) (T := 0) hi
          refine ⟨c', ?_, w2⟩
          show binV default x.1 0 (.int x.2.1 (x.2.2.1.ev (aA ys k o c tm (tm % 20)))) (.int x.2.1 (x.2.2.2.1.ev (aA ys k o c tm (tm % 20)))) = _
          rw [freeA_lin h11 f1, freeA_lin h11 f2, w1, hq]
          show some (c', Value.int x.2.1 n) = some (c', Value.int x.2.1 (q.ev (aA ys k o c tm (tm % 20))))
          rw [freeA_lin h11 f3, e3]
        · cases h8
      · cases h7
    · obtain rfl := List.mem_singleton.1 hx
      have e : intBin .rem .u8 .u8 tm 20 = some (.int .u8 (tm % 20)) := by
        show (if IntKind.u8 = IntKind.u8 then (match BinOp.rem with | _ => (cond (intB 20 0) none (some (Value.int .u8 (tm.tmod 20))))) else none) = _
        rw [if_pos rfl]
        show some (Value.int .u8 (tm.tmod 20)) = _
        rw [Int.tmod_eq_emod_of_nonneg htm.1]
      obtain ⟨c', w1, w2⟩ := intBin_sound (P := default) (T := 0) e
      refine ⟨c', ?_, w2⟩
      have e14 : (⟨0, [(14, 1)]⟩ : Lin).ev (aA ys k o c tm (tm % 20)) = tm := by simp only [Lin.ev, evT, a14]; omega
      have e15 : (⟨0, [(15, 1)]⟩ : Lin).ev (aA ys k o c tm (tm % 20)) = tm % 20 := by simp only [Lin.ev, evT, a15]; omega
      show binV default .rem 0 (.int .u8 ((⟨0, [(14, 1)]⟩ : Lin).ev (aA ys k o c tm (tm % 20)))) (.int .u8 ((lit 20).ev (aA ys k o c tm (tm % 20)))) = some (c', .int .u8 ((⟨0, [(15, 1)]⟩ : Lin).ev (aA ys k o c tm (tm % 20))))
      rw [e14, e15, ev_lit]
      exact w1
  · have h6 := List.all_eq_true.1 t3 x hx
    unfold cvAtA at h6
    simp only [Bool.and_eq_true] at h6
    obtain ⟨f1, f2, h7⟩ := h6
    show x.1.wrap (x.2.1.ev (aA ys k o c tm (tm % 20))) = x.2.2.ev (aA ys k o c tm (tm % 20))
    rw [freeA_lin h11 f1, freeA_lin h11 f2]
    exact intB_eq h7
  · rw [hsq] at hx; cases hx
theorem aA_15 {ys : List Int} {k o c tm n : Int} (h11 : ys.length = 11) : aA ys k o c tm n 15 = n := by
  show (ys ++ [tm, n]).getD 12 0 = n
  rw [List.getD_eq_getElem?_getD, List.getElem?_append_right (by omega), h11]; rfl
theorem aA_14 {ys : List Int} {k o c tm n : Int} (h11 : ys.length = 11) : aA ys k o c tm n 14 = tm := by
  show (ys ++ [tm, n]).getD 11 0 = tm
  rw [List.getD_eq_getElem?_getD, List.getElem?_append_right (by omega), h11]; rfl
theorem leq_ok {Γ : Cx} {ρ : Rh} (h : CxOk Γ ρ) {i : Int} {t : Bool} (hi : decide (i ≤ 1 + ρ.a 15) = t) : CxOk (leqG Γ i t) ρ := by
  refine ⟨h.b, h.len, h.byte, fun x hx => ?_, h.cv, h.sq, h.z⟩
  rcases List.mem_cons.1 (show x ∈ (BinOp.leq, IntKind.i64, lit i, (⟨1, [(15, 1)]⟩ : Lin), (none : Option Lin), t) :: Γ.ops from hx) with rfl | hx
  · have e : intBin .leq .i64 .i64 i (1 + ρ.a 15) = some (.bool t) := by
      show (if IntKind.i64 = IntKind.i64 then some (Value.bool (intLe i (1 + ρ.a 15))) else none) = _
      rw [if_pos rfl, ← hi]
      have : intLe i (1 + ρ.a 15) = decide (i ≤ 1 + ρ.a 15) := by
        cases hh : intLe i (1 + ρ.a 15) with
        | true => exact (decide_eq_true (intLe_iff.1 hh)).symm
        | false => exact (decide_eq_false (by have := intLe_false.1 hh; omega)).symm
      rw [this]
    obtain ⟨c', w1, w2⟩ := intBin_sound (P := default) (T := 0) e
    refine ⟨c', ?_, w2⟩
    have e15 : (⟨1, [(15, 1)]⟩ : Lin).ev ρ.a = 1 + ρ.a 15 := by simp only [Lin.ev, evT]; omega
    show binV default .leq 0 (.int .i64 ((lit i).ev ρ.a)) (.int .i64 ((⟨1, [(15, 1)]⟩ : Lin).ev ρ.a)) = some (c', .bool t)
    rw [ev_lit, e15]
    exact w1
  · exact h.op x hx
theorem rounds_ch {Γ : Cx} {ρ : Rh} (hΓ : CxOk Γ ρ) {b : Tr Ob} {fl t : Nat} {kk : Nat → Ck} (ht : ρ.a 15 = t) (ht2 : t ≤ 19)
    (hr : ∀ i : Nat, i < 20 → ∃ z : Int, z = (i : Int) + 1 ∧ rOk ((bodyAt (leqG Γ z true) 5 5).r (cS Γ) (kk i).e ((kk i).st b fl)) (kk (i + 1)) = true)
    (hx : ∀ i : Nat, 1 ≤ i → i ≤ 20 → ∃ z : Int, z = (i : Int) + 1 ∧ xOk2 0 ((bodyAt (leqG Γ z false) 5 5).r (cS Γ) (kk i).e ((kk i).st b fl)) ceA = true) :
    ∀ m i, i + m = t + 1 → Ch2 ρ 5 5 (cS Γ) b fl 0 ceA m (kk i).e ((kk i).st b fl)
  | 0, i, h => by
    obtain ⟨z, hz, h2⟩ := hx i (by omega) (by omega)
    exact ⟨leqG Γ z false, leq_ok hΓ (decide_eq_false (by rw [hz, ht]; omega)), h2⟩
  | m + 1, i, h => by
    obtain ⟨z, hz, h2⟩ := hr i (by omega)
    exact ⟨leqG Γ z true, kk (i + 1), leq_ok hΓ (decide_eq_true (by rw [hz, ht]; omega)), h2, rounds_ch hΓ ht ht2 hr hx m (i + 1) (by omega)⟩
end
end Go.Q


