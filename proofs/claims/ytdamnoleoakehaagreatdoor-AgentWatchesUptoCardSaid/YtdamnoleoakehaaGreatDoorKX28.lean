/- Part 28 of what the closing text rests on. -/
import Derived.Test.YtdamnoleoakehaaGreatDoorKX25
import Derived.Test.YtdamnoleoakehaaGreatDoorKX26
import Derived.Test.YtdamnoleoakehaaGreatDoorKX27
set_option maxRecDepth 100000
namespace Go.Q
noncomputable section
open Go.RowKit Go.Proofs Go.ChangeShapes Go.WideShapes Go.ChangeAt
open Go.Z hiding cond_false get resF
noncomputable section
theorem grdW_get : ∀ m, grdW.get m = match m with | 0 => some (Ob.win ⟨0, [(4, 1)]⟩ [.b 0]) | _ + 1 => none := by
  intro m
  have hp : Tr.put 64 (.nil : Tr Ob) 0 (Ob.win ⟨0, [(4, 1)]⟩ [.b 0]) = some grdW := rfl
  obtain ⟨h1, h2⟩ := Tr.get_put _ _ _ _ _ hp
  cases m with
  | zero => exact h1
  | succ m => rw [h2 (m + 1) (by omega)]; exact Tr.get_nil _
theorem grdW_ground : GroundOk grdW 1 := fun m hm => by
  rw [grdW_get]
  cases m with
  | zero => omega
  | succ m => rfl
def rhoW (len1 : Int) (o c : Nat) (l : List Int) : Rh := ⟨fun | 2 => len1 | 4 => o | 5 => c | _ => 0, fun | 0 => l | _ => [], fun _ => .bool true⟩
theorem k0_get0 {sy : KV} {b : Tr Ob} : ((k0W sy).st b 1).get 0 = b.get 0 := by
  show (match (hOf (k0W sy).h).get 0 with | some x => x | none => b.get 0) = b.get 0
  cases hx : (hOf (k0W sy).h).get 0 with
  | none => rfl
  | some x =>
    obtain ⟨o, _, e2⟩ := hOf_get hx
    have := posB_get st0_pos 0 o e2
    omega
theorem cxW {Γ : Cx} {len1 : Int} {o c : Nat} {l : List Int} (h1 : Γ.hi = [0, 0, -1, 0, -1, -1]) (hl : 0 ≤ len1) (h2 : ∀ i, (((rhoW len1 o c l).b i).length : Int) = (Γ.bl.getD i (lit 0)).ev (rhoW len1 o c l).a) (hb : ∀ z ∈ l, 0 ≤ z ∧ z < 256) (h3 : Γ.ops = []) (h4 : Γ.cv = []) (h5 : Γ.sq = []) (h7 : Γ.zs = []) : CxOk Γ (rhoW len1 o c l) :=
  plainCx (fun i => by
    unfold Cx.hiOf
    rw [h1]
    match i with
    | 0 => exact ⟨Int.le_refl 0, fun _ => Int.le_refl 0⟩
    | 1 => exact ⟨Int.le_refl 0, fun _ => Int.le_refl 0⟩
    | 2 => exact ⟨hl, fun h => absurd (show (0 : Int) ≤ -1 from h) (by decide)⟩
    | 3 => exact ⟨Int.le_refl 0, fun _ => Int.le_refl 0⟩
    | 4 => exact ⟨Int.natCast_nonneg o, fun h => absurd (show (0 : Int) ≤ -1 from h) (by decide)⟩
    | 5 => exact ⟨Int.natCast_nonneg c, fun h => absurd (show (0 : Int) ≤ -1 from h) (by decide)⟩
    | n + 6 => exact ⟨Int.le_refl 0, fun _ => Int.le_refl 0⟩) h2 (fun i z hz => by
    match i, hz with
    | 0, hz => exact hb z hz
    | _ + 1, hz => cases hz) h3 h4 h5 h7
theorem sat_grdW {len1 : Int} {w : World} {b o c : Nat} {l : List Int} (h : LiesAt w b o l) : Sat (rhoW len1 o c l) (thL b o c) ⟨grdW, .nil, 1, 1⟩ w := by
  refine ⟨Nat.le_refl _, fun n hn => ?_, fun n x hx => ?_, fun n m x y L M hx hy _ _ _ => ?_⟩
  · match n, hn with
    | 0, hn => exact absurd (show (1 : Nat) ≤ 0 from hn) (by decide)
    | n + 1, _ => rfl
  · rw [st0_get, grdW_get] at hx
    match n, hx with
    | 0, hx =>
      obtain rfl := Option.some.inj hx
      obtain ⟨pre, post, T, fz, h1, h2⟩ := h
      refine ⟨_, rfl, pre, _, post, T, fz, h1, ⟨[], ?_, rfl⟩, ?_⟩
      · show l.map (Value.int .u8) = blobV (rhoW len1 o c l) 0 ++ []
        rw [List.append_nil]; rfl
      · show (pre.length : Int) = 0 + (1 * (o : Int) + 0); omega
    | n + 1, hx => cases hx
  · rw [st0_get, grdW_get] at hx hy
    match n, m, hx, hy with
    | 0, 0, _, _ => rfl
    | n + 1, _, hx, _ => cases hx
    | 0, m + 1, _, hy => cases hy
theorem w_says {len1 : Int} {b o c len : Nat} {l : List Int} {k : Int} (hk : k + len1 = len) (hlc : len ≤ c) : W (rhoW len1 o c l) (thL b o c) (.l 0 1 ⟨0, [(4, 1)]⟩ ⟨k, [(2, 1)]⟩ (some ⟨0, [(5, 1)]⟩) ⟨0, [(4, 1)]⟩) (.slice (some ⟨b, o, none⟩) len c) := by
  have e4 : (⟨0, [(4, 1)]⟩ : Lin).ev (rhoW len1 o c l).a = o := by show (0 : Int) + (1 * (o : Int) + 0) = o; omega
  have e2 : (⟨k, [(2, 1)]⟩ : Lin).ev (rhoW len1 o c l).a = len := by show k + (1 * len1 + 0) = len; omega
  have e5 : (⟨0, [(5, 1)]⟩ : Lin).ev (rhoW len1 o c l).a = c := by show (0 : Int) + (1 * (c : Int) + 0) = c; omega
  simp only [W]
  rw [e4, e2, e5]
  refine ⟨_, rfl, Nat.one_pos, by omega, by omega, by omega, c, ⟨rfl, ?_⟩, by rw [Int.toNat_natCast]; exact hlc, ?_⟩
  · rw [Int.toNat_natCast]; show o + c * 1 ≤ o + c; omega
  · rw [Int.toNat_natCast, Int.toNat_natCast, ite_self]
theorem says_of {len1 : Int} {o c : Nat} {l : List Int} {k : Int} (hk : k + len1 = l.length) {θ : Tz} {w : World} {Own : Nat → Prop} {v : Value} (hby : ∀ z ∈ l, 0 ≤ z ∧ z < 256) (hw : ∀ L, θ 0 = some L → l ≠ [] → LiesAt w L.b o l ∧ ¬ Own L.b)
    (h : W (rhoW len1 o c l) θ (.l 0 1 ⟨0, [(4, 1)]⟩ ⟨k, [(2, 1)]⟩ (some ⟨0, [(5, 1)]⟩) ⟨0, [(4, 1)]⟩) v) : ∃ L0, SaysIs w Own L0 v := by
  have e4 : (⟨0, [(4, 1)]⟩ : Lin).ev (rhoW len1 o c l).a = o := by show (0 : Int) + (1 * (o : Int) + 0) = o; omega
  have e2 : (⟨k, [(2, 1)]⟩ : Lin).ev (rhoW len1 o c l).a = l.length := by show k + (1 * len1 + 0) = _; omega
  have e5 : (⟨0, [(5, 1)]⟩ : Lin).ev (rhoW len1 o c l).a = c := by show (0 : Int) + (1 * (c : Int) + 0) = c; omega
  simp only [W] at h
  rw [e4, e2, e5] at h
  obtain ⟨L, h1, _, _, _, _, C, ⟨h2, h3⟩, h4, rfl⟩ := h
  rw [Int.toNat_natCast] at h3
  rw [Int.toNat_natCast] at h4
  rw [Int.toNat_natCast, Int.toNat_natCast, ite_self]
  exact ⟨L, .at_ L.b o C l rfl (by omega) h4 hby (hw L h1)⟩
theorem watches_calls {H : Type} {enc : TypeId × Value → H} {W0 : World} {b0 : Nat} {v0 : Value} {d : DataW H} {ps : List MemPlace} {base : Nat}
    (hv : Value.okWide Tryz.prog W0 .any b0 41 v0) (h : DataW.Trod enc Tryz.prog W0 base (fun _ => true) true 41 v0 d ps) :
    Calls Tryz.prog 11 #[v0] W0 fun e W' => e = .returned (.bool true) ∧ Below W0.heap.size W0 W' := by
  rcases pay_open (e := 5) (by kernel_rfl) (by kernel_rfl) (by kernel_rfl) hv h with rfl | ⟨b, o, len, c, l, rfl, hlc, hl, hb, hL⟩
  · have hΓ : CxOk Γw3 (rhoW 0 0 0 []) := cxW rfl (Int.le_refl 0) (fun i => by
      match i with
      | 0 => rfl
      | i + 1 => rfl) (fun z hz => by cases hz) rfl rfl rfl rfl
    refine (runW_sound hΓ nil_ground1 topw3 (fun θ w v _ hW => ⟨⟨0, 0, []⟩, ?_⟩) (sat_nil (b := 0) (o := 0) (c := 0)) (us := [.slice none 0 0]) ?_).2.mono fun e W' ⟨he, s', θ', g⟩ => ⟨he, below_of g fun n hn => ?_⟩
    · simp only [W] at hW; subst hW; exact .nil
    · exact ⟨by simp only [W], trivial⟩
    · rw [st0_get]; exact Tr.get_nil n
  · subst hl
    by_cases h0 : l = []
    · subst h0
      have hΓ : CxOk Γw2 (rhoW 0 o c []) := cxW rfl (Int.le_refl 0) (fun i => by
        match i with
        | 0 => rfl
        | i + 1 => rfl) (fun z hz => by cases hz) rfl rfl rfl rfl
      refine (runW_sound hΓ nil_ground1 topw2 (fun θ w v _ hW => says_of (by simp) (fun z hz => by cases hz) (fun L _ hne => absurd rfl hne) hW) (sat_nil (b := b) (o := o) (c := c)) (us := [.slice (some ⟨b, o, none⟩) 0 c]) ?_).2.mono fun e W' ⟨he, s', θ', g⟩ => ⟨he, below_of g fun n hn => ?_⟩
      · exact ⟨w_says (by simp) (Nat.zero_le c), trivial⟩
      · rw [st0_get]; exact Tr.get_nil n
    · have hpos : 1 ≤ l.length := by
        cases l with
        | nil => exact absurd rfl h0
        | cons x l => simp
      have hΓ : CxOk Γw1 (rhoW ((l.length - 1 : Nat) : Int) o c l) := cxW rfl (by omega) (fun i => by
        match i with
        | 0 => show (l.length : Int) = 1 + (1 * ((l.length - 1 : Nat) : Int) + 0); omega
        | i + 1 => rfl) hb rfl rfl rfl rfl
      refine (runW_sound hΓ grdW_ground topw1 (fun θ w v hs hW => says_of (by omega) hb (fun L h1 _ => ?_) hW) (sat_grdW (hL (by omega))) (us := [.slice (some ⟨b, o, none⟩) l.length c]) ?_).2.mono fun e W' ⟨he, s', θ', g⟩ => ⟨he, below_of g fun n hn => ?_⟩
      · have hg : ((k0W (.d (.l 0 1 ⟨0, [(4, 1)]⟩ ⟨1, [(2, 1)]⟩ (some ⟨0, [(5, 1)]⟩) ⟨0, [(4, 1)]⟩))).st grdW 1).get 0 = some (Ob.win ⟨0, [(4, 1)]⟩ [.b 0]) := by rw [k0_get0, grdW_get]
        obtain ⟨L', k1, k2⟩ := hs.res 0 _ hg
        rw [h1] at k1; cases k1
        have k3 := Ob.holds_lt k2
        obtain ⟨pre, ms, post, T, fz, q1, ⟨us, q2, q3⟩, q4⟩ := k2
        refine ⟨⟨pre, post, T, fz, ?_, ?_⟩, fun ho => ?_⟩
        · have e : ms = l.map (Value.int .u8) := by
            rw [q2, show us = [] from q3, List.append_nil]; rfl
          rw [← e]; exact q1
        · have : (pre.length : Int) = 0 + (1 * (o : Int) + 0) := q4
          omega
        · rcases ho with ⟨m, o', M, g1, g2, g3, g4⟩ | ho
          · have := hs.inj m 0 o' _ M L g2 hg g3 h1 g4
            omega
          · omega
      · exact ⟨w_says (by omega) hlc, trivial⟩
      · rw [st0_get]; exact grdW_ground n hn
end
end
end Go.Q

