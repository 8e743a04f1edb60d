/- Part 40 of what the closing text rests on. -/
import Derived.Test.YtdamnoleoakehaaGreatDoorKL20
import Derived.Test.YtdamnoleoakehaaGreatDoorKL21
import Derived.Test.YtdamnoleoakehaaGreatDoorKL22
import Derived.Test.YtdamnoleoakehaaGreatDoorKL23
import Derived.Test.YtdamnoleoakehaaGreatDoorKL24
import Derived.Test.YtdamnoleoakehaaGreatDoorKL25
import Derived.Test.YtdamnoleoakehaaGreatDoorKL26
import Derived.Test.YtdamnoleoakehaaGreatDoorKL27
import Derived.Test.YtdamnoleoakehaaGreatDoorKL28
import Derived.Test.YtdamnoleoakehaaGreatDoorKL29
import Derived.Test.YtdamnoleoakehaaGreatDoorKL30
import Derived.Test.YtdamnoleoakehaaGreatDoorKL31
import Derived.Test.YtdamnoleoakehaaGreatDoorKL32
import Derived.Test.YtdamnoleoakehaaGreatDoorKL33
import Derived.Test.YtdamnoleoakehaaGreatDoorKL34
import Derived.Test.YtdamnoleoakehaaGreatDoorKL35
import Derived.Test.YtdamnoleoakehaaGreatDoorKL36
import Derived.Test.YtdamnoleoakehaaGreatDoorKL37
import Derived.Test.YtdamnoleoakehaaGreatDoorKL38
import Derived.Test.YtdamnoleoakehaaGreatDoorKL39
set_option maxRecDepth 100000
namespace Go.Q
noncomputable section
open Go.RowKit Go.Proofs Go.ChangeShapes Go.WideShapes Go.ChangeAt
open Go.Z hiding cond_false get resF
noncomputable section
theorem ch0 : Ch (bodyAt Γ0 8 11) (cS Γ0) (.nil : Tr Ob) 1 0 k0_40 39 k0_0.e (k0_0.st (.nil : Tr Ob) 1) := ((((Ch.last t0_33).mid t0_26).mid t0_20).mid t0_13).mid t0_0
theorem ch1 : Ch (bodyAt Γ1 8 11) (cS Γ1) winB 1 0 k1_40 39 k1_0.e (k1_0.st winB 1) := ((((Ch.last t1_33).mid t1_26).mid t1_20).mid t1_13).mid t1_0
theorem ch2 : Ch (bodyAt Γ2 8 11) (cS Γ2) winB 1 0 k2_40 39 k2_0.e (k2_0.st winB 1) := ((((Ch.last t2_33).mid t2_26).mid t2_20).mid t2_13).mid t2_0
theorem ch3 : Ch (bodyAt Γ3 8 11) (cS Γ3) winB 1 0 k3_40 39 k3_0.e (k3_0.st winB 1) := ((((Ch.last t3_33).mid t3_26).mid t3_20).mid t3_13).mid t3_0
theorem ch4 : Ch (bodyAt Γ4 8 11) (cS Γ4) winB 1 0 k4_40 39 k4_0.e (k4_0.st winB 1) := ((((Ch.last t4_33).mid t4_26).mid t4_20).mid t4_13).mid t4_0
theorem ch5 : Ch (bodyAt Γ5 8 11) (cS Γ5) (.nil : Tr Ob) 0 0 k5_40 39 k5_0.e (k5_0.st (.nil : Tr Ob) 0) := ((((Ch.last t5_33).mid t5_26).mid t5_20).mid t5_13).mid t5_0
theorem tabs1 : tabsOk [9, 72, 84, 13, 76] [8, 255, 8, 255, 8, 255, 8, 255, 8, 255] Γ1.ops Γ1.cv 256 = true := by kernel_rfl
theorem tabs2 : tabsOk [10, 72, 84, 14, 76] [8, 255, 8, 255, 8, 255, 8, 255, 8, 255] Γ2.ops Γ2.cv 256 = true := by kernel_rfl
theorem tabs3 : tabsOk [11, 72, 84, 15, 76] [8, 255, 8, 255, 8, 255, 8, 255, 8, 255] Γ3.ops Γ3.cv 256 = true := by kernel_rfl
theorem tabs4 : tabsOk [12, 72, 84, 16, 76] [8, 255, 8, 255, 8, 255, 8, 255, 8, 255] Γ4.ops Γ4.cv 256 = true := by kernel_rfl
theorem late_pay {Γ : Cx} {r k : Nat} {ls his l : List Int} {b o c len n : Nat} {v1 : Value} {k0 ce : Ck} {W0 : World} (h1 : Γ.hi = 255 :: -1 :: -1 :: his) (h2 : Γ.bl = [⟨(r : Int), [(0, 4)]⟩, ⟨0, [(0, 4)]⟩]) (h3 : Γ.sq = []) (h4 : Γ.zs = [(⟨76, [(0, 4)]⟩, 76, 1)])
    (h5 : tabsOk ls his Γ.ops Γ.cv 256 = true) (hc : Ch (bodyAt Γ 8 11) (cS Γ) winB 1 0 ce n k0.e (k0.st winB 1)) (ht : tvO (runL Γ 8 11 0 winB 1 k0 ce [.l 0 1 ⟨0, [(1, 1)]⟩ ⟨(r : Int), [(0, 4)]⟩ (some ⟨0, [(2, 1)]⟩) (lit 0), .x 0] ⟨winB, .nil, 1, 1⟩) = true)
    (hk : k ≤ 255) (hr : 0 < r) (hlen : len = r + 4 * k) (hl : l.length = len) (hb : ∀ n ∈ l, 0 ≤ n ∧ n < 256) (hlc : len ≤ c) (hL : LiesAt W0 b o l) :
    Calls tP 8 #[.slice (some ⟨b, o, none⟩) len c, v1] W0 fun e W' => e = .returned (.bool true) ∧ Below W0.heap.size W0 W' := by
  have hΓ : CxOk Γ (rhoL ls l k o c v1) := payCx h1 h2 h3 h4 h5 hk (by omega) hb
  refine (runL_sound hΓ (winG_ground _) one8 hc ht (sat_win (c := c) hL rfl rfl) (us := [.slice (some ⟨b, o, none⟩) len c, v1]) ?_).2.mono fun e W' ⟨he, s', θ', g⟩ => ⟨he, below_of g fun n hn => ?_⟩
  · refine ⟨w_pay hlc rfl rfl ?_ _ (.inr ⟨by omega, ?_⟩), ?_, trivial⟩
    · simp only [Lin.ev, evT, rhoL, aL]; omega
    · rw [ev_lit]; exact Int.le_refl 0
    · simp only [W, rhoL]
  · rw [st0_get]; exact winG_ground _ n hn
theorem ground1 : GroundOk (.nil : Tr Ob) 1 := fun m _ => Tr.get_nil m
theorem late_calls {H : Type} {enc : TypeId × Value → H} {W0 : World} {b0 : Nat} {v0 v1 : Value} {d : DataW H} {ps : List MemPlace} {base : Nat}
    (hv : Value.okWide Tryz.prog W0 .any b0 41 v0) (h : DataW.Trod enc Tryz.prog W0 base (fun _ => true) true 41 v0 d ps) :
    Calls Tryz.prog 8 #[v0, v1] W0 fun e W' => e = .returned (.bool true) ∧ Below W0.heap.size W0 W' := by
  rcases pay_open (e := 5) (by kernel_rfl) (by kernel_rfl) (by kernel_rfl) hv h with rfl | ⟨b, o, len, c, l, rfl, hlc, hl, hb, hL⟩
  · have hΓ : CxOk Γ5 ⟨fun _ => 0, fun _ => [], fun _ => v1⟩ := plainCx (fun i => ⟨Int.le_refl 0, fun h => h⟩) (fun i => rfl) (fun i n hn => by cases hn) rfl rfl rfl rfl
    refine (runL_sound hΓ nil_ground one8 ch5 top5 sat_none (us := [.slice none 0 0, v1]) ?_).2.mono fun e W' ⟨he, s', θ', g⟩ => ⟨he, below_of g fun n hn => ?_⟩
    · exact ⟨by simp only [W], by simp only [W], trivial⟩
    · rw [st0_get]; exact Tr.get_nil n
  · by_cases h0 : len = 0
    · subst h0
      have hΓ : CxOk Γ0 ⟨aL [] 0 o c, fun _ => [], fun _ => v1⟩ := plainCx (fun i => by
          match i with
          | 0 => exact ⟨Int.le_refl 0, fun h => h⟩
          | 1 => exact ⟨Int.natCast_nonneg o, fun h => absurd h (by decide)⟩
          | 2 => exact ⟨Int.natCast_nonneg c, fun h => absurd h (by decide)⟩
          | n + 3 => exact ⟨Int.le_refl 0, fun h => h⟩) (fun i => rfl) (fun i n hn => by cases hn) rfl rfl rfl rfl
      refine (runL_sound hΓ ground1 one8 ch0 top0 (sat_nil (b := b) (o := o) (c := c)) (us := [.slice (some ⟨b, o, none⟩) 0 c, v1]) ?_).2.mono fun e W' ⟨he, s', θ', g⟩ => ⟨he, below_of g fun n hn => ?_⟩
      · exact ⟨w_pay (Nat.zero_le c) rfl rfl (ev_lit _ _) _ (.inl (by simp [Lin.ev, evT, aL])), by simp only [W], trivial⟩
      · rw [st0_get]; exact Tr.get_nil n
    · by_cases hbig : len ≤ 1024
      · have hk : (len - 1) / 4 ≤ 255 := by omega
        have hr : (len - 1) % 4 = 0 ∨ (len - 1) % 4 = 1 ∨ (len - 1) % 4 = 2 ∨ (len - 1) % 4 = 3 := by omega
        rcases hr with hr | hr | hr | hr
        · exact late_pay (r := 1) rfl rfl rfl rfl tabs1 ch1 top1 hk (by decide) (by omega) hl hb hlc (hL h0)
        · exact late_pay (r := 2) rfl rfl rfl rfl tabs2 ch2 top2 hk (by decide) (by omega) hl hb hlc (hL h0)
        · exact late_pay (r := 3) rfl rfl rfl rfl tabs3 ch3 top3 hk (by decide) (by omega) hl hb hlc (hL h0)
        · exact late_pay (r := 4) rfl rfl rfl rfl tabs4 ch4 top4 hk (by decide) (by omega) hl hb hlc (hL h0)
      · have hΓ : CxOk Γ6 ⟨aL [] (len - 1025 : Nat) o c, fun i => match i with | 0 => l | _ => [], fun _ => v1⟩ := plainCx (fun i => by
            match i with
            | 0 => exact ⟨Int.natCast_nonneg _, fun h => absurd h (by decide)⟩
            | 1 => exact ⟨Int.natCast_nonneg o, fun h => absurd h (by decide)⟩
            | 2 => exact ⟨Int.natCast_nonneg c, fun h => absurd h (by decide)⟩
            | n + 3 => exact ⟨Int.le_refl 0, fun h => h⟩) (fun i => by
            match i with
            | 0 => show (l.length : Int) = 1025 + (1 * ((len - 1025 : Nat) : Int) + 0); omega
            | n + 1 => rfl) (fun i n hn => by
            match i, hn with
            | 0, hn => exact hb n hn
            | _ + 1, hn => cases hn) rfl rfl rfl rfl
        refine (callT_sound hΓ top6 (sat_win (c := c) (hL h0) rfl rfl) (us := [.slice (some ⟨b, o, none⟩) len c, v1]) ?_).2.mono fun e W' ⟨he, s', θ', g⟩ => ⟨he, below_of g fun n hn => ?_⟩
        · refine ⟨w_pay hlc rfl rfl ?_ _ (.inr ⟨by omega, ?_⟩), ?_, trivial⟩
          · show 1025 + (1 * ((len - 1025 : Nat) : Int) + 0) = (len : Int); omega
          · rw [ev_lit]; exact Int.le_refl 0
          · simp only [W]
        · rw [st0_get]; exact winG_ground _ n hn
end
end
end Go.Q

