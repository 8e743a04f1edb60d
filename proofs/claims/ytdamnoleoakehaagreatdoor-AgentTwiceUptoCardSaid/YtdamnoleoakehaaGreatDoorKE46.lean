/- Part 46 of what the closing text rests on. -/
import Derived.Test.YtdamnoleoakehaaGreatDoorKE20
import Derived.Test.YtdamnoleoakehaaGreatDoorKE21
import Derived.Test.YtdamnoleoakehaaGreatDoorKE22
import Derived.Test.YtdamnoleoakehaaGreatDoorKE23
import Derived.Test.YtdamnoleoakehaaGreatDoorKE24
import Derived.Test.YtdamnoleoakehaaGreatDoorKE25
import Derived.Test.YtdamnoleoakehaaGreatDoorKE26
import Derived.Test.YtdamnoleoakehaaGreatDoorKE27
import Derived.Test.YtdamnoleoakehaaGreatDoorKE28
import Derived.Test.YtdamnoleoakehaaGreatDoorKE29
import Derived.Test.YtdamnoleoakehaaGreatDoorKE30
import Derived.Test.YtdamnoleoakehaaGreatDoorKE31
import Derived.Test.YtdamnoleoakehaaGreatDoorKE32
import Derived.Test.YtdamnoleoakehaaGreatDoorKE33
import Derived.Test.YtdamnoleoakehaaGreatDoorKE34
import Derived.Test.YtdamnoleoakehaaGreatDoorKE35
import Derived.Test.YtdamnoleoakehaaGreatDoorKE36
import Derived.Test.YtdamnoleoakehaaGreatDoorKE37
import Derived.Test.YtdamnoleoakehaaGreatDoorKE38
import Derived.Test.YtdamnoleoakehaaGreatDoorKE39
import Derived.Test.YtdamnoleoakehaaGreatDoorKE40
import Derived.Test.YtdamnoleoakehaaGreatDoorKE41
import Derived.Test.YtdamnoleoakehaaGreatDoorKE42
import Derived.Test.YtdamnoleoakehaaGreatDoorKE43
import Derived.Test.YtdamnoleoakehaaGreatDoorKE44
import Derived.Test.YtdamnoleoakehaaGreatDoorKE45
set_option maxRecDepth 100000
namespace Go.Q
noncomputable section
open Go.RowKit Go.Proofs Go.ChangeShapes Go.WideShapes Go.ChangeAt
open Go.Z hiding cond_false get resF
noncomputable section
def hopD : DV := .n .u32 ⟨0, [(3, 16777216), (4, 65536), (5, 256), (6, 1)]⟩
theorem u32_open {W0 : World} {b0 : Nat} {v : Value} {t : TypeId} (ht : Tryz.prog.underlying t = some (.int .u32)) (hv : Value.okWide Tryz.prog W0 .any b0 t v) : ∃ h : Int, v = .int .u32 h ∧ 0 ≤ h ∧ h ≤ 4294967295 := by
  unfold Value.okWide at hv
  rw [ht] at hv
  unfold Cell.okWide at hv
  rw [ht] at hv
  unfold Cell.ok at hv
  rw [ht] at hv
  cases v with
  | int k n => exact ⟨n, by rw [hv.1], hv.2⟩
  | slice a l c => cases a <;> exact hv.elim
  | _ => first | exact hv.elim | simp_all
theorem bool_open {W0 : World} {b0 : Nat} {v : Value} {t : TypeId} (ht : Tryz.prog.underlying t = some .bool) (hv : Value.okWide Tryz.prog W0 .any b0 t v) : ∃ b : Bool, v = .bool b := by
  unfold Value.okWide at hv
  rw [ht] at hv
  unfold Cell.okWide at hv
  rw [ht] at hv
  unfold Cell.ok at hv
  rw [ht] at hv
  cases v with
  | bool b => exact ⟨b, rfl⟩
  | slice a l c => cases a <;> exact hv.elim
  | _ => first | exact hv.elim | simp_all
theorem ground1v : GroundOk (.nil : Tr Ob) 1 := fun m _ => Tr.get_nil m
theorem hop_w {ls : List Int} {k o c : Int} {b0 b1 b2 b3 h : Int} {b : Nat → List Int} {x : Nat → Value} {θ : Tz} (hh : h = 16777216 * b0 + 65536 * b1 + 256 * b2 + b3) : W ⟨aH [b0, b1, b2, b3] ls k o c, b, x⟩ θ hopD (.int .u32 h) := by
  have e : (⟨0, [(3, 16777216), (4, 65536), (5, 256), (6, 1)]⟩ : Lin).ev (aH [b0, b1, b2, b3] ls k o c) = h := by
    show (0 : Int) + (16777216 * b0 + (65536 * b1 + (256 * b2 + (1 * b3 + 0)))) = h
    omega
  show Value.int .u32 h = .int .u32 (Lin.ev (aH [b0, b1, b2, b3] ls k o c) _)
  rw [e]
theorem mm0_0 : MmsOk (.nil : Tr Ob) 1 (cS Γv0) [m0_0, m0_1, m0_2, m0_3, m0_4, m0_5, m0_6] := ⟨om0_0, om0_1, om0_2, om0_3, om0_4, om0_5, om0_6, trivial⟩
theorem mm0_1 : MmsOk (.nil : Tr Ob) 1 (cS Γv0) [m0_0, m0_1, m0_2, m0_3, m0_4, m0_7, m0_8] := ⟨om0_0, om0_1, om0_2, om0_3, om0_4, om0_7, om0_8, trivial⟩
theorem mm1_0 : MmsOk winB 1 (cS Γv1) [m1_0, m1_1, m1_2, m1_3, m1_4, m1_5, m1_6] := ⟨om1_0, om1_1, om1_2, om1_3, om1_4, om1_5, om1_6, trivial⟩
theorem mm1_1 : MmsOk winB 1 (cS Γv1) [m1_0, m1_1, m1_2, m1_3, m1_4, m1_7, m1_8] := ⟨om1_0, om1_1, om1_2, om1_3, om1_4, om1_7, om1_8, trivial⟩
theorem mm2_0 : MmsOk winB 1 (cS Γv2) [m2_0, m2_1, m2_2, m2_3, m2_4, m2_5, m2_6] := ⟨om2_0, om2_1, om2_2, om2_3, om2_4, om2_5, om2_6, trivial⟩
theorem mm2_1 : MmsOk winB 1 (cS Γv2) [m2_0, m2_1, m2_2, m2_3, m2_4, m2_7, m2_8] := ⟨om2_0, om2_1, om2_2, om2_3, om2_4, om2_7, om2_8, trivial⟩
theorem mm3_0 : MmsOk winB 1 (cS Γv3) [m3_0, m3_1, m3_2, m3_3, m3_4, m3_5, m3_6] := ⟨om3_0, om3_1, om3_2, om3_3, om3_4, om3_5, om3_6, trivial⟩
theorem mm3_1 : MmsOk winB 1 (cS Γv3) [m3_0, m3_1, m3_2, m3_3, m3_4, m3_7, m3_8] := ⟨om3_0, om3_1, om3_2, om3_3, om3_4, om3_7, om3_8, trivial⟩
theorem mm4_0 : MmsOk winB 1 (cS Γv4) [m4_0, m4_1, m4_2, m4_3, m4_4, m4_5, m4_6] := ⟨om4_0, om4_1, om4_2, om4_3, om4_4, om4_5, om4_6, trivial⟩
theorem mm4_1 : MmsOk winB 1 (cS Γv4) [m4_0, m4_1, m4_2, m4_3, m4_4, m4_7, m4_8] := ⟨om4_0, om4_1, om4_2, om4_3, om4_4, om4_7, om4_8, trivial⟩
theorem mm5_0 : MmsOk (.nil : Tr Ob) 0 (cS Γv5) [m5_0, m5_1, m5_2, m5_3, m5_4, m5_5, m5_6] := ⟨om5_0, om5_1, om5_2, om5_3, om5_4, om5_5, om5_6, trivial⟩
theorem mm5_1 : MmsOk (.nil : Tr Ob) 0 (cS Γv5) [m5_0, m5_1, m5_2, m5_3, m5_4, m5_7, m5_8] := ⟨om5_0, om5_1, om5_2, om5_3, om5_4, om5_7, om5_8, trivial⟩
theorem hops0 : hopOk Γv0 [] [] 1 = true := by kernel_rfl
theorem hops1 : hopOk Γv1 [9, 72, 84, 13, 76] [8, 255, 8, 255, 8, 255, 8, 255, 8, 255] 256 = true := by kernel_rfl
theorem hops2 : hopOk Γv2 [10, 72, 84, 14, 76] [8, 255, 8, 255, 8, 255, 8, 255, 8, 255] 256 = true := by kernel_rfl
theorem hops3 : hopOk Γv3 [11, 72, 84, 15, 76] [8, 255, 8, 255, 8, 255, 8, 255, 8, 255] 256 = true := by kernel_rfl
theorem hops4 : hopOk Γv4 [12, 72, 84, 16, 76] [8, 255, 8, 255, 8, 255, 8, 255, 8, 255] 256 = true := by kernel_rfl
theorem hops5 : hopOk Γv5 [] [] 1 = true := by kernel_rfl
theorem twice_pay {Γ : Cx} {r k : Nat} {ls his l : List Int} {b o c len : Nat} {v1 v2 : Value} {ms : List Mm} {t : Bool} {h : Int} {W0 : World} (h1 : Γ.hi = 255 :: -1 :: -1 :: 255 :: 255 :: 255 :: 255 :: his) (h2 : Γ.bl = [⟨(r : Int), [(0, 4)]⟩, ⟨0, [(0, 4)]⟩]) (h3 : Γ.sq = []) (h4 : Γ.zs = [(⟨76, [(0, 4)]⟩, 76, 1)])
    (h5 : hopOk Γ ls his 256 = true) (hm : MmsOk winB 1 (cS Γ) ms) (ht : tvO (runM Γ 6 winB 1 ms [.l 0 1 ⟨0, [(1, 1)]⟩ ⟨(r : Int), [(0, 4)]⟩ (some ⟨0, [(2, 1)]⟩) (lit 0), hopD, .c (.bool t)] ⟨winB, .nil, 1, 1⟩) = true)
    (hk : k ≤ 255) (hr : 0 < r) (hlen : len = r + 4 * k) (hl : l.length = len) (hb : ∀ n ∈ l, 0 ≤ n ∧ n < 256) (hlc : len ≤ c) (hL : LiesAt W0 b o l) (e1 : v1 = .int .u32 h) (e2 : v2 = .bool t) (hh : 0 ≤ h ∧ h ≤ 4294967295) :
    Calls tP 6 #[.slice (some ⟨b, o, none⟩) len c, v1, v2] W0 fun e W' => e = .returned (.bool true) ∧ Below W0.heap.size W0 W' := by
  subst e1 e2
  obtain ⟨b0, b1, b2, b3, g0, g1, g2, g3, hx⟩ := bytes4 hh.1 hh.2
  have hΓ : CxOk Γ ⟨aH [b0, b1, b2, b3] ls k o c, bL l k, fun _ => .bool t⟩ := hopCx h1 (by omega) (by omega) h5 g0 g1 g2 g3 (fun i => by
      rw [h2]
      match i with
      | 0 => show (l.length : Int) = (r : Int) + (4 * (k : Int) + 0); omega
      | 1 => show ((List.replicate (4 * k) (0 : Int)).length : Int) = 0 + (4 * (k : Int) + 0); rw [List.length_replicate]; omega
      | n + 2 => show (0 : Int) = _; simp [Lin.ev, evT, lit]) (fun i n hn => by
      match i, hn with
      | 0, hn => exact hb n hn
      | 1, hn => have := List.eq_of_mem_replicate hn; omega
      | _ + 2, hn => cases hn) h3 (fun x hx => by
      rw [h4] at hx
      obtain rfl := List.mem_singleton.1 hx
      refine ⟨4 * k, rfl, ?_⟩
      show (76 : Int) + (4 * (k : Int) + 0) = ((76 + 4 * k : Nat) : Int)
      omega)
  refine (runM_sound hΓ (winG_ground _) hm ht (sat_win (c := c) hL rfl rfl) (us := [.slice (some ⟨b, o, none⟩) len c, .int .u32 h, .bool t]) ?_).2.mono fun e W' ⟨he, s', θ', g⟩ => ⟨he, below_of g fun n hn => ?_⟩
  · refine ⟨w_pay hlc rfl rfl ?_ _ (.inr ⟨by omega, ?_⟩), hop_w hx, by simp only [W], trivial⟩
    · show (r : Int) + (4 * (k : Int) + 0) = (len : Int); omega
    · rw [ev_lit]; exact Int.le_refl 0
  · rw [st0_get]; exact winG_ground _ n hn
theorem twice_0 {b o c : Nat} {ms : List Mm} {t : Bool} {h : Int} {W0 : World} (hm : MmsOk (.nil : Tr Ob) 1 (cS Γv0) ms) (ht : tvO (runM Γv0 6 (.nil : Tr Ob) 1 ms [.l 0 1 ⟨0, [(1, 1)]⟩ (lit 0) (some ⟨0, [(2, 1)]⟩) ⟨0, [(1, 1)]⟩, hopD, .c (.bool t)] ⟨.nil, .nil, 1, 1⟩) = true) (hh : 0 ≤ h ∧ h ≤ 4294967295) :
    Calls tP 6 #[.slice (some ⟨b, o, none⟩) 0 c, .int .u32 h, .bool t] W0 fun e W' => e = .returned (.bool true) ∧ Below W0.heap.size W0 W' := by
  obtain ⟨b0, b1, b2, b3, g0, g1, g2, g3, hx⟩ := bytes4 hh.1 hh.2
  have hΓ : CxOk Γv0 ⟨aH [b0, b1, b2, b3] [] (0 : Nat) o c, fun _ => [], fun _ => .bool t⟩ := hopCx rfl (Int.le_refl 0) (by decide) hops0 g0 g1 g2 g3 (fun i => rfl) (fun i n hn => by cases hn) rfl (fun x hx => by cases hx)
  refine (runM_sound hΓ ground1v hm ht (sat_nil (b := b) (o := o) (c := c)) (us := [.slice (some ⟨b, o, none⟩) 0 c, .int .u32 h, .bool t]) ?_).2.mono fun e W' ⟨he, s', θ', g⟩ => ⟨he, below_of g fun n hn => ?_⟩
  · exact ⟨w_pay (Nat.zero_le c) rfl rfl (ev_lit _ _) _ (.inl (by show (0 : Int) + (1 * (o : Int) + 0) = o; omega)), hop_w hx, by simp only [W], trivial⟩
  · rw [st0_get]; exact Tr.get_nil n
theorem twice_5 {ms : List Mm} {t : Bool} {h : Int} {W0 : World} (hm : MmsOk (.nil : Tr Ob) 0 (cS Γv5) ms) (ht : tvO (runM Γv5 6 (.nil : Tr Ob) 0 ms [.c (.slice none 0 0), hopD, .c (.bool t)] ⟨.nil, .nil, 0, 0⟩) = true) (hh : 0 ≤ h ∧ h ≤ 4294967295) :
    Calls tP 6 #[.slice none 0 0, .int .u32 h, .bool t] W0 fun e W' => e = .returned (.bool true) ∧ Below W0.heap.size W0 W' := by
  obtain ⟨b0, b1, b2, b3, g0, g1, g2, g3, hx⟩ := bytes4 hh.1 hh.2
  have hΓ : CxOk Γv5 ⟨aH [b0, b1, b2, b3] [] (0 : Nat) (0 : Nat) (0 : Nat), fun _ => [], fun _ => .bool t⟩ := hopCx rfl (Int.le_refl 0) (by decide) hops5 g0 g1 g2 g3 (fun i => rfl) (fun i n hn => by cases hn) rfl (fun x hx => by cases hx)
  refine (runM_sound hΓ nil_ground hm ht sat_none (us := [.slice none 0 0, .int .u32 h, .bool t]) ?_).2.mono fun e W' ⟨he, s', θ', g⟩ => ⟨he, below_of g fun n hn => ?_⟩
  · exact ⟨by simp only [W], hop_w hx, by simp only [W], trivial⟩
  · rw [st0_get]; exact Tr.get_nil n
theorem twice_calls {H : Type} {enc : TypeId × Value → H} {W0 : World} {b0 : Nat} {v0 v1 v2 : Value} {d : DataW H} {ps : List MemPlace} {base : Nat}
    (hv : Value.okWide Tryz.prog W0 .any b0 41 v0) (h : DataW.Trod enc Tryz.prog W0 base (fun _ => true) true 41 v0 d ps) (hv1 : Value.okWide Tryz.prog W0 .any b0 34 v1) (hv2 : Value.okWide Tryz.prog W0 .any b0 4 v2) :
    Calls Tryz.prog 6 #[v0, v1, v2] W0 fun e W' => e = .returned (.bool true) ∧ Below W0.heap.size W0 W' := by
  obtain ⟨x, e1, hh⟩ := u32_open (by kernel_rfl) hv1
  obtain ⟨t, e2⟩ := bool_open (by kernel_rfl) hv2
  rcases pay_open (e := 5) (by kernel_rfl) (by kernel_rfl) (by kernel_rfl) hv h with rfl | ⟨b, o, len, c, l, rfl, hlc, hl, hb, hL⟩
  · subst e1 e2
    cases t with
    | true => exact twice_5 mm5_0 top5_0 hh
    | false => exact twice_5 mm5_1 top5_1 hh
  · by_cases h0 : len = 0
    · subst h0 e1 e2
      cases t with
      | true => exact twice_0 mm0_0 top0_0 hh
      | false => exact twice_0 mm0_1 top0_1 hh
    · by_cases hbig : len ≤ 1024
      · have hk : (len - 1) / 4 ≤ 255 := by omega
        have hr : (len - 1) % 4 = 0 ∨ (len - 1) % 4 = 1 ∨ (len - 1) % 4 = 2 ∨ (len - 1) % 4 = 3 := by omega
        cases t with
        | true =>
          rcases hr with hr | hr | hr | hr
          · exact twice_pay (r := 1) rfl rfl rfl rfl hops1 mm1_0 top1_0 hk (by decide) (by omega) hl hb hlc (hL h0) e1 e2 hh
          · exact twice_pay (r := 2) rfl rfl rfl rfl hops2 mm2_0 top2_0 hk (by decide) (by omega) hl hb hlc (hL h0) e1 e2 hh
          · exact twice_pay (r := 3) rfl rfl rfl rfl hops3 mm3_0 top3_0 hk (by decide) (by omega) hl hb hlc (hL h0) e1 e2 hh
          · exact twice_pay (r := 4) rfl rfl rfl rfl hops4 mm4_0 top4_0 hk (by decide) (by omega) hl hb hlc (hL h0) e1 e2 hh
        | false =>
          rcases hr with hr | hr | hr | hr
          · exact twice_pay (r := 1) rfl rfl rfl rfl hops1 mm1_1 top1_1 hk (by decide) (by omega) hl hb hlc (hL h0) e1 e2 hh
          · exact twice_pay (r := 2) rfl rfl rfl rfl hops2 mm2_1 top2_1 hk (by decide) (by omega) hl hb hlc (hL h0) e1 e2 hh
          · exact twice_pay (r := 3) rfl rfl rfl rfl hops3 mm3_1 top3_1 hk (by decide) (by omega) hl hb hlc (hL h0) e1 e2 hh
          · exact twice_pay (r := 4) rfl rfl rfl rfl hops4 mm4_1 top4_1 hk (by decide) (by omega) hl hb hlc (hL h0) e1 e2 hh
      · have hΓ : CxOk Γv6 ⟨aL [] (len - 1025 : Nat) o c, fun i => match i with | 0 => l | _ => [], fun i => match i with | 0 => v1 | _ => v2⟩ := plainCx (fun i => by
            match i with
            | 0 => exact ⟨Int.natCast_nonneg _, fun h => absurd (show (0 : Int) ≤ -1 from h) (by decide)⟩
            | 1 => exact ⟨Int.natCast_nonneg o, fun h => absurd (show (0 : Int) ≤ -1 from h) (by decide)⟩
            | 2 => exact ⟨Int.natCast_nonneg c, fun h => absurd (show (0 : Int) ≤ -1 from h) (by decide)⟩
            | n + 3 => exact ⟨Int.le_refl 0, fun h => h⟩) (fun i => by
            match i with
            | 0 => show (l.length : Int) = 1025 + (1 * ((len - 1025 : Nat) : Int) + 0); omega
            | n + 1 => rfl) (fun i n hn => by
            match i, hn with
            | 0, hn => exact hb n hn
            | _ + 1, hn => cases hn) rfl rfl rfl rfl
        refine (callT_sound hΓ topv6 (sat_win (c := c) (hL h0) rfl rfl) (us := [.slice (some ⟨b, o, none⟩) len c, v1, v2]) ?_).2.mono fun e W' ⟨he, s', θ', g⟩ => ⟨he, below_of g fun n hn => ?_⟩
        · refine ⟨w_pay hlc rfl rfl ?_ _ (.inr ⟨by omega, ?_⟩), ?_, ?_, trivial⟩
          · show 1025 + (1 * ((len - 1025 : Nat) : Int) + 0) = (len : Int); omega
          · rw [ev_lit]; exact Int.le_refl 0
          · simp only [W]
          · simp only [W]
        · rw [st0_get]; exact winG_ground _ n hn
end
end
end Go.Q


