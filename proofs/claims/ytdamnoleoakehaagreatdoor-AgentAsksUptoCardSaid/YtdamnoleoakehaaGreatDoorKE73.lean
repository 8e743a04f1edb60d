/- Part 73 of what the closing text rests on. -/
import Derived.Test.YtdamnoleoakehaaGreatDoorKE50
import Derived.Test.YtdamnoleoakehaaGreatDoorKE51
import Derived.Test.YtdamnoleoakehaaGreatDoorKE52
import Derived.Test.YtdamnoleoakehaaGreatDoorKE53
import Derived.Test.YtdamnoleoakehaaGreatDoorKE54
import Derived.Test.YtdamnoleoakehaaGreatDoorKE55
import Derived.Test.YtdamnoleoakehaaGreatDoorKE56
import Derived.Test.YtdamnoleoakehaaGreatDoorKE57
import Derived.Test.YtdamnoleoakehaaGreatDoorKE58
import Derived.Test.YtdamnoleoakehaaGreatDoorKE59
import Derived.Test.YtdamnoleoakehaaGreatDoorKE60
import Derived.Test.YtdamnoleoakehaaGreatDoorKE61
import Derived.Test.YtdamnoleoakehaaGreatDoorKE62
import Derived.Test.YtdamnoleoakehaaGreatDoorKE63
import Derived.Test.YtdamnoleoakehaaGreatDoorKE64
import Derived.Test.YtdamnoleoakehaaGreatDoorKE65
import Derived.Test.YtdamnoleoakehaaGreatDoorKE66
import Derived.Test.YtdamnoleoakehaaGreatDoorKE67
import Derived.Test.YtdamnoleoakehaaGreatDoorKE68
import Derived.Test.YtdamnoleoakehaaGreatDoorKE69
import Derived.Test.YtdamnoleoakehaaGreatDoorKE70
import Derived.Test.YtdamnoleoakehaaGreatDoorKE71
import Derived.Test.YtdamnoleoakehaaGreatDoorKE72
set_option maxRecDepth 100000
namespace Go.Q
noncomputable section
open Go.RowKit Go.Proofs Go.ChangeShapes Go.WideShapes Go.ChangeAt
open Go.Z hiding cond_false get resF
noncomputable section
def kkG : Nat → Ck
  | 0 => kaG_0
  | 1 => kaG_1
  | 2 => kaG_2
  | 3 => kaG_3
  | 4 => kaG_4
  | 5 => kaG_5
  | 6 => kaG_6
  | 7 => kaG_7
  | 8 => kaG_8
  | 9 => kaG_9
  | 10 => kaG_10
  | 11 => kaG_11
  | 12 => kaG_12
  | 13 => kaG_13
  | 14 => kaG_14
  | 15 => kaG_15
  | 16 => kaG_16
  | 17 => kaG_17
  | 18 => kaG_18
  | 19 => kaG_19
  | 20 => kaG_20
  | _ => ceA
theorem rrG : ∀ i : Nat, i < 20 → ∃ z : Int, z = (i : Int) + 1 ∧ rOk ((bodyAt (leqG ΓaG z true) 5 5).r (cS ΓaG) (kkG i).e ((kkG i).st winB 1)) (kkG (i + 1)) = true
  | 0, _ => ⟨1, by decide, raG_0⟩
  | 1, _ => ⟨2, by decide, raG_1⟩
  | 2, _ => ⟨3, by decide, raG_2⟩
  | 3, _ => ⟨4, by decide, raG_3⟩
  | 4, _ => ⟨5, by decide, raG_4⟩
  | 5, _ => ⟨6, by decide, raG_5⟩
  | 6, _ => ⟨7, by decide, raG_6⟩
  | 7, _ => ⟨8, by decide, raG_7⟩
  | 8, _ => ⟨9, by decide, raG_8⟩
  | 9, _ => ⟨10, by decide, raG_9⟩
  | 10, _ => ⟨11, by decide, raG_10⟩
  | 11, _ => ⟨12, by decide, raG_11⟩
  | 12, _ => ⟨13, by decide, raG_12⟩
  | 13, _ => ⟨14, by decide, raG_13⟩
  | 14, _ => ⟨15, by decide, raG_14⟩
  | 15, _ => ⟨16, by decide, raG_15⟩
  | 16, _ => ⟨17, by decide, raG_16⟩
  | 17, _ => ⟨18, by decide, raG_17⟩
  | 18, _ => ⟨19, by decide, raG_18⟩
  | 19, _ => ⟨20, by decide, raG_19⟩
  | n + 20, h => absurd h (by omega)
theorem xxG : ∀ i : Nat, 1 ≤ i → i ≤ 20 → ∃ z : Int, z = (i : Int) + 1 ∧ xOk2 0 ((bodyAt (leqG ΓaG z false) 5 5).r (cS ΓaG) (kkG i).e ((kkG i).st winB 1)) ceA = true
  | 0, g, _ => absurd g (by omega)
  | 1, _, _ => ⟨2, by decide, xaG_1⟩
  | 2, _, _ => ⟨3, by decide, xaG_2⟩
  | 3, _, _ => ⟨4, by decide, xaG_3⟩
  | 4, _, _ => ⟨5, by decide, xaG_4⟩
  | 5, _, _ => ⟨6, by decide, xaG_5⟩
  | 6, _, _ => ⟨7, by decide, xaG_6⟩
  | 7, _, _ => ⟨8, by decide, xaG_7⟩
  | 8, _, _ => ⟨9, by decide, xaG_8⟩
  | 9, _, _ => ⟨10, by decide, xaG_9⟩
  | 10, _, _ => ⟨11, by decide, xaG_10⟩
  | 11, _, _ => ⟨12, by decide, xaG_11⟩
  | 12, _, _ => ⟨13, by decide, xaG_12⟩
  | 13, _, _ => ⟨14, by decide, xaG_13⟩
  | 14, _, _ => ⟨15, by decide, xaG_14⟩
  | 15, _, _ => ⟨16, by decide, xaG_15⟩
  | 16, _, _ => ⟨17, by decide, xaG_16⟩
  | 17, _, _ => ⟨18, by decide, xaG_17⟩
  | 18, _, _ => ⟨19, by decide, xaG_18⟩
  | 19, _, _ => ⟨20, by decide, xaG_19⟩
  | 20, _, _ => ⟨21, by decide, xaG_20⟩
  | n + 21, _, h => absurd h (by omega)
def kk0 : Nat → Ck
  | 0 => ka0_0
  | 1 => ka0_1
  | 2 => ka0_2
  | 3 => ka0_3
  | 4 => ka0_4
  | 5 => ka0_5
  | 6 => ka0_6
  | 7 => ka0_7
  | 8 => ka0_8
  | 9 => ka0_9
  | 10 => ka0_10
  | 11 => ka0_11
  | 12 => ka0_12
  | 13 => ka0_13
  | 14 => ka0_14
  | 15 => ka0_15
  | 16 => ka0_16
  | 17 => ka0_17
  | 18 => ka0_18
  | 19 => ka0_19
  | 20 => ka0_20
  | _ => ceA
theorem rr0 : ∀ i : Nat, i < 20 → ∃ z : Int, z = (i : Int) + 1 ∧ rOk ((bodyAt (leqG Γa0 z true) 5 5).r (cS Γa0) (kk0 i).e ((kk0 i).st (.nil : Tr Ob) 1)) (kk0 (i + 1)) = true
  | 0, _ => ⟨1, by decide, ra0_0⟩
  | 1, _ => ⟨2, by decide, ra0_1⟩
  | 2, _ => ⟨3, by decide, ra0_2⟩
  | 3, _ => ⟨4, by decide, ra0_3⟩
  | 4, _ => ⟨5, by decide, ra0_4⟩
  | 5, _ => ⟨6, by decide, ra0_5⟩
  | 6, _ => ⟨7, by decide, ra0_6⟩
  | 7, _ => ⟨8, by decide, ra0_7⟩
  | 8, _ => ⟨9, by decide, ra0_8⟩
  | 9, _ => ⟨10, by decide, ra0_9⟩
  | 10, _ => ⟨11, by decide, ra0_10⟩
  | 11, _ => ⟨12, by decide, ra0_11⟩
  | 12, _ => ⟨13, by decide, ra0_12⟩
  | 13, _ => ⟨14, by decide, ra0_13⟩
  | 14, _ => ⟨15, by decide, ra0_14⟩
  | 15, _ => ⟨16, by decide, ra0_15⟩
  | 16, _ => ⟨17, by decide, ra0_16⟩
  | 17, _ => ⟨18, by decide, ra0_17⟩
  | 18, _ => ⟨19, by decide, ra0_18⟩
  | 19, _ => ⟨20, by decide, ra0_19⟩
  | n + 20, h => absurd h (by omega)
theorem xx0 : ∀ i : Nat, 1 ≤ i → i ≤ 20 → ∃ z : Int, z = (i : Int) + 1 ∧ xOk2 0 ((bodyAt (leqG Γa0 z false) 5 5).r (cS Γa0) (kk0 i).e ((kk0 i).st (.nil : Tr Ob) 1)) ceA = true
  | 0, g, _ => absurd g (by omega)
  | 1, _, _ => ⟨2, by decide, xa0_1⟩
  | 2, _, _ => ⟨3, by decide, xa0_2⟩
  | 3, _, _ => ⟨4, by decide, xa0_3⟩
  | 4, _, _ => ⟨5, by decide, xa0_4⟩
  | 5, _, _ => ⟨6, by decide, xa0_5⟩
  | 6, _, _ => ⟨7, by decide, xa0_6⟩
  | 7, _, _ => ⟨8, by decide, xa0_7⟩
  | 8, _, _ => ⟨9, by decide, xa0_8⟩
  | 9, _, _ => ⟨10, by decide, xa0_9⟩
  | 10, _, _ => ⟨11, by decide, xa0_10⟩
  | 11, _, _ => ⟨12, by decide, xa0_11⟩
  | 12, _, _ => ⟨13, by decide, xa0_12⟩
  | 13, _, _ => ⟨14, by decide, xa0_13⟩
  | 14, _, _ => ⟨15, by decide, xa0_14⟩
  | 15, _, _ => ⟨16, by decide, xa0_15⟩
  | 16, _, _ => ⟨17, by decide, xa0_16⟩
  | 17, _, _ => ⟨18, by decide, xa0_17⟩
  | 18, _, _ => ⟨19, by decide, xa0_18⟩
  | 19, _, _ => ⟨20, by decide, xa0_19⟩
  | 20, _, _ => ⟨21, by decide, xa0_20⟩
  | n + 21, _, h => absurd h (by omega)
def kk5 : Nat → Ck
  | 0 => ka5_0
  | 1 => ka5_1
  | 2 => ka5_2
  | 3 => ka5_3
  | 4 => ka5_4
  | 5 => ka5_5
  | 6 => ka5_6
  | 7 => ka5_7
  | 8 => ka5_8
  | 9 => ka5_9
  | 10 => ka5_10
  | 11 => ka5_11
  | 12 => ka5_12
  | 13 => ka5_13
  | 14 => ka5_14
  | 15 => ka5_15
  | 16 => ka5_16
  | 17 => ka5_17
  | 18 => ka5_18
  | 19 => ka5_19
  | 20 => ka5_20
  | _ => ceA
theorem rr5 : ∀ i : Nat, i < 20 → ∃ z : Int, z = (i : Int) + 1 ∧ rOk ((bodyAt (leqG Γa5 z true) 5 5).r (cS Γa5) (kk5 i).e ((kk5 i).st (.nil : Tr Ob) 0)) (kk5 (i + 1)) = true
  | 0, _ => ⟨1, by decide, ra5_0⟩
  | 1, _ => ⟨2, by decide, ra5_1⟩
  | 2, _ => ⟨3, by decide, ra5_2⟩
  | 3, _ => ⟨4, by decide, ra5_3⟩
  | 4, _ => ⟨5, by decide, ra5_4⟩
  | 5, _ => ⟨6, by decide, ra5_5⟩
  | 6, _ => ⟨7, by decide, ra5_6⟩
  | 7, _ => ⟨8, by decide, ra5_7⟩
  | 8, _ => ⟨9, by decide, ra5_8⟩
  | 9, _ => ⟨10, by decide, ra5_9⟩
  | 10, _ => ⟨11, by decide, ra5_10⟩
  | 11, _ => ⟨12, by decide, ra5_11⟩
  | 12, _ => ⟨13, by decide, ra5_12⟩
  | 13, _ => ⟨14, by decide, ra5_13⟩
  | 14, _ => ⟨15, by decide, ra5_14⟩
  | 15, _ => ⟨16, by decide, ra5_15⟩
  | 16, _ => ⟨17, by decide, ra5_16⟩
  | 17, _ => ⟨18, by decide, ra5_17⟩
  | 18, _ => ⟨19, by decide, ra5_18⟩
  | 19, _ => ⟨20, by decide, ra5_19⟩
  | n + 20, h => absurd h (by omega)
theorem xx5 : ∀ i : Nat, 1 ≤ i → i ≤ 20 → ∃ z : Int, z = (i : Int) + 1 ∧ xOk2 0 ((bodyAt (leqG Γa5 z false) 5 5).r (cS Γa5) (kk5 i).e ((kk5 i).st (.nil : Tr Ob) 0)) ceA = true
  | 0, g, _ => absurd g (by omega)
  | 1, _, _ => ⟨2, by decide, xa5_1⟩
  | 2, _, _ => ⟨3, by decide, xa5_2⟩
  | 3, _, _ => ⟨4, by decide, xa5_3⟩
  | 4, _, _ => ⟨5, by decide, xa5_4⟩
  | 5, _, _ => ⟨6, by decide, xa5_5⟩
  | 6, _, _ => ⟨7, by decide, xa5_6⟩
  | 7, _, _ => ⟨8, by decide, xa5_7⟩
  | 8, _, _ => ⟨9, by decide, xa5_8⟩
  | 9, _, _ => ⟨10, by decide, xa5_9⟩
  | 10, _, _ => ⟨11, by decide, xa5_10⟩
  | 11, _, _ => ⟨12, by decide, xa5_11⟩
  | 12, _, _ => ⟨13, by decide, xa5_12⟩
  | 13, _, _ => ⟨14, by decide, xa5_13⟩
  | 14, _, _ => ⟨15, by decide, xa5_14⟩
  | 15, _, _ => ⟨16, by decide, xa5_15⟩
  | 16, _, _ => ⟨17, by decide, xa5_16⟩
  | 17, _, _ => ⟨18, by decide, xa5_17⟩
  | 18, _, _ => ⟨19, by decide, xa5_18⟩
  | 19, _, _ => ⟨20, by decide, xa5_19⟩
  | 20, _, _ => ⟨21, by decide, xa5_20⟩
  | n + 21, _, h => absurd h (by omega)
def hisA : List Int := [3, 8, 255, 8, 255, 8, 255, 8, 255, 8, 255]
def nullA : List Int := [0, 0, 0, 0, 0, 0, 0, 0, 0, 0, 0]
theorem tabG : allK (fun k => askOk ΓaG (asAtoms k) hisA k) 1024 = true := by kernel_rfl
theorem tab0 : askOk Γa0 nullA nullA 0 = true := by kernel_rfl
theorem tab5 : askOk Γa5 nullA nullA 0 = true := by kernel_rfl
theorem times_at {tm : Int} (_h : 0 ≤ tm ∧ tm ≤ 255) : ∃ t : Nat, tm % 20 = t ∧ t ≤ 19 := ⟨(tm % 20).toNat, by omega, by omega⟩
def bA (l : List Int) (k : Nat) : Nat → List Int
  | 0 => l
  | 1 => List.replicate (padA k).toNat 0
  | 2 => List.replicate (k + (padA k).toNat) 0
  | _ => []
theorem w_times {ys : List Int} {k o c tm : Int} {b : Nat → List Int} {x : Nat → Value} {θ : Tz} (h11 : ys.length = 11) : W ⟨aA ys k o c tm (tm % 20), b, x⟩ θ (.n .u8 ⟨0, [(14, 1)]⟩) (.int .u8 tm) := by
  have e : (⟨0, [(14, 1)]⟩ : Lin).ev (aA ys k o c tm (tm % 20)) = tm := by simp only [Lin.ev, evT, aA_14 h11]; omega
  show Value.int .u8 tm = .int .u8 (Lin.ev (aA ys k o c tm (tm % 20)) _)
  rw [e]
theorem u8_open {W0 : World} {b0 : Nat} {v : Value} {t : TypeId} (ht : Tryz.prog.underlying t = some (.int .u8)) (hv : Value.okWide Tryz.prog W0 .any b0 t v) : ∃ h : Int, v = .int .u8 h ∧ 0 ≤ h ∧ h ≤ 255 := by
  unfold Value.okWide at hv
  rw [ht] at hv
  unfold Cell.okWide at hv
  rw [ht] at hv
  unfold Cell.ok at hv
  rw [ht] at hv
  cases v with
  | int k n => exact ⟨n, by rw [hv.1], hv.2⟩
  | slice a l c => cases a <;> exact hv.elim
  | _ => first | exact hv.elim | simp_all
theorem ground1a : GroundOk (.nil : Tr Ob) 1 := fun m _ => Tr.get_nil m
theorem asks_pay {k : Nat} {l : List Int} {b o c len : Nat} {tm : Int} {W0 : World} (hk : k ≤ 1023) (hlen : len = 1 + k) (hl : l.length = len) (hb : ∀ n ∈ l, 0 ≤ n ∧ n < 256) (hlc : len ≤ c) (hL : LiesAt W0 b o l) (htm : 0 ≤ tm ∧ tm ≤ 255) :
    Calls tP 5 #[.slice (some ⟨b, o, none⟩) len c, .int .u8 tm] W0 fun e W' => e = .returned (.bool true) ∧ Below W0.heap.size W0 W' := by
  have hp : 0 ≤ padA k ∧ padA k ≤ 3 := by unfold padA; omega
  have hΓ : CxOk ΓaG ⟨aA (asAtoms k) k o c tm (tm % 20), bA l k, fun _ => .bool true⟩ := askCx (his := hisA) rfl rfl rfl (by omega) rfl (allK_get tabG k (by omega)) htm (fun i => by
      match i with
      | 0 => show (l.length : Int) = 1 + (1 * (k : Int) + 0); omega
      | 1 => show ((List.replicate (padA k).toNat (0 : Int)).length : Int) = 0 + (1 * padA k + 0); rw [List.length_replicate]; omega
      | 2 => show ((List.replicate (k + (padA k).toNat) (0 : Int)).length : Int) = 0 + (1 * (k : Int) + (1 * padA k + 0)); rw [List.length_replicate]; omega
      | n + 3 => show (0 : Int) = (lit 0).ev _; rw [ev_lit]) (fun i n hn => by
      match i, hn with
      | 0, hn => exact hb n hn
      | 1, hn => have := List.eq_of_mem_replicate hn; omega
      | 2, hn => have := List.eq_of_mem_replicate hn; omega
      | _ + 3, hn => cases hn) rfl (fun x hx => by
      rcases List.mem_cons.1 (show x ∈ [((⟨0, [(3, 1)]⟩ : Lin), 0, 1), (⟨73, [(0, 1), (3, 1)]⟩, 73, 2)] from hx) with rfl | hx
      · refine ⟨(padA k).toNat, rfl, ?_⟩
        show (0 : Int) + (1 * padA k + 0) = ((0 + (padA k).toNat : Nat) : Int); omega
      · obtain rfl := List.mem_singleton.1 hx
        refine ⟨k + (padA k).toNat, rfl, ?_⟩
        show (73 : Int) + (1 * (k : Int) + (1 * padA k + 0)) = ((73 + (k + (padA k).toNat) : Nat) : Int); omega)
  obtain ⟨t, h1, h2⟩ := times_at htm
  refine (runL2_sound hΓ (winG_ground _) one5 (rounds_ch hΓ (t := t) (kk := kkG) ((aA_15 (ys := asAtoms k) (k := (k : Int)) (o := (o : Int)) (c := (c : Int)) (tm := tm) rfl).trans h1) h2 rrG xxG (t + 1) 0 (by omega)) topaG (sat_win (c := c) hL rfl rfl) (us := [.slice (some ⟨b, o, none⟩) len c, .int .u8 tm]) ?_).2.mono fun e W' ⟨he, s', θ', g⟩ => ⟨he, below_of g fun n hn => ?_⟩
  · refine ⟨w_pay hlc rfl rfl ?_ _ (.inr ⟨by omega, ?_⟩), w_times rfl, trivial⟩
    · show (1 : Int) + (1 * (k : Int) + 0) = (len : Int); omega
    · rw [ev_lit]; exact Int.le_refl 0
  · rw [st0_get]; exact winG_ground _ n hn
theorem asks_0 {b o c : Nat} {tm : Int} {W0 : World} (htm : 0 ≤ tm ∧ tm ≤ 255) : Calls tP 5 #[.slice (some ⟨b, o, none⟩) 0 c, .int .u8 tm] W0 fun e W' => e = .returned (.bool true) ∧ Below W0.heap.size W0 W' := by
  have hΓ : CxOk Γa0 ⟨aA nullA (0 : Nat) o c tm (tm % 20), fun _ => [], fun _ => .bool true⟩ := askCx (his := nullA) rfl rfl rfl (Int.le_refl 0) rfl tab0 htm (fun i => rfl) (fun i n hn => by cases hn) rfl (fun x hx => by cases hx)
  obtain ⟨t, h1, h2⟩ := times_at htm
  refine (runL2_sound hΓ ground1a one5 (rounds_ch hΓ (t := t) (kk := kk0) ((aA_15 (ys := nullA) (k := ((0 : Nat) : Int)) (o := (o : Int)) (c := (c : Int)) (tm := tm) rfl).trans h1) h2 rr0 xx0 (t + 1) 0 (by omega)) topa0 (sat_nil (b := b) (o := o) (c := c)) (us := [.slice (some ⟨b, o, none⟩) 0 c, .int .u8 tm]) ?_).2.mono fun e W' ⟨he, s', θ', g⟩ => ⟨he, below_of g fun n hn => ?_⟩
  · exact ⟨w_pay (Nat.zero_le c) rfl rfl (ev_lit _ _) _ (.inl (by show (0 : Int) + (1 * (o : Int) + 0) = o; omega)), w_times rfl, trivial⟩
  · rw [st0_get]; exact Tr.get_nil n
theorem asks_5 {tm : Int} {W0 : World} (htm : 0 ≤ tm ∧ tm ≤ 255) : Calls tP 5 #[.slice none 0 0, .int .u8 tm] W0 fun e W' => e = .returned (.bool true) ∧ Below W0.heap.size W0 W' := by
  have hΓ : CxOk Γa5 ⟨aA nullA (0 : Nat) (0 : Nat) (0 : Nat) tm (tm % 20), fun _ => [], fun _ => .bool true⟩ := askCx (his := nullA) rfl rfl rfl (Int.le_refl 0) rfl tab5 htm (fun i => rfl) (fun i n hn => by cases hn) rfl (fun x hx => by cases hx)
  obtain ⟨t, h1, h2⟩ := times_at htm
  refine (runL2_sound hΓ nil_ground one5 (rounds_ch hΓ (t := t) (kk := kk5) ((aA_15 (ys := nullA) (k := ((0 : Nat) : Int)) (o := ((0 : Nat) : Int)) (c := ((0 : Nat) : Int)) (tm := tm) rfl).trans h1) h2 rr5 xx5 (t + 1) 0 (by omega)) topa5 sat_none (us := [.slice none 0 0, .int .u8 tm]) ?_).2.mono fun e W' ⟨he, s', θ', g⟩ => ⟨he, below_of g fun n hn => ?_⟩
  · exact ⟨by simp only [W], w_times rfl, trivial⟩
  · rw [st0_get]; exact Tr.get_nil n
theorem asks_calls {H : Type} {enc : TypeId × Value → H} {W0 : World} {b0 : Nat} {v0 v1 : Value} {d : DataW H} {ps : List MemPlace} {base : Nat}
    (hv : Value.okWide Tryz.prog W0 .any b0 41 v0) (h : DataW.Trod enc Tryz.prog W0 base (fun _ => true) true 41 v0 d ps) (hv1 : Value.okWide Tryz.prog W0 .any b0 5 v1) :
    Calls Tryz.prog 5 #[v0, v1] W0 fun e W' => e = .returned (.bool true) ∧ Below W0.heap.size W0 W' := by
  obtain ⟨tm, e1, htm⟩ := u8_open (by kernel_rfl) hv1
  subst e1
  rcases pay_open (e := 5) (by kernel_rfl) (by kernel_rfl) (by kernel_rfl) hv h with rfl | ⟨b, o, len, c, l, rfl, hlc, hl, hb, hL⟩
  · exact asks_5 htm
  · by_cases h0 : len = 0
    · subst h0
      exact asks_0 htm
    · by_cases hbig : len ≤ 1024
      · exact asks_pay (k := len - 1) (by omega) (by omega) hl hb hlc (hL h0) htm
      · have hΓ : CxOk Γa6 ⟨aL [] (len - 1025 : Nat) o c, fun i => match i with | 0 => l | _ => [], fun _ => .int .u8 tm⟩ := plainCx (fun i => by
            match i with
            | 0 => exact ⟨Int.natCast_nonneg _, fun h => absurd (show (0 : Int) ≤ -1 from h) (by decide)⟩
            | 1 => exact ⟨Int.natCast_nonneg o, fun h => absurd (show (0 : Int) ≤ -1 from h) (by decide)⟩
            | 2 => exact ⟨Int.natCast_nonneg c, fun h => absurd (show (0 : Int) ≤ -1 from h) (by decide)⟩
            | n + 3 => exact ⟨Int.le_refl 0, fun h => h⟩) (fun i => by
            match i with
            | 0 => show (l.length : Int) = 1025 + (1 * ((len - 1025 : Nat) : Int) + 0); omega
            | n + 1 => rfl) (fun i n hn => by
            match i, hn with
            | 0, hn => exact hb n hn
            | _ + 1, hn => cases hn) rfl rfl rfl rfl
        refine (callT_sound hΓ topa6 (sat_win (c := c) (hL h0) rfl rfl) (us := [.slice (some ⟨b, o, none⟩) len c, .int .u8 tm]) ?_).2.mono fun e W' ⟨he, s', θ', g⟩ => ⟨he, below_of g fun n hn => ?_⟩
        · refine ⟨w_pay hlc rfl rfl ?_ _ (.inr ⟨by omega, ?_⟩), ?_, trivial⟩
          · show 1025 + (1 * ((len - 1025 : Nat) : Int) + 0) = (len : Int); omega
          · rw [ev_lit]; exact Int.le_refl 0
          · simp only [W]
        · rw [st0_get]; exact winG_ground _ n hn
end
end
end Go.Q


