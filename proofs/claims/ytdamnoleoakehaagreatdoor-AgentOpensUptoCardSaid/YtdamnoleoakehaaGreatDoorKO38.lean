/- Part 38 of what the closing text rests on. -/
import Derived.Test.YtdamnoleoakehaaGreatDoorKO21
import Derived.Test.YtdamnoleoakehaaGreatDoorKO22
import Derived.Test.YtdamnoleoakehaaGreatDoorKO23
import Derived.Test.YtdamnoleoakehaaGreatDoorKO24
import Derived.Test.YtdamnoleoakehaaGreatDoorKO25
import Derived.Test.YtdamnoleoakehaaGreatDoorKO26
import Derived.Test.YtdamnoleoakehaaGreatDoorKO27
import Derived.Test.YtdamnoleoakehaaGreatDoorKO28
import Derived.Test.YtdamnoleoakehaaGreatDoorKO29
import Derived.Test.YtdamnoleoakehaaGreatDoorKO30
import Derived.Test.YtdamnoleoakehaaGreatDoorKO31
import Derived.Test.YtdamnoleoakehaaGreatDoorKO32
import Derived.Test.YtdamnoleoakehaaGreatDoorKO33
import Derived.Test.YtdamnoleoakehaaGreatDoorKO34
import Derived.Test.YtdamnoleoakehaaGreatDoorKO35
import Derived.Test.YtdamnoleoakehaaGreatDoorKO36
import Derived.Test.YtdamnoleoakehaaGreatDoorKO37
set_option maxRecDepth 100000
namespace Go.Q
noncomputable section
open Go.RowKit Go.Proofs Go.ChangeShapes Go.WideShapes Go.ChangeAt
open Go.Z hiding cond_false get resF
noncomputable section
theorem nil_ground0 : GroundOk (.nil : Tr Ob) 0 := fun m _ => Tr.get_nil m
theorem bndsO {Γ : Cx} {K j b0 b1 b2 b3 : Int} {ys hs : List Int} {l0 l1 : Int} (h1 : Γ.hi = K :: 255 :: 255 :: 255 :: 255 :: (hs ++ [-1, -1])) (hy4 : ys.length = 4) (hs4 : hs.length = 4) (hj : 0 ≤ j ∧ (0 ≤ K → j ≤ K)) (hy : hiO ys hs = true) (g0 : 0 ≤ b0 ∧ b0 ≤ 255) (g1 : 0 ≤ b1 ∧ b1 ≤ 255) (g2 : 0 ≤ b2 ∧ b2 ≤ 255) (g3 : 0 ≤ b3 ∧ b3 ≤ 255) (hl0 : 0 ≤ l0) (hl1 : 0 ≤ l1) : Bnds Γ (aO j b0 b1 b2 b3 ys l0 l1) := fun i => by
  unfold Cx.hiOf
  rw [h1]
  match i with
  | 0 => exact hj
  | 1 => exact ⟨g0.1, fun _ => g0.2⟩
  | 2 => exact ⟨g1.1, fun _ => g1.2⟩
  | 3 => exact ⟨g2.1, fun _ => g2.2⟩
  | 4 => exact ⟨g3.1, fun _ => g3.2⟩
  | m + 5 =>
    show 0 ≤ (ys ++ [l0, l1]).getD m 0 ∧ (0 ≤ (hs ++ [-1, -1]).getD m 0 → (ys ++ [l0, l1]).getD m 0 ≤ (hs ++ [-1, -1]).getD m 0)
    by_cases hm : m < 4
    · have e1 : (ys ++ [l0, l1]).getD m 0 = ys.getD m 0 := by
        rw [List.getD_eq_getElem?_getD, List.getD_eq_getElem?_getD, List.getElem?_append_left (by omega)]
      have e2 : (hs ++ [-1, -1]).getD m 0 = hs.getD m 0 := by
        rw [List.getD_eq_getElem?_getD, List.getD_eq_getElem?_getD, List.getElem?_append_left (by omega)]
      rw [e1, e2]
      exact hiO_get hy m
    · have e1 : (ys ++ [l0, l1]).getD m 0 = ([l0, l1] : List Int).getD (m - 4) 0 := by
        rw [List.getD_eq_getElem?_getD, List.getD_eq_getElem?_getD, List.getElem?_append_right (by omega), hy4]
      have e2 : (hs ++ [-1, -1]).getD m 0 = ([-1, -1] : List Int).getD (m - 4) 0 := by
        rw [List.getD_eq_getElem?_getD, List.getD_eq_getElem?_getD, List.getElem?_append_right (by omega), hs4]
      rw [e1, e2]
      generalize m - 4 = q
      match q with
      | 0 => exact ⟨hl0, fun h => absurd (show (0 : Int) ≤ -1 from h) (by decide)⟩
      | 1 => exact ⟨hl1, fun h => absurd (show (0 : Int) ≤ -1 from h) (by decide)⟩
      | q + 2 => exact ⟨Int.le_refl 0, fun _ => Int.le_refl 0⟩
def bO (l : List Int) (z : Nat) : Nat → List Int
  | 0 => l
  | 1 => List.replicate z 0
  | _ => []
def rhoO (j b0 b1 b2 b3 : Int) (ys : List Int) (l : List Int) (z : Nat) : Rh := ⟨aO j b0 b1 b2 b3 ys (bO l z 0).length (bO l z 1).length, bO l z, fun _ => .bool true⟩
theorem bO_by {l : List Int} {z : Nat} (hby : ∀ n ∈ l, 0 ≤ n ∧ n < 256) : ∀ i, ∀ n ∈ bO l z i, 0 ≤ n ∧ n < 256 := fun i n hn => by
  match i, hn with
  | 0, hn => exact hby n hn
  | 1, hn => have := List.eq_of_mem_replicate hn; omega
  | _ + 2, hn => cases hn
def txt (l : List Int) : ByteArray := ⟨(l.map fun n => UInt8.ofNat n.toNat).toArray⟩
theorem w_txt {j b0 b1 b2 b3 : Int} {ys l : List Int} {z : Nat} {θ : Tz} : W (rhoO j b0 b1 b2 b3 ys l z) θ (.s [.b 0]) (.string (txt l)) := by
  simp only [W, strOf, sgs, Sg.bytes, List.append_nil]; rfl
theorem sq_ok {j b0 b1 b2 b3 : Int} {ys l : List Int} {z : Nat} (hby : ∀ n ∈ l, 0 ≤ n ∧ n < 256) (hne : l ≠ [97]) : ∀ y ∈ ([([.b 0], [.y (lit 97)], false), ([.y (lit 97)], [.b 0], false)] : List (List Sg × List Sg × Bool)), decide (sgs (rhoO j b0 b1 b2 b3 ys l z) y.1 = sgs (rhoO j b0 b1 b2 b3 ys l z) y.2.1) = y.2.2 := by
  have key : sgs (rhoO j b0 b1 b2 b3 ys l z) [.b 0] ≠ sgs (rhoO j b0 b1 b2 b3 ys l z) [.y (lit 97)] := fun e => by
    have e1 : l.map (fun n => UInt8.ofNat n.toNat) = [UInt8.ofNat 97] := by
      have h1 : sgs (rhoO j b0 b1 b2 b3 ys l z) [.b 0] = l.map (fun n => UInt8.ofNat n.toNat) := by simp only [sgs, Sg.bytes, List.append_nil]; rfl
      have h2 : sgs (rhoO j b0 b1 b2 b3 ys l z) [.y (lit 97)] = [UInt8.ofNat 97] := by simp only [sgs, Sg.bytes, List.append_nil, ev_lit]; rfl
      rw [← h1, ← h2]; exact e
    match l, e1, hby, hne with
    | [x], e1, hby, hne =>
      have hx := hby x (by simp)
      have h3 : UInt8.ofNat x.toNat = UInt8.ofNat 97 := by simpa using e1
      have h4 := congrArg UInt8.toNat h3
      simp only [UInt8.toNat_ofNat'] at h4
      apply hne
      have : x = 97 := by omega
      rw [this]
    | [], e1, _, _ => simp at e1
    | _ :: _ :: _, e1, _, _ => simp at e1
  intro y hy
  rcases List.mem_cons.1 hy with rfl | hy
  · exact decide_eq_false key
  · obtain rfl := List.mem_singleton.1 hy
    exact decide_eq_false fun e => key e.symm
theorem len0 {j b0 b1 b2 b3 l0 l1 : Int} {ys : List Int} (h4 : ys.length = 4) : aO j b0 b1 b2 b3 ys l0 l1 9 = l0 ∧ aO j b0 b1 b2 b3 ys l0 l1 10 = l1 := by
  constructor
  · show (ys ++ [l0, l1]).getD 4 0 = l0
    rw [List.getD_eq_getElem?_getD, List.getElem?_append_right (by omega), h4]; rfl
  · show (ys ++ [l0, l1]).getD 5 0 = l1
    rw [List.getD_eq_getElem?_getD, List.getElem?_append_right (by omega), h4]; rfl
theorem baseCx {ls : List Int} {n j z : Nat} {b0 b1 b2 b3 : Int} {l : List Int} (h : openOk ΓoB ls n = true) (hj : j < n) (hy : hiO (ysO ls j) [-1, -1, -1, -1] = true) (g0 : 0 ≤ b0 ∧ b0 ≤ 255) (g1 : 0 ≤ b1 ∧ b1 ≤ 255) (g2 : 0 ≤ b2 ∧ b2 ≤ 255) (g3 : 0 ≤ b3 ∧ b3 ≤ 255) (hby : ∀ n ∈ l, 0 ≤ n ∧ n < 256) :
    CxOk ΓoB (rhoO j b0 b1 b2 b3 (ysO ls j) l z) := by
  have h4 := ysO_len ls j
  refine openCx h hj (bndsO (K := -1) (hs := [-1, -1, -1, -1]) rfl h4 rfl ⟨by omega, fun h => absurd h (by decide)⟩ hy g0 g1 g2 g3 (by omega) (by omega)) (fun i => ?_) (bO_by hby) (fun y hy => by cases hy) rfl
  obtain ⟨e1, e2⟩ := len0 (j := j) (b0 := b0) (b1 := b1) (b2 := b2) (b3 := b3) (l0 := (bO l z 0).length) (l1 := (bO l z 1).length) h4
  match i with
  | 0 => show _ = (0 : Int) + (1 * aO j b0 b1 b2 b3 (ysO ls j) (bO l z 0).length (bO l z 1).length 9 + 0); rw [e1]; omega
  | 1 => show _ = (0 : Int) + (1 * aO j b0 b1 b2 b3 (ysO ls j) (bO l z 0).length (bO l z 1).length 10 + 0); rw [e2]; omega
  | i + 2 => show (0 : Int) = (lit 0).ev _; rw [ev_lit]
theorem w_boot {j b0 b1 b2 b3 h : Int} {ys l : List Int} {z : Nat} {θ : Tz} (hh : h = 16777216 * b0 + 65536 * b1 + 256 * b2 + b3) : W (rhoO j b0 b1 b2 b3 ys l z) θ bootD (.int .u32 h) := by
  have e : (⟨0, [(1, 16777216), (2, 65536), (3, 256), (4, 1)]⟩ : Lin).ev (rhoO j b0 b1 b2 b3 ys l z).a = h := by
    show (0 : Int) + (16777216 * b0 + (65536 * b1 + (256 * b2 + (1 * b3 + 0)))) = h
    omega
  show Value.int .u32 h = .int .u32 (Lin.ev (rhoO j b0 b1 b2 b3 ys l z).a _)
  rw [e]
theorem open_run {Γ : Cx} {ls hs : List Int} {R K0 J j : Nat} {nm t : Bool} {ms : List Mm} {l : List Int} {h : Int} {W0 : World} (h1 : Γ.hi = (J : Int) :: 255 :: 255 :: 255 :: 255 :: (hs ++ [-1, -1])) (hs4 : hs.length = 4) (h2 : Γ.bl = [⟨((R + 4 * K0 : Nat) : Int), [(0, 4)]⟩, ⟨((4 * K0 : Nat) : Int), [(0, 4)]⟩])
    (h3 : Γ.sq = [([.b 0], [.y (lit 97)], false), ([.y (lit 97)], [.b 0], false)]) (h4 : Γ.zs = []) (h5 : openOk Γ ls (J + 1) = true) (h6 : allK (fun j => hiO (ysO ls j) hs && hiO (ysO ls j) [-1, -1, -1, -1]) (J + 1) = true) (h7 : openOk ΓoB ls (J + 1) = true)
    (htop : tvO (runG Γ 4 (memoG (.nil : Tr Ob) 0 (cN Γ nm) ms) [bootD, .c (.bool t), .s [.b 0]] sO) = true) (hms : ∀ ρ, CxOk Γ ρ → CxOk ΓoB ρ → NmOk ρ nm → MgsOk ρ (.nil : Tr Ob) 0 ms)
    (hj : j ≤ J) (hl : l.length = R + 4 * (K0 + j)) (hR : 1 ≤ R) (hmax : l.length ≤ 4096) (hby : ∀ n ∈ l, 0 ≤ n ∧ n < 256) (hne : l ≠ [97]) (hn : nm = nameB l) (hh : 0 ≤ h ∧ h ≤ 4294967295) :
    Calls tP 4 #[.int .u32 h, .bool t, .string (txt l)] W0 fun e W' => e = .returned (.bool true) ∧ Below W0.heap.size W0 W' := by
  obtain ⟨b0, b1, b2, b3, g0, g1, g2, g3, hx⟩ := bytes4 hh.1 hh.2
  have h6' := allK_get h6 j (by omega)
  simp only [Bool.and_eq_true] at h6'
  have hB : CxOk ΓoB (rhoO j b0 b1 b2 b3 (ysO ls j) l (4 * (K0 + j))) := baseCx h7 (by omega) h6'.2 g0 g1 g2 g3 hby
  have hΓ : CxOk Γ (rhoO j b0 b1 b2 b3 (ysO ls j) l (4 * (K0 + j))) := openCx h5 (by omega) (bndsO h1 (ysO_len ls j) hs4 ⟨by omega, fun _ => by omega⟩ h6'.1 g0 g1 g2 g3 (by omega) (by omega)) (fun i => by
    rw [h2]
    match i with
    | 0 => show (l.length : Int) = ((R + 4 * K0 : Nat) : Int) + (4 * (j : Int) + 0); omega
    | 1 => show ((List.replicate (4 * (K0 + j)) (0 : Int)).length : Int) = ((4 * K0 : Nat) : Int) + (4 * (j : Int) + 0); rw [List.length_replicate]; omega
    | i + 2 => show (0 : Int) = (lit 0).ev _; rw [ev_lit]) (bO_by hby) (by rw [h3]; exact sq_ok hby hne) h4
  have hN : NmOk (rhoO j b0 b1 b2 b3 (ysO ls j) l (4 * (K0 + j))) nm := ⟨hn, by show 1 ≤ l.length; omega, hmax⟩
  refine (runG_sound hΓ (memoG_ok nil_ground0 (cN_ok hΓ hN) (hms _ hΓ hB hN)) htop sat_none (us := [.int .u32 h, .bool t, .string (txt l)]) ⟨w_boot hx, by simp only [W], w_txt, trivial⟩).2.mono fun e W' ⟨he, s', θ', g⟩ => ⟨he, below_of g fun n hn => ?_⟩
  unfold sO; rw [st0_get]; exact Tr.get_nil n
theorem open_long {j : Nat} {t : Bool} {l : List Int} {h : Int} {W0 : World} (hms : ∀ ρ, CxOk ΓoB ρ → MgsOk ρ (.nil : Tr Ob) 0 msP) (htop : tvO (runG Γo0l 4 (memoG (.nil : Tr Ob) 0 (cS Γo0l) msP) [bootD, .c (.bool t), .s [.b 0]] sO) = true)
    (h5 : openOk Γo0l [] 1048577 = true) (h7 : openOk ΓoB [] 1048577 = true) (hj : j ≤ 1048576) (hl : l.length = 4097 + j) (hby : ∀ n ∈ l, 0 ≤ n ∧ n < 256) (hh : 0 ≤ h ∧ h ≤ 4294967295) :
    Calls tP 4 #[.int .u32 h, .bool t, .string (txt l)] W0 fun e W' => e = .returned (.bool true) ∧ Below W0.heap.size W0 W' := by
  obtain ⟨b0, b1, b2, b3, g0, g1, g2, g3, hx⟩ := bytes4 hh.1 hh.2
  have hB : CxOk ΓoB (rhoO j b0 b1 b2 b3 (ysO [] j) l 0) := baseCx h7 (by omega) rfl g0 g1 g2 g3 hby
  have hne : l ≠ [97] := fun e => by rw [e] at hl; simp at hl; omega
  have hΓ : CxOk Γo0l (rhoO j b0 b1 b2 b3 (ysO [] j) l 0) := openCx h5 (by omega) (bndsO (K := 1048576) (hs := [0, 0, 0, 0]) rfl (ysO_len [] j) rfl ⟨by omega, fun _ => by omega⟩ rfl g0 g1 g2 g3 (by omega) (by omega)) (fun i => by
    match i with
    | 0 => show (l.length : Int) = 4097 + (1 * (j : Int) + 0); omega
    | 1 => show (0 : Int) = (lit 0).ev _; rw [ev_lit]
    | i + 2 => show (0 : Int) = (lit 0).ev _; rw [ev_lit]) (bO_by hby) (sq_ok hby hne) rfl
  refine (runG_sound hΓ (memoG_ok nil_ground0 (cS_ok hΓ) (hms _ hB)) htop sat_none (us := [.int .u32 h, .bool t, .string (txt l)]) ⟨w_boot hx, by simp only [W], w_txt, trivial⟩).2.mono fun e W' ⟨he, s', θ', g⟩ => ⟨he, below_of g fun n hn => ?_⟩
  unfold sO; rw [st0_get]; exact Tr.get_nil n
theorem open_plain {t : Bool} {sg : List Sg} {l : List Int} {h : Int} {W0 : World} (hms : ∀ ρ, CxOk ΓoB ρ → MgsOk ρ (.nil : Tr Ob) 0 msP) (htop : tvO (runG ΓoB 4 (memoG (.nil : Tr Ob) 0 (cS ΓoB) msP) [bootD, .c (.bool t), .s sg] sO) = true)
    (h7 : openOk ΓoB [] 1 = true) (hW : ∀ ρ θ, W ρ θ (.s sg) (.string (txt l))) (hh : 0 ≤ h ∧ h ≤ 4294967295) :
    Calls tP 4 #[.int .u32 h, .bool t, .string (txt l)] W0 fun e W' => e = .returned (.bool true) ∧ Below W0.heap.size W0 W' := by
  obtain ⟨b0, b1, b2, b3, g0, g1, g2, g3, hx⟩ := bytes4 hh.1 hh.2
  have hB : CxOk ΓoB (rhoO (0 : Nat) b0 b1 b2 b3 (ysO [] (0 : Nat)) [] 0) := baseCx h7 (by decide) rfl g0 g1 g2 g3 (fun n hn => by cases hn)
  refine (runG_sound hB (memoG_ok nil_ground0 (cS_ok hB) (hms _ hB)) htop sat_none (us := [.int .u32 h, .bool t, .string (txt l)]) ⟨w_boot hx, by simp only [W], hW _ _, trivial⟩).2.mono fun e W' ⟨he, s', θ', g⟩ => ⟨he, below_of g fun n hn => ?_⟩
  unfold sO; rw [st0_get]; exact Tr.get_nil n
theorem msP_ok {ρ : Rh} (hB : CxOk ΓoB ρ) : MgsOk ρ (.nil : Tr Ob) 0 msP := ⟨⟨cS ΓoB, cS_ok hB, ok_mo_p0⟩, ⟨cS ΓoB, cS_ok hB, ok_mo_p1⟩, ⟨cS ΓoB, cS_ok hB, ok_mo_p2⟩, ⟨cS ΓoB, cS_ok hB, ok_mo_q0⟩, ⟨cS ΓoB, cS_ok hB, ok_mo_q1⟩, ⟨cS ΓoB, cS_ok hB, ok_mo_q2⟩, ⟨cS ΓoB, cS_ok hB, ok_mo_q3⟩, ⟨cS ΓoB, cS_ok hB, ok_mo_q4⟩, ⟨cS ΓoB, cS_ok hB, ok_mo_q5⟩, trivial⟩
theorem msA1_ok {ρ : Rh} (hΓ : CxOk Γo1a ρ) (hB : CxOk ΓoB ρ) : MgsOk ρ (.nil : Tr Ob) 0 msA1 := ⟨⟨cS Γo1a, cS_ok hΓ, ok_mo_a1⟩, msP_ok hB⟩
theorem msN1_ok {ρ : Rh} (hΓ : CxOk Γo1n ρ) (hB : CxOk ΓoB ρ) (hN : NmOk ρ true) : MgsOk ρ (.nil : Tr Ob) 0 msN1 := ⟨⟨cS ΓoB, cS_ok hB, ok_mo_p0⟩, ⟨cS ΓoB, cS_ok hB, ok_mo_p1⟩, ⟨cS ΓoB, cS_ok hB, ok_mo_p2⟩, ⟨cS Γo1n, cS_ok hΓ, ok_mo_a1n⟩, ⟨cN Γo1n true, cN_ok hΓ hN, ok_mo_n1b⟩, ⟨cN Γo1n true, cN_ok hΓ hN, ok_mo_n1c⟩, ⟨cS ΓoB, cS_ok hB, ok_mo_s10⟩, ⟨cS ΓoB, cS_ok hB, ok_mo_s11⟩, ⟨cS ΓoB, cS_ok hB, ok_mo_s12⟩, ⟨cS ΓoB, cS_ok hB, ok_mo_s13⟩, ⟨cS ΓoB, cS_ok hB, ok_mo_s14⟩, ⟨cS ΓoB, cS_ok hB, ok_mo_s15⟩, trivial⟩
theorem msA2_ok {ρ : Rh} (hΓ : CxOk Γo2a ρ) (hB : CxOk ΓoB ρ) : MgsOk ρ (.nil : Tr Ob) 0 msA2 := ⟨⟨cS Γo2a, cS_ok hΓ, ok_mo_a2⟩, msP_ok hB⟩
theorem msN2_ok {ρ : Rh} (hΓ : CxOk Γo2n ρ) (hB : CxOk ΓoB ρ) (hN : NmOk ρ true) : MgsOk ρ (.nil : Tr Ob) 0 msN2 := ⟨⟨cS ΓoB, cS_ok hB, ok_mo_p0⟩, ⟨cS ΓoB, cS_ok hB, ok_mo_p1⟩, ⟨cS ΓoB, cS_ok hB, ok_mo_p2⟩, ⟨cS Γo2n, cS_ok hΓ, ok_mo_a2n⟩, ⟨cN Γo2n true, cN_ok hΓ hN, ok_mo_n2b⟩, ⟨cN Γo2n true, cN_ok hΓ hN, ok_mo_n2c⟩, ⟨cS ΓoB, cS_ok hB, ok_mo_s20⟩, ⟨cS ΓoB, cS_ok hB, ok_mo_s21⟩, ⟨cS ΓoB, cS_ok hB, ok_mo_s22⟩, ⟨cS ΓoB, cS_ok hB, ok_mo_s23⟩, ⟨cS ΓoB, cS_ok hB, ok_mo_s24⟩, ⟨cS ΓoB, cS_ok hB, ok_mo_s25⟩, trivial⟩
theorem msA3_ok {ρ : Rh} (hΓ : CxOk Γo3a ρ) (hB : CxOk ΓoB ρ) : MgsOk ρ (.nil : Tr Ob) 0 msA3 := ⟨⟨cS Γo3a, cS_ok hΓ, ok_mo_a3⟩, msP_ok hB⟩
theorem msN3_ok {ρ : Rh} (hΓ : CxOk Γo3n ρ) (hB : CxOk ΓoB ρ) (hN : NmOk ρ true) : MgsOk ρ (.nil : Tr Ob) 0 msN3 := ⟨⟨cS ΓoB, cS_ok hB, ok_mo_p0⟩, ⟨cS ΓoB, cS_ok hB, ok_mo_p1⟩, ⟨cS ΓoB, cS_ok hB, ok_mo_p2⟩, ⟨cS Γo3n, cS_ok hΓ, ok_mo_a3n⟩, ⟨cN Γo3n true, cN_ok hΓ hN, ok_mo_n3b⟩, ⟨cN Γo3n true, cN_ok hΓ hN, ok_mo_n3c⟩, ⟨cS ΓoB, cS_ok hB, ok_mo_s30⟩, ⟨cS ΓoB, cS_ok hB, ok_mo_s31⟩, ⟨cS ΓoB, cS_ok hB, ok_mo_s32⟩, ⟨cS ΓoB, cS_ok hB, ok_mo_s33⟩, ⟨cS ΓoB, cS_ok hB, ok_mo_s34⟩, ⟨cS ΓoB, cS_ok hB, ok_mo_s35⟩, trivial⟩
theorem msA4_ok {ρ : Rh} (hΓ : CxOk Γo4a ρ) (hB : CxOk ΓoB ρ) : MgsOk ρ (.nil : Tr Ob) 0 msA4 := ⟨⟨cS Γo4a, cS_ok hΓ, ok_mo_a4⟩, msP_ok hB⟩
theorem msN4_ok {ρ : Rh} (hΓ : CxOk Γo4n ρ) (hB : CxOk ΓoB ρ) (hN : NmOk ρ true) : MgsOk ρ (.nil : Tr Ob) 0 msN4 := ⟨⟨cS ΓoB, cS_ok hB, ok_mo_p0⟩, ⟨cS ΓoB, cS_ok hB, ok_mo_p1⟩, ⟨cS ΓoB, cS_ok hB, ok_mo_p2⟩, ⟨cS Γo4n, cS_ok hΓ, ok_mo_a4n⟩, ⟨cN Γo4n true, cN_ok hΓ hN, ok_mo_n4b⟩, ⟨cN Γo4n true, cN_ok hΓ hN, ok_mo_n4c⟩, ⟨cS ΓoB, cS_ok hB, ok_mo_s40⟩, ⟨cS ΓoB, cS_ok hB, ok_mo_s41⟩, ⟨cS ΓoB, cS_ok hB, ok_mo_s42⟩, ⟨cS ΓoB, cS_ok hB, ok_mo_s43⟩, ⟨cS ΓoB, cS_ok hB, ok_mo_s44⟩, ⟨cS ΓoB, cS_ok hB, ok_mo_s45⟩, trivial⟩
theorem tab_1n : openOk Γo1n [9, 56] 8 = true := by kernel_rfl
theorem tah_1n : allK (fun j => hiO (ysO [9, 56] j) [16, 255, 16, 255] && hiO (ysO [9, 56] j) [-1, -1, -1, -1]) 8 = true := by kernel_rfl
theorem taB_1n : openOk ΓoB [9, 56] 8 = true := by kernel_rfl
theorem run_1n {t : Bool} {j : Nat} {l : List Int} {h : Int} {W0 : World} (hj : j ≤ 7) (hl : l.length = 1 + 4 * (0 + j)) (hmax : l.length ≤ 4096) (hby : ∀ n ∈ l, 0 ≤ n ∧ n < 256) (hne : l ≠ [97]) (hn : true = nameB l) (hh : 0 ≤ h ∧ h ≤ 4294967295) : Calls tP 4 #[.int .u32 h, .bool t, .string (txt l)] W0 fun e W' => e = .returned (.bool true) ∧ Below W0.heap.size W0 W' := by
  cases t with
  | true => exact open_run (R := 1) (K0 := 0) (J := 7) rfl rfl rfl rfl rfl tab_1n tah_1n taB_1n top_o1n_t (fun ρ hΓ hB hN => msN1_ok hΓ hB hN) hj hl (by decide) hmax hby hne hn hh
  | false => exact open_run (R := 1) (K0 := 0) (J := 7) rfl rfl rfl rfl rfl tab_1n tah_1n taB_1n top_o1n_f (fun ρ hΓ hB hN => msN1_ok hΓ hB hN) hj hl (by decide) hmax hby hne hn hh
theorem tab_1a : openOk Γo1a [9, 56] 1011 = true := by kernel_rfl
theorem tah_1a : allK (fun j => hiO (ysO [9, 56] j) [16, 255, 16, 255] && hiO (ysO [9, 56] j) [-1, -1, -1, -1]) 1011 = true := by kernel_rfl
theorem taB_1a : openOk ΓoB [9, 56] 1011 = true := by kernel_rfl
theorem run_1a {t : Bool} {j : Nat} {l : List Int} {h : Int} {W0 : World} (hj : j ≤ 1010) (hl : l.length = 1 + 4 * (0 + j)) (hmax : l.length ≤ 4096) (hby : ∀ n ∈ l, 0 ≤ n ∧ n < 256) (hne : l ≠ [97]) (hn : false = nameB l) (hh : 0 ≤ h ∧ h ≤ 4294967295) : Calls tP 4 #[.int .u32 h, .bool t, .string (txt l)] W0 fun e W' => e = .returned (.bool true) ∧ Below W0.heap.size W0 W' := by
  cases t with
  | true => exact open_run (R := 1) (K0 := 0) (J := 1010) rfl rfl rfl rfl rfl tab_1a tah_1a taB_1a top_o1a_t (fun ρ hΓ hB hN => msA1_ok hΓ hB) hj hl (by decide) hmax hby hne hn hh
  | false => exact open_run (R := 1) (K0 := 0) (J := 1010) rfl rfl rfl rfl rfl tab_1a tah_1a taB_1a top_o1a_f (fun ρ hΓ hB hN => msA1_ok hΓ hB) hj hl (by decide) hmax hby hne hn hh
theorem tab_1b : openOk Γo1b [4053] 5 = true := by kernel_rfl
theorem tah_1b : allK (fun j => hiO (ysO [4053] j) [16, 255, 0, 0] && hiO (ysO [4053] j) [-1, -1, -1, -1]) 5 = true := by kernel_rfl
theorem taB_1b : openOk ΓoB [4053] 5 = true := by kernel_rfl
theorem run_1b {t : Bool} {j : Nat} {l : List Int} {h : Int} {W0 : World} (hj : j ≤ 4) (hl : l.length = 1 + 4 * (1011 + j)) (hmax : l.length ≤ 4096) (hby : ∀ n ∈ l, 0 ≤ n ∧ n < 256) (hne : l ≠ [97]) (hn : false = nameB l) (hh : 0 ≤ h ∧ h ≤ 4294967295) : Calls tP 4 #[.int .u32 h, .bool t, .string (txt l)] W0 fun e W' => e = .returned (.bool true) ∧ Below W0.heap.size W0 W' := by
  cases t with
  | true => exact open_run (R := 1) (K0 := 1011) (J := 4) rfl rfl rfl rfl rfl tab_1b tah_1b taB_1b top_o1b_t (fun ρ hΓ hB hN => msP_ok hB) hj hl (by decide) hmax hby hne hn hh
  | false => exact open_run (R := 1) (K0 := 1011) (J := 4) rfl rfl rfl rfl rfl tab_1b tah_1b taB_1b top_o1b_f (fun ρ hΓ hB hN => msP_ok hB) hj hl (by decide) hmax hby hne hn hh
theorem tab_1c : openOk Γo1c [4073] 3 = true := by kernel_rfl
theorem tah_1c : allK (fun j => hiO (ysO [4073] j) [16, 255, 0, 0] && hiO (ysO [4073] j) [-1, -1, -1, -1]) 3 = true := by kernel_rfl
theorem taB_1c : openOk ΓoB [4073] 3 = true := by kernel_rfl
theorem run_1c {t : Bool} {j : Nat} {l : List Int} {h : Int} {W0 : World} (hj : j ≤ 2) (hl : l.length = 1 + 4 * (1016 + j)) (hmax : l.length ≤ 4096) (hby : ∀ n ∈ l, 0 ≤ n ∧ n < 256) (hne : l ≠ [97]) (hn : false = nameB l) (hh : 0 ≤ h ∧ h ≤ 4294967295) : Calls tP 4 #[.int .u32 h, .bool t, .string (txt l)] W0 fun e W' => e = .returned (.bool true) ∧ Below W0.heap.size W0 W' := by
  cases t with
  | true => exact open_run (R := 1) (K0 := 1016) (J := 2) rfl rfl rfl rfl rfl tab_1c tah_1c taB_1c top_o1c_t (fun ρ hΓ hB hN => msP_ok hB) hj hl (by decide) hmax hby hne hn hh
  | false => exact open_run (R := 1) (K0 := 1016) (J := 2) rfl rfl rfl rfl rfl tab_1c tah_1c taB_1c top_o1c_f (fun ρ hΓ hB hN => msP_ok hB) hj hl (by decide) hmax hby hne hn hh
theorem tab_1d : openOk Γo1d [4085] 3 = true := by kernel_rfl
theorem tah_1d : allK (fun j => hiO (ysO [4085] j) [16, 255, 0, 0] && hiO (ysO [4085] j) [-1, -1, -1, -1]) 3 = true := by kernel_rfl
theorem taB_1d : openOk ΓoB [4085] 3 = true := by kernel_rfl
theorem run_1d {t : Bool} {j : Nat} {l : List Int} {h : Int} {W0 : World} (hj : j ≤ 2) (hl : l.length = 1 + 4 * (1019 + j)) (hmax : l.length ≤ 4096) (hby : ∀ n ∈ l, 0 ≤ n ∧ n < 256) (hne : l ≠ [97]) (hn : false = nameB l) (hh : 0 ≤ h ∧ h ≤ 4294967295) : Calls tP 4 #[.int .u32 h, .bool t, .string (txt l)] W0 fun e W' => e = .returned (.bool true) ∧ Below W0.heap.size W0 W' := by
  cases t with
  | true => exact open_run (R := 1) (K0 := 1019) (J := 2) rfl rfl rfl rfl rfl tab_1d tah_1d taB_1d top_o1d_t (fun ρ hΓ hB hN => msP_ok hB) hj hl (by decide) hmax hby hne hn hh
  | false => exact open_run (R := 1) (K0 := 1019) (J := 2) rfl rfl rfl rfl rfl tab_1d tah_1d taB_1d top_o1d_f (fun ρ hΓ hB hN => msP_ok hB) hj hl (by decide) hmax hby hne hn hh
theorem tab_1e : openOk Γo1e [4097] 2 = true := by kernel_rfl
theorem tah_1e : allK (fun j => hiO (ysO [4097] j) [16, 255, 0, 0] && hiO (ysO [4097] j) [-1, -1, -1, -1]) 2 = true := by kernel_rfl
theorem taB_1e : openOk ΓoB [4097] 2 = true := by kernel_rfl
theorem run_1e {t : Bool} {j : Nat} {l : List Int} {h : Int} {W0 : World} (hj : j ≤ 1) (hl : l.length = 1 + 4 * (1022 + j)) (hmax : l.length ≤ 4096) (hby : ∀ n ∈ l, 0 ≤ n ∧ n < 256) (hne : l ≠ [97]) (hn : false = nameB l) (hh : 0 ≤ h ∧ h ≤ 4294967295) : Calls tP 4 #[.int .u32 h, .bool t, .string (txt l)] W0 fun e W' => e = .returned (.bool true) ∧ Below W0.heap.size W0 W' := by
  cases t with
  | true => exact open_run (R := 1) (K0 := 1022) (J := 1) rfl rfl rfl rfl rfl tab_1e tah_1e taB_1e top_o1e_t (fun ρ hΓ hB hN => msP_ok hB) hj hl (by decide) hmax hby hne hn hh
  | false => exact open_run (R := 1) (K0 := 1022) (J := 1) rfl rfl rfl rfl rfl tab_1e tah_1e taB_1e top_o1e_f (fun ρ hΓ hB hN => msP_ok hB) hj hl (by decide) hmax hby hne hn hh
theorem tab_2n : openOk Γo2n [10, 56] 8 = true := by kernel_rfl
theorem tah_2n : allK (fun j => hiO (ysO [10, 56] j) [16, 255, 16, 255] && hiO (ysO [10, 56] j) [-1, -1, -1, -1]) 8 = true := by kernel_rfl
theorem taB_2n : openOk ΓoB [10, 56] 8 = true := by kernel_rfl
theorem run_2n {t : Bool} {j : Nat} {l : List Int} {h : Int} {W0 : World} (hj : j ≤ 7) (hl : l.length = 2 + 4 * (0 + j)) (hmax : l.length ≤ 4096) (hby : ∀ n ∈ l, 0 ≤ n ∧ n < 256) (hne : l ≠ [97]) (hn : true = nameB l) (hh : 0 ≤ h ∧ h ≤ 4294967295) : Calls tP 4 #[.int .u32 h, .bool t, .string (txt l)] W0 fun e W' => e = .returned (.bool true) ∧ Below W0.heap.size W0 W' := by
  cases t with
  | true => exact open_run (R := 2) (K0 := 0) (J := 7) rfl rfl rfl rfl rfl tab_2n tah_2n taB_2n top_o2n_t (fun ρ hΓ hB hN => msN2_ok hΓ hB hN) hj hl (by decide) hmax hby hne hn hh
  | false => exact open_run (R := 2) (K0 := 0) (J := 7) rfl rfl rfl rfl rfl tab_2n tah_2n taB_2n top_o2n_f (fun ρ hΓ hB hN => msN2_ok hΓ hB hN) hj hl (by decide) hmax hby hne hn hh
theorem tab_2a : openOk Γo2a [10, 56] 1011 = true := by kernel_rfl
theorem tah_2a : allK (fun j => hiO (ysO [10, 56] j) [16, 255, 16, 255] && hiO (ysO [10, 56] j) [-1, -1, -1, -1]) 1011 = true := by kernel_rfl
theorem taB_2a : openOk ΓoB [10, 56] 1011 = true := by kernel_rfl
theorem run_2a {t : Bool} {j : Nat} {l : List Int} {h : Int} {W0 : World} (hj : j ≤ 1010) (hl : l.length = 2 + 4 * (0 + j)) (hmax : l.length ≤ 4096) (hby : ∀ n ∈ l, 0 ≤ n ∧ n < 256) (hne : l ≠ [97]) (hn : false = nameB l) (hh : 0 ≤ h ∧ h ≤ 4294967295) : Calls tP 4 #[.int .u32 h, .bool t, .string (txt l)] W0 fun e W' => e = .returned (.bool true) ∧ Below W0.heap.size W0 W' := by
  cases t with
  | true => exact open_run (R := 2) (K0 := 0) (J := 1010) rfl rfl rfl rfl rfl tab_2a tah_2a taB_2a top_o2a_t (fun ρ hΓ hB hN => msA2_ok hΓ hB) hj hl (by decide) hmax hby hne hn hh
  | false => exact open_run (R := 2) (K0 := 0) (J := 1010) rfl rfl rfl rfl rfl tab_2a tah_2a taB_2a top_o2a_f (fun ρ hΓ hB hN => msA2_ok hΓ hB) hj hl (by decide) hmax hby hne hn hh
theorem tab_2b : openOk Γo2b [4054] 5 = true := by kernel_rfl
theorem tah_2b : allK (fun j => hiO (ysO [4054] j) [16, 255, 0, 0] && hiO (ysO [4054] j) [-1, -1, -1, -1]) 5 = true := by kernel_rfl
theorem taB_2b : openOk ΓoB [4054] 5 = true := by kernel_rfl
theorem run_2b {t : Bool} {j : Nat} {l : List Int} {h : Int} {W0 : World} (hj : j ≤ 4) (hl : l.length = 2 + 4 * (1011 + j)) (hmax : l.length ≤ 4096) (hby : ∀ n ∈ l, 0 ≤ n ∧ n < 256) (hne : l ≠ [97]) (hn : false = nameB l) (hh : 0 ≤ h ∧ h ≤ 4294967295) : Calls tP 4 #[.int .u32 h, .bool t, .string (txt l)] W0 fun e W' => e = .returned (.bool true) ∧ Below W0.heap.size W0 W' := by
  cases t with
  | true => exact open_run (R := 2) (K0 := 1011) (J := 4) rfl rfl rfl rfl rfl tab_2b tah_2b taB_2b top_o2b_t (fun ρ hΓ hB hN => msP_ok hB) hj hl (by decide) hmax hby hne hn hh
  | false => exact open_run (R := 2) (K0 := 1011) (J := 4) rfl rfl rfl rfl rfl tab_2b tah_2b taB_2b top_o2b_f (fun ρ hΓ hB hN => msP_ok hB) hj hl (by decide) hmax hby hne hn hh
theorem tab_2c : openOk Γo2c [4074] 3 = true := by kernel_rfl
theorem tah_2c : allK (fun j => hiO (ysO [4074] j) [16, 255, 0, 0] && hiO (ysO [4074] j) [-1, -1, -1, -1]) 3 = true := by kernel_rfl
theorem taB_2c : openOk ΓoB [4074] 3 = true := by kernel_rfl
theorem run_2c {t : Bool} {j : Nat} {l : List Int} {h : Int} {W0 : World} (hj : j ≤ 2) (hl : l.length = 2 + 4 * (1016 + j)) (hmax : l.length ≤ 4096) (hby : ∀ n ∈ l, 0 ≤ n ∧ n < 256) (hne : l ≠ [97]) (hn : false = nameB l) (hh : 0 ≤ h ∧ h ≤ 4294967295) : Calls tP 4 #[.int .u32 h, .bool t, .string (txt l)] W0 fun e W' => e = .returned (.bool true) ∧ Below W0.heap.size W0 W' := by
  cases t with
  | true => exact open_run (R := 2) (K0 := 1016) (J := 2) rfl rfl rfl rfl rfl tab_2c tah_2c taB_2c top_o2c_t (fun ρ hΓ hB hN => msP_ok hB) hj hl (by decide) hmax hby hne hn hh
  | false => exact open_run (R := 2) (K0 := 1016) (J := 2) rfl rfl rfl rfl rfl tab_2c tah_2c taB_2c top_o2c_f (fun ρ hΓ hB hN => msP_ok hB) hj hl (by decide) hmax hby hne hn hh
theorem tab_2d : openOk Γo2d [4086] 3 = true := by kernel_rfl
theorem tah_2d : allK (fun j => hiO (ysO [4086] j) [16, 255, 0, 0] && hiO (ysO [4086] j) [-1, -1, -1, -1]) 3 = true := by kernel_rfl
theorem taB_2d : openOk ΓoB [4086] 3 = true := by kernel_rfl
theorem run_2d {t : Bool} {j : Nat} {l : List Int} {h : Int} {W0 : World} (hj : j ≤ 2) (hl : l.length = 2 + 4 * (1019 + j)) (hmax : l.length ≤ 4096) (hby : ∀ n ∈ l, 0 ≤ n ∧ n < 256) (hne : l ≠ [97]) (hn : false = nameB l) (hh : 0 ≤ h ∧ h ≤ 4294967295) : Calls tP 4 #[.int .u32 h, .bool t, .string (txt l)] W0 fun e W' => e = .returned (.bool true) ∧ Below W0.heap.size W0 W' := by
  cases t with
  | true => exact open_run (R := 2) (K0 := 1019) (J := 2) rfl rfl rfl rfl rfl tab_2d tah_2d taB_2d top_o2d_t (fun ρ hΓ hB hN => msP_ok hB) hj hl (by decide) hmax hby hne hn hh
  | false => exact open_run (R := 2) (K0 := 1019) (J := 2) rfl rfl rfl rfl rfl tab_2d tah_2d taB_2d top_o2d_f (fun ρ hΓ hB hN => msP_ok hB) hj hl (by decide) hmax hby hne hn hh
theorem tab_2e : openOk Γo2e [4098] 2 = true := by kernel_rfl
theorem tah_2e : allK (fun j => hiO (ysO [4098] j) [16, 255, 0, 0] && hiO (ysO [4098] j) [-1, -1, -1, -1]) 2 = true := by kernel_rfl
theorem taB_2e : openOk ΓoB [4098] 2 = true := by kernel_rfl
theorem run_2e {t : Bool} {j : Nat} {l : List Int} {h : Int} {W0 : World} (hj : j ≤ 1) (hl : l.length = 2 + 4 * (1022 + j)) (hmax : l.length ≤ 4096) (hby : ∀ n ∈ l, 0 ≤ n ∧ n < 256) (hne : l ≠ [97]) (hn : false = nameB l) (hh : 0 ≤ h ∧ h ≤ 4294967295) : Calls tP 4 #[.int .u32 h, .bool t, .string (txt l)] W0 fun e W' => e = .returned (.bool true) ∧ Below W0.heap.size W0 W' := by
  cases t with
  | true => exact open_run (R := 2) (K0 := 1022) (J := 1) rfl rfl rfl rfl rfl tab_2e tah_2e taB_2e top_o2e_t (fun ρ hΓ hB hN => msP_ok hB) hj hl (by decide) hmax hby hne hn hh
  | false => exact open_run (R := 2) (K0 := 1022) (J := 1) rfl rfl rfl rfl rfl tab_2e tah_2e taB_2e top_o2e_f (fun ρ hΓ hB hN => msP_ok hB) hj hl (by decide) hmax hby hne hn hh
theorem tab_3n : openOk Γo3n [11, 56] 8 = true := by kernel_rfl
theorem tah_3n : allK (fun j => hiO (ysO [11, 56] j) [16, 255, 16, 255] && hiO (ysO [11, 56] j) [-1, -1, -1, -1]) 8 = true := by kernel_rfl
theorem taB_3n : openOk ΓoB [11, 56] 8 = true := by kernel_rfl
theorem run_3n {t : Bool} {j : Nat} {l : List Int} {h : Int} {W0 : World} (hj : j ≤ 7) (hl : l.length = 3 + 4 * (0 + j)) (hmax : l.length ≤ 4096) (hby : ∀ n ∈ l, 0 ≤ n ∧ n < 256) (hne : l ≠ [97]) (hn : true = nameB l) (hh : 0 ≤ h ∧ h ≤ 4294967295) : Calls tP 4 #[.int .u32 h, .bool t, .string (txt l)] W0 fun e W' => e = .returned (.bool true) ∧ Below W0.heap.size W0 W' := by
  cases t with
  | true => exact open_run (R := 3) (K0 := 0) (J := 7) rfl rfl rfl rfl rfl tab_3n tah_3n taB_3n top_o3n_t (fun ρ hΓ hB hN => msN3_ok hΓ hB hN) hj hl (by decide) hmax hby hne hn hh
  | false => exact open_run (R := 3) (K0 := 0) (J := 7) rfl rfl rfl rfl rfl tab_3n tah_3n taB_3n top_o3n_f (fun ρ hΓ hB hN => msN3_ok hΓ hB hN) hj hl (by decide) hmax hby hne hn hh
theorem tab_3a : openOk Γo3a [11, 56] 1011 = true := by kernel_rfl
theorem tah_3a : allK (fun j => hiO (ysO [11, 56] j) [16, 255, 16, 255] && hiO (ysO [11, 56] j) [-1, -1, -1, -1]) 1011 = true := by kernel_rfl
theorem taB_3a : openOk ΓoB [11, 56] 1011 = true := by kernel_rfl
theorem run_3a {t : Bool} {j : Nat} {l : List Int} {h : Int} {W0 : World} (hj : j ≤ 1010) (hl : l.length = 3 + 4 * (0 + j)) (hmax : l.length ≤ 4096) (hby : ∀ n ∈ l, 0 ≤ n ∧ n < 256) (hne : l ≠ [97]) (hn : false = nameB l) (hh : 0 ≤ h ∧ h ≤ 4294967295) : Calls tP 4 #[.int .u32 h, .bool t, .string (txt l)] W0 fun e W' => e = .returned (.bool true) ∧ Below W0.heap.size W0 W' := by
  cases t with
  | true => exact open_run (R := 3) (K0 := 0) (J := 1010) rfl rfl rfl rfl rfl tab_3a tah_3a taB_3a top_o3a_t (fun ρ hΓ hB hN => msA3_ok hΓ hB) hj hl (by decide) hmax hby hne hn hh
  | false => exact open_run (R := 3) (K0 := 0) (J := 1010) rfl rfl rfl rfl rfl tab_3a tah_3a taB_3a top_o3a_f (fun ρ hΓ hB hN => msA3_ok hΓ hB) hj hl (by decide) hmax hby hne hn hh
theorem tab_3b : openOk Γo3b [4055] 5 = true := by kernel_rfl
theorem tah_3b : allK (fun j => hiO (ysO [4055] j) [16, 255, 0, 0] && hiO (ysO [4055] j) [-1, -1, -1, -1]) 5 = true := by kernel_rfl
theorem taB_3b : openOk ΓoB [4055] 5 = true := by kernel_rfl
theorem run_3b {t : Bool} {j : Nat} {l : List Int} {h : Int} {W0 : World} (hj : j ≤ 4) (hl : l.length = 3 + 4 * (1011 + j)) (hmax : l.length ≤ 4096) (hby : ∀ n ∈ l, 0 ≤ n ∧ n < 256) (hne : l ≠ [97]) (hn : false = nameB l) (hh : 0 ≤ h ∧ h ≤ 4294967295) : Calls tP 4 #[.int .u32 h, .bool t, .string (txt l)] W0 fun e W' => e = .returned (.bool true) ∧ Below W0.heap.size W0 W' := by
  cases t with
  | true => exact open_run (R := 3) (K0 := 1011) (J := 4) rfl rfl rfl rfl rfl tab_3b tah_3b taB_3b top_o3b_t (fun ρ hΓ hB hN => msP_ok hB) hj hl (by decide) hmax hby hne hn hh
  | false => exact open_run (R := 3) (K0 := 1011) (J := 4) rfl rfl rfl rfl rfl tab_3b tah_3b taB_3b top_o3b_f (fun ρ hΓ hB hN => msP_ok hB) hj hl (by decide) hmax hby hne hn hh
theorem tab_3c : openOk Γo3c [4075] 3 = true := by kernel_rfl
theorem tah_3c : allK (fun j => hiO (ysO [4075] j) [16, 255, 0, 0] && hiO (ysO [4075] j) [-1, -1, -1, -1]) 3 = true := by kernel_rfl
theorem taB_3c : openOk ΓoB [4075] 3 = true := by kernel_rfl
theorem run_3c {t : Bool} {j : Nat} {l : List Int} {h : Int} {W0 : World} (hj : j ≤ 2) (hl : l.length = 3 + 4 * (1016 + j)) (hmax : l.length ≤ 4096) (hby : ∀ n ∈ l, 0 ≤ n ∧ n < 256) (hne : l ≠ [97]) (hn : false = nameB l) (hh : 0 ≤ h ∧ h ≤ 4294967295) : Calls tP 4 #[.int .u32 h, .bool t, .string (txt l)] W0 fun e W' => e = .returned (.bool true) ∧ Below W0.heap.size W0 W' := by
  cases t with
  | true => exact open_run (R := 3) (K0 := 1016) (J := 2) rfl rfl rfl rfl rfl tab_3c tah_3c taB_3c top_o3c_t (fun ρ hΓ hB hN => msP_ok hB) hj hl (by decide) hmax hby hne hn hh
  | false => exact open_run (R := 3) (K0 := 1016) (J := 2) rfl rfl rfl rfl rfl tab_3c tah_3c taB_3c top_o3c_f (fun ρ hΓ hB hN => msP_ok hB) hj hl (by decide) hmax hby hne hn hh
theorem tab_3d : openOk Γo3d [4087] 3 = true := by kernel_rfl
theorem tah_3d : allK (fun j => hiO (ysO [4087] j) [16, 255, 0, 0] && hiO (ysO [4087] j) [-1, -1, -1, -1]) 3 = true := by kernel_rfl
theorem taB_3d : openOk ΓoB [4087] 3 = true := by kernel_rfl
theorem run_3d {t : Bool} {j : Nat} {l : List Int} {h : Int} {W0 : World} (hj : j ≤ 2) (hl : l.length = 3 + 4 * (1019 + j)) (hmax : l.length ≤ 4096) (hby : ∀ n ∈ l, 0 ≤ n ∧ n < 256) (hne : l ≠ [97]) (hn : false = nameB l) (hh : 0 ≤ h ∧ h ≤ 4294967295) : Calls tP 4 #[.int .u32 h, .bool t, .string (txt l)] W0 fun e W' => e = .returned (.bool true) ∧ Below W0.heap.size W0 W' := by
  cases t with
  | true => exact open_run (R := 3) (K0 := 1019) (J := 2) rfl rfl rfl rfl rfl tab_3d tah_3d taB_3d top_o3d_t (fun ρ hΓ hB hN => msP_ok hB) hj hl (by decide) hmax hby hne hn hh
  | false => exact open_run (R := 3) (K0 := 1019) (J := 2) rfl rfl rfl rfl rfl tab_3d tah_3d taB_3d top_o3d_f (fun ρ hΓ hB hN => msP_ok hB) hj hl (by decide) hmax hby hne hn hh
theorem tab_3e : openOk Γo3e [4099] 2 = true := by kernel_rfl
theorem tah_3e : allK (fun j => hiO (ysO [4099] j) [16, 255, 0, 0] && hiO (ysO [4099] j) [-1, -1, -1, -1]) 2 = true := by kernel_rfl
theorem taB_3e : openOk ΓoB [4099] 2 = true := by kernel_rfl
theorem run_3e {t : Bool} {j : Nat} {l : List Int} {h : Int} {W0 : World} (hj : j ≤ 1) (hl : l.length = 3 + 4 * (1022 + j)) (hmax : l.length ≤ 4096) (hby : ∀ n ∈ l, 0 ≤ n ∧ n < 256) (hne : l ≠ [97]) (hn : false = nameB l) (hh : 0 ≤ h ∧ h ≤ 4294967295) : Calls tP 4 #[.int .u32 h, .bool t, .string (txt l)] W0 fun e W' => e = .returned (.bool true) ∧ Below W0.heap.size W0 W' := by
  cases t with
  | true => exact open_run (R := 3) (K0 := 1022) (J := 1) rfl rfl rfl rfl rfl tab_3e tah_3e taB_3e top_o3e_t (fun ρ hΓ hB hN => msP_ok hB) hj hl (by decide) hmax hby hne hn hh
  | false => exact open_run (R := 3) (K0 := 1022) (J := 1) rfl rfl rfl rfl rfl tab_3e tah_3e taB_3e top_o3e_f (fun ρ hΓ hB hN => msP_ok hB) hj hl (by decide) hmax hby hne hn hh
theorem tab_4n : openOk Γo4n [12, 56] 8 = true := by kernel_rfl
theorem tah_4n : allK (fun j => hiO (ysO [12, 56] j) [16, 255, 16, 255] && hiO (ysO [12, 56] j) [-1, -1, -1, -1]) 8 = true := by kernel_rfl
theorem taB_4n : openOk ΓoB [12, 56] 8 = true := by kernel_rfl
theorem run_4n {t : Bool} {j : Nat} {l : List Int} {h : Int} {W0 : World} (hj : j ≤ 7) (hl : l.length = 4 + 4 * (0 + j)) (hmax : l.length ≤ 4096) (hby : ∀ n ∈ l, 0 ≤ n ∧ n < 256) (hne : l ≠ [97]) (hn : true = nameB l) (hh : 0 ≤ h ∧ h ≤ 4294967295) : Calls tP 4 #[.int .u32 h, .bool t, .string (txt l)] W0 fun e W' => e = .returned (.bool true) ∧ Below W0.heap.size W0 W' := by
  cases t with
  | true => exact open_run (R := 4) (K0 := 0) (J := 7) rfl rfl rfl rfl rfl tab_4n tah_4n taB_4n top_o4n_t (fun ρ hΓ hB hN => msN4_ok hΓ hB hN) hj hl (by decide) hmax hby hne hn hh
  | false => exact open_run (R := 4) (K0 := 0) (J := 7) rfl rfl rfl rfl rfl tab_4n tah_4n taB_4n top_o4n_f (fun ρ hΓ hB hN => msN4_ok hΓ hB hN) hj hl (by decide) hmax hby hne hn hh
theorem tab_4a : openOk Γo4a [12, 56] 1011 = true := by kernel_rfl
theorem tah_4a : allK (fun j => hiO (ysO [12, 56] j) [16, 255, 16, 255] && hiO (ysO [12, 56] j) [-1, -1, -1, -1]) 1011 = true := by kernel_rfl
theorem taB_4a : openOk ΓoB [12, 56] 1011 = true := by kernel_rfl
theorem run_4a {t : Bool} {j : Nat} {l : List Int} {h : Int} {W0 : World} (hj : j ≤ 1010) (hl : l.length = 4 + 4 * (0 + j)) (hmax : l.length ≤ 4096) (hby : ∀ n ∈ l, 0 ≤ n ∧ n < 256) (hne : l ≠ [97]) (hn : false = nameB l) (hh : 0 ≤ h ∧ h ≤ 4294967295) : Calls tP 4 #[.int .u32 h, .bool t, .string (txt l)] W0 fun e W' => e = .returned (.bool true) ∧ Below W0.heap.size W0 W' := by
  cases t with
  | true => exact open_run (R := 4) (K0 := 0) (J := 1010) rfl rfl rfl rfl rfl tab_4a tah_4a taB_4a top_o4a_t (fun ρ hΓ hB hN => msA4_ok hΓ hB) hj hl (by decide) hmax hby hne hn hh
  | false => exact open_run (R := 4) (K0 := 0) (J := 1010) rfl rfl rfl rfl rfl tab_4a tah_4a taB_4a top_o4a_f (fun ρ hΓ hB hN => msA4_ok hΓ hB) hj hl (by decide) hmax hby hne hn hh
theorem tab_4b : openOk Γo4b [4056] 5 = true := by kernel_rfl
theorem tah_4b : allK (fun j => hiO (ysO [4056] j) [16, 255, 0, 0] && hiO (ysO [4056] j) [-1, -1, -1, -1]) 5 = true := by kernel_rfl
theorem taB_4b : openOk ΓoB [4056] 5 = true := by kernel_rfl
theorem run_4b {t : Bool} {j : Nat} {l : List Int} {h : Int} {W0 : World} (hj : j ≤ 4) (hl : l.length = 4 + 4 * (1011 + j)) (hmax : l.length ≤ 4096) (hby : ∀ n ∈ l, 0 ≤ n ∧ n < 256) (hne : l ≠ [97]) (hn : false = nameB l) (hh : 0 ≤ h ∧ h ≤ 4294967295) : Calls tP 4 #[.int .u32 h, .bool t, .string (txt l)] W0 fun e W' => e = .returned (.bool true) ∧ Below W0.heap.size W0 W' := by
  cases t with
  | true => exact open_run (R := 4) (K0 := 1011) (J := 4) rfl rfl rfl rfl rfl tab_4b tah_4b taB_4b top_o4b_t (fun ρ hΓ hB hN => msP_ok hB) hj hl (by decide) hmax hby hne hn hh
  | false => exact open_run (R := 4) (K0 := 1011) (J := 4) rfl rfl rfl rfl rfl tab_4b tah_4b taB_4b top_o4b_f (fun ρ hΓ hB hN => msP_ok hB) hj hl (by decide) hmax hby hne hn hh
theorem tab_4c : openOk Γo4c [4076] 3 = true := by kernel_rfl
theorem tah_4c : allK (fun j => hiO (ysO [4076] j) [16, 255, 0, 0] && hiO (ysO [4076] j) [-1, -1, -1, -1]) 3 = true := by kernel_rfl
theorem taB_4c : openOk ΓoB [4076] 3 = true := by kernel_rfl
theorem run_4c {t : Bool} {j : Nat} {l : List Int} {h : Int} {W0 : World} (hj : j ≤ 2) (hl : l.length = 4 + 4 * (1016 + j)) (hmax : l.length ≤ 4096) (hby : ∀ n ∈ l, 0 ≤ n ∧ n < 256) (hne : l ≠ [97]) (hn : false = nameB l) (hh : 0 ≤ h ∧ h ≤ 4294967295) : Calls tP 4 #[.int .u32 h, .bool t, .string (txt l)] W0 fun e W' => e = .returned (.bool true) ∧ Below W0.heap.size W0 W' := by
  cases t with
  | true => exact open_run (R := 4) (K0 := 1016) (J := 2) rfl rfl rfl rfl rfl tab_4c tah_4c taB_4c top_o4c_t (fun ρ hΓ hB hN => msP_ok hB) hj hl (by decide) hmax hby hne hn hh
  | false => exact open_run (R := 4) (K0 := 1016) (J := 2) rfl rfl rfl rfl rfl tab_4c tah_4c taB_4c top_o4c_f (fun ρ hΓ hB hN => msP_ok hB) hj hl (by decide) hmax hby hne hn hh
theorem tab_4d : openOk Γo4d [4088] 3 = true := by kernel_rfl
theorem tah_4d : allK (fun j => hiO (ysO [4088] j) [16, 255, 0, 0] && hiO (ysO [4088] j) [-1, -1, -1, -1]) 3 = true := by kernel_rfl
theorem taB_4d : openOk ΓoB [4088] 3 = true := by kernel_rfl
theorem run_4d {t : Bool} {j : Nat} {l : List Int} {h : Int} {W0 : World} (hj : j ≤ 2) (hl : l.length = 4 + 4 * (1019 + j)) (hmax : l.length ≤ 4096) (hby : ∀ n ∈ l, 0 ≤ n ∧ n < 256) (hne : l ≠ [97]) (hn : false = nameB l) (hh : 0 ≤ h ∧ h ≤ 4294967295) : Calls tP 4 #[.int .u32 h, .bool t, .string (txt l)] W0 fun e W' => e = .returned (.bool true) ∧ Below W0.heap.size W0 W' := by
  cases t with
  | true => exact open_run (R := 4) (K0 := 1019) (J := 2) rfl rfl rfl rfl rfl tab_4d tah_4d taB_4d top_o4d_t (fun ρ hΓ hB hN => msP_ok hB) hj hl (by decide) hmax hby hne hn hh
  | false => exact open_run (R := 4) (K0 := 1019) (J := 2) rfl rfl rfl rfl rfl tab_4d tah_4d taB_4d top_o4d_f (fun ρ hΓ hB hN => msP_ok hB) hj hl (by decide) hmax hby hne hn hh
theorem tab_4e : openOk Γo4e [4100] 2 = true := by kernel_rfl
theorem tah_4e : allK (fun j => hiO (ysO [4100] j) [16, 255, 0, 0] && hiO (ysO [4100] j) [-1, -1, -1, -1]) 2 = true := by kernel_rfl
theorem taB_4e : openOk ΓoB [4100] 2 = true := by kernel_rfl
theorem run_4e {t : Bool} {j : Nat} {l : List Int} {h : Int} {W0 : World} (hj : j ≤ 1) (hl : l.length = 4 + 4 * (1022 + j)) (hmax : l.length ≤ 4096) (hby : ∀ n ∈ l, 0 ≤ n ∧ n < 256) (hne : l ≠ [97]) (hn : false = nameB l) (hh : 0 ≤ h ∧ h ≤ 4294967295) : Calls tP 4 #[.int .u32 h, .bool t, .string (txt l)] W0 fun e W' => e = .returned (.bool true) ∧ Below W0.heap.size W0 W' := by
  cases t with
  | true => exact open_run (R := 4) (K0 := 1022) (J := 1) rfl rfl rfl rfl rfl tab_4e tah_4e taB_4e top_o4e_t (fun ρ hΓ hB hN => msP_ok hB) hj hl (by decide) hmax hby hne hn hh
  | false => exact open_run (R := 4) (K0 := 1022) (J := 1) rfl rfl rfl rfl rfl tab_4e tah_4e taB_4e top_o4e_f (fun ρ hΓ hB hN => msP_ok hB) hj hl (by decide) hmax hby hne hn hh
theorem tab_l : openOk Γo0l [] 1048577 = true := by kernel_rfl
theorem taB_l : openOk ΓoB [] 1048577 = true := by kernel_rfl
theorem taB_0 : openOk ΓoB [] 1 = true := by kernel_rfl
def bys (s : ByteArray) : List Int := s.data.toList.map fun b => (b.toNat : Int)
theorem txt_bys (s : ByteArray) : txt (bys s) = s := by
  unfold txt bys
  rw [List.map_map]
  have : ((fun n : Int => UInt8.ofNat n.toNat) ∘ fun b : UInt8 => (b.toNat : Int)) = id := by
    funext b
    simp
  rw [this, List.map_id]
theorem bys_by (s : ByteArray) : ∀ n ∈ bys s, 0 ≤ n ∧ n < 256 := fun n hn => by
  obtain ⟨b, _, rfl⟩ := List.mem_map.1 hn
  have := b.toNat_lt
  omega
theorem opens_bytes {t : Bool} {l : List Int} {h : Int} {W0 : World} (hby : ∀ n ∈ l, 0 ≤ n ∧ n < 256) (hbig : l.length ≤ 1048576) (hh : 0 ≤ h ∧ h ≤ 4294967295) : Calls tP 4 #[.int .u32 h, .bool t, .string (txt l)] W0 fun e W' => e = .returned (.bool true) ∧ Below W0.heap.size W0 W' := by
  by_cases ha : l = [97]
  · subst ha
    cases t with
    | true => exact open_plain (fun ρ hB => msP_ok hB) top_oA_t taB_0 (fun ρ θ => by simp only [W, strOf, sgs, Sg.bytes, List.append_nil, ev_lit]; rfl) hh
    | false => exact open_plain (fun ρ hB => msP_ok hB) top_oA_f taB_0 (fun ρ θ => by simp only [W, strOf, sgs, Sg.bytes, List.append_nil, ev_lit]; rfl) hh
  · by_cases h0 : l = []
    · subst h0
      cases t with
      | true => exact open_plain (fun ρ hB => msP_ok hB) top_oE_t taB_0 (fun ρ θ => by simp only [W, strOf, sgs]; rfl) hh
      | false => exact open_plain (fun ρ hB => msP_ok hB) top_oE_f taB_0 (fun ρ θ => by simp only [W, strOf, sgs]; rfl) hh
    · have hpos : 1 ≤ l.length := by
        cases l with
        | nil => exact absurd rfl h0
        | cons x l => simp
      by_cases hmax : l.length ≤ 4096
      · have hR : (l.length - 1) % 4 = 0 ∨ (l.length - 1) % 4 = 1 ∨ (l.length - 1) % 4 = 2 ∨ (l.length - 1) % 4 = 3 := by omega
        cases hn : nameB l with
        | true =>
          have h32 : l.length ≤ 32 := by
            simp only [nameB, Bool.and_eq_true, decide_eq_true_eq] at hn
            exact hn.1.2
          rcases hR with hr | hr | hr | hr
          · exact run_1n (j := (l.length - 1) / 4) (by omega) (by omega) hmax hby ha hn.symm hh
          · exact run_2n (j := (l.length - 1) / 4) (by omega) (by omega) hmax hby ha hn.symm hh
          · exact run_3n (j := (l.length - 1) / 4) (by omega) (by omega) hmax hby ha hn.symm hh
          · exact run_4n (j := (l.length - 1) / 4) (by omega) (by omega) hmax hby ha hn.symm hh
        | false =>
          have hk : (l.length - 1) / 4 ≤ 1010 ∨ (1011 ≤ (l.length - 1) / 4 ∧ (l.length - 1) / 4 ≤ 1015) ∨ (1016 ≤ (l.length - 1) / 4 ∧ (l.length - 1) / 4 ≤ 1018) ∨ (1019 ≤ (l.length - 1) / 4 ∧ (l.length - 1) / 4 ≤ 1021) ∨ (1022 ≤ (l.length - 1) / 4 ∧ (l.length - 1) / 4 ≤ 1023) := by omega
          rcases hR with hr | hr | hr | hr
          · rcases hk with hk | hk | hk | hk | hk
            · exact run_1a (j := (l.length - 1) / 4 - 0) (by omega) (by omega) hmax hby ha hn.symm hh
            · exact run_1b (j := (l.length - 1) / 4 - 1011) (by omega) (by omega) hmax hby ha hn.symm hh
            · exact run_1c (j := (l.length - 1) / 4 - 1016) (by omega) (by omega) hmax hby ha hn.symm hh
            · exact run_1d (j := (l.length - 1) / 4 - 1019) (by omega) (by omega) hmax hby ha hn.symm hh
            · exact run_1e (j := (l.length - 1) / 4 - 1022) (by omega) (by omega) hmax hby ha hn.symm hh
          · rcases hk with hk | hk | hk | hk | hk
            · exact run_2a (j := (l.length - 1) / 4 - 0) (by omega) (by omega) hmax hby ha hn.symm hh
            · exact run_2b (j := (l.length - 1) / 4 - 1011) (by omega) (by omega) hmax hby ha hn.symm hh
            · exact run_2c (j := (l.length - 1) / 4 - 1016) (by omega) (by omega) hmax hby ha hn.symm hh
            · exact run_2d (j := (l.length - 1) / 4 - 1019) (by omega) (by omega) hmax hby ha hn.symm hh
            · exact run_2e (j := (l.length - 1) / 4 - 1022) (by omega) (by omega) hmax hby ha hn.symm hh
          · rcases hk with hk | hk | hk | hk | hk
            · exact run_3a (j := (l.length - 1) / 4 - 0) (by omega) (by omega) hmax hby ha hn.symm hh
            · exact run_3b (j := (l.length - 1) / 4 - 1011) (by omega) (by omega) hmax hby ha hn.symm hh
            · exact run_3c (j := (l.length - 1) / 4 - 1016) (by omega) (by omega) hmax hby ha hn.symm hh
            · exact run_3d (j := (l.length - 1) / 4 - 1019) (by omega) (by omega) hmax hby ha hn.symm hh
            · exact run_3e (j := (l.length - 1) / 4 - 1022) (by omega) (by omega) hmax hby ha hn.symm hh
          · rcases hk with hk | hk | hk | hk | hk
            · exact run_4a (j := (l.length - 1) / 4 - 0) (by omega) (by omega) hmax hby ha hn.symm hh
            · exact run_4b (j := (l.length - 1) / 4 - 1011) (by omega) (by omega) hmax hby ha hn.symm hh
            · exact run_4c (j := (l.length - 1) / 4 - 1016) (by omega) (by omega) hmax hby ha hn.symm hh
            · exact run_4d (j := (l.length - 1) / 4 - 1019) (by omega) (by omega) hmax hby ha hn.symm hh
            · exact run_4e (j := (l.length - 1) / 4 - 1022) (by omega) (by omega) hmax hby ha hn.symm hh
      · cases t with
        | true => exact open_long (j := l.length - 4097) (fun ρ hB => msP_ok hB) top_o0l_t tab_l taB_l (by omega) (by omega) hby hh
        | false => exact open_long (j := l.length - 4097) (fun ρ hB => msP_ok hB) top_o0l_f tab_l taB_l (by omega) (by omega) hby hh
end
end
end Go.Q

