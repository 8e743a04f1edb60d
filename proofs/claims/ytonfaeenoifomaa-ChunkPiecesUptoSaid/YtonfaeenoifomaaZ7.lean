/- Slices of slices, structs built; every operation that only reads. -/
import Derived.Test.YtonfaeenoifomaaZ6
namespace Go.Z
open Go.RowKit

section
variable {P : Program} {K : Ctx} {θ : Th} {h : List (Nat × R)} {nx : Nat} {w : World}

theorem freezeH_sound (hs : SatH K θ h nx w) {n : Nat} {d : D} (ha : arrOf h n = some d) :
    SatH K θ (freezeH h n) nx w ∧ ∃ L, θ n = some L ∧ d.at (Free K θ (freezeH h n)) w L ∧ L.wf ∧ L.inn (Free K θ (freezeH h n)) w := by
  unfold arrOf at ha
  split at ha <;> cases ha
  · rename_i hf
    have e : freezeH h n = h := by simp [freezeH, hf]
    rw [e]
    obtain ⟨L, h1, h2, h3, h4⟩ := hs.res n _ hf
    exact ⟨hs, L, h1, h2, h3, h4⟩
  · rename_i T hf
    have e : freezeH h n = (n, .ro d) :: h := by simp [freezeH, hf]
    rw [e]
    have hs' := hs.freeze hf
    obtain ⟨L, h1, h2, h3, h4⟩ := hs'.res n (.ro d) (by rw [hfind_cons, if_pos rfl])
    exact ⟨hs', L, h1, h2, h3, h4⟩

theorem run_sliceBounds_ok (w' : World) (len cap : Nat) (lo hi : Option Value) (l m : Nat) (hl : match lo with | none => l = 0 | some v => ∃ kk, v = .int kk (l : Int)) (hm : match hi with | none => m = len | some v => ∃ kk, v = .int kk (m : Int))
    (hlm : l ≤ m) (hmc : m ≤ cap) : (Instr.sliceBounds true len cap lo hi none).run P w' = .ok (l, m, cap) w' := by
  unfold Instr.sliceBounds
  cases lo with
  | none =>
    cases hi with
    | none => simp only at hl hm; subst hl hm; rfl
    | some v =>
      obtain ⟨kk, rfl⟩ := hm
      simp only at hl; subst hl
      simp [run_sliceBound, hmc]
  | some u =>
    obtain ⟨kk, rfl⟩ := hl
    cases hi with
    | none => simp only at hm; subst hm; simp [run_sliceBound, hlm]
    | some v => obtain ⟨kk', rfl⟩ := hm; simp [run_sliceBound, hlm, hmc]

theorem run_slice_sub {T e es : Nat} {g : Bool} (hT : P.underlying T = some (.slice e)) (hk : kindT P e = some (g, es)) (L : Loc) (lo hi : Option Value) (l m : Nat)
    (hl : match lo with | none => l = 0 | some v => ∃ kk, v = .int kk (l : Int)) (hm : match hi with | none => m = L.len | some v => ∃ kk, v = .int kk (m : Int))
    (hlm : l ≤ m) (hmc : m ≤ L.cap) (w' : World) : (Instr.sliceAt T L.val lo hi none).run P w' = .ok (L.sub l m L.cap es).val w' := by
  obtain ⟨_, k2⟩ := run_kind hk w'
  simp [Instr.sliceAt, run_underlying hT, Instr.slice, Loc.val, run_sliceBounds_ok w' L.len L.cap lo hi l m hl hm hlm hmc, k2, Loc.sub]

theorem run_slice_str {T : Nat} (hT : P.underlying T = some .string) (s : ByteArray) (lo hi : Option Value) (l m : Nat)
    (hl : match lo with | none => l = 0 | some v => ∃ kk, v = .int kk (l : Int)) (hm : match hi with | none => m = s.size | some v => ∃ kk, v = .int kk (m : Int))
    (hlm : l ≤ m) (hmc : m ≤ s.size) (w' : World) : (Instr.sliceAt T (.string s) lo hi none).run P w' = .ok (.string (s.extract l m)) w' := by
  have : (Instr.sliceBounds false s.size s.size lo hi none).run P w' = .ok (l, m, s.size) w' := by
    unfold Instr.sliceBounds
    cases lo with
    | none =>
      cases hi with
      | none => simp only at hl hm; subst hl hm; rfl
      | some v =>
        obtain ⟨kk, rfl⟩ := hm
        simp only at hl; subst hl
        simp [run_sliceBound, hmc]
    | some u =>
      obtain ⟨kk, rfl⟩ := hl
      cases hi with
      | none => simp only at hm; subst hm; simp [run_sliceBound, hlm]
      | some v => obtain ⟨kk', rfl⟩ := hm; simp [run_sliceBound, hlm, hmc]
  simp [Instr.sliceAt, run_underlying hT, Instr.slice, this]

theorem sliceQ_sound (hs : SatH K θ h nx w) {T : Nat} {s : SV} {u : Value} {lo hi : Option SV} {vlo vhi : Option Value} {k : HK} (hu : V θ s u)
    (hlo : match lo, vlo with | none, none => True | some s, some v => V θ s v | _, _ => False)
    (hhi : match hi, vhi with | none, none => True | some s, some v => V θ s v | _, _ => False) (hq : sliceQ P T s lo hi h nx k) :
    ∃ r h' nx' θ' v', k r h' nx' ∧ Grows K θ θ' nx nx' h' w ∧ V θ' r v' ∧ ∀ w', (Instr.sliceAt T u vlo vhi none).run P w' = .ok v' w' := by
  unfold sliceQ at hq
  split at hq
  · rename_i e n hT
    split at hq <;> try exact hq.elim
    rename_i d g es hd hk
    obtain ⟨hc, hq1⟩ := cond_false hq
    have hes := nbeq hc
    simp only [V] at hu
    obtain ⟨L, hL, rfl⟩ := hu
    obtain ⟨L1, hL1, hat1, hw1⟩ := arrOf_sound hs hd
    obtain rfl := Option.some.inj (hL.symm.trans hL1)
    obtain ⟨len1, len2⟩ := D.at_len hat1
    obtain ⟨hs', L2, hL2, hat, hw, hin⟩ := freezeH_sound hs hd
    obtain rfl := Option.some.inj (hL.symm.trans hL2)
    -- what is shown of each of the three forms
    have key : ∀ (l m : Nat) (d' : D), l ≤ m → m ≤ L.len → d'.at (Free K θ (freezeH h n)) w (L.sub l m L.cap es) →
        k (.a nx) ((nx, .ro d') :: freezeH h n) (nx + 1) →
        (∀ w', (Instr.sliceAt T L.val vlo vhi none).run P w' = .ok (L.sub l m L.cap es).val w') →
        ∃ r h' nx' θ' v', k r h' nx' ∧ Grows K θ θ' nx nx' h' w ∧ V θ' r v' ∧ ∀ w', (Instr.sliceAt T L.val vlo vhi none).run P w' = .ok v' w' := by
      intro l m d' hlm hml hd' hk' hrun
      refine ⟨_, _, _, _, _, hk', Grows.add_ro hs' hd' (Loc.sub_wf hw (Nat.le_refl _)) (Loc.sub_inn hw hin (Nat.le_refl _) (by omega) hml), ?_, hrun⟩
      simp only [V]
      exact ⟨_, Th.add_self _ _ _, rfl⟩
    split at hq1
    · cases vlo <;> cases vhi <;> simp only at hlo hhi
      refine ⟨_, _, _, θ, _, hq1, .refl hs, by simp only [V]; exact ⟨L, hL, rfl⟩, fun w' => ?_⟩
      rw [run_slice_sub hT hk L none none 0 L.len rfl rfl (by omega) len2 w']
      simp only [Loc.val]
      congr 2
      show (if L.cap = 0 then L.a else L.a.map (·.add (0 * es))) = L.a
      split
      · rfl
      · cases L.a <;> simp [Addr.add_zero']
    · rename_i kl l
      cases vlo <;> simp only at hlo
      cases vhi <;> simp only at hhi
      rename_i ul
      obtain ⟨⟨c1, c2⟩, hq2⟩ := hq1
      simp only [V] at hlo; subst hlo
      have hle : l.toNat ≤ L.len := by omega
      have hle' : l = (l.toNat : Int) := by omega
      refine key l.toNat L.len _ hle (Nat.le_refl _) (D.dropD_at (by omega) (D.sub_at hw hat hes (Nat.le_refl _) hle len2 (Nat.le_refl _))) hq2 fun w' => ?_
      exact run_slice_sub hT hk L (some (.int kl l)) none l.toNat L.len ⟨kl, by rw [← hle']⟩ rfl hle len2 w'
    · rename_i km m
      cases vlo <;> simp only at hlo
      cases vhi <;> simp only at hhi
      rename_i um
      obtain ⟨⟨c1, c2⟩, hq2⟩ := hq1
      simp only [V] at hhi; subst hhi
      have hle : m.toNat ≤ L.len := by omega
      have hle' : m = (m.toNat : Int) := by omega
      refine key 0 m.toNat _ (Nat.zero_le _) hle (D.takeD_at (D.sub_at (h := m.toNat) hw hat hes (Nat.le_refl _) (Nat.zero_le _) (by omega) hle)) hq2 fun w' => ?_
      exact run_slice_sub hT hk L none (some (.int km m)) 0 m.toNat rfl ⟨km, by rw [← hle']⟩ (Nat.zero_le _) (by omega) w'
    · rename_i kl l km m
      cases vlo <;> simp only at hlo
      cases vhi <;> simp only at hhi
      rename_i ul um
      obtain ⟨⟨c1, c2, c3⟩, hq2⟩ := hq1
      simp only [V] at hlo hhi; subst hlo hhi
      have hle : m.toNat ≤ L.len := by omega
      have hle' : m = (m.toNat : Int) := by omega
      have hll' : l = (l.toNat : Int) := by omega
      have hlm : l.toNat ≤ m.toNat := by omega
      refine key l.toNat m.toNat _ hlm hle (D.sub_at hw hat hes (Nat.le_refl _) hlm (by omega) hle) hq2 fun w' => ?_
      exact run_slice_sub hT hk L (some (.int kl l)) (some (.int km m)) l.toNat m.toNat ⟨kl, by rw [← hll']⟩ ⟨km, by rw [← hle']⟩ hlm (by omega) w'
    · exact hq1.elim
  · rename_i str hT
    simp only [V] at hu; subst hu
    split at hq
    · cases vlo <;> cases vhi <;> simp only at hlo hhi
      exact ⟨_, _, _, θ, _, hq, .refl hs, V_c _ _, fun w' => run_slice_str hT str none none 0 str.size rfl rfl (Nat.zero_le _) (Nat.le_refl _) w'⟩
    · rename_i kl l
      cases vlo <;> simp only at hlo
      cases vhi <;> simp only at hhi
      obtain ⟨⟨c1, c2⟩, hq2⟩ := hq
      simp only [V] at hlo; subst hlo
      exact ⟨_, _, _, θ, _, hq2, .refl hs, V_c _ _, fun w' => run_slice_str hT str (some (.int kl l)) none l.toNat str.size ⟨kl, by rw [Int.toNat_of_nonneg c1]⟩ rfl (by omega) (Nat.le_refl _) w'⟩
    · rename_i km m
      cases vlo <;> simp only at hlo
      cases vhi <;> simp only at hhi
      obtain ⟨⟨c1, c2⟩, hq2⟩ := hq
      simp only [V] at hhi; subst hhi
      exact ⟨_, _, _, θ, _, hq2, .refl hs, V_c _ _, fun w' => run_slice_str hT str none (some (.int km m)) 0 m.toNat rfl ⟨km, by rw [Int.toNat_of_nonneg c1]⟩ (Nat.zero_le _) (by omega) w'⟩
    · rename_i kl l km m
      cases vlo <;> simp only at hlo
      cases vhi <;> simp only at hhi
      obtain ⟨⟨c1, c2, c3⟩, hq2⟩ := hq
      simp only [V] at hlo hhi; subst hlo hhi
      exact ⟨_, _, _, θ, _, hq2, .refl hs, V_c _ _, fun w' => run_slice_str hT str (some (.int kl l)) (some (.int km m)) l.toNat m.toNat ⟨kl, by rw [Int.toNat_of_nonneg c1]⟩ ⟨km, by rw [Int.toNat_of_nonneg (by omega)]⟩ (by omega) (by omega) w'⟩
    · exact hq.elim
  · exact hq.elim

theorem run_slice00 {T e es : Nat} {g : Bool} (hT : P.underlying T = some (.slice e)) (hk : kindT P e = some (g, es)) (a : Option Addr) (len cap : Nat) (k1 k2 : IntKind) (w' : World) :
    (Instr.sliceAt T (.slice a len cap) none (some (.int k1 0)) (some (.int k2 0))).run P w' = .ok (.slice a 0 0) w' := by
  obtain ⟨_, k3⟩ := run_kind hk w'
  have h1 : (Instr.sliceBounds true len cap none (some (.int k1 0)) (some (.int k2 0))).run P w' = .ok (0, 0, 0) w' := by
    simp [Instr.sliceBounds, run_sliceBound]
  simp [Instr.sliceAt, run_underlying hT, Instr.slice, h1, k3]

theorem slice0Q_sound (hs : SatH K θ h nx w) {T : Nat} {s m c : SV} {u vm vc : Value} {k : HK} (hu : V θ s u) (hm : V θ m vm) (hc : V θ c vc) (hq : slice0Q P T s m c h nx k) :
    ∃ r h' nx' θ' v', k r h' nx' ∧ Grows K θ θ' nx nx' h' w ∧ V θ' r v' ∧ ∀ w', (Instr.sliceAt T u none (some vm) (some vc)).run P w' = .ok v' w' := by
  unfold slice0Q at hq
  split at hq <;> try exact hq.elim
  rename_i e k1 k2 hT
  simp only [V] at hm hc
  subst hm hc
  split at hq
  · split at hq <;> try exact hq.elim
    rename_i gk hk
    obtain ⟨g, es⟩ := gk
    simp only [V] at hu; subst hu
    exact ⟨_, _, _, θ, _, hq, .refl hs, by simp only [V], fun w' => run_slice00 hT hk _ _ _ _ _ w'⟩
  · rename_i n
    split at hq <;> try exact hq.elim
    rename_i d gk hd hk
    obtain ⟨g, es⟩ := gk
    simp only [V] at hu
    obtain ⟨L, hL, rfl⟩ := hu
    obtain ⟨L1, hL1, hat, hw⟩ := arrOf_sound hs hd
    have hz : ∀ X', (d.takeD 0).at X' w { a := L.a, len := 0, cap := 0 } := by
      intro X'
      cases d with
      | v x => exact hat.elim
      | ptr _ _ _ => exact hat.elim
      | fn _ _ _ _ => exact hat.elim
      | map _ _ => exact hat.elim
      | ints kk xs => exact ⟨by simp, by simp, fun i z hz => by simp at hz⟩
      | recs es n f => exact ⟨by simp, by simp, fun i hi => by omega⟩
    refine ⟨_, _, _, θ.add nx { a := L.a, len := 0, cap := 0 }, _, hq, ⟨?_, Th.add_ext (hs.fresh nx (Nat.le_refl _)) _, by omega, fun n hn => Th.add_other _ _ (by omega)⟩,
      by simp only [V]; exact ⟨_, Th.add_self _ _ _, rfl⟩, fun w' => run_slice00 hT hk _ _ _ _ _ w'⟩
    refine hs.add_new (Below.refl _ _) (fun ho => absurd rfl ho) (fun θ' X' _ _ _ => ⟨hz X', .inl rfl, fun hne => absurd rfl hne⟩)
  · exact hq.elim

/-! Structs built of parts -/
theorem splice_foldl : ∀ (cs : List Value) (off : Nat) (arr : Array Value), off + cs.length ≤ arr.size →
    ((cs.zipIdx off).foldl (fun a (x : Value × Nat) => a.setIfInBounds x.2 x.1) arr).toList = arr.toList.take off ++ (cs ++ arr.toList.drop (off + cs.length))
  | [], off, arr, _ => by simp
  | c :: cs, off, arr, hle => by
    simp only [List.length_cons] at hle
    simp only [List.zipIdx_cons, List.foldl_cons]
    rw [splice_foldl cs (off + 1) _ (by simp; omega)]
    have hlt : off < arr.toList.length := by simp; omega
    have e1 : (arr.setIfInBounds off c).toList = arr.toList.set off c := by simp
    rw [e1]
    have hd : arr.toList.drop off = arr.toList[off] :: arr.toList.drop (off + 1) := (List.getElem_cons_drop hlt).symm
    have e2 : (arr.toList.set off c).take (off + 1) = arr.toList.take off ++ [c] := by
      rw [List.take_succ_eq_append_getElem (by simpa using hlt), List.take_set_of_le (Nat.le_refl _)]
      simp
    have e3 : (arr.toList.set off c).drop (off + 1 + cs.length) = arr.toList.drop (off + (cs.length + 1)) := by
      rw [List.drop_set_of_lt (by omega)]
      congr 1; omega
    rw [e2, e3]
    simp
end
end Go.Z
