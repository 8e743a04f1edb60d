/- A function keeps its contract if its body's symbolic run goes through: the theorem. -/
import Derived.Test.YtgnfpcjndhnglaaX25
namespace Go.X
open Go.RowKit

theorem fnOk {P : Program} {C : Nat → Option Ctr} (hP : P.follows .mixedOrders = true) (hC : COk P C) {f : Nat} {fn : Func} {code : Code} {c : Ctr}
    (hf : P.funcs[f]? = some fn) (hb : fn.body = some code) (h : ∀ as, c.pre as → ∃ ann, execF P C fn.ntmps ann fn.results.toList code c as) : FnOk P f c := by
  intro w A Bs as vs hA hnd hpre
  let K : Ctx := { w0 := w, M := (· ∈ Bs), A := fun b => A b ∨ b ∈ Bs, N := fn.ntmps, ma := fun b hb => .inr hb }
  obtain ⟨l1, l2, l3, l4⟩ := lents_at 0 hA
  have own0 : ∀ n b, OwnsAt (th0 Bs) (lentH (lentsA as 0)) n b → Bs[n]? = some b := by
    rintro n b ⟨r, L, _, h2, _, rfl⟩
    simp only [th0, Option.map_eq_some_iff] at h2
    obtain ⟨b', h3, rfl⟩ := h2
    exact h3
  have hs0 : SatH K (th0 Bs) (lentH (lentsA as 0)) (lentsA as 0).length w := by
    refine ⟨fun n hn => ?_, fun n r hr => ?_, fun n m b hn hm => ?_, fun n b hn => .inr (List.mem_of_getElem? (own0 n b hn)), .refl _ _⟩
    · simp only [th0, List.getElem?_eq_none (show Bs.length ≤ n by omega), Option.map_none]
    · obtain ⟨j, T, len, h1, rfl⟩ := lentH_find hr
      obtain ⟨rfl, b, l, h2, h3, rfl, us, h4, h5⟩ := l4 j n T len h1
      refine ⟨ptrLoc b, by simp [th0, h2], us, rfl, h4, ?_⟩
      rw [DL.length h5]
      exact VL_unk _ us
    · have h1 := own0 n b hn
      have h2 := own0 m b hm
      obtain ⟨k1, e1⟩ := List.getElem?_eq_some_iff.1 h1
      obtain ⟨k2, e2⟩ := List.getElem?_eq_some_iff.1 h2
      exact (List.getElem_inj hnd).1 (e1.trans e2.symm)
  have hLO : LentOk (th0 Bs) (lentH (lentsA as 0)) (lentsA as 0) Bs := lentOk_of l1 fun j n T len b h1 h2 => by
    obtain ⟨rfl, b', l, h3, h4, rfl, _⟩ := l4 j n T len h1
    rw [h2] at h3; cases h3
    exact ⟨ptrLoc b, _, by simp [th0, h2], rfl, (hfind_lentH h1).2, by simp⟩
  have hLA : LentAfter (fun b => A b ∧ b ∉ Bs) w (lentsA as 0) Bs (ptrDs as) := lentAfterOf l1 l3 fun j n T len hj => by
    obtain ⟨_, b, l, h1, h2, h3, h4⟩ := l4 j n T len hj
    exact ⟨b, l, h1, h2, h3, h4⟩
  have hX0 : ∀ b, b < w.heap.size → (A b ∧ b ∉ Bs) → Free K (th0 Bs) (lentH (lentsA as 0)) b := fun b _ hb =>
    ⟨fun n hn => hb.2 (List.mem_of_getElem? (own0 n b hn)), .inr (.inl hb.1)⟩
  obtain ⟨ann, h⟩ := h as hpre
  obtain ⟨h1, nx1, θ1, g1, g2, g3⟩ := ptrsBack_sound (X := fun b => A b ∧ b ∉ Bs) hs0 hLO hLA hX0 h
  obtain ⟨ss, h2, nx2, θ2, e1, e2, e3⟩ := entryA_sound (i := 0) (X := fun b => A b ∧ b ∉ Bs) g2.sat (fun b hb hx => g3 b (hX0 b hb hx)) hA
    (fun j b hj => g2.ext _ _ (by simp [th0, hj])) g1
  obtain ⟨b1, b2⟩ := cond_false e1
  have hN : ss.length ≤ fn.ntmps := Nat.le_of_ble_eq_true b1
  have hlen := VL_length e3
  have hE : SatE K θ2 (slotsOf ss 0) { tmps := vs.toArray ++ Array.replicate (fn.ntmps - vs.toArray.size) undef, defers := [] } := by
    refine ⟨by simp [K]; omega, rfl, fun t s hts => ?_⟩
    obtain ⟨i, rfl, hi⟩ := efind_slots hts
    obtain ⟨v, hv, hV⟩ := VL_get e3 hi
    have hilt := (List.getElem?_eq_some_iff.1 hv).1
    refine ⟨v, ?_, hV⟩
    rw [Nat.zero_add, Array.getElem?_append_left (by simpa using hilt)]
    simpa using hv
  refine calls_of_wp hf hb (exec_sound hP hC code (θ0 := th0 Bs) (Th.ext_trans g2.ext e2.ext) e2.sat hE b2 ?_)
  intro e env' h' nx' θ' a' w' k1 k2 k3 k4
  have fin : retOk P fn.results.toList env' h' (lentsA as 0) (c.res as) (c.upd as) → a'.defers = [] ∧ ∃ v, (results fn a'.tmps).run P w' = .ok v w' ∧
      ∃ (rs : List Value) (Lo : Loc), Ending.returned v = .returned (retVal rs) ∧ Fr (· ∈ Bs) w w' ∧
      RDL.holds (After w A Bs (ownOf (c.res as)) Lo) w' w.heap.size Lo (c.res as) rs ∧ PTL (After w A Bs (ownOf (c.res as)) Lo) w' (ptrTs as) Bs (c.upd as) := by
    intro hr
    unfold retOk at hr
    split at hr <;> try exact hr.elim
    rename_i ss' hss
    obtain ⟨c1, c2, c3⟩ := cond_false hr
    have c1 := Nat.le_of_ble_eq_true c1
    obtain ⟨us, r1, r2⟩ := run_results (P := P) k3 k4.val hss
    have hNm : LentNames θ' (lentsA as 0) Bs := (lentNames_of hLO).mono k2
    have hBs : ∀ b, b ∈ Bs → ∃ n T ss, hfind h' n = some (.blk T ss) ∧ OwnsAt θ' h' n b := matchU_own hNm c3
    have hM : ∀ m b T d', hfind h' m = some (.own T d') → OwnsAt θ' h' m b → ¬ K.M b := by
      intro m b T d' hm ho hb
      obtain ⟨n, T', ss'', q1, q2⟩ := hBs b hb
      obtain rfl := k3.dis _ _ _ ho q2
      rw [hm] at q1; cases q1
    -- the array that is handed back as the caller's own
    obtain ⟨Lo, o1, o2, o3⟩ : ∃ Lo : Loc, (∀ n, ownName ss' (c.res as) = some n → θ' n = some Lo) ∧ (ownCount (c.res as) ≠ 0 → ownName ss' (c.res as) = none → Lo = nilLoc) ∧
        (∀ b, Lo.cap ≠ 0 → Lo.b = b → ∃ n, ownName ss' (c.res as) = some n ∧ OwnsAt θ' h' n b) := by
      have key : ∀ {o : Option Nat} {ss : List SV} {rs : List RD} {n : Nat}, matchRs o h' ss rs → ownName ss rs = some n → ∃ T d, hfind h' n = some (.own T d) := by
        intro o ss
        induction ss with
        | nil => intro rs n _ hn; simp [ownName] at hn
        | cons s ss ih =>
          intro rs n hm hn
          cases rs with
          | nil => exact hm.elim
          | cons r rs =>
            cases r with
            | own T d =>
              cases s with
              | a m =>
                simp only [ownName, Option.some.injEq] at hn
                subst hn
                have h1 := hm.1
                simp only [matchR] at h1
                split at h1 <;> try exact h1.elim
                rename_i hf
                exact ⟨_, _, hf⟩
              | _ => exact ih hm.2 (by simpa only [ownName] using hn)
            | _ => exact ih hm.2 (by cases s <;> simpa only [ownName] using hn)
      cases hn : ownName ss' (c.res as) with
      | none => exact ⟨nilLoc, ⟨fun n hn' => by simp at hn', fun _ _ => rfl, fun b hc => absurd rfl hc⟩⟩
      | some n =>
        obtain ⟨T, d, hf'⟩ := key c2 hn
        obtain ⟨L, hL, _⟩ := k3.res _ _ hf'
        refine ⟨L, fun m hm => by cases hm; exact hL, fun _ h => by simp at h, fun b hc hb => ⟨n, rfl, _, L, hf', hL, hc, hb⟩⟩
    have after : ∀ b, (w.heap.size ≤ b ∨ A b ∨ b ∈ Bs) → b ∉ Bs → (Lo.cap ≠ 0 → b ≠ Lo.b) → After w A Bs (ownOf (c.res as)) Lo b := fun b q1 q2 q3 =>
      ⟨q1.imp id (fun h => h.resolve_right q2), q2, fun _ => q3⟩
    have hf1 : ∀ b, Free K θ' h' b → After w A Bs (ownOf (c.res as)) Lo b := fun b hb => after b hb.2
      (fun hm => let ⟨n, _, _, _, q2⟩ := hBs b hm; hb.1 n q2) (fun hc e => let ⟨n, _, q⟩ := o3 b hc e.symm; hb.1 n q)
    have hX1 : ∀ m b T d', hfind h' m = some (.own T d') → OwnsAt θ' h' m b → ownName ss' (c.res as) ≠ some m → After w A Bs (ownOf (c.res as)) Lo b := by
      intro m b T d' q1 q2 q3
      refine after b ((k3.new m b q2).imp id .inr) (hM m b T d' q1 q2) (fun hc e => ?_)
      obtain ⟨n, q4, q5⟩ := o3 b hc e.symm
      exact q3 (by rw [q4, k3.dis _ _ _ q2 q5])
    refine ⟨k4.defers, _, r2, us, Lo, rfl, k3.frame, matchRs_sound k3 hf1 hX1 hM r1 c1 o1 o2 c2, ?_⟩
    rw [← l2]
    exact matchU_sound k3 hf1 hX1 hNm c3
  cases e with
  | normal => exact fin k1
  | ret => exact fin k1
  | exit i => exact k1.elim
end Go.X
