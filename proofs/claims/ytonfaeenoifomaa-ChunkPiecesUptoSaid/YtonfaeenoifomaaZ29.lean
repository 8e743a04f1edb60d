/- Arguments, opened as the contracts want them: slices of integers. -/
import Derived.Test.YtonfaeenoifomaaZ28
namespace Go.Z
open Go.ChangeShapes Go.WideShapes Go.ChangeAt Go.RowKit

section
variable {H : Type} {enc : TypeId × Value → H} {P : Program}

theorem spot_none {w : World} {a : Addr} {v : Value} (h : w.cell? a = some v) : a = ⟨a.block, a.off, none⟩ := by
  obtain ⟨b, o, s⟩ := a
  cases s with
  | none => rfl
  | some s =>
    unfold World.cell? at h
    split at h
    · simp at h
    · cases h

theorem add_spot (b o i : Nat) : Addr.add ⟨b, o, none⟩ i = ⟨b, o + i, none⟩ := by
  unfold Addr.add
  split
  · rename_i h; subst h; rfl
  · rfl

theorem ints_holds {t e : TypeId} {k : IntKind} (ht : P.underlying t = some (.slice e)) (he : P.underlying e = some (.int k)) (hc : P.cellsOf e = 1) {W : World} {r : Reach} {base b0 : Nat} {v : Value} {d : DataW H} {ps : List MemPlace}
    (hval : Value.okWide P W r b0 t v) (h : DataW.Trod enc P W base (fun _ => true) true t v d ps) :
    ∃ xs : List Int, (D.ints k xs).holds (fun _ => True) W v ∧ (∀ x, x ∈ xs → k.min ≤ x ∧ x ≤ k.max) ∧ xs.length ≤ 9223372036854775807 := by
  obtain ⟨a0, len0, cap0, rfl⟩ := okWide_slice ht hval
  obtain ⟨fuel, hf⟩ := h
  rcases open_ints ht he hc hf with ⟨hcs, _⟩ | ⟨a, len, cap, zs, hcs, _, hl, hm, hz, _, hcell, hwz⟩
  · simp [Value.cells] at hcs
    obtain ⟨rfl, rfl, rfl⟩ := hcs
    exact ⟨[], D.holds_ints.2 ⟨nilLoc, rfl, .inl rfl, fun h => absurd rfl h, rfl, Nat.le_refl _, fun i z hi => by simp at hi⟩, by simp, by simp⟩
  · simp [Value.cells] at hcs
    obtain ⟨rfl, rfl, rfl⟩ := hcs
    simp at hz
    have hlen : (zs.take len0).length = len0 := by simp; omega
    have hx : ∀ x, x ∈ zs.take len0 → k.min ≤ x ∧ x ≤ k.max := fun x hx => by
      have := hwz x (List.mem_of_mem_take hx)
      simpa [Lit.wf] using this
    have hmax : (zs.take len0).length ≤ 9223372036854775807 := by
      have : maxLen = 9223372036854775807 := by decide
      omega
    by_cases hcap : cap0 = 0
    · refine ⟨zs.take len0, D.holds_ints.2 ⟨⟨some a, len0, cap0⟩, rfl, .inl hcap, fun hne => absurd hne (by show ¬ len0 ≠ 0; omega), hlen.symm, hl, fun i z hi => ?_⟩, hx, hmax⟩
      have := (List.getElem?_eq_some_iff.1 hi).1
      omega
    · have h0 := hcell 0 (by omega)
      have ha := spot_none h0
      have ha' : a = ⟨a.block, a.off, none⟩ := by simpa [Addr.add] using ha
      generalize hb : a.block = b at *
      generalize ho : a.off = o at *
      subst ha'
      refine ⟨zs.take len0, D.holds_ints.2 ⟨⟨some ⟨b, o, none⟩, len0, cap0⟩, rfl, .inr rfl, fun hne => ⟨trivial, lt_of_cell (b := b) (o := o) (by rw [add_spot] at h0; exact h0)⟩, hlen.symm, hl, fun i z hi => ?_⟩, hx, hmax⟩
      have hi1 := (List.getElem?_eq_some_iff.1 hi).1
      have hc := hcell i (by omega)
      rw [add_spot] at hc
      have : zs.getD i 0 = z := by
        rw [List.getElem?_take] at hi
        split at hi
        · simp [List.getD_eq_getElem?_getD, hi]
        · cases hi
      rw [this] at hc
      exact hc
end
end Go.Z
