/- A contract taken for data that reads the same. -/
import Derived.Test.YtonfaeenoifomaaZ29
namespace Go.Z
open Go.RowKit

/-- Data that reads as other data does. -/
def readsTo (d d' : D) : Prop := ∀ X w c, d.holds X w c → d'.holds X w c
theorem readsTo_refl (d : D) : readsTo d d := fun _ _ _ h => h
theorem reads_recs {es n : Nat} {f g : Nat → Nat → D} (h : ∀ i, i < n → ∀ j, j < es → f i j = g i j) : readsTo (.recs es n f) (.recs es n g) := fun X w c hc => by
  obtain ⟨L, h1, h2, h3, h4, h5, h6⟩ := hc
  exact ⟨L, h1, h2, h3, h4, h5, fun i hi j hj => by rw [← h i hi j hj]; exact h6 i hi j hj⟩

/-- A tree that holds where another does. -/
def toO (o o' : O) : Prop := ∀ X w v f, O.holds X w o v f → O.holds X w o' v f
def toL (l l' : List O) : Prop := ∀ X w vs f, OL.holds X w l vs f → OL.holds X w l' vs f
theorem toO_refl (o : O) : toO o o := fun _ _ _ _ h => h
theorem toL_refl (l : List O) : toL l l := fun _ _ _ _ h => h
theorem toO_d {d d' : D} (h : readsTo d d') : toO (.d d) (.d d') := fun X w v f ho => by
  simp only [O.holds] at ho ⊢
  exact ⟨h _ _ _ ho.1, ho.2⟩
theorem toL_cons {o o' : O} {l l' : List O} (h : toO o o') (t : toL l l') : toL (o :: l) (o' :: l') := fun X w vs f ho => by
  cases vs with
  | nil => simp [OL.holds] at ho
  | cons v vs =>
    simp only [OL.holds] at ho ⊢
    obtain ⟨a, b, e, h1, h2⟩ := ho
    exact ⟨a, b, e, h _ _ _ _ h1, t _ _ _ _ h2⟩
theorem toO_agg {l l' : List O} (t : toL l l') : toO (.agg l) (.agg l') := fun X w v f ho => by
  simp only [O.holds] at ho ⊢
  obtain ⟨us, e, h⟩ := ho
  exact ⟨us, e, t _ _ _ _ h⟩

theorem FnIs.weak {P : Program} {f : Nat} {c c' : Ctr} (h : FnIs P f c) (hw : ∀ a, c'.pre a → ∃ a', c.pre a' ∧ toL a a' ∧ c.res a' = c'.res a ∧ c.upd a' = c'.upd a) : FnIs P f c' := by
  refine ⟨fun w A as vs fp h1 h2 h3 h4 => ?_, h.2⟩
  obtain ⟨a', p1, p2, p3, p4⟩ := hw as h4
  have := h.1 w A a' vs fp (p2 _ _ _ _ h1) h2 h3 p1
  rw [p3, p4] at this
  exact this
end Go.Z
