/- Part 29 of what the closing text rests on. -/
import Derived.Test.YtdamnoleoakehaaGreatDoorKX18
import Derived.Test.YtdamnoleoakehaaGreatDoorRows
import Derived.JoinedCond
import Derived.OpenShut
import Derived.Lib.LaidTab
import Derived.Deep.DeepHandedRow
namespace Go.Z
open Go.ChangeShapes Go.WideShapes Go.ChangeAt Go.RowKit
open Go.Proofs.YtdamnoleoakehaaGreatDoor.Rows (uptoBulk uptoBulkAll)

inductive Sh where
  | int (k : IntKind)
  | bool
  | str
  | ints (k : IntKind)
  | recs (l : List Sh)

def flatFs (f : Nat → Option (List Sh)) (co : Nat → Nat) : List Field → Nat → Option (List Sh)
  | [], _ => some []
  | x :: l, o => cond (Nat.beq x.offset o) (match f x.type with
    | some a => cond (Nat.beq (co x.type) a.length) (match flatFs f co l (o + a.length) with
      | some b => some (a ++ b)
      | none => none) none
    | none => none) none

def flat (P : Program) : Nat → Nat → Option (List Sh)
  | 0, _ => none
  | n + 1, t => match P.underlying t with
    | some (.int k) => some [.int k]
    | some .bool => some [.bool]
    | some .string => some [.str]
    | some (.slice e) => match P.underlying e with
      | some (.int k) => cond (Nat.beq (P.cellsOf e) 1) (some [.ints k]) none
      | _ => match flat P n e with
        | some (s :: l) => cond (Nat.beq (P.cellsOf e) (l.length + 1)) (some [.recs (s :: l)]) none
        | _ => none
    | some (.struct fs) => match flatFs (flat P n) P.cellsOf fs.toList 0 with
      | some l => cond (Nat.beq (P.cellsOf t) l.length) (some l) none
      | none => none
    | _ => none

mutual
def fits (N : Nat) : Sh → D → Prop
  | .int k, d => ∃ n, d = .v (.int k n) ∧ k.min ≤ n ∧ n ≤ k.max
  | .bool, d => ∃ b, d = .v (.bool b)
  | .str, d => ∃ s : ByteArray, d = .v (.string s) ∧ s.size ≤ N
  | .ints k, d => ∃ xs, d = .ints k xs ∧ (∀ x, x ∈ xs → k.min ≤ x ∧ x ≤ k.max) ∧ xs.length ≤ N
  | .recs l, d => ∃ n f, d = .recs l.length n f ∧ n ≤ N ∧ ∀ i, i < n → fitsL N l (f i)
def fitsL (N : Nat) : List Sh → (Nat → D) → Prop
  | [], _ => True
  | s :: l, g => fits N s (g 0) ∧ fitsL N l fun j => g (j + 1)
end

theorem DL.append {X : Nat → Prop} {w : World} : ∀ {a b : List D} {u v : List Value}, DL.holds X w a u → DL.holds X w b v → DL.holds X w (a ++ b) (u ++ v)
  | [], _, [], _, _, hb => hb
  | [], _, _ :: _, _, ha, _ => ha.elim
  | _ :: _, _, [], _, ha, _ => ha.elim
  | _ :: _, _, _ :: _, _, ha, hb => ⟨ha.1, DL.append ha.2 hb⟩
theorem fitsL_append {N : Nat} : ∀ {l m : List Sh} {a b : List D}, a.length = l.length → fitsL N l (fun j => a.getD j (.v undef)) → fitsL N m (fun j => b.getD j (.v undef)) → fitsL N (l ++ m) (fun j => (a ++ b).getD j (.v undef))
  | [], m, [], b, _, _, hb => by simpa using hb
  | [], _, _ :: _, _, h, _, _ => by simp at h
  | _ :: _, _, [], _, h, _, _ => by simp at h
  | s :: l, m, x :: a, b, h, ha, hb => by
    simp only [List.cons_append, fitsL, List.getD_cons_zero, List.getD_cons_succ] at ha ⊢
    exact ⟨ha.1, fitsL_append (by simpa using h) ha.2 hb⟩

section
variable {H : Type} {enc : TypeId × Value → H} {P : Program} {w : World} {base : Nat} {held : Bool}

theorem bulk_pos (d : DataW H) : 1 ≤ uptoBulk d := by
  cases d with
  | lit l => cases l <;> simp [uptoBulk]
  | _ => simp [uptoBulk]
theorem bulk_mem : ∀ {l : List (DataW H)} {d : DataW H}, d ∈ l → uptoBulk d ≤ uptoBulkAll l
  | [], _, h => by cases h
  | x :: l, d, h => by
    simp only [uptoBulkAll]
    rcases List.mem_cons.1 h with rfl | h
    · omega
    · have := bulk_mem h; omega
theorem bulk_len : ∀ (l : List (DataW H)), l.length ≤ uptoBulkAll l
  | [] => by simp
  | x :: l => by
    have := bulk_len l
    have := bulk_pos x
    simp only [uptoBulkAll, List.length_cons]; omega

def Bnd (N : Nat) (d : DataW H) : Prop := uptoBulk d ≤ N ∨ maxLen ≤ N

theorem ints_trod {t e : TypeId} {k : IntKind} {fuel : Nat} {cs : List Value} {x : DataW H × List MemPlace} (ht : P.underlying t = some (.slice e)) (he : P.underlying e = some (.int k)) (hc : P.cellsOf e = 1)
    (hf : DataW.trod enc P w base (fun _ => true) held fuel t cs = some x) {N : Nat} (hb : Bnd N x.1) :
    ∃ v xs, cs = [v] ∧ (D.ints k xs).holds (fun _ => True) w v ∧ (∀ y, y ∈ xs → k.min ≤ y ∧ y ≤ k.max) ∧ xs.length ≤ N := by
  rcases open_ints ht he hc hf with ⟨rfl, _⟩ | ⟨a, len, cap, zs, rfl, _, hl, hm, hz, hx, hcell, hwz⟩
  · exact ⟨_, [], rfl, D.holds_ints.2 ⟨nilLoc, rfl, .inl rfl, fun h => absurd rfl h, rfl, Nat.le_refl _, fun i z hi => by simp at hi⟩, by simp, by simp⟩
  · simp at hz
    have hlen : (zs.take len).length = len := by simp; omega
    have hxs : ∀ y, y ∈ zs.take len → k.min ≤ y ∧ y ≤ k.max := fun y hy => by
      have := hwz y (List.mem_of_mem_take hy)
      simpa [Lit.wf] using this
    have hN : (zs.take len).length ≤ N := by
      rcases hb with hb | hb
      · rw [hx] at hb
        simp only [uptoBulk] at hb
        have := bulk_len (lits (H := H) k (zs.take len))
        have h2 : (lits (H := H) k (zs.take len)).length = (zs.take len).length := by simp [lits]
        omega
      · omega
    by_cases hcap : cap = 0
    · refine ⟨_, zs.take len, rfl, D.holds_ints.2 ⟨⟨some a, len, cap⟩, rfl, .inl hcap, fun hne => absurd hne (by show ¬ len ≠ 0; omega), hlen.symm, hl, fun i z hi => ?_⟩, hxs, hN⟩
      have := (List.getElem?_eq_some_iff.1 hi).1
      omega
    · have h0 := hcell 0 (by omega)
      have ha := spot_none h0
      have ha' : a = ⟨a.block, a.off, none⟩ := by simpa [Addr.add] using ha
      generalize hbb : a.block = b at *
      generalize ho : a.off = o at *
      subst ha'
      refine ⟨_, zs.take len, rfl, D.holds_ints.2 ⟨⟨some ⟨b, o, none⟩, len, cap⟩, rfl, .inr rfl, fun hne => ⟨trivial, lt_of_cell (b := b) (o := o) (by rw [add_spot] at h0; exact h0)⟩, hlen.symm, hl, fun i z hi => ?_⟩, hxs, hN⟩
      have hi1 := (List.getElem?_eq_some_iff.1 hi).1
      have hc := hcell i (by omega)
      rw [add_spot] at hc
      have : zs.getD i 0 = z := by
        rw [List.getElem?_take] at hi
        split at hi
        · simp [List.getD_eq_getElem?_getD, hi]
        · cases hi
      rw [this] at hc
      exact hc

def Opens (w : World) (N : Nat) (shs : List Sh) (cs : List Value) : Prop :=
  ∃ ds : List D, ds.length = shs.length ∧ fitsL N shs (fun j => ds.getD j (.v undef)) ∧ DL.holds (fun _ => True) w ds cs

theorem flds_open {fuel : Nat} {f : Nat → Option (List Sh)} {N : Nat} {cs : List Value}
    (ih : ∀ t c (x : DataW H × List MemPlace) shs, DataW.trod enc P w base (fun _ => true) held fuel t c = some x → f t = some shs → Bnd N x.1 → Opens w N shs c) :
    ∀ (l : List Field) (o : Nat) (shs : List Sh) (xs : List (DataW H × List MemPlace)), flatFs f P.cellsOf l o = some shs → xs.length = l.length →
      (∀ (i : Nat) (fl : Field), l[i]? = some fl → DataW.trod enc P w base (fun _ => true) held fuel fl.type ((cs.drop fl.offset).take (P.cellsOf fl.type)) = xs[i]?) → (∀ x, x ∈ xs → Bnd N x.1) →
      Opens w N shs ((cs.drop o).take shs.length)
  | [], o, shs, xs, hf, _, _, _ => by
    simp [flatFs] at hf; subst hf
    exact ⟨[], rfl, by simp [fitsL], by simp; trivial⟩
  | fl :: l, o, shs, [], _, hl, _, _ => by simp at hl
  | fl :: l, o, shs, x :: xs, hf, hl, hx, hb => by
    unfold flatFs at hf
    cases ho : Nat.beq fl.offset o with
    | false => rw [ho] at hf; cases hf
    | true =>
      rw [ho] at hf
      simp only [_root_.cond_true] at hf
      split at hf <;> try (cases hf; done)
      rename_i a ha
      cases hc : Nat.beq (P.cellsOf fl.type) a.length with
      | false => rw [hc] at hf; cases hf
      | true =>
        rw [hc] at hf
        simp only [_root_.cond_true] at hf
        split at hf <;> cases hf
        rename_i b hb'
        have ho := Nat.eq_of_beq_eq_true ho
        have hc := Nat.eq_of_beq_eq_true hc
        have h0 := hx 0 fl rfl
        rw [ho, hc] at h0
        obtain ⟨d1, a1, a2, a3⟩ := ih _ _ _ _ h0 ha (hb x (by simp))
        obtain ⟨d2, b1, b2, b3⟩ := flds_open ih l (o + a.length) b xs hb' (by simpa using hl) (fun i g hg => hx (i + 1) g (by simpa using hg)) (fun y hy => hb y (by simp [hy]))
        refine ⟨d1 ++ d2, by simp [a1, b1], fitsL_append a1 a2 b2, ?_⟩
        rw [List.length_append, List.take_add, List.drop_drop]
        exact DL.append a3 b3

theorem deep : ∀ (m : Nat) (t : TypeId) (fuel : Nat) (cs : List Value) (x : DataW H × List MemPlace) (shs : List Sh) (N : Nat),
    DataW.trod enc P w base (fun _ => true) held fuel t cs = some x → flat P m t = some shs → Bnd N x.1 → Opens w N shs cs
  | 0, _, _, _, _, _, _, _, hs, _ => by simp [flat] at hs
  | m + 1, t, fuel, cs, x, shs, N, hf, hs, hb => by
    unfold flat at hs
    split at hs
    · rename_i k ht
      cases hs
      obtain ⟨n, rfl, rfl, hw⟩ := DataW.trod_int ht hf
      exact ⟨[.v (.int k n)], rfl, by simp only [fitsL, fits, and_true]; exact ⟨n, rfl, by simpa [Lit.wf] using hw⟩, ⟨rfl, rfl⟩, trivial⟩
    · rename_i ht
      cases hs
      obtain ⟨b, rfl, rfl⟩ := DataW.trod_bool ht hf
      exact ⟨[.v (.bool b)], rfl, by simp only [fitsL, fits, and_true]; exact ⟨b, rfl⟩, ⟨rfl, rfl⟩, trivial⟩
    · rename_i ht
      cases hs
      obtain ⟨s, rfl, rfl, hm⟩ := DataW.trod_string ht hf
      refine ⟨[.v (.string s)], rfl, ?_, ⟨rfl, rfl⟩, trivial⟩
      simp only [fitsL, fits, and_true]
      refine ⟨s, rfl, ?_⟩
      rcases hb with hb | hb
      · simp only [uptoBulk] at hb
        have : s.data.toList.length = s.size := Array.length_toList
        omega
      · omega
    · rename_i e ht
      split at hs
      · rename_i k he
        cases hc : Nat.beq (P.cellsOf e) 1 with
        | false => rw [hc] at hs; cases hs
        | true =>
          rw [hc] at hs
          cases hs
          obtain ⟨v, xs, rfl, h1, h2, h3⟩ := ints_trod ht he (Nat.eq_of_beq_eq_true hc) hf hb
          exact ⟨[.ints k xs], rfl, by simp only [fitsL, fits, and_true]; exact ⟨xs, rfl, h2, h3⟩, h1, trivial⟩
      · split at hs
        · rename_i s l hfl
          cases hc : Nat.beq (P.cellsOf e) (l.length + 1) with
          | false => rw [hc] at hs; cases hs
          | true =>
            rw [hc] at hs
            cases hs
            have hc := Nat.eq_of_beq_eq_true hc
            rcases DataW.trod_slice ht hf with ⟨rfl, rfl⟩ | ⟨a, len, cap, elems, rest, n, rfl, rfl, rfl, hbs, hl, hm, hlen, hel, hsp, -⟩
            · refine ⟨[.recs (l.length + 1) 0 fun _ _ => .v undef], rfl, ?_, D.holds_recs.2 ⟨nilLoc, rfl, .inl rfl, fun h => absurd rfl h, rfl, Nat.le_refl _, fun i hi => by omega⟩, trivial⟩
              simp only [fitsL, fits, and_true]
              exact ⟨0, fun _ _ => .v undef, rfl, Nat.zero_le _, fun i hi => by omega⟩
            · have hN : len ≤ N := by
                rcases hb with hb | hb
                · simp only [uptoBulk] at hb
                  have := bulk_len (elems.map (·.1))
                  simp at this
                  omega
                · omega
              have each : ∀ i, i < len → ∃ c, w.cells? base (a.add (i * P.cellsOf e)) (P.cellsOf e) = some c ∧ Opens w N (s :: l) c := fun i hi => by
                have h1 := hel i hi
                have hy : elems[i]? = some elems[i] := List.getElem?_eq_getElem (by omega)
                rw [hy, Option.bind_eq_some_iff] at h1
                obtain ⟨c, h1, h2⟩ := h1
                refine ⟨c, h1, deep m e n c _ _ N h2 hfl ?_⟩
                rcases hb with hb | hb
                · left
                  simp only [uptoBulk] at hb
                  have : uptoBulk (elems[i]).1 ≤ uptoBulkAll (elems.map (·.1)) := bulk_mem (List.mem_map_of_mem (List.getElem_mem _))
                  omega
                · exact .inr hb
              have each' : ∀ i, ∃ ds : List D, i < len → fitsL N (s :: l) (fun j => ds.getD j (.v undef)) ∧ ∃ c, w.cells? base (a.add (i * P.cellsOf e)) (P.cellsOf e) = some c ∧ DL.holds (fun _ => True) w ds c ∧ ds.length = l.length + 1 := fun i => by
                by_cases hi : i < len
                · obtain ⟨c, h1, ds, h2, h3, h4⟩ := each i hi
                  exact ⟨ds, fun _ => ⟨h3, c, h1, h4, h2⟩⟩
                · exact ⟨[], fun h => absurd h hi⟩
              have hF' := fun i => Classical.choose_spec (each' i)
              generalize hFF : (fun i => Classical.choose (each' i)) = F
              have hF : ∀ i, i < len → fitsL N (s :: l) (fun j => (F i).getD j (.v undef)) ∧ ∃ c, w.cells? base (a.add (i * P.cellsOf e)) (P.cellsOf e) = some c ∧ DL.holds (fun _ => True) w (F i) c ∧ (F i).length = l.length + 1 := fun i => by rw [← hFF]; exact hF' i
              clear hF' hFF
              have first : cap ≠ 0 → ∃ c, w.cells? base (a.add (0 * P.cellsOf e)) (P.cellsOf e) = some c := fun hne => by
                by_cases h0 : len = 0
                · obtain ⟨r1, r2⟩ := hsp rfl
                  have h1 := r2 0 (by omega)
                  have hy : rest[0]? = some rest[0] := List.getElem?_eq_getElem (by omega)
                  rw [hy, Option.bind_eq_some_iff] at h1
                  obtain ⟨c, h1, _⟩ := h1
                  exact ⟨c, by rw [show 0 * P.cellsOf e = (len + 0) * P.cellsOf e by rw [h0]]; exact h1⟩
                · obtain ⟨_, c, h1, _⟩ := hF 0 (by omega)
                  exact ⟨c, h1⟩
              have spot : cap ≠ 0 → a = ⟨a.block, a.off, none⟩ ∧ a.block < w.heap.size := fun hne => by
                obtain ⟨c, h1⟩ := first hne
                obtain ⟨_, h4, h5⟩ := World.cells?_some h1
                have h6 := h5 0 (by omega)
                have hc0 : c[0]? = some c[0] := List.getElem?_eq_getElem (by omega)
                rw [hc0, Nat.zero_mul] at h6
                have h7 : w.cell? a = some c[0] := by simpa [Addr.add] using h6
                refine ⟨spot_none h7, ?_⟩
                rw [spot_none h7] at h7
                exact lt_of_cell h7
              refine ⟨[.recs (l.length + 1) len fun i j => (F i).getD j (.v undef)], rfl, ?_, ?_, trivial⟩
              · simp only [fitsL, fits, and_true]
                exact ⟨len, _, rfl, hN, fun i hi => by have := (hF i hi).1; simpa only [fitsL] using this⟩
              · by_cases h0 : cap = 0
                · exact D.holds_recs.2 ⟨⟨some a, len, cap⟩, rfl, .inl h0, fun h => absurd h (by show ¬ len ≠ 0; omega), rfl, hl, fun i hi => by omega⟩
                · obtain ⟨hs1, hs2⟩ := spot h0
                  generalize hbb : a.block = b at *
                  generalize hoo : a.off = o at *
                  subst hs1
                  refine D.holds_recs.2 ⟨⟨some ⟨b, o, none⟩, len, cap⟩, rfl, .inr rfl, fun _ => ⟨trivial, hs2⟩, rfl, hl, fun i hi j hj => ?_⟩
                  obtain ⟨_, c, h1, h2, h3⟩ := hF i hi
                  obtain ⟨c', e1, e2⟩ := DL.getD h2 j (by omega)
                  obtain ⟨_, h4, h5⟩ := World.cells?_some h1
                  refine ⟨c', ?_, e2⟩
                  have := h5 j (by omega)
                  rw [add_spot, add_spot, e1, hc] at this
                  rw [Nat.add_assoc] at this
                  exact this
        · cases hs
    · rename_i fs ht
      split at hs
      · rename_i l hfl
        cases hc : Nat.beq (P.cellsOf t) l.length with
        | false => rw [hc] at hs; cases hs
        | true =>
          rw [hc] at hs
          cases hs
          obtain ⟨xs, n, rfl, rfl, h1, h2, h3⟩ := DataW.trod_struct ht hf
          have := flds_open (cs := cs) (N := N) (fun t c x shs a1 a2 a3 => deep m t n c x shs N a1 a2 a3) fs.toList 0 _ xs hfl (by simpa using h2) (fun i fl hi => h3 i fl (by simpa using hi)) (fun y hy => by
            rcases hb with hb | hb
            · left
              simp only [uptoBulk] at hb
              have : uptoBulk y.1 ≤ uptoBulkAll (xs.map (·.1)) := bulk_mem (List.mem_map_of_mem hy)
              omega
            · exact .inr hb)
          rw [List.drop_zero, List.take_of_length_le (by rw [h1, Nat.eq_of_beq_eq_true hc]; exact Nat.le_refl _)] at this
          exact this
      · cases hs
    · cases hs
end
end Go.Z

set_option maxRecDepth 100000
namespace Go.Proofs.YtdamnoleoakehaaGreatDoor
open Go.RowKit
open Go.Z
theorem Tryz.own : ownKnob Tryz.prog.godebug = none := by kernel_rfl
theorem Tryz.laidOut : laidOutB Tryz.prog = true := by kernel_rfl
theorem bulk_in {H : Type} {d : DataW H} {ds : List (DataW H)} (hk : Rows.uptoSmall H (ds ++ []) = true) (hd : d ∈ ds) : Bnd 1048576 d := by
  have h := of_decide_eq_true hk
  rw [List.append_nil] at h
  exact .inl (Nat.le_trans (bulk_mem hd) h)
def cell1 : DataW Unit → Value
  | .lit (.int k z) => .int k z
  | _ => undef
def cells1 : DataW Unit → List Value
  | .agg ps => ps.map cell1
  | d => [cell1 d]
def cells2 : DataW Unit → List Value
  | .agg ps => ps.flatMap cells1
  | _ => []
def anew (l : List Value) : Obj → Obj
  | .cells _ t frozen => .cells l.toArray t frozen
  | o => o
noncomputable def laidWorld (os : Os) : World :=
  { World.holding Tryz.prog os ⟨#[], #[], []⟩ with heap := ((World.holding Tryz.prog os ⟨#[], #[], []⟩).heap.modify 0 (anew (cells1 Go.Pinned.utf8First))).modify 1 (anew (cells2 Rows.laid_unicode_utf8_acceptRanges)) }
end Go.Proofs.YtdamnoleoakehaaGreatDoor

