/- Part 16 of what the closing text rests on. -/
import Derived.Test.YtlbfenfepmmihaaV15
import Derived.Test.YtlbfenfepmmihaaRows
import Derived.RangeFuncBox
import Derived.RangeFuncNested
import Derived.RangeFuncBound
import Derived.RangeFuncCalls
import Derived.RangeFuncLeaves
import Derived.RangeFuncStops
import Derived.RangeFuncSeq
import Derived.Shelf.Abstract
import Derived.Shelf.AbstractIn
import Derived.Shelf.RegionOpen
import Derived.Sort.MapsRangeIn
import Derived.Maps.OwnIn
import Derived.Maps.AppendAt
import Derived.WalkKit
import Derived.WalkSmall
import Derived.OwnWalkIn
import Derived.TacticsInMore
import Derived.RegionIn
import Derived.LoopNIn
import Derived.LoopIn
import Derived.Lib.SlKeysI
import Derived.Test.YtlbfenfepmmihaaChecked
import Derived.Deep.AppendLies
import Derived.Deep.RegionHeld3
import Derived.ProofKit
import Derived.Deep.CutRange
import Derived.Deep.CutBlock
namespace Go.Z
open Go.ChangeShapes Go.WideShapes Go.ChangeAt Go.RowKit
open Go.Proofs.Ytlbfenfepmmihaa.Rows (uptoBulk uptoBulkAll)

inductive Sh where
  | int (k : IntKind)
  | bool
  | str
  | ints (k : IntKind)
  | recs (l : List Sh)

def flatFs (f : Nat → Option (List Sh)) (co : Nat → Nat) : List Field → Nat → Option (List Sh)
  | [], _ => some []
  | x :: l, o => cond (Nat.beq x.offset o) (match f x.type with
    | some a => cond (Nat.beq (co x.type) a.length) (match flatFs f co l (o + a.length) with
      | some b => some (a ++ b)
      | none => none) none
    | none => none) none

def flat (P : Program) : Nat → Nat → Option (List Sh)
  | 0, _ => none
  | n + 1, t => match P.underlying t with
    | some (.int k) => some [.int k]
    | some .bool => some [.bool]
    | some .string => some [.str]
    | some (.slice e) => match P.underlying e with
      | some (.int k) => cond (Nat.beq (P.cellsOf e) 1) (some [.ints k]) none
      | _ => match flat P n e with
        | some (s :: l) => cond (Nat.beq (P.cellsOf e) (l.length + 1)) (some [.recs (s :: l)]) none
        | _ => none
    | some (.struct fs) => match flatFs (flat P n) P.cellsOf fs.toList 0 with
      | some l => cond (Nat.beq (P.cellsOf t) l.length) (some l) none
      | none => none
    | _ => none

mutual
def fits (N : Nat) : Sh → D → Prop
  | .int k, d => ∃ n, d = .v (.int k n) ∧ k.min ≤ n ∧ n ≤ k.max
  | .bool, d => ∃ b, d = .v (.bool b)
  | .str, d => ∃ s : ByteArray, d = .v (.string s) ∧ s.size ≤ N
  | .ints k, d => ∃ xs, d = .ints k xs ∧ (∀ x, x ∈ xs → k.min ≤ x ∧ x ≤ k.max) ∧ xs.length ≤ N
  | .recs l, d => ∃ n f, d = .recs l.length n f ∧ n ≤ N ∧ ∀ i, i < n → fitsL N l (f i)
def fitsL (N : Nat) : List Sh → (Nat → D) → Prop
  | [], _ => True
  | s :: l, g => fits N s (g 0) ∧ fitsL N l fun j => g (j + 1)
end

theorem DL.append {X : Nat → Prop} {w : World} : ∀ {a b : List D} {u v : List Value}, DL.holds X w a u → DL.holds X w b v → DL.holds X w (a ++ b) (u ++ v)
  | [], _, [], _, _, hb => hb
  | [], _, _ :: _, _, ha, _ => ha.elim
  | _ :: _, _, [], _, ha, _ => ha.elim
  | _ :: _, _, _ :: _, _, ha, hb => ⟨ha.1, DL.append ha.2 hb⟩
theorem fitsL_append {N : Nat} : ∀ {l m : List Sh} {a b : List D}, a.length = l.length → fitsL N l (fun j => a.getD j (.v undef)) → fitsL N m (fun j => b.getD j (.v undef)) → fitsL N (l ++ m) (fun j => (a ++ b).getD j (.v undef))
  | [], m, [], b, _, _, hb => by simpa using hb
  | [], _, _ :: _, _, h, _, _ => by simp at h
  | _ :: _, _, [], _, h, _, _ => by simp at h
  | s :: l, m, x :: a, b, h, ha, hb => by
    simp only [List.cons_append, fitsL, List.getD_cons_zero, List.getD_cons_succ] at ha ⊢
    exact ⟨ha.1, fitsL_append (by simpa using h) ha.2 hb⟩

section
variable {H : Type} {enc : TypeId × Value → H} {P : Program} {w : World} {base : Nat} {held : Bool}

theorem bulk_pos (d : DataW H) : 1 ≤ uptoBulk d := by
  cases d with
  | lit l => cases l <;> simp [uptoBulk]
  | _ => simp [uptoBulk]
theorem bulk_mem : ∀ {l : List (DataW H)} {d : DataW H}, d ∈ l → uptoBulk d ≤ uptoBulkAll l
  | [], _, h => by cases h
  | x :: l, d, h => by
    simp only [uptoBulkAll]
    rcases List.mem_cons.1 h with rfl | h
    · omega
    · have := bulk_mem h; omega
theorem bulk_len : ∀ (l : List (DataW H)), l.length ≤ uptoBulkAll l
  | [] => by simp
  | x :: l => by
    have := bulk_len l
    have := bulk_pos x
    simp only [uptoBulkAll, List.length_cons]; omega

def Bnd (N : Nat) (d : DataW H) : Prop := uptoBulk d ≤ N ∨ maxLen ≤ N

theorem ints_trod {t e : TypeId} {k : IntKind} {fuel : Nat} {cs : List Value} {x : DataW H × List MemPlace} (ht : P.underlying t = some (.slice e)) (he : P.underlying e = some (.int k)) (hc : P.cellsOf e = 1)
    (hf : DataW.trod enc P w base (fun _ => true) held fuel t cs = some x) {N : Nat} (hb : Bnd N x.1) :
    ∃ v xs, cs = [v] ∧ (D.ints k xs).holds (fun _ => True) w v ∧ (∀ y, y ∈ xs → k.min ≤ y ∧ y ≤ k.max) ∧ xs.length ≤ N := by
  rcases open_ints ht he hc hf with ⟨rfl, _⟩ | ⟨a, len, cap, zs, rfl, _, hl, hm, hz, hx, hcell, hwz⟩
  · exact ⟨_, [], rfl, D.holds_ints.2 ⟨nilLoc, rfl, .inl rfl, fun h => absurd rfl h, rfl, Nat.le_refl _, fun i z hi => by simp at hi⟩, by simp, by simp⟩
  · simp at hz
    have hlen : (zs.take len).length = len := by simp; omega
    have hxs : ∀ y, y ∈ zs.take len → k.min ≤ y ∧ y ≤ k.max := fun y hy => by
      have := hwz y (List.mem_of_mem_take hy)
      simpa [Lit.wf] using this
    have hN : (zs.take len).length ≤ N := by
      rcases hb with hb | hb
      · rw [hx] at hb
        simp only [uptoBulk] at hb
        have := bulk_len (lits (H := H) k (zs.take len))
        have h2 : (lits (H := H) k (zs.take len)).length = (zs.take len).length := by simp [lits]
        omega
      · omega
    by_cases hcap : cap = 0
    · refine ⟨_, zs.take len, rfl, D.holds_ints.2 ⟨⟨some a, len, cap⟩, rfl, .inl hcap, fun hne => absurd hne (by show ¬ len ≠ 0; omega), hlen.symm, hl, fun i z hi => ?_⟩, hxs, hN⟩
      have := (List.getElem?_eq_some_iff.1 hi).1
      omega
    · have h0 := hcell 0 (by omega)
      have ha := spot_none h0
      have ha' : a = ⟨a.block, a.off, none⟩ := by simpa [Addr.add] using ha
      generalize hbb : a.block = b at *
      generalize ho : a.off = o at *
      subst ha'
      refine ⟨_, zs.take len, rfl, D.holds_ints.2 ⟨⟨some ⟨b, o, none⟩, len, cap⟩, rfl, .inr rfl, fun hne => ⟨trivial, lt_of_cell (b := b) (o := o) (by rw [add_spot] at h0; exact h0)⟩, hlen.symm, hl, fun i z hi => ?_⟩, hxs, hN⟩
      have hi1 := (List.getElem?_eq_some_iff.1 hi).1
      have hc := hcell i (by omega)
      rw [add_spot] at hc
      have : zs.getD i 0 = z := by
        rw [List.getElem?_take] at hi
        split at hi
        · simp [List.getD_eq_getElem?_getD, hi]
        · cases hi
      rw [this] at hc
      exact hc

def Opens (w : World) (N : Nat) (shs : List Sh) (cs : List Value) : Prop :=
  ∃ ds : List D, ds.length = shs.length ∧ fitsL N shs (fun j => ds.getD j (.v undef)) ∧ DL.holds (fun _ => True) w ds cs

theorem flds_open {fuel : Nat} {f : Nat → Option (List Sh)} {N : Nat} {cs : List Value}
    (ih : ∀ t c (x : DataW H × List MemPlace) shs, DataW.trod enc P w base (fun _ => true) held fuel t c = some x → f t = some shs → Bnd N x.1 → Opens w N shs c) :
    ∀ (l : List Field) (o : Nat) (shs : List Sh) (xs : List (DataW H × List MemPlace)), flatFs f P.cellsOf l o = some shs → xs.length = l.length →
      (∀ (i : Nat) (fl : Field), l[i]? = some fl → DataW.trod enc P w base (fun _ => true) held fuel fl.type ((cs.drop fl.offset).take (P.cellsOf fl.type)) = xs[i]?) → (∀ x, x ∈ xs → Bnd N x.1) →
      Opens w N shs ((cs.drop o).take shs.length)
  | [], o, shs, xs, hf, _, _, _ => by
    simp [flatFs] at hf; subst hf
    exact ⟨[], rfl, by simp [fitsL], by simp; trivial⟩
  | fl :: l, o, shs, [], _, hl, _, _ => by simp at hl
  | fl :: l, o, shs, x :: xs, hf, hl, hx, hb => by
    unfold flatFs at hf
    cases ho : Nat.beq fl.offset o with
    | false => rw [ho] at hf; cases hf
    | true =>
      rw [ho] at hf
      simp only [_root_.cond_true] at hf
      split at hf <;> try (cases hf; done)
      rename_i a ha
      cases hc : Nat.beq (P.cellsOf fl.type) a.length with
      | false => rw [hc] at hf; cases hf
      | true =>
        rw [hc] at hf
        simp only [_root_.cond_true] at hf
        split at hf <;> cases hf
        rename_i b hb'
        have ho := Nat.eq_of_beq_eq_true ho
        have hc := Nat.eq_of_beq_eq_true hc
        have h0 := hx 0 fl rfl
        rw [ho, hc] at h0
        obtain ⟨d1, a1, a2, a3⟩ := ih _ _ _ _ h0 ha (hb x (by simp))
        obtain ⟨d2, b1, b2, b3⟩ := flds_open ih l (o + a.length) b xs hb' (by simpa using hl) (fun i g hg => hx (i + 1) g (by simpa using hg)) (fun y hy => hb y (by simp [hy]))
        refine ⟨d1 ++ d2, by simp [a1, b1], fitsL_append a1 a2 b2, ?_⟩
        rw [List.length_append, List.take_add, List.drop_drop]
        exact DL.append a3 b3

theorem deep : ∀ (m : Nat) (t : TypeId) (fuel : Nat) (cs : List Value) (x : DataW H × List MemPlace) (shs : List Sh) (N : Nat),
    DataW.trod enc P w base (fun _ => true) held fuel t cs = some x → flat P m t = some shs → Bnd N x.1 → Opens w N shs cs
  | 0, _, _, _, _, _, _, _, hs, _ => by simp [flat] at hs
  | m + 1, t, fuel, cs, x, shs, N, hf, hs, hb => by
    unfold flat at hs
    split at hs
    · rename_i k ht
      cases hs
      obtain ⟨n, rfl, rfl, hw⟩ := DataW.trod_int ht hf
      exact ⟨[.v (.int k n)], rfl, by simp only [fitsL, fits, and_true]; exact ⟨n, rfl, by simpa [Lit.wf] using hw⟩, ⟨rfl, rfl⟩, trivial⟩
    · rename_i ht
      cases hs
      obtain ⟨b, rfl, rfl⟩ := DataW.trod_bool ht hf
      exact ⟨[.v (.bool b)], rfl, by simp only [fitsL, fits, and_true]; exact ⟨b, rfl⟩, ⟨rfl, rfl⟩, trivial⟩
    · rename_i ht
      cases hs
      obtain ⟨s, rfl, rfl, hm⟩ := DataW.trod_string ht hf
      refine ⟨[.v (.string s)], rfl, ?_, ⟨rfl, rfl⟩, trivial⟩
      simp only [fitsL, fits, and_true]
      refine ⟨s, rfl, ?_⟩
      rcases hb with hb | hb
      · simp only [uptoBulk] at hb
        have : s.data.toList.length = s.size := Array.length_toList
        omega
      · omega
    · rename_i e ht
      split at hs
      · rename_i k he
        cases hc : Nat.beq (P.cellsOf e) 1 with
        | false => rw [hc] at hs; cases hs
        | true =>
          rw [hc] at hs
          cases hs
          obtain ⟨v, xs, rfl, h1, h2, h3⟩ := ints_trod ht he (Nat.eq_of_beq_eq_true hc) hf hb
          exact ⟨[.ints k xs], rfl, by simp only [fitsL, fits, and_true]; exact ⟨xs, rfl, h2, h3⟩, h1, trivial⟩
      · split at hs
        · rename_i s l hfl
          cases hc : Nat.beq (P.cellsOf e) (l.length + 1) with
          | false => rw [hc] at hs; cases hs
          | true =>
            rw [hc] at hs
            cases hs
            have hc := Nat.eq_of_beq_eq_true hc
            rcases DataW.trod_slice ht hf with ⟨rfl, rfl⟩ | ⟨a, len, cap, elems, rest, n, rfl, rfl, rfl, hbs, hl, hm, hlen, hel, hsp, -⟩
            · refine ⟨[.recs (l.length + 1) 0 fun _ _ => .v undef], rfl, ?_, D.holds_recs.2 ⟨nilLoc, rfl, .inl rfl, fun h => absurd rfl h, rfl, Nat.le_refl _, fun i hi => by omega⟩, trivial⟩
              simp only [fitsL, fits, and_true]
              exact ⟨0, fun _ _ => .v undef, rfl, Nat.zero_le _, fun i hi => by omega⟩
            · have hN : len ≤ N := by
                rcases hb with hb | hb
                · simp only [uptoBulk] at hb
                  have := bulk_len (elems.map (·.1))
                  simp at this
                  omega
                · omega
              have each : ∀ i, i < len → ∃ c, w.cells? base (a.add (i * P.cellsOf e)) (P.cellsOf e) = some c ∧ Opens w N (s :: l) c := fun i hi => by
                have h1 := hel i hi
                have hy : elems[i]? = some elems[i] := List.getElem?_eq_getElem (by omega)
                rw [hy, Option.bind_eq_some_iff] at h1
                obtain ⟨c, h1, h2⟩ := h1
                refine ⟨c, h1, deep m e n c _ _ N h2 hfl ?_⟩
                rcases hb with hb | hb
                · left
                  simp only [uptoBulk] at hb
                  have : uptoBulk (elems[i]).1 ≤ uptoBulkAll (elems.map (·.1)) := bulk_mem (List.mem_map_of_mem (List.getElem_mem _))
                  omega
                · exact .inr hb
              have each' : ∀ i, ∃ ds : List D, i < len → fitsL N (s :: l) (fun j => ds.getD j (.v undef)) ∧ ∃ c, w.cells? base (a.add (i * P.cellsOf e)) (P.cellsOf e) = some c ∧ DL.holds (fun _ => True) w ds c ∧ ds.length = l.length + 1 := fun i => by
                by_cases hi : i < len
                · obtain ⟨c, h1, ds, h2, h3, h4⟩ := each i hi
                  exact ⟨ds, fun _ => ⟨h3, c, h1, h4, h2⟩⟩
                · exact ⟨[], fun h => absurd h hi⟩
              have hF' := fun i => Classical.choose_spec (each' i)
              generalize hFF : (fun i => Classical.choose (each' i)) = F
              have hF : ∀ i, i < len → fitsL N (s :: l) (fun j => (F i).getD j (.v undef)) ∧ ∃ c, w.cells? base (a.add (i * P.cellsOf e)) (P.cellsOf e) = some c ∧ DL.holds (fun _ => True) w (F i) c ∧ (F i).length = l.length + 1 := fun i => by rw [← hFF]; exact hF' i
              clear hF' hFF
              have first : cap ≠ 0 → ∃ c, w.cells? base (a.add (0 * P.cellsOf e)) (P.cellsOf e) = some c := fun hne => by
                by_cases h0 : len = 0
                · obtain ⟨r1, r2⟩ := hsp rfl
                  have h1 := r2 0 (by omega)
                  have hy : rest[0]? = some rest[0] := List.getElem?_eq_getElem (by omega)
                  rw [hy, Option.bind_eq_some_iff] at h1
                  obtain ⟨c, h1, _⟩ := h1
                  exact ⟨c, by rw [show 0 * P.cellsOf e = (len + 0) * P.cellsOf e by rw [h0]]; exact h1⟩
                · obtain ⟨_, c, h1, _⟩ := hF 0 (by omega)
                  exact ⟨c, h1⟩
              have spot : cap ≠ 0 → a = ⟨a.block, a.off, none⟩ ∧ a.block < w.heap.size := fun hne => by
                obtain ⟨c, h1⟩ := first hne
                obtain ⟨_, h4, h5⟩ := World.cells?_some h1
                have h6 := h5 0 (by omega)
                have hc0 : c[0]? = some c[0] := List.getElem?_eq_getElem (by omega)
                rw [hc0, Nat.zero_mul] at h6
                have h7 : w.cell? a = some c[0] := by simpa [Addr.add] using h6
                refine ⟨spot_none h7, ?_⟩
                rw [spot_none h7] at h7
                exact lt_of_cell h7
              refine ⟨[.recs (l.length + 1) len fun i j => (F i).getD j (.v undef)], rfl, ?_, ?_, trivial⟩
              · simp only [fitsL, fits, and_true]
                exact ⟨len, _, rfl, hN, fun i hi => by have := (hF i hi).1; simpa only [fitsL] using this⟩
              · by_cases h0 : cap = 0
                · exact D.holds_recs.2 ⟨⟨some a, len, cap⟩, rfl, .inl h0, fun h => absurd h (by show ¬ len ≠ 0; omega), rfl, hl, fun i hi => by omega⟩
                · obtain ⟨hs1, hs2⟩ := spot h0
                  generalize hbb : a.block = b at *
                  generalize hoo : a.off = o at *
                  subst hs1
                  refine D.holds_recs.2 ⟨⟨some ⟨b, o, none⟩, len, cap⟩, rfl, .inr rfl, fun _ => ⟨trivial, hs2⟩, rfl, hl, fun i hi j hj => ?_⟩
                  obtain ⟨_, c, h1, h2, h3⟩ := hF i hi
                  obtain ⟨c', e1, e2⟩ := DL.getD h2 j (by omega)
                  obtain ⟨_, h4, h5⟩ := World.cells?_some h1
                  refine ⟨c', ?_, e2⟩
                  have := h5 j (by omega)
                  rw [add_spot, add_spot, e1, hc] at this
                  rw [Nat.add_assoc] at this
                  exact this
        · cases hs
    · rename_i fs ht
      split at hs
      · rename_i l hfl
        cases hc : Nat.beq (P.cellsOf t) l.length with
        | false => rw [hc] at hs; cases hs
        | true =>
          rw [hc] at hs
          cases hs
          obtain ⟨xs, n, rfl, rfl, h1, h2, h3⟩ := DataW.trod_struct ht hf
          have := flds_open (cs := cs) (N := N) (fun t c x shs a1 a2 a3 => deep m t n c x shs N a1 a2 a3) fs.toList 0 _ xs hfl (by simpa using h2) (fun i fl hi => h3 i fl (by simpa using hi)) (fun y hy => by
            rcases hb with hb | hb
            · left
              simp only [uptoBulk] at hb
              have : uptoBulk y.1 ≤ uptoBulkAll (xs.map (·.1)) := bulk_mem (List.mem_map_of_mem hy)
              omega
            · exact .inr hb)
          rw [List.drop_zero, List.take_of_length_le (by rw [h1, Nat.eq_of_beq_eq_true hc]; exact Nat.le_refl _)] at this
          exact this
      · cases hs
    · cases hs
end
end Go.Z

namespace Go.Proofs.Ytlbfenfepmmihaa
open Go.Proofs
open Go.RowKit Go.Maps Go.Sort Go.Shelf

theorem Try.info123p : (Try.prog.info? 123).map (fun i => (i.zero, i.size, i.bytes)) = some (some (.agg #[.int .u32 0, .int .u32 0, .bool false, .bool false, .slice none 0 0]), 5, 40) := by kernel_rfl
theorem Try.info5p : (Try.prog.info? 5).map (fun i => (i.zero, i.size, i.bytes)) = some (some (.int .u8 0), 1, 1) := by kernel_rfl

set_option maxRecDepth 100000 in
set_option maxHeartbeats 1000000 in
theorem Try.clone141 (b o : Nat) (cap : Nat) (us : List Value) (hl : us.length = 5) (w : World)
    (hc : ∀ j u, us[j]? = some u → w.cell? ⟨b, o + j, none⟩ = some u) (h1 : ∀ u ∈ us, u.oneCell' = true) :
    Calls Try.prog 141 #[.slice (some ⟨b, o, none⟩) 1 cap] w fun e W' => ∃ g cap', e = .returned (.slice (some ⟨g, 0, none⟩) 1 cap') ∧ W'.ownsRow w.heap.size 123 5 (.slice (some ⟨g, 0, none⟩) 1 cap') 1 us ∧ Below w.heap.size w W' := by
  obtain ⟨i0, hi, hz0, hz1, hz2⟩ := info_parts Try.info123p
  have q1 : ∀ (w : World) (a : Option Addr) (n c n' c' : Nat), (binOp .eql 113 (.slice a n c) (.slice none n' c')).run Try.prog w = .ok (.bool a.isNone) w := fun w a n c n' c' => Lib.run_eql_slice_nil w _ _ a n c n' c' Try.underlying113
  go_enter Try.func141, Try.ntmps141
  go_wp2_with (at_builtin; refine wpList_append_lies _ rfl _ _ 113 rfl w.heap.size 123 i0 (.agg #[.int .u32 0, .int .u32 0, .bool false, .bool false, .slice none 0 0]) 5 40 Try.underlying113 hi hz0 hz1 hz2 rfl (by decide) _ _ _ rfl (World.ownsRow_made w #[] 0 (Nat.le_refl _) (Nat.zero_le _) rfl) ⟨b, o, none⟩ 1 cap us rfl (by simp [hl]) ?qc h1 (by decide) (by unfold maxLen; omega) (by omega) (by simp) (w.heap.size + 1) (by simp) ?_)
  case qc =>
    intro j u hj
    rw [Addr.add_lit]
    exact Lib.cell?_alloc_some _ (hc j u hj)
  intro g cap' w1 hown hgrow hat hlt
  go_wp2
  go_ret
  refine ⟨g, cap', rfl, by simpa using hown, ?_⟩
  exact ((Below.refl _ w).alloc (Nat.le_refl _) _).grown hgrow (by simp) (by intro k hk; simp [Value.ownBlock] at hk; omega)

set_option maxRecDepth 100000 in
set_option maxHeartbeats 1000000 in
theorem Try.clone82 (ad : Addr) (cap : Nat) (c : Int) (w : World) (hc : w.cell? ad = some (.int .u8 c)) :
    Calls Try.prog 82 #[.slice (some ad) 1 cap] w fun e W' => ∃ g cap', e = .returned (.slice (some ⟨g, 0, none⟩) 1 cap') ∧ W'.ownsRow w.heap.size 5 1 (.slice (some ⟨g, 0, none⟩) 1 cap') 1 [.int .u8 c] ∧ Below w.heap.size w W' := by
  obtain ⟨i0, hi, hz0, hz1, hz2⟩ := info_parts Try.info5p
  have q1 : ∀ (w : World) (a : Option Addr) (n c n' c' : Nat), (binOp .eql 23 (.slice a n c) (.slice none n' c')).run Try.prog w = .ok (.bool a.isNone) w := fun w a n c n' c' => Lib.run_eql_slice_nil w _ _ a n c n' c' Try.underlying23
  go_enter Try.func82, Try.ntmps82
  go_wp2_with (at_builtin; refine wpList_append_lies _ rfl _ _ 23 rfl w.heap.size 5 i0 (.int .u8 0) 1 1 Try.underlying23 hi hz0 hz1 hz2 rfl (by decide) _ _ _ rfl (World.ownsRow_made w #[] 0 (Nat.le_refl _) (Nat.zero_le _) rfl) ad 1 cap [.int .u8 c] rfl rfl ?qc (by simp [Value.oneCell']) (by decide) (by unfold maxLen; omega) (by omega) (by simp) (w.heap.size + 1) (by simp) ?_)
  case qc =>
    intro j u hj
    match j, hj with
    | 0, hj =>
      simp at hj; subst hj
      have : ad.add 0 = ad := by cases ad; rfl
      rw [this]
      exact Lib.cell?_alloc_some _ hc
    | j + 1, hj => simp at hj
  intro g cap' w1 hown hgrow hat hlt
  go_wp2
  go_ret
  refine ⟨g, cap', rfl, by simpa using hown, ?_⟩
  exact ((Below.refl _ w).alloc (Nat.le_refl _) _).grown hgrow (by simp) (by intro k hk; simp [Value.ownBlock] at hk; omega)
end Go.Proofs.Ytlbfenfepmmihaa

namespace Go.Proofs.Ytlbfenfepmmihaa
open Go.Proofs
open Go.RowKit Go.Maps Go.Sort Go.Shelf

set_option maxRecDepth 100000 in
set_option maxHeartbeats 2000000 in
theorem Try.own102 (b o : Nat) (ad : Addr) (cap cap1 : Nat) (t c : Int) (u0 u1 : Int) (w : World)
    (h0 : w.cell? ⟨b, o, none⟩ = some (.int .u32 u0)) (h1 : w.cell? ⟨b, o + 1, none⟩ = some (.int .u32 u1)) (h2 : w.cell? ⟨b, o + 2, none⟩ = some (.bool false)) (h3 : w.cell? ⟨b, o + 3, none⟩ = some (.bool false))
    (h4 : w.cell? ⟨b, o + 4, none⟩ = some (.slice (some ad) 1 cap1)) (hc : w.cell? ad = some (.int .u8 c)) :
    Calls Try.prog 102 #[.agg #[.int .i64 0, .int .u32 0, .int .i64 t, .int .i64 0, .int .i64 0, .bool false, .bool false, .bool false, .bool false, .int .u32 0, .int .u32 0, .int .u32 0, .int .u32 0, .slice (some ⟨b, o, none⟩) 1 cap]] w
      fun e W' => ∃ g cg g' cg', e = .returned (.agg #[.int .i64 0, .int .u32 0, .int .i64 t, .int .i64 0, .int .i64 0, .bool false, .bool false, .bool false, .bool false, .int .u32 0, .int .u32 0, .int .u32 0, .int .u32 0, .slice (some ⟨g, 0, none⟩) 1 cg]) ∧
        w.heap.size ≤ g ∧ w.heap.size ≤ g' ∧ g < W'.heap.size ∧ g' < W'.heap.size ∧ 1 ≤ cg ∧ 1 ≤ cg' ∧
        W'.cell? ⟨g, 0, none⟩ = some (.int .u32 u0) ∧ W'.cell? ⟨g, 1, none⟩ = some (.int .u32 u1) ∧ W'.cell? ⟨g, 2, none⟩ = some (.bool false) ∧ W'.cell? ⟨g, 3, none⟩ = some (.bool false) ∧ W'.cell? ⟨g, 4, none⟩ = some (.slice (some ⟨g', 0, none⟩) 1 cg') ∧ W'.cell? ⟨g', 0, none⟩ = some (.int .u8 c) ∧ Below w.heap.size w W' := by
  have n1 := World.alloc_heap_new w (.cells #[.int .i64 0, .int .u32 0, .int .i64 t, .int .i64 0, .int .i64 0, .bool false, .bool false, .bool false, .bool false, .int .u32 0, .int .u32 0, .int .u32 0, .int .u32 0, .slice (some ⟨b, o, none⟩) 1 cap] 117)
  have n2 := World.alloc_heap_new (w.alloc (.cells #[.int .i64 0, .int .u32 0, .int .i64 t, .int .i64 0, .int .i64 0, .bool false, .bool false, .bool false, .bool false, .int .u32 0, .int .u32 0, .int .u32 0, .int .u32 0, .slice (some ⟨b, o, none⟩) 1 cap] 117)) (.cells #[.int .i64 0, .int .u32 0, .int .i64 0, .int .i64 0, .int .i64 0, .bool false, .bool false, .bool false, .bool false, .int .u32 0, .int .u32 0, .int .u32 0, .int .u32 0, .slice none 0 0] 117)
  have n3 := Below.heap_alloc (w.alloc (.cells #[.int .i64 0, .int .u32 0, .int .i64 t, .int .i64 0, .int .i64 0, .bool false, .bool false, .bool false, .bool false, .int .u32 0, .int .u32 0, .int .u32 0, .int .u32 0, .slice (some ⟨b, o, none⟩) 1 cap] 117)) (.cells #[.int .i64 0, .int .u32 0, .int .i64 0, .int .i64 0, .int .i64 0, .bool false, .bool false, .bool false, .bool false, .int .u32 0, .int .u32 0, .int .u32 0, .int .u32 0, .slice none 0 0] 117) w.heap.size (by simp)
  rw [n1] at n3
  rw [World.size_alloc] at n2
  have z13 : ((w.alloc (.cells #[.int .i64 0, .int .u32 0, .int .i64 t, .int .i64 0, .int .i64 0, .bool false, .bool false, .bool false, .bool false, .int .u32 0, .int .u32 0, .int .u32 0, .int .u32 0, .slice (some ⟨b, o, none⟩) 1 cap] 117)).alloc (.cells #[.int .i64 0, .int .u32 0, .int .i64 0, .int .i64 0, .int .i64 0, .bool false, .bool false, .bool false, .bool false, .int .u32 0, .int .u32 0, .int .u32 0, .int .u32 0, .slice none 0 0] 117)).cell? ⟨w.heap.size, 13, none⟩ = some (.slice (some ⟨b, o, none⟩) 1 cap) := by simp [World.cell?, n3]
  have hcl := Try.clone141 b o cap [.int .u32 u0, .int .u32 u1, .bool false, .bool false, .slice (some ad) 1 cap1] rfl ((w.alloc (.cells #[.int .i64 0, .int .u32 0, .int .i64 t, .int .i64 0, .int .i64 0, .bool false, .bool false, .bool false, .bool false, .int .u32 0, .int .u32 0, .int .u32 0, .int .u32 0, .slice (some ⟨b, o, none⟩) 1 cap] 117)).alloc (.cells #[.int .i64 0, .int .u32 0, .int .i64 0, .int .i64 0, .int .i64 0, .bool false, .bool false, .bool false, .bool false, .int .u32 0, .int .u32 0, .int .u32 0, .int .u32 0, .slice none 0 0] 117)) (by
    intro j u hj
    match j, hj with
    | 0, hj => simp at hj; subst hj; exact Lib.cell?_alloc_some _ (Lib.cell?_alloc_some _ h0)
    | 1, hj => simp at hj; subst hj; exact Lib.cell?_alloc_some _ (Lib.cell?_alloc_some _ h1)
    | 2, hj => simp at hj; subst hj; exact Lib.cell?_alloc_some _ (Lib.cell?_alloc_some _ h2)
    | 3, hj => simp at hj; subst hj; exact Lib.cell?_alloc_some _ (Lib.cell?_alloc_some _ h3)
    | 4, hj => simp at hj; subst hj; exact Lib.cell?_alloc_some _ (Lib.cell?_alloc_some _ h4)
    | j + 5, hj => simp at hj) (by simp [Value.oneCell'])
  have hB0 : Below w.heap.size w ((w.alloc (.cells #[.int .i64 0, .int .u32 0, .int .i64 t, .int .i64 0, .int .i64 0, .bool false, .bool false, .bool false, .bool false, .int .u32 0, .int .u32 0, .int .u32 0, .int .u32 0, .slice (some ⟨b, o, none⟩) 1 cap] 117)).alloc (.cells #[.int .i64 0, .int .u32 0, .int .i64 0, .int .i64 0, .int .i64 0, .bool false, .bool false, .bool false, .bool false, .int .u32 0, .int .u32 0, .int .u32 0, .int .u32 0, .slice none 0 0] 117)) := ((Below.refl _ w).alloc (Nat.le_refl _) _).alloc (by simp) _
  have hs0 : ((w.alloc (.cells #[.int .i64 0, .int .u32 0, .int .i64 t, .int .i64 0, .int .i64 0, .bool false, .bool false, .bool false, .bool false, .int .u32 0, .int .u32 0, .int .u32 0, .int .u32 0, .slice (some ⟨b, o, none⟩) 1 cap] 117)).alloc (.cells #[.int .i64 0, .int .u32 0, .int .i64 0, .int .i64 0, .int .i64 0, .bool false, .bool false, .bool false, .bool false, .int .u32 0, .int .u32 0, .int .u32 0, .int .u32 0, .slice none 0 0] 117)).heap.size = w.heap.size + 2 := by simp only [World.size_alloc]
  have A : Aside (((w.alloc (.cells #[.int .i64 0, .int .u32 0, .int .i64 t, .int .i64 0, .int .i64 0, .bool false, .bool false, .bool false, .bool false, .int .u32 0, .int .u32 0, .int .u32 0, .int .u32 0, .slice (some ⟨b, o, none⟩) 1 cap] 117)).alloc (.cells #[.int .i64 0, .int .u32 0, .int .i64 0, .int .i64 0, .int .i64 0, .bool false, .bool false, .bool false, .bool false, .int .u32 0, .int .u32 0, .int .u32 0, .int .u32 0, .slice none 0 0] 117)).heap[w.heap.size]? = some (.cells #[.int .i64 0, .int .u32 0, .int .i64 t, .int .i64 0, .int .i64 0, .bool false, .bool false, .bool false, .bool false, .int .u32 0, .int .u32 0, .int .u32 0, .int .u32 0, .slice (some ⟨b, o, none⟩) 1 cap] 117) ∧ ((w.alloc (.cells #[.int .i64 0, .int .u32 0, .int .i64 t, .int .i64 0, .int .i64 0, .bool false, .bool false, .bool false, .bool false, .int .u32 0, .int .u32 0, .int .u32 0, .int .u32 0, .slice (some ⟨b, o, none⟩) 1 cap] 117)).alloc (.cells #[.int .i64 0, .int .u32 0, .int .i64 0, .int .i64 0, .int .i64 0, .bool false, .bool false, .bool false, .bool false, .int .u32 0, .int .u32 0, .int .u32 0, .int .u32 0, .slice none 0 0] 117)).heap[w.heap.size + 1]? = some (.cells #[.int .i64 0, .int .u32 0, .int .i64 0, .int .i64 0, .int .i64 0, .bool false, .bool false, .bool false, .bool false, .int .u32 0, .int .u32 0, .int .u32 0, .int .u32 0, .slice none 0 0] 117) ∧ Below w.heap.size w ((w.alloc (.cells #[.int .i64 0, .int .u32 0, .int .i64 t, .int .i64 0, .int .i64 0, .bool false, .bool false, .bool false, .bool false, .int .u32 0, .int .u32 0, .int .u32 0, .int .u32 0, .slice (some ⟨b, o, none⟩) 1 cap] 117)).alloc (.cells #[.int .i64 0, .int .u32 0, .int .i64 0, .int .i64 0, .int .i64 0, .bool false, .bool false, .bool false, .bool false, .int .u32 0, .int .u32 0, .int .u32 0, .int .u32 0, .slice none 0 0] 117)) ∧ ((w.alloc (.cells #[.int .i64 0, .int .u32 0, .int .i64 t, .int .i64 0, .int .i64 0, .bool false, .bool false, .bool false, .bool false, .int .u32 0, .int .u32 0, .int .u32 0, .int .u32 0, .slice (some ⟨b, o, none⟩) 1 cap] 117)).alloc (.cells #[.int .i64 0, .int .u32 0, .int .i64 0, .int .i64 0, .int .i64 0, .bool false, .bool false, .bool false, .bool false, .int .u32 0, .int .u32 0, .int .u32 0, .int .u32 0, .slice none 0 0] 117)).heap.size = w.heap.size + 2) := ⟨n3, n2, hB0, hs0⟩
  clear n1 n2 n3 hB0 hs0
  go_enter Try.func102, Try.ntmps102
  go_wp2_with (go_at_call 141; refine hcl.mono ?_; clear hcl z13; rintro e W1 ⟨g, cg, rfl, hown, hb1⟩; revert A; generalize hW0 : (w.alloc (.cells #[.int .i64 0, .int .u32 0, .int .i64 t, .int .i64 0, .int .i64 0, .bool false, .bool false, .bool false, .bool false, .int .u32 0, .int .u32 0, .int .u32 0, .int .u32 0, .slice (some ⟨b, o, none⟩) 1 cap] 117)).alloc (.cells #[.int .i64 0, .int .u32 0, .int .i64 0, .int .i64 0, .int .i64 0, .bool false, .bool false, .bool false, .bool false, .int .u32 0, .int .u32 0, .int .u32 0, .int .u32 0, .slice none 0 0] 117) = W0 at *; intro A; have mm := A.out; have m1 := (hb1.block _ (by omega)).trans mm.1; have f13 : W1.frozen? ⟨w.heap.size, 13, none⟩ = false := (by simp [World.frozen?, m1]); have c13 : W1.cell? ⟨w.heap.size, 13, none⟩ = some (.slice (some ⟨b, o, none⟩) 1 cap) := (by simp [World.cell?, m1]); clear mm m1)
  obtain ⟨A1, A2, A3, A4⟩ := A.out
  clear A hW0
  have m1 := (hb1.block w.heap.size (by omega)).trans A1
  have m2 := (hb1.block (w.heap.size + 1) (by omega)).trans A2
  obtain ⟨gc, gcap, gcur, ge, gb, gh, gl, gm, gs, gt⟩ := hown.2.resolve_left (by simp)
  simp only [Value.slice.injEq, Option.some.injEq, Addr.mk.injEq] at ge
  obtain ⟨⟨rfl, _⟩, _, rfl⟩ := ge
  have hgl : g < W1.heap.size := (Array.getElem?_eq_some_iff.1 gh).1
  have hadb : ad.block < w.heap.size := World.block_lt_of_cell? w _ hc
  have hB1 : Below w.heap.size w W1 := A3.trans (hb1.mono (by omega))
  have e1 : (W1.setCell ⟨w.heap.size, 13, none⟩ (.slice (some ⟨g, 0, none⟩) 1 cg)).heap[w.heap.size]? = some (.cells #[.int .i64 0, .int .u32 0, .int .i64 t, .int .i64 0, .int .i64 0, .bool false, .bool false, .bool false, .bool false, .int .u32 0, .int .u32 0, .int .u32 0, .int .u32 0, .slice (some ⟨g, 0, none⟩) 1 cg] 117 (0, 0)) := heap_setCell_same _ _ 13 _ _ _ m1
  have e2 : (W1.setCell ⟨w.heap.size, 13, none⟩ (.slice (some ⟨g, 0, none⟩) 1 cg)).heap[w.heap.size + 1]? = some (.cells #[.int .i64 0, .int .u32 0, .int .i64 0, .int .i64 0, .int .i64 0, .bool false, .bool false, .bool false, .bool false, .int .u32 0, .int .u32 0, .int .u32 0, .int .u32 0, .slice none 0 0] 117) := (heap_setCell_other _ _ _ _ (by simp)).trans m2
  have e3 : (W1.setCell ⟨w.heap.size, 13, none⟩ (.slice (some ⟨g, 0, none⟩) 1 cg)).heap[g]? = _ := (heap_setCell_other _ _ _ _ (by simp; omega)).trans gh
  have e4 : Below w.heap.size w (W1.setCell ⟨w.heap.size, 13, none⟩ (.slice (some ⟨g, 0, none⟩) 1 cg)) := hB1.setCell (by simp) _
  have e5 : w.heap.size + 2 ≤ (W1.setCell ⟨w.heap.size, 13, none⟩ (.slice (some ⟨g, 0, none⟩) 1 cg)).heap.size := by have := hb1.size; rw [World.size_setCell]; omega
  generalize W1.setCell ⟨w.heap.size, 13, none⟩ (.slice (some ⟨g, 0, none⟩) 1 cg) = W2 at e1 e2 e3 e4 e5 ⊢
  have hgge : w.heap.size + 2 ≤ g := by omega
  clear m1 m2 gh hown hb1 A1 A2 A3 A4 hB1 hgl
  have gat {j : Nat} {u : Value} (hj : j < 5) (hu : [.int .u32 u0, .int .u32 u1, .bool false, .bool false, .slice (some ad) 1 cap1][j]? = some u) : gcur[j]? = some u := by
    rw [← gt] at hu
    have hu' : (gcur.toList.take 5)[j]? = some u := by simpa using hu
    rw [List.getElem?_take_of_lt hj] at hu'
    simpa using hu'
  have k13 : W2.cell? ⟨w.heap.size, 13, none⟩ = some (.slice (some ⟨g, 0, none⟩) 1 cg) := by simp [World.cell?, e1]
  have k4 : W2.cell? ⟨g, 4, none⟩ = some (.slice (some ad) 1 cap1) := by simp [World.cell?, e3, gat (j := 4) (by omega) rfl]
  have kc : W2.cell? ad = some (.int .u8 c) := (e4.cell hadb).trans hc
  have kf : W2.frozen? ⟨g, 4, none⟩ = false := by simp [World.frozen?, e3]
  have hg2 : g < W2.heap.size := (Array.getElem?_eq_some_iff.1 e3).1
  refine wp_loop_rounds 2 ?_
  rw [rounds_succ]
  go_upto_block 1 with fail
  go_cut [] from 16 to 30 (fun wx => ∃ (g' cg' : Nat), W2.heap.size ≤ g' ∧ g' < wx.heap.size ∧ 1 ≤ cg' ∧ wx.heap[w.heap.size]? = some (.cells #[.int .i64 0, .int .u32 0, .int .i64 t, .int .i64 0, .int .i64 0, .bool false, .bool false, .bool false, .bool false, .int .u32 0, .int .u32 0, .int .u32 0, .int .u32 0, .slice (some ⟨g, 0, none⟩) 1 cg] 117 (0, 0)) ∧ wx.heap[w.heap.size + 1]? = some (.cells #[.int .i64 0, .int .u32 0, .int .i64 0, .int .i64 0, .int .i64 0, .bool false, .bool false, .bool false, .bool false, .int .u32 0, .int .u32 0, .int .u32 0, .int .u32 0, .slice none 0 0] 117) ∧ wx.heap[g]? = some (.cells (gcur.setIfInBounds 4 (.slice (some ⟨g', 0, none⟩) 1 cg')) 123 (0, 0)) ∧ wx.cell? ⟨g', 0, none⟩ = some (.int .u8 c) ∧ Below w.heap.size w wx)
  case first =>
    go_wp2_with fail
    go_region_with (go_at_call 82; refine (Try.clone82 ad cap1 c W2.drew kc).mono ?_; rintro e w' ⟨g', cg', rfl, hown2, hb2⟩; have j13 : w'.cell? ⟨w.heap.size, 13, none⟩ = some (.slice (some ⟨g, 0, none⟩) 1 cg) := (hb2.cell (p := ⟨w.heap.size, 13, none⟩) (by simp; omega)).trans k13; have j4 : w'.cell? ⟨g, 4, none⟩ = some (.slice (some ad) 1 cap1) := (hb2.cell (p := ⟨g, 4, none⟩) hg2).trans k4; have jh : w'.heap[g]? = some (.cells gcur 123 (0, 0)) := (hb2.block g hg2).trans e3; have jf : w'.frozen? ⟨g, 4, none⟩ = false := (by simp [World.frozen?, jh]))
    all_goals
      go_wp2_with fail
      go_meet
      obtain ⟨gc, gcap, gcur', ge, gb2, gh2, gl2, gm2, gs2, gt2⟩ := hown2.2.resolve_left (by simp)
      simp only [Value.slice.injEq, Option.some.injEq, Addr.mk.injEq] at ge
      obtain ⟨⟨rfl, _⟩, _, rfl⟩ := ge
      have gb3 : W2.heap.size ≤ g' := gb2
      have hg3 : g' < w'.heap.size := (Array.getElem?_eq_some_iff.1 gh2).1
      refine ⟨g', cg', gb3, by rw [World.size_setCell]; exact hg3, by omega, ?_, ?_, ?_, ?_, ?_⟩
      · exact (heap_setCell_other _ _ _ _ (by simp; omega)).trans ((hb2.block w.heap.size (by show w.heap.size < W2.heap.size; omega)).trans e1)
      · exact (heap_setCell_other _ _ _ _ (by simp; omega)).trans ((hb2.block (w.heap.size + 1) (by show w.heap.size + 1 < W2.heap.size; omega)).trans e2)
      · exact heap_setCell_same _ _ 4 _ _ _ jh
      · have h7 : gcur'[0]? = some (.int .u8 c) := by
          have h : (gcur'.toList.take 1)[0]? = some (.int .u8 c) := by rw [gt2]; rfl
          rw [List.getElem?_take_of_lt (by omega)] at h
          simpa using h
        have h8 := (heap_setCell_other w' ⟨g, 4, none⟩ g' (.slice (some ⟨g', 0, none⟩) 1 cg') (by simp; omega)).trans gh2
        simp [World.cell?, h8, h7]
      · exact (e4.trans ((Below.refl _ W2).drew.trans (hb2.mono (by show w.heap.size ≤ W2.heap.size; omega)))).setCell (by simp; omega) _
  case rest =>
  obtain ⟨g', cg', gb3, hg3, hcg, r1, r2, r3, r4, r5⟩ := hcut
  generalize wc = W3 at *
  have p0 : W3.cell? ⟨w.heap.size, 0, none⟩ = some (.int .i64 0) := by simp [World.cell?, r1]
  have p1 : W3.cell? ⟨w.heap.size, 1, none⟩ = some (.int .u32 0) := by simp [World.cell?, r1]
  have p2 : W3.cell? ⟨w.heap.size, 2, none⟩ = some (.int .i64 t) := by simp [World.cell?, r1]
  have p3 : W3.cell? ⟨w.heap.size, 3, none⟩ = some (.int .i64 0) := by simp [World.cell?, r1]
  have p4 : W3.cell? ⟨w.heap.size, 4, none⟩ = some (.int .i64 0) := by simp [World.cell?, r1]
  have p5 : W3.cell? ⟨w.heap.size, 5, none⟩ = some (.bool false) := by simp [World.cell?, r1]
  have p6 : W3.cell? ⟨w.heap.size, 6, none⟩ = some (.bool false) := by simp [World.cell?, r1]
  have p7 : W3.cell? ⟨w.heap.size, 7, none⟩ = some (.bool false) := by simp [World.cell?, r1]
  have p8 : W3.cell? ⟨w.heap.size, 8, none⟩ = some (.bool false) := by simp [World.cell?, r1]
  have p9 : W3.cell? ⟨w.heap.size, 9, none⟩ = some (.int .u32 0) := by simp [World.cell?, r1]
  have p10 : W3.cell? ⟨w.heap.size, 10, none⟩ = some (.int .u32 0) := by simp [World.cell?, r1]
  have p11 : W3.cell? ⟨w.heap.size, 11, none⟩ = some (.int .u32 0) := by simp [World.cell?, r1]
  have p12 : W3.cell? ⟨w.heap.size, 12, none⟩ = some (.int .u32 0) := by simp [World.cell?, r1]
  have p13 : W3.cell? ⟨w.heap.size, 13, none⟩ = some (.slice (some ⟨g, 0, none⟩) 1 cg) := by simp [World.cell?, r1]
  have q0 : W3.cell? ⟨w.heap.size + 1, 0, none⟩ = some (.int .i64 0) := by simp [World.cell?, r2]
  have f0 : W3.frozen? ⟨w.heap.size + 1, 0, none⟩ = false := by simp [World.frozen?, r2]
  have q1 : W3.cell? ⟨w.heap.size + 1, 1, none⟩ = some (.int .u32 0) := by simp [World.cell?, r2]
  have f1 : W3.frozen? ⟨w.heap.size + 1, 1, none⟩ = false := by simp [World.frozen?, r2]
  have q2 : W3.cell? ⟨w.heap.size + 1, 2, none⟩ = some (.int .i64 0) := by simp [World.cell?, r2]
  have f2 : W3.frozen? ⟨w.heap.size + 1, 2, none⟩ = false := by simp [World.frozen?, r2]
  have q3 : W3.cell? ⟨w.heap.size + 1, 3, none⟩ = some (.int .i64 0) := by simp [World.cell?, r2]
  have f3 : W3.frozen? ⟨w.heap.size + 1, 3, none⟩ = false := by simp [World.frozen?, r2]
  have q4 : W3.cell? ⟨w.heap.size + 1, 4, none⟩ = some (.int .i64 0) := by simp [World.cell?, r2]
  have f4 : W3.frozen? ⟨w.heap.size + 1, 4, none⟩ = false := by simp [World.frozen?, r2]
  have q5 : W3.cell? ⟨w.heap.size + 1, 5, none⟩ = some (.bool false) := by simp [World.cell?, r2]
  have f5 : W3.frozen? ⟨w.heap.size + 1, 5, none⟩ = false := by simp [World.frozen?, r2]
  have q6 : W3.cell? ⟨w.heap.size + 1, 6, none⟩ = some (.bool false) := by simp [World.cell?, r2]
  have f6 : W3.frozen? ⟨w.heap.size + 1, 6, none⟩ = false := by simp [World.frozen?, r2]
  have q7 : W3.cell? ⟨w.heap.size + 1, 7, none⟩ = some (.bool false) := by simp [World.cell?, r2]
  have f7 : W3.frozen? ⟨w.heap.size + 1, 7, none⟩ = false := by simp [World.frozen?, r2]
  have q8 : W3.cell? ⟨w.heap.size + 1, 8, none⟩ = some (.bool false) := by simp [World.cell?, r2]
  have f8 : W3.frozen? ⟨w.heap.size + 1, 8, none⟩ = false := by simp [World.frozen?, r2]
  have q9 : W3.cell? ⟨w.heap.size + 1, 9, none⟩ = some (.int .u32 0) := by simp [World.cell?, r2]
  have f9 : W3.frozen? ⟨w.heap.size + 1, 9, none⟩ = false := by simp [World.frozen?, r2]
  have q10 : W3.cell? ⟨w.heap.size + 1, 10, none⟩ = some (.int .u32 0) := by simp [World.cell?, r2]
  have f10 : W3.frozen? ⟨w.heap.size + 1, 10, none⟩ = false := by simp [World.frozen?, r2]
  have q11 : W3.cell? ⟨w.heap.size + 1, 11, none⟩ = some (.int .u32 0) := by simp [World.cell?, r2]
  have f11 : W3.frozen? ⟨w.heap.size + 1, 11, none⟩ = false := by simp [World.frozen?, r2]
  have q12 : W3.cell? ⟨w.heap.size + 1, 12, none⟩ = some (.int .u32 0) := by simp [World.cell?, r2]
  have f12 : W3.frozen? ⟨w.heap.size + 1, 12, none⟩ = false := by simp [World.frozen?, r2]
  have q13 : W3.cell? ⟨w.heap.size + 1, 13, none⟩ = some (.slice none 0 0) := by simp [World.cell?, r2]
  have f13 : W3.frozen? ⟨w.heap.size + 1, 13, none⟩ = false := by simp [World.frozen?, r2]
  go_wp2
  rw [rounds_succ]
  go_wp2
  obtain ⟨W4, hW4⟩ : ∃ W4, W4 = ((((((((((((((W3.setCell ⟨w.heap.size + 1, 0, none⟩ (.int .i64 0)).setCell ⟨w.heap.size + 1, 1, none⟩ (.int .u32 0)).setCell ⟨w.heap.size + 1, 2, none⟩ (.int .i64 t)).setCell ⟨w.heap.size + 1, 3, none⟩ (.int .i64 0)).setCell ⟨w.heap.size + 1, 4, none⟩ (.int .i64 0)).setCell ⟨w.heap.size + 1, 5, none⟩ (.bool false)).setCell ⟨w.heap.size + 1, 6, none⟩ (.bool false)).setCell ⟨w.heap.size + 1, 7, none⟩ (.bool false)).setCell ⟨w.heap.size + 1, 8, none⟩ (.bool false)).setCell ⟨w.heap.size + 1, 9, none⟩ (.int .u32 0)).setCell ⟨w.heap.size + 1, 10, none⟩ (.int .u32 0)).setCell ⟨w.heap.size + 1, 11, none⟩ (.int .u32 0)).setCell ⟨w.heap.size + 1, 12, none⟩ (.int .u32 0)).setCell ⟨w.heap.size + 1, 13, none⟩ (.slice (some ⟨g, 0, none⟩) 1 cg)) := ⟨_, rfl⟩
  rw [← hW4]
  have t0 := heap_setCell_same _ _ 0 _ _ (.int .i64 0) r2
  simp only [List.setIfInBounds_toArray, List.set_cons_zero] at t0
  have t1 := heap_setCell_same _ _ 1 _ _ (.int .u32 0) t0
  simp only [List.setIfInBounds_toArray, List.set_cons_zero, List.set_cons_succ] at t1
  have t2 := heap_setCell_same _ _ 2 _ _ (.int .i64 t) t1
  simp only [List.setIfInBounds_toArray, List.set_cons_zero, List.set_cons_succ] at t2
  have t3 := heap_setCell_same _ _ 3 _ _ (.int .i64 0) t2
  simp only [List.setIfInBounds_toArray, List.set_cons_zero, List.set_cons_succ] at t3
  have t4 := heap_setCell_same _ _ 4 _ _ (.int .i64 0) t3
  simp only [List.setIfInBounds_toArray, List.set_cons_zero, List.set_cons_succ] at t4
  have t5 := heap_setCell_same _ _ 5 _ _ (.bool false) t4
  simp only [List.setIfInBounds_toArray, List.set_cons_zero, List.set_cons_succ] at t5
  have t6 := heap_setCell_same _ _ 6 _ _ (.bool false) t5
  simp only [List.setIfInBounds_toArray, List.set_cons_zero, List.set_cons_succ] at t6
  have t7 := heap_setCell_same _ _ 7 _ _ (.bool false) t6
  simp only [List.setIfInBounds_toArray, List.set_cons_zero, List.set_cons_succ] at t7
  have t8 := heap_setCell_same _ _ 8 _ _ (.bool false) t7
  simp only [List.setIfInBounds_toArray, List.set_cons_zero, List.set_cons_succ] at t8
  have t9 := heap_setCell_same _ _ 9 _ _ (.int .u32 0) t8
  simp only [List.setIfInBounds_toArray, List.set_cons_zero, List.set_cons_succ] at t9
  have t10 := heap_setCell_same _ _ 10 _ _ (.int .u32 0) t9
  simp only [List.setIfInBounds_toArray, List.set_cons_zero, List.set_cons_succ] at t10
  have t11 := heap_setCell_same _ _ 11 _ _ (.int .u32 0) t10
  simp only [List.setIfInBounds_toArray, List.set_cons_zero, List.set_cons_succ] at t11
  have t12 := heap_setCell_same _ _ 12 _ _ (.int .u32 0) t11
  simp only [List.setIfInBounds_toArray, List.set_cons_zero, List.set_cons_succ] at t12
  have t13 := heap_setCell_same _ _ 13 _ _ (.slice (some ⟨g, 0, none⟩) 1 cg) t12
  simp only [List.setIfInBounds_toArray, List.set_cons_zero, List.set_cons_succ] at t13
  rw [← hW4] at t13
  have t14 : W4.heap[w.heap.size + 1]? = some (.cells #[.int .i64 0, .int .u32 0, .int .i64 t, .int .i64 0, .int .i64 0, .bool false, .bool false, .bool false, .bool false, .int .u32 0, .int .u32 0, .int .u32 0, .int .u32 0, .slice (some ⟨g, 0, none⟩) 1 cg] 117 (0, 0)) := t13
  have kk : ∀ k, k ≠ w.heap.size + 1 → W4.heap[k]? = W3.heap[k]? := by
    intro k hk
    rw [hW4]
    iterate 14 refine (heap_setCell_other _ ⟨w.heap.size + 1, _, none⟩ k _ hk).trans ?_
    rfl
  have r7 : Below w.heap.size w W4 := by
    rw [hW4]
    iterate 14 refine Below.setCell ?_ (by simp) _
    exact r5
  have r8 : W4.heap.size = W3.heap.size := by rw [hW4]; simp only [World.size_setCell]
  clear t0 t1 t2 t3 t4 t5 t6 t7 t8 t9 t10 t11 t12 t13 hW4
  have v3 := (kk g (by omega)).trans r3
  have v4 : W4.cell? ⟨g', 0, none⟩ = some (.int .u8 c) := (World.cell?_of_block (w := W3) (kk g' (by omega))).trans r4
  have z0 : W4.cell? ⟨w.heap.size + 1, 0, none⟩ = some (.int .i64 0) := by simp [World.cell?, t14]
  have z1 : W4.cell? ⟨w.heap.size + 1, 1, none⟩ = some (.int .u32 0) := by simp [World.cell?, t14]
  have z2 : W4.cell? ⟨w.heap.size + 1, 2, none⟩ = some (.int .i64 t) := by simp [World.cell?, t14]
  have z3 : W4.cell? ⟨w.heap.size + 1, 3, none⟩ = some (.int .i64 0) := by simp [World.cell?, t14]
  have z4 : W4.cell? ⟨w.heap.size + 1, 4, none⟩ = some (.int .i64 0) := by simp [World.cell?, t14]
  have z5 : W4.cell? ⟨w.heap.size + 1, 5, none⟩ = some (.bool false) := by simp [World.cell?, t14]
  have z6 : W4.cell? ⟨w.heap.size + 1, 6, none⟩ = some (.bool false) := by simp [World.cell?, t14]
  have z7 : W4.cell? ⟨w.heap.size + 1, 7, none⟩ = some (.bool false) := by simp [World.cell?, t14]
  have z8 : W4.cell? ⟨w.heap.size + 1, 8, none⟩ = some (.bool false) := by simp [World.cell?, t14]
  have z9 : W4.cell? ⟨w.heap.size + 1, 9, none⟩ = some (.int .u32 0) := by simp [World.cell?, t14]
  have z10 : W4.cell? ⟨w.heap.size + 1, 10, none⟩ = some (.int .u32 0) := by simp [World.cell?, t14]
  have z11 : W4.cell? ⟨w.heap.size + 1, 11, none⟩ = some (.int .u32 0) := by simp [World.cell?, t14]
  have z12 : W4.cell? ⟨w.heap.size + 1, 12, none⟩ = some (.int .u32 0) := by simp [World.cell?, t14]
  have z13 : W4.cell? ⟨w.heap.size + 1, 13, none⟩ = some (.slice (some ⟨g, 0, none⟩) 1 cg) := by simp [World.cell?, t14]
  clear p0 p1 p2 p3 p4 p5 p6 p7 p8 p9 p10 p11 p12 p13 q0 q1 q2 q3 q4 q5 q6 q7 q8 q9 q10 q11 q12 q13 f0 f1 f2 f3 f4 f5 f6 f7 f8 f9 f10 f11 f12 f13
  have hi117 : (Try.prog.info? 117).map (·.size) = some 14 := by kernel_rfl
  refine bodyPost_ret (results_cell_row rfl _ _ (w.heap.size + 1) 117 _ (0, 0) _ rfl t14 Try.underlying117 rfl hi117) rfl ?_
  have g6 := gat (j := 0) (by omega) rfl
  have g7 := gat (j := 1) (by omega) rfl
  have g8 := gat (j := 2) (by omega) rfl
  have g9 := gat (j := 3) (by omega) rfl
  have sz : 4 < gcur.size := by
    have := gat (j := 4) (by omega) rfl
    exact (Array.getElem?_eq_some_iff.1 this).1
  refine ⟨g, cg, g', cg', rfl, by omega, by omega, by omega, by omega, by omega, by omega, ?_, ?_, ?_, ?_, ?_, ?_, r7⟩
  · simp [World.cell?, v3, g6]
  · simp [World.cell?, v3, g7]
  · simp [World.cell?, v3, g8]
  · simp [World.cell?, v3, g9]
  · simp [World.cell?, v3, sz]
  · exact v4
end Go.Proofs.Ytlbfenfepmmihaa

namespace Go.ZR
open Go.Z
def vi : D → Int
  | .v (.int _ n) => n
  | _ => 0
def vb : D → Bool
  | .v (.bool b) => b
  | _ => false
def vl : D → List Int
  | .ints _ l => l
  | _ => []
end Go.ZR
namespace Go.ZM
open Go.Z Go.ZR
def sm (n : Nat) : Prop := n ≤ 1099511627776
def okI (n : Int) : Prop := -2199023255552 ≤ n ∧ n ≤ 2199023255552
def partF (b : List Int) (i n : Int) : List Int × Int :=
  if i < 0 ∨ n < 0 then ([], 1) else if (b.length : Int) < i ∨ (b.length : Int) - i < n then ([], 3) else ((b.drop i.toNat).take n.toNat, 0)
def getF (b : List Int) (i : Int) (k : Nat) : Int × Int := (valF (partF b i k).1, (partF b i k).2)
end Go.ZM
namespace Go.ZR
open Go.Z Go.ZM
def iO (k : IntKind) (n : Int) : O := .d (.v (.int k n))
def bO (b : Bool) : O := .d (.v (.bool b))
def bsO (l : List Int) : O := .d (.ints .u8 l)
def bsN (l : List Int) : O := .own 5 (.ints .u8 l)
def dO : O → D
  | .d x => x
  | _ => .v (.bool false)
def at_ (a : List O) (i : Nat) : O := a.getD i .any
def nC (n : Nat) (quiet : Bool) (pre : List O → Prop) (res : List O → List O) : Ctr where
  own := []
  pre := pre
  res := res
  upd := fun _ => List.replicate n .any
  ro := false
  quiet := quiet
def cloneC : Ctr := nC 1 false (fun a => ∃ l, a = [bsO l] ∧ sm l.length) fun a => [bsN (vl (dO (at_ a 0)))]
def padC : Ctr := nC 1 true (fun a => ∃ n : Nat, a = [iO .i64 n] ∧ n ≤ 2199023255552) fun a => [iO .i64 (padN (vi (dO (at_ a 0))).toNat : Nat)]
def partA (a : List O) : List Int × Int := partF (vl (dO (at_ a 0))) (vi (dO (at_ a 1))) (vi (dO (at_ a 2)))
def partC : Ctr := nC 3 false (fun a => ∃ (b : List Int) (i n : Int), a = [bsO b, iO .i64 i, iO .i64 n] ∧ sm b.length ∧ okI i ∧ okI n) fun a => [bsN (partA a).1, iO .i64 (partA a).2]
def getA (a : List O) : Int × Int := getF (vl (dO (at_ a 0))) (vi (dO (at_ a 1))) (vi (dO (at_ a 2))).toNat
def getC (m : Nat) : Ctr := nC 3 false (fun a => ∃ (b : List Int) (i : Int) (k : Nat), a = [bsO b, iO .i64 i, iO .i64 k] ∧ sm b.length ∧ okB b ∧ okI i ∧ 1 ≤ k ∧ k ≤ m) fun a => [iO .u64 (getA a).1, iO .i64 (getA a).2]
def c0 : List (Nat × Ctr) := []
def c1 : List (Nat × Ctr) := [(82, cloneC), (241, padC)]
def c2 : List (Nat × Ctr) := [(201, partC), (266, partC)]
def c3 : List (Nat × Ctr) := [(245, getC 8)]
theorem c0_ok {P : Program} : COk P (ctrs c0) := cok_nil
end Go.ZR

set_option maxRecDepth 100000
namespace Go.ZM
open Go.Z
structure Ent where
  t : Int
  c : Int
  n : Int
  k : Nat
def avCell (c : Int) : Nat → Nat → D := fun _ j => match j with
  | 0 => .v (.int .u32 1)
  | 1 => .v (.int .u32 0)
  | 2 => .v (.bool false)
  | 3 => .v (.bool false)
  | _ => .ints .u8 [c]
def entD (e : Ent) : List D := [.v (.int .i64 0), .v (.int .u32 0), .v (.int .i64 e.t), .v (.int .i64 0), .v (.int .i64 0), .v (.bool false), .v (.bool false), .v (.bool false), .v (.bool false), .v (.int .u32 0), .v (.int .u32 0), .v (.int .u32 0), .v (.int .u32 0), .recs 5 e.k (avCell e.c), .v (.int .i64 e.n)]
def noEnt : Ent := ⟨0, 0, 0, 0⟩
def entF (l : List Ent) (i j : Nat) : D := (entD (l.getD i noEnt)).getD j (.v undef)
end Go.ZM
namespace Go.ZR
open Go.Z Go.ZM Go.Proofs
def avO (c : Int) : O := .rsl 123 1 [iO .u32 1, iO .u32 0, bO false, bO false, .own 5 (.ints .u8 [c])]
def wtH (t : Int) (o : O) : O := .agg [iO .i64 0, iO .u32 0, iO .i64 t, iO .i64 0, iO .i64 0, bO false, bO false, bO false, bO false, iO .u32 0, iO .u32 0, iO .u32 0, iO .u32 0, o]
def wtO (t c : Int) : O := wtH t (avO c)
def wtR (t c : Int) : O := wtH t (.d (.recs 5 1 (avCell c)))
def wtT : O → Int
  | .agg (_ :: _ :: x :: _) => vi (dO x)
  | _ => 0
def wtC : O → Int
  | .agg [_, _, _, _, _, _, _, _, _, _, _, _, _, .rsl _ _ [_, _, _, _, .own _ (.ints _ [c])]] => c
  | _ => 0
def ownC : Ctr where
  own := [true]
  pre := fun a => ∃ t c, a = [wtO t c]
  res := fun a => [wtR (wtT (at_ a 0)) (wtC (at_ a 0))]
  upd := fun a => a
  ro := true
  quiet := false
end Go.ZR
namespace Go.Proofs.Ytlbfenfepmmihaa
open Go.Proofs Go.ZM Go.ZR
open Go.RowKit Go.Z
end Go.Proofs.Ytlbfenfepmmihaa

set_option maxRecDepth 100000
namespace Go.Z
open Go.RowKit
theorem OL.peel {X : Nat → Prop} {w : World} {x : Value} {l : List O} {vs : List Value} {fp : List Nat} (h : OL.holds X w (.d (.v x) :: l) vs fp) : ∃ vs', vs = x :: vs' ∧ OL.holds X w l vs' fp := by
  cases vs with
  | nil => simp [OL.holds] at h
  | cons v vs =>
    simp only [OL.holds, O.holds, D.holds] at h
    obtain ⟨f, g, rfl, ⟨⟨rfl, _⟩, rfl⟩, h2⟩ := h
    exact ⟨vs, rfl, h2⟩
theorem OL.put {X : Nat → Prop} {w : World} {x : Value} {l : List O} {vs : List Value} {fp : List Nat} (hx : x.oneCell' = true) (h : OL.holds X w l vs fp) : OL.holds X w (.d (.v x) :: l) (x :: vs) fp := by
  simp only [OL.holds, O.holds, D.holds]
  exact ⟨[], fp, rfl, ⟨⟨trivial, hx⟩, rfl⟩, h⟩
theorem OL.last {X : Nat → Prop} {w : World} {o : O} {vs : List Value} {fp : List Nat} (h : OL.holds X w [o] vs fp) : ∃ v, vs = [v] ∧ O.holds X w o v fp := by
  match vs, h with
  | [], h => simp [OL.holds] at h
  | [v], h =>
    simp only [OL.holds] at h
    obtain ⟨f, g, rfl, h1, rfl⟩ := h
    exact ⟨v, rfl, by simpa using h1⟩
  | _ :: _ :: _, h => simp [OL.holds] at h
theorem OL.one {X : Nat → Prop} {w : World} {o : O} {v : Value} {fp : List Nat} (h : O.holds X w o v fp) : OL.holds X w [o] [v] fp := by
  simp only [OL.holds]
  exact ⟨fp, [], by simp, h, rfl⟩
end Go.Z
namespace Go.Proofs.Ytlbfenfepmmihaa
open Go.Proofs Go.ZM Go.ZR
open Go.RowKit Go.Z
set_option maxHeartbeats 2000000 in
theorem ok102 : FnIs Try.prog 102 ownC := by
  refine ⟨fun w A args vs fp hA hnd hlt hpre _ => ?_, entersOk Try.func102 (by kernel_rfl) (by kernel_rfl)⟩
  obtain ⟨t, c, rfl⟩ := hpre
  have hA0 := hA
  obtain ⟨v, hv1, hA1⟩ := OL.last hA
  subst hv1
  have hA2 : O.holds (fun b => A b ∧ b ∉ fp) w (.agg [.d (.v (.int .i64 0)), .d (.v (.int .u32 0)), .d (.v (.int .i64 t)), .d (.v (.int .i64 0)), .d (.v (.int .i64 0)), .d (.v (.bool false)), .d (.v (.bool false)), .d (.v (.bool false)), .d (.v (.bool false)), .d (.v (.int .u32 0)), .d (.v (.int .u32 0)), .d (.v (.int .u32 0)), .d (.v (.int .u32 0)), .rsl 123 1 [.d (.v (.int .u32 1)), .d (.v (.int .u32 0)), .d (.v (.bool false)), .d (.v (.bool false)), .own 5 (.ints .u8 [c])]]) v fp := hA1
  clear hA1
  rw [O.holds] at hA2
  obtain ⟨us, hv, hu0⟩ := hA2
  obtain ⟨s0, he0, hu1⟩ := OL.peel hu0
  obtain ⟨s1, he1, hu2⟩ := OL.peel hu1
  obtain ⟨s2, he2, hu3⟩ := OL.peel hu2
  obtain ⟨s3, he3, hu4⟩ := OL.peel hu3
  obtain ⟨s4, he4, hu5⟩ := OL.peel hu4
  obtain ⟨s5, he5, hu6⟩ := OL.peel hu5
  obtain ⟨s6, he6, hu7⟩ := OL.peel hu6
  obtain ⟨s7, he7, hu8⟩ := OL.peel hu7
  obtain ⟨s8, he8, hu9⟩ := OL.peel hu8
  obtain ⟨s9, he9, hu10⟩ := OL.peel hu9
  obtain ⟨s10, he10, hu11⟩ := OL.peel hu10
  obtain ⟨s11, he11, hu12⟩ := OL.peel hu11
  obtain ⟨s12, he12, hu13⟩ := OL.peel hu12
  obtain ⟨v13, he13, hu14⟩ := OL.last hu13
  subst he13 he12 he11 he10 he9 he8 he7 he6 he5 he4 he3 he2 he1 he0 hv
  rw [O.holds] at hu14
  obtain ⟨b, us, hv13, ⟨hAb, hbf⟩, hb, hw0⟩ := hu14
  obtain ⟨s0, he0, hw1⟩ := OL.peel hw0
  obtain ⟨s1, he1, hw2⟩ := OL.peel hw1
  obtain ⟨s2, he2, hw3⟩ := OL.peel hw2
  obtain ⟨s3, he3, hw4⟩ := OL.peel hw3
  obtain ⟨v4, he4, hw5⟩ := OL.last hw4
  subst he4 he3 he2 he1 he0 hv13
  rw [O.holds] at hw5
  obtain ⟨L, hvL, hwf, hat, hfp⟩ := hw5
  subst hvL
  obtain ⟨l1, l2, l3⟩ := hat
  simp only [List.length_cons, List.length_nil] at l1
  have hcap : L.cap ≠ 0 := by omega
  obtain ⟨_, rfl, cs, hcs, hsz⟩ := hfp.resolve_left (fun h => hcap h.1)
  have ha : L.a = some ⟨L.b, L.o, none⟩ := hwf.resolve_left hcap
  have hLv : L.val = .slice (some ⟨L.b, L.o, none⟩) 1 L.cap := by unfold Loc.val; rw [ha, l1]
  have hc : w.cell? ⟨L.b, L.o, none⟩ = some (.int .u8 c) := by simpa using l3 0 c rfl
  rw [hLv] at hb
  have hblt : b < w.heap.size := (Array.getElem?_eq_some_iff.1 hb).1
  have hd {j : Nat} {u : Value} (h : [.int .u32 1, .int .u32 0, .bool false, .bool false, .slice (some ⟨L.b, L.o, none⟩) 1 L.cap][j]? = some u) : w.cell? ⟨b, 0 + j, none⟩ = some u := by simp only [World.cell?, hb]; simpa using h
  refine (Try.own102 b 0 ⟨L.b, L.o, none⟩ 1 L.cap t c 1 0 w (hd (j := 0) rfl) (hd (j := 1) rfl) (hd (j := 2) rfl) (hd (j := 3) rfl) (hd (j := 4) rfl) hc).mono ?_
  rintro e W' ⟨g, cg, g', cg', rfl, q1, q2, q3, q4, q5, q6, q7, q8, q9, q10, q11, q12, hB⟩
  have hLlt : L.b < w.heap.size := hlt _ (by simp)
  refine ⟨[.agg #[.int .i64 0, .int .u32 0, .int .i64 t, .int .i64 0, .int .i64 0, .bool false, .bool false, .bool false, .bool false, .int .u32 0, .int .u32 0, .int .u32 0, .int .u32 0, .slice (some ⟨g, 0, none⟩) 1 cg]], [L.b], [], rfl, ⟨hB.os, hB.tape, hB.output, hB.size, fun k hk _ => hB.block k hk⟩, by simp, fun k hk => .inl (by simpa using hk), ?_, ?_⟩
  · exact OL.holds_mono (fun k hk hX => ⟨⟨.inr (.inl hX.1), by simpa using hX.2⟩, hB.block k hk⟩) _ _ _ (fun k hk => hB.block k (by simp at hk; omega)) hA0
  · have hD : (D.recs 5 1 (avCell c)).holds (After w A [L.b] ([L.b] ++ [])) W' (.slice (some ⟨g, 0, none⟩) 1 cg) := by
      refine D.holds_recs.2 ⟨⟨some ⟨g, 0, none⟩, 1, cg⟩, rfl, .inr rfl, fun _ => ⟨⟨.inl q1, fun he => by have he' : g = L.b := List.mem_singleton.1 he; omega⟩, q3⟩, rfl, q5, fun i hi j hj => ?_⟩
      obtain rfl : i = 0 := by omega
      match j, hj with
      | 0, _ => exact ⟨_, q7, rfl, rfl⟩
      | 1, _ => exact ⟨_, q8, rfl, rfl⟩
      | 2, _ => exact ⟨_, q9, rfl, rfl⟩
      | 3, _ => exact ⟨_, q10, rfl, rfl⟩
      | 4, _ =>
        refine ⟨_, q11, D.holds_ints.2 ⟨⟨some ⟨g', 0, none⟩, 1, cg'⟩, rfl, .inr rfl, fun _ => ⟨⟨.inl q2, fun he => by have he' : g' = L.b := List.mem_singleton.1 he; omega⟩, q4⟩, rfl, q6, fun i z hz => ?_⟩⟩
        match i, hz with
        | 0, hz => simp at hz; subst hz; exact q12
        | i + 1, hz => simp at hz
    refine OL.one (X := After w A [L.b] ([L.b] ++ [])) (fp := []) ?_
    show O.holds _ _ (wtR t c) _ _
    unfold wtR wtH iO bO
    simp only [O.holds]
    refine ⟨_, rfl, ?_⟩
    iterate 13 refine OL.put (by simp [Value.oneCell']) ?_
    exact OL.one (by simp only [O.holds]; exact ⟨hD, trivial⟩)
end Go.Proofs.Ytlbfenfepmmihaa
