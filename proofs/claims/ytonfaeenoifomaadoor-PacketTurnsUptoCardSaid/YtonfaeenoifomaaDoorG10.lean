/- Part 10 of what the closing text rests on. -/
import Derived.Test.YtonfaeenoifomaaDoorG9
import Derived.JoinedCond
import Derived.OpenShut
import Derived.Lib.LaidTab
import Derived.Deep.DeepHandedRow
/- The packets' statements' arguments, opened. -/
set_option maxRecDepth 100000
namespace Go.ZR
open Go.Proofs
open Go.ChangeShapes Go.WideShapes Go.ChangeAt Go.RowKit
open Go.Z Go.ZM

theorem ol_consO {X : Nat → Prop} {w : World} {o : O} {v : Value} {l : List O} {vs : List Value} (h : O.holds X w o v []) (t : OL.holds X w l vs []) : OL.holds X w (o :: l) (v :: vs) [] := by
  simp only [OL.holds]; exact ⟨[], [], rfl, h, t⟩
theorem o_d {X : Nat → Prop} {w : World} {d : D} {v : Value} (h : d.holds X w v) : O.holds X w (.d d) v [] := by
  simp only [O.holds]; exact ⟨h, trivial⟩
theorem o_agg {X : Nat → Prop} {w : World} {ds : List D} {us : List Value} (h : DL.holds X w ds us) : O.holds X w (.agg (ds.map .d)) (.agg us.toArray) [] := by
  simp only [O.holds]; exact ⟨us, rfl, ol_ds h⟩
theorem range_get {α : Type} (n : Nat) (F : Nat → α) (d : α) {i : Nat} (hi : i < n) : ((List.range n).map F).getD i d = F i := by
  simp [List.getD, hi]
theorem u8_in {n : Int} (h : IntKind.u8.min ≤ n ∧ n ≤ IntKind.u8.max) : 0 ≤ n ∧ n ≤ 255 := h

theorem recs_chs {N n : Nat} {f : Nat → Nat → D} (hN : N ≤ 1048576) (hn : n ≤ N) (h : ∀ i, i < n → fitsL N [.int .u8, .int .u8, .ints .u8] (f i)) :
    ∃ l : List ChR, readsTo (.recs 3 n f) (chsD l) ∧ okChs l ∧ okCB l := by
  have key : ∀ c, c ∈ (List.range n).map (fun i => chAt (f i)) → ((0 ≤ c.t ∧ c.t ≤ 255) ∧ (0 ≤ c.f ∧ c.f ≤ 255) ∧ okB c.v) ∧ sm c.v.length := fun c hc => by
    obtain ⟨i, hi, rfl⟩ := List.mem_map.1 hc
    have hf := h i (by simpa using hi)
    simp only [fitsL, fits] at hf
    obtain ⟨⟨x0, e0, r0⟩, ⟨x1, e1, r1⟩, ⟨x2, e2, r2, l2⟩, _⟩ := hf
    simp only [chAt, e0, e1, e2, vi, vl]
    exact ⟨⟨u8_in r0, u8_in r1, fun y hy => u8_in (r2 y hy)⟩, by unfold sm; omega⟩
  refine ⟨(List.range n).map fun i => chAt (f i), ?_, ⟨by simp; omega, fun c hc => (key c hc).2⟩, fun c hc => (key c hc).1⟩
  have hl : ((List.range n).map fun i => chAt (f i)).length = n := by simp
  show readsTo (.recs 3 n f) (.recs 3 ((List.range n).map fun i => chAt (f i)).length (chCell ((List.range n).map fun i => chAt (f i))))
  rw [hl]
  refine reads_recs fun i hi j hj => ?_
  have hf := h i hi
  simp only [fitsL, fits] at hf
  obtain ⟨⟨x0, e0, _⟩, ⟨x1, e1, _⟩, ⟨x2, e2, _⟩, _⟩ := hf
  unfold chCell
  rw [range_get n _ _ hi]
  match j, hj with
  | 0, _ => simp only [chAt, e0, vi]
  | 1, _ => simp only [chAt, e1, vi]
  | 2, _ => simp only [chAt, e2, vl]

section
variable {H : Type} {enc : TypeId × Value → H} {W : World}
theorem slice_cells {t e : TypeId} {b0 : Nat} {r : Reach} {v : Value} (he : Tryd.prog.underlying t = some (.slice e)) (hv : Value.okWide Tryd.prog W r b0 t v) : v.cells.toList = [v] := by
  obtain ⟨a, l, c, rfl⟩ := okWide_slice he hv
  rfl
theorem struct_cells {t : TypeId} {fs : Array Field} {b0 : Nat} {r : Reach} {v : Value} (he : Tryd.prog.underlying t = some (.struct fs)) (hv : Value.okWide Tryd.prog W r b0 t v) : v = .agg v.cells.toList.toArray := by
  obtain ⟨cs, rfl, _⟩ := okWide_struct he hv
  simp [Value.cells]
theorem int_cells {t : TypeId} {k : IntKind} {b0 : Nat} {r : Reach} {v : Value} (he : Tryd.prog.underlying t = some (.int k)) (hv : Value.okWide Tryd.prog W r b0 t v) : v.cells.toList = [v] := by
  obtain ⟨n, rfl⟩ := okWide_int he hv
  rfl
theorem bool_cells {t : TypeId} {b0 : Nat} {r : Reach} {v : Value} (he : Tryd.prog.underlying t = some .bool) (hv : Value.okWide Tryd.prog W r b0 t v) : v.cells.toList = [v] := by
  obtain ⟨n, rfl⟩ := okWide_bool he hv
  rfl
/-- An argument of one cell. -/
theorem open_one {t : TypeId} {s : Sh} {v : Value} {d : DataW H} {ps : List MemPlace} {base N : Nat} (hc : v.cells.toList = [v]) (hfl : flat Tryd.prog 8 t = some [s]) (h : DataW.Trod enc Tryd.prog W base (fun _ => true) true t v d ps) (hb : Bnd N d) :
    ∃ a : D, fits N s a ∧ a.holds (fun _ => True) W v := by
  obtain ⟨fuel, hf⟩ := h
  rw [hc] at hf
  obtain ⟨ds, h1, h2, h3⟩ := deep 8 t fuel _ _ _ N hf hfl hb
  match ds, h1 with
  | [a0], _ =>
    simp only [fitsL, List.getD_cons_zero] at h2
    exact ⟨a0, h2.1, h3.1⟩
/-- An argument of a struct's type. -/
theorem open_many {t : TypeId} {shs : List Sh} {v : Value} {d : DataW H} {ps : List MemPlace} {base N : Nat} (hc : v = .agg v.cells.toList.toArray) (hfl : flat Tryd.prog 8 t = some shs) (h : DataW.Trod enc Tryd.prog W base (fun _ => true) true t v d ps) (hb : Bnd N d) :
    ∃ ds : List D, ds.length = shs.length ∧ fitsL N shs (fun j => ds.getD j (.v undef)) ∧ O.holds (fun _ => True) W (.agg (ds.map .d)) v [] := by
  obtain ⟨fuel, hf⟩ := h
  obtain ⟨ds, h1, h2, h3⟩ := deep 8 t fuel _ _ _ N hf hfl hb
  exact ⟨ds, h1, h2, by rw [hc]; exact o_agg h3⟩

theorem flat31 : flat Tryd.prog 8 31 = some [.int .u16, .int .u16, .int .u32, .recs [.int .u8, .int .u8, .ints .u8]] := by kernel_rfl
theorem flat26 : flat Tryd.prog 8 26 = some [.ints .u8] := by kernel_rfl
theorem flat5 : flat Tryd.prog 8 5 = some [.int .u8] := by kernel_rfl
theorem flat22 : flat Tryd.prog 8 22 = some [.int .u32] := by kernel_rfl
theorem flat25 : flat Tryd.prog 8 25 = some [.int .u16] := by kernel_rfl

theorem open31 {b0 : Nat} {r : Reach} {v : Value} {d : DataW H} {ps : List MemPlace} {base : Nat} (hv : Value.okWide Tryd.prog W r b0 31 v) (h : DataW.Trod enc Tryd.prog W base (fun _ => true) true 31 v d ps) (hb : Bnd 1048576 d) :
    ∃ p : PacR, okPac p ∧ O.holds (fun _ => True) W (pacO p) v [] := by
  obtain ⟨ds, h1, h2, h3⟩ := open_many (struct_cells Tryd.underlying31 hv) flat31 h hb
  match ds, h1 with
  | [a0, a1, a2, a3], _ =>
    simp only [fitsL, fits, List.getD_cons_zero, List.getD_cons_succ] at h2
    obtain ⟨⟨x0, rfl, r0⟩, ⟨x1, rfl, r1⟩, ⟨x2, rfl, r2⟩, ⟨n, f, rfl, hn, hfs⟩, _⟩ := h2
    obtain ⟨l, l1, l2⟩ := recs_chs (Nat.le_refl _) hn hfs
    refine ⟨⟨x0, x1, x2, l⟩, ⟨r0, r1, r2, l2⟩, ?_⟩
    simp only [O.holds] at h3 ⊢
    obtain ⟨us, rfl, h4⟩ := h3
    refine ⟨us, rfl, ?_⟩
    match us, h4 with
    | [], h4 => simp [OL.holds] at h4
    | [_], h4 => simp [OL.holds] at h4
    | [_, _], h4 => simp [OL.holds] at h4
    | [_, _, _], h4 => simp [OL.holds] at h4
    | _ :: _ :: _ :: _ :: _ :: _, h4 => simp [OL.holds] at h4
    | [u0, u1, u2, u3], h4 =>
      simp only [List.map_cons, List.map_nil, OL.holds, O.holds] at h4
      obtain ⟨_, _, e, ⟨g0, rfl⟩, _, _, e1, ⟨g1, rfl⟩, _, _, e2, ⟨g2, rfl⟩, _, _, e3, ⟨g3, rfl⟩, _⟩ := h4
      exact ol_consO (o_d g0) (ol_consO (o_d g1) (ol_consO (o_d g2) (ol_consO (o_d (l1 _ _ _ g3)) ol_nil)))
theorem open26 {b0 : Nat} {r : Reach} {v : Value} {d : DataW H} {ps : List MemPlace} {base : Nat} (hv : Value.okWide Tryd.prog W r b0 26 v) (h : DataW.Trod enc Tryd.prog W base (fun _ => true) true 26 v d ps) (hb : Bnd 1048576 d) :
    ∃ l : List Int, (l.length ≤ 1048576 ∧ okB l) ∧ O.holds (fun _ => True) W (bsO l) v [] := by
  obtain ⟨a, h2, h3⟩ := open_one (slice_cells Tryd.underlying26 hv) flat26 h hb
  simp only [fits] at h2
  obtain ⟨l, rfl, hx, hl⟩ := h2
  exact ⟨l, ⟨hl, fun x h => u8_in (hx x h)⟩, o_d h3⟩
theorem open5 {b0 : Nat} {r : Reach} {v : Value} {d : DataW H} {ps : List MemPlace} {base : Nat} (hv : Value.okWide Tryd.prog W r b0 5 v) (h : DataW.Trod enc Tryd.prog W base (fun _ => true) true 5 v d ps) (hb : Bnd 1048576 d) :
    ∃ n : Int, (0 ≤ n ∧ n ≤ 255) ∧ O.holds (fun _ => True) W (iO .u8 n) v [] := by
  obtain ⟨a, h2, h3⟩ := open_one (int_cells Tryd.underlying5 hv) flat5 h hb
  simp only [fits] at h2
  obtain ⟨n, rfl, hn⟩ := h2
  exact ⟨n, u8_in hn, o_d h3⟩
theorem open22 {b0 : Nat} {r : Reach} {v : Value} {d : DataW H} {ps : List MemPlace} {base : Nat} (hv : Value.okWide Tryd.prog W r b0 22 v) (h : DataW.Trod enc Tryd.prog W base (fun _ => true) true 22 v d ps) (hb : Bnd 1048576 d) :
    ∃ n : Int, (0 ≤ n ∧ n ≤ 4294967295) ∧ O.holds (fun _ => True) W (iO .u32 n) v [] := by
  obtain ⟨a, h2, h3⟩ := open_one (int_cells Tryd.underlying22 hv) flat22 h hb
  simp only [fits] at h2
  obtain ⟨n, rfl, hn⟩ := h2
  exact ⟨n, hn, o_d h3⟩
theorem open25 {b0 : Nat} {r : Reach} {v : Value} {d : DataW H} {ps : List MemPlace} {base : Nat} (hv : Value.okWide Tryd.prog W r b0 25 v) (h : DataW.Trod enc Tryd.prog W base (fun _ => true) true 25 v d ps) (hb : Bnd 1048576 d) :
    ∃ n : Int, (0 ≤ n ∧ n ≤ 65535) ∧ O.holds (fun _ => True) W (iO .u16 n) v [] := by
  obtain ⟨a, h2, h3⟩ := open_one (int_cells Tryd.underlying25 hv) flat25 h hb
  simp only [fits] at h2
  obtain ⟨n, rfl, hn⟩ := h2
  exact ⟨n, hn, o_d h3⟩
end
end Go.ZR
namespace Go.Proofs.YtonfaeenoifomaaDoor
open Go.RowKit
open Go.Z Go.ZM Go.ZR
theorem Tryd.own : ownKnob Tryd.prog.godebug = none := by kernel_rfl
theorem Tryd.laidOut : laidOutB Tryd.prog = true := by kernel_rfl
theorem bulk_in {H : Type} {d : DataW H} {ds : List (DataW H)} (hk : Rows.uptoSmall H (ds ++ []) = true) (hd : d ∈ ds) : Bnd 1048576 d := by
  have h := of_decide_eq_true hk
  rw [List.append_nil] at h
  exact .inl (Nat.le_trans (bulk_mem hd) h)
theorem gTab : Tryd.prog.globalNamed "math/bits.deBruijn32tab" = some 0 := by kernel_rfl
theorem gTabType : (Tryd.prog.globals[0]?).map (·.type) = some 80 := by kernel_rfl
theorem cells80 : Tryd.prog.cellsOf 80 = 32 := by kernel_rfl
theorem cells5 : Tryd.prog.cellsOf 5 = 1 := by kernel_rfl
/-- The table's cells, out of the row's list. -/
theorem table {W : World} (h : laidMetH Tryd.prog [("math/bits.deBruijn32tab", Rows.laid_math_bits_deBruijn32tab)] W) : GOK deG (fun _ => True) W [] := by
  have t : Lib.TabIs Tryd.prog W "math/bits.deBruijn32tab" .u8 deTab := Lib.tabIs_of_head (rest := []) gTab gTabType Tryd.underlying80 Tryd.underlying5 cells5 cells80 h
  intro x hx
  obtain rfl := List.mem_singleton.1 hx
  refine ⟨trivial, List.not_mem_nil, lt_of_cell (t.cell gTab 0 (by decide)), fun i z hz => ?_⟩
  have hi : i < deTab.length := by
    rcases Nat.lt_or_ge i deTab.length with h | h
    · exact h
    · rw [List.getElem?_eq_none h] at hz; cases hz
  have := t.cell gTab i hi
  rw [this, show deTab.getD i 0 = z by simp [List.getD, hz]]
/-- A world for the witness. -/
noncomputable def laidWorld (os : Os) : World :=
  { World.holding Tryd.prog os ⟨#[], #[], []⟩ with heap := (World.holding Tryd.prog os ⟨#[], #[], []⟩).heap.modify 0 fun
      | .cells _ t frozen => .cells (deTab.map (Value.int .u8)).toArray t frozen
      | o => o }
end Go.Proofs.YtonfaeenoifomaaDoor
