/- Part 10 of what the closing text rests on. -/
import Derived.Test.YtonfaeenoifomaaKG9
import Derived.JoinedCond
import Derived.OpenShut
/- The cookies' statements' arguments, opened. -/
set_option maxRecDepth 100000
namespace Go.ZR
open Go.Proofs
open Go.ChangeShapes Go.WideShapes Go.ChangeAt Go.RowKit
open Go.Z Go.ZM

theorem ol_consO {X : Nat → Prop} {w : World} {o : O} {v : Value} {l : List O} {vs : List Value} (h : O.holds X w o v []) (t : OL.holds X w l vs []) : OL.holds X w (o :: l) (v :: vs) [] := by
  simp only [OL.holds]; exact ⟨[], [], rfl, h, t⟩
theorem o_d {X : Nat → Prop} {w : World} {d : D} {v : Value} (h : d.holds X w v) : O.holds X w (.d d) v [] := by
  simp only [O.holds]; exact ⟨h, trivial⟩
theorem o_agg {X : Nat → Prop} {w : World} {ds : List D} {us : List Value} (h : DL.holds X w ds us) : O.holds X w (.agg (ds.map .d)) (.agg us.toArray) [] := by
  simp only [O.holds]; exact ⟨us, rfl, ol_ds h⟩
theorem u8_in {n : Int} (h : IntKind.u8.min ≤ n ∧ n ≤ IntKind.u8.max) : 0 ≤ n ∧ n ≤ 255 := h

section
variable {H : Type} {enc : TypeId × Value → H} {W : World}
theorem slice_cells {t e : TypeId} {b0 : Nat} {r : Reach} {v : Value} (he : Try.prog.underlying t = some (.slice e)) (hv : Value.okWide Try.prog W r b0 t v) : v.cells.toList = [v] := by
  obtain ⟨a, l, c, rfl⟩ := okWide_slice he hv
  rfl
theorem struct_cells {t : TypeId} {fs : Array Field} {b0 : Nat} {r : Reach} {v : Value} (he : Try.prog.underlying t = some (.struct fs)) (hv : Value.okWide Try.prog W r b0 t v) : v = .agg v.cells.toList.toArray := by
  obtain ⟨cs, rfl, _⟩ := okWide_struct he hv
  simp [Value.cells]
theorem int_cells {t : TypeId} {k : IntKind} {b0 : Nat} {r : Reach} {v : Value} (he : Try.prog.underlying t = some (.int k)) (hv : Value.okWide Try.prog W r b0 t v) : v.cells.toList = [v] := by
  obtain ⟨n, rfl⟩ := okWide_int he hv
  rfl
theorem bool_cells {t : TypeId} {b0 : Nat} {r : Reach} {v : Value} (he : Try.prog.underlying t = some .bool) (hv : Value.okWide Try.prog W r b0 t v) : v.cells.toList = [v] := by
  obtain ⟨n, rfl⟩ := okWide_bool he hv
  rfl
/-- An argument of one cell. -/
theorem open_one {t : TypeId} {s : Sh} {v : Value} {d : DataW H} {ps : List MemPlace} {base N : Nat} (hc : v.cells.toList = [v]) (hfl : flat Try.prog 8 t = some [s]) (h : DataW.Trod enc Try.prog W base (fun _ => true) true t v d ps) (hb : Bnd N d) :
    ∃ a : D, fits N s a ∧ a.holds (fun _ => True) W v := by
  obtain ⟨fuel, hf⟩ := h
  rw [hc] at hf
  obtain ⟨ds, h1, h2, h3⟩ := deep 8 t fuel _ _ _ N hf hfl hb
  match ds, h1 with
  | [a0], _ =>
    simp only [fitsL, List.getD_cons_zero] at h2
    exact ⟨a0, h2.1, h3.1⟩
/-- An argument of a struct's type. -/
theorem open_many {t : TypeId} {shs : List Sh} {v : Value} {d : DataW H} {ps : List MemPlace} {base N : Nat} (hc : v = .agg v.cells.toList.toArray) (hfl : flat Try.prog 8 t = some shs) (h : DataW.Trod enc Try.prog W base (fun _ => true) true t v d ps) (hb : Bnd N d) :
    ∃ ds : List D, ds.length = shs.length ∧ fitsL N shs (fun j => ds.getD j (.v undef)) ∧ O.holds (fun _ => True) W (.agg (ds.map .d)) v [] := by
  obtain ⟨fuel, hf⟩ := h
  obtain ⟨ds, h1, h2, h3⟩ := deep 8 t fuel _ _ _ N hf hfl hb
  exact ⟨ds, h1, h2, by rw [hc]; exact o_agg h3⟩

theorem flat23 : flat Try.prog 8 23 = some [.ints .u8] := by kernel_rfl
theorem flat5 : flat Try.prog 8 5 = some [.int .u8] := by kernel_rfl
theorem flat31 : flat Try.prog 8 31 = some [.int .u32] := by kernel_rfl

theorem open23 {b0 : Nat} {r : Reach} {v : Value} {d : DataW H} {ps : List MemPlace} {base : Nat} (hv : Value.okWide Try.prog W r b0 23 v) (h : DataW.Trod enc Try.prog W base (fun _ => true) true 23 v d ps) (hb : Bnd 1048576 d) :
    ∃ l : List Int, (l.length ≤ 1048576 ∧ okB l) ∧ O.holds (fun _ => True) W (bsO l) v [] := by
  obtain ⟨a, h2, h3⟩ := open_one (slice_cells Try.underlying23 hv) flat23 h hb
  simp only [fits] at h2
  obtain ⟨l, rfl, hx, hl⟩ := h2
  exact ⟨l, ⟨hl, fun x h => u8_in (hx x h)⟩, o_d h3⟩
theorem open5 {b0 : Nat} {r : Reach} {v : Value} {d : DataW H} {ps : List MemPlace} {base : Nat} (hv : Value.okWide Try.prog W r b0 5 v) (h : DataW.Trod enc Try.prog W base (fun _ => true) true 5 v d ps) (hb : Bnd 1048576 d) :
    ∃ n : Int, (0 ≤ n ∧ n ≤ 255) ∧ O.holds (fun _ => True) W (iO .u8 n) v [] := by
  obtain ⟨a, h2, h3⟩ := open_one (int_cells Try.underlying5 hv) flat5 h hb
  simp only [fits] at h2
  obtain ⟨n, rfl, hn⟩ := h2
  exact ⟨n, u8_in hn, o_d h3⟩
theorem open31 {b0 : Nat} {r : Reach} {v : Value} {d : DataW H} {ps : List MemPlace} {base : Nat} (hv : Value.okWide Try.prog W r b0 31 v) (h : DataW.Trod enc Try.prog W base (fun _ => true) true 31 v d ps) (hb : Bnd 1048576 d) :
    ∃ n : Int, (0 ≤ n ∧ n ≤ 4294967295) ∧ O.holds (fun _ => True) W (iO .u32 n) v [] := by
  obtain ⟨a, h2, h3⟩ := open_one (int_cells Try.underlying31 hv) flat31 h hb
  simp only [fits] at h2
  obtain ⟨n, rfl, hn⟩ := h2
  exact ⟨n, hn, o_d h3⟩
theorem flat69 : flat Try.prog 8 69 = some [.int .u64] := by kernel_rfl
theorem flat33 : flat Try.prog 8 33 = some [.int .i64, .int .u32, .int .u32, .int .u32, .int .u32, .int .u32, .int .u32, .int .u32] := by kernel_rfl
theorem open69 {b0 : Nat} {r : Reach} {v : Value} {d : DataW H} {ps : List MemPlace} {base : Nat} (hv : Value.okWide Try.prog W r b0 69 v) (h : DataW.Trod enc Try.prog W base (fun _ => true) true 69 v d ps) (hb : Bnd 1048576 d) :
    ∃ n : Int, True ∧ O.holds (fun _ => True) W (iO .u64 n) v [] := by
  obtain ⟨a, h2, h3⟩ := open_one (int_cells Try.underlying69 hv) flat69 h hb
  simp only [fits] at h2
  obtain ⟨n, rfl, _⟩ := h2
  exact ⟨n, trivial, o_d h3⟩
theorem open33 {b0 : Nat} {r : Reach} {v : Value} {d : DataW H} {ps : List MemPlace} {base : Nat} (hv : Value.okWide Try.prog W r b0 33 v) (h : DataW.Trod enc Try.prog W base (fun _ => true) true 33 v d ps) (hb : Bnd 1048576 d) :
    ∃ c : CruR, okCru c ∧ O.holds (fun _ => True) W (cruO c) v [] := by
  obtain ⟨ds, h1, h2, h3⟩ := open_many (struct_cells Try.underlying33 hv) flat33 h hb
  match ds, h1 with
  | [a0, a1, a2, a3, a4, a5, a6, a7], _ =>
    simp only [fitsL, fits, List.getD_cons_zero, List.getD_cons_succ] at h2
    obtain ⟨⟨x0, rfl, r0⟩, ⟨x1, rfl, r1⟩, ⟨x2, rfl, r2⟩, ⟨x3, rfl, r3⟩, ⟨x4, rfl, r4⟩, ⟨x5, rfl, r5⟩, ⟨x6, rfl, r6⟩, ⟨x7, rfl, r7⟩, _⟩ := h2
    exact ⟨⟨x0, x1, x2, x3, x4, x5, x6, x7⟩, ⟨r0, r1, r2, r3, r4, r5, r6, r7⟩, h3⟩
end
end Go.ZR
namespace Go.Proofs.Ytonfaeenoifomaa
open Go.RowKit
open Go.Z Go.ZM Go.ZR
theorem Try.own : ownKnob Try.prog.godebug = none := by kernel_rfl
theorem Try.laidOut : laidOutB Try.prog = true := by kernel_rfl
theorem bulk_in {H : Type} {d : DataW H} {ds : List (DataW H)} (hk : Rows.uptoSmall H (ds ++ []) = true) (hd : d ∈ ds) : Bnd 1048576 d := by
  have h := of_decide_eq_true hk
  rw [List.append_nil] at h
  exact .inl (Nat.le_trans (bulk_mem hd) h)
end Go.Proofs.Ytonfaeenoifomaa
