/- Part 35 of what the closing text rests on. -/
import Derived.Test.YtlbfenfepmmihaaI10
import Derived.Test.YtlbfenfepmmihaaI11
import Derived.Test.YtlbfenfepmmihaaI31
import Derived.Test.YtlbfenfepmmihaaI34
import Derived.JoinedCond
import Derived.OpenShut
import Derived.Test.YtlbfenfepmmihaaRows
set_option maxRecDepth 100000
namespace Go.ZR
open Go.Proofs
open Go.ChangeShapes Go.WideShapes Go.ChangeAt Go.RowKit
open Go.Z Go.ZM

theorem ol_consO {X : Nat → Prop} {w : World} {o : O} {v : Value} {l : List O} {vs : List Value} (h : O.holds X w o v []) (t : OL.holds X w l vs []) : OL.holds X w (o :: l) (v :: vs) [] := by
  simp only [OL.holds]; exact ⟨[], [], rfl, h, t⟩
theorem o_d {X : Nat → Prop} {w : World} {d : D} {v : Value} (h : d.holds X w v) : O.holds X w (.d d) v [] := by
  simp only [O.holds]; exact ⟨h, trivial⟩
theorem range_get {α : Type} (n : Nat) (F : Nat → α) (d : α) {i : Nat} (hi : i < n) : ((List.range n).map F).getD i d = F i := by
  simp [List.getD, hi]
theorem u8_in {n : Int} (h : IntKind.u8.min ≤ n ∧ n ≤ IntKind.u8.max) : 0 ≤ n ∧ n ≤ 255 := h

section
variable {H : Type} {enc : TypeId × Value → H} {W : World}
theorem slice_cells {t e : TypeId} {b0 : Nat} {r : Reach} {v : Value} (he : Try.prog.underlying t = some (.slice e)) (hv : Value.okWide Try.prog W r b0 t v) : v.cells.toList = [v] := by
  obtain ⟨a, l, c, rfl⟩ := okWide_slice he hv
  rfl
theorem int_cells {t : TypeId} {k : IntKind} {b0 : Nat} {r : Reach} {v : Value} (he : Try.prog.underlying t = some (.int k)) (hv : Value.okWide Try.prog W r b0 t v) : v.cells.toList = [v] := by
  obtain ⟨n, rfl⟩ := okWide_int he hv
  rfl
theorem open_one {t : TypeId} {s : Sh} {v : Value} {d : DataW H} {ps : List MemPlace} {base N : Nat} (hc : v.cells.toList = [v]) (hfl : flat Try.prog 8 t = some [s]) (h : DataW.Trod enc Try.prog W base (fun _ => true) true t v d ps) (hb : Bnd N d) :
    ∃ a : D, fits N s a ∧ a.holds (fun _ => True) W v := by
  obtain ⟨fuel, hf⟩ := h
  rw [hc] at hf
  obtain ⟨ds, h1, h2, h3⟩ := deep 8 t fuel _ _ _ N hf hfl hb
  match ds, h1 with
  | [a0], _ =>
    simp only [fitsL, List.getD_cons_zero] at h2
    exact ⟨a0, h2.1, h3.1⟩
theorem flat5 : flat Try.prog 8 5 = some [.int .u8] := by kernel_rfl
theorem open5 {b0 : Nat} {r : Reach} {v : Value} {d : DataW H} {ps : List MemPlace} {base : Nat} (hv : Value.okWide Try.prog W r b0 5 v) (h : DataW.Trod enc Try.prog W base (fun _ => true) true 5 v d ps) (hb : Bnd 1048576 d) :
    ∃ n : Int, (0 ≤ n ∧ n ≤ 255) ∧ O.holds (fun _ => True) W (iO .u8 n) v [] := by
  obtain ⟨a, h2, h3⟩ := open_one (int_cells Try.underlying5 hv) flat5 h hb
  simp only [fits] at h2
  obtain ⟨n, rfl, hn⟩ := h2
  exact ⟨n, u8_in hn, o_d h3⟩
end
end Go.ZR
namespace Go.Proofs.Ytlbfenfepmmihaa
open Go.RowKit
open Go.Z Go.ZM Go.ZR
theorem Try.own : ownKnob Try.prog.godebug = none := by kernel_rfl
theorem Try.laidOut : laidOutB Try.prog = true := by kernel_rfl
theorem bulk_in {H : Type} {d : DataW H} {ds : List (DataW H)} (hk : Rows.uptoSmall H (ds ++ []) = true) (hd : d ∈ ds) : Bnd 1048576 d := by
  have h := of_decide_eq_true hk
  rw [List.append_nil] at h
  exact .inl (Nat.le_trans (bulk_mem hd) h)
end Go.Proofs.Ytlbfenfepmmihaa

set_option maxRecDepth 100000
namespace Go.ZR
open Go.Proofs
open Go.ChangeShapes Go.WideShapes Go.ChangeAt Go.RowKit
open Go.Z Go.ZM
theorem recs_mvs {N n : Nat} {f : Nat → Nat → D} (h : ∀ i, i < n → fitsL N [.int .i64, .int .i64, .int .i64] (f i)) :
    ∃ l : List MvR, l.length = n ∧ readsTo (.recs 3 n f) (mvsD l) := by
  refine ⟨(List.range n).map fun i => ⟨vi (f i 0), vi (f i 1), vi (f i 2)⟩, by simp, ?_⟩
  have hl : ((List.range n).map fun i => (⟨vi (f i 0), vi (f i 1), vi (f i 2)⟩ : MvR)).length = n := by simp
  show readsTo (.recs 3 n f) (.recs 3 ((List.range n).map fun i => (⟨vi (f i 0), vi (f i 1), vi (f i 2)⟩ : MvR)).length (mvCell ((List.range n).map fun i => ⟨vi (f i 0), vi (f i 1), vi (f i 2)⟩)))
  rw [hl]
  refine reads_recs fun i hi j hj => ?_
  have hf := h i hi
  simp only [fitsL, fits] at hf
  obtain ⟨⟨x0, e0, _⟩, ⟨x1, e1, _⟩, ⟨x2, e2, _⟩, _⟩ := hf
  have hg : ((List.range n).map fun i => (⟨vi (f i 0), vi (f i 1), vi (f i 2)⟩ : MvR)).getD i noMv = ⟨vi (f i 0), vi (f i 1), vi (f i 2)⟩ := range_get n _ _ hi
  unfold mvCell
  rw [hg]
  match j, hj with
  | 0, _ => exact e0.trans (by rw [e0]; rfl)
  | 1, _ => exact e1.trans (by rw [e1]; rfl)
  | 2, _ => exact e2.trans (by rw [e2]; rfl)
theorem flat48 : flat Try.prog 8 48 = some [.recs [.int .i64, .int .i64, .int .i64]] := by kernel_rfl
section
variable {H : Type} {enc : TypeId × Value → H} {W : World}
theorem open48 {b0 : Nat} {r : Reach} {v : Value} {d : DataW H} {ps : List MemPlace} {base : Nat} (hv : Value.okWide Try.prog W r b0 48 v) (h : DataW.Trod enc Try.prog W base (fun _ => true) true 48 v d ps) (hb : Bnd 1048576 d) :
    ∃ l : List MvR, l.length ≤ 1073741824 ∧ O.holds (fun _ => True) W (.d (mvsD l)) v [] := by
  obtain ⟨a, h2, h3⟩ := open_one (slice_cells Try.underlying48 hv) flat48 h hb
  simp only [fits] at h2
  obtain ⟨n, f, rfl, hn, hfs⟩ := h2
  obtain ⟨l, l1, l2⟩ := recs_mvs hfs
  exact ⟨l, by omega, o_d (l2 _ _ _ h3)⟩
end
end Go.ZR

set_option maxRecDepth 100000
namespace Go.Proofs.Ytlbfenfepmmihaa
open Go.RowKit
theorem pf_laid : laidOutB Try.prog = true := by kernel_rfl
theorem pf_maps : mapsRowed Try.prog = true := by kernel_rfl
theorem pf_stops : (Try.prog.stops == []) = true := by kernel_rfl
theorem pf_knobs : (Try.prog.stopKnobs == []) = true := by kernel_rfl
theorem pf_keys : (Rows.tsnFarUptoRow.plainKeys == Try.prog.plainKeys) = true := by kernel_rfl
theorem pf_heard : Try.prog.stopsHeard = true := by kernel_rfl
theorem pf_enter : Try.prog.mayEnter = true := by kernel_rfl
theorem pf_lift : (Rows.tsnFarUptoRow.lifted == Try.prog.liftsFinal) = true := by kernel_rfl
theorem pf_make : (Try.prog.make == some Rows.tsnFarUptoRow.make) = true := by kernel_rfl
theorem and_tt {a b : Bool} (h : a = true) (k : b = true) : (a && b) = true := by rw [h, k]; rfl
theorem joined_of {f : FuncId} {fn : Func} {s : ChangeSpec} {c : OpenClaim} (h0 : c.wf (OpenSpec.ofChange s) = true) (h3 : fn.params.all (Try.prog.readableRec ·) = true) (h4 : namedTie Try.prog c.named s.vars = true)
    (h5 : (c.stops == []) = true) (h7 : (c.knobs == []) = true) (h9 : (c.inPlace == Try.prog.inPlace f) = true) (h10 : (c.unfollowed == Try.prog.unfollowed f) = true) (h11 : (c.recurses == Try.prog.recurses f) = true) (h12 : (c.named == Try.prog.varsNamed f) = true)
    (h13 : (c.maps == (fn.params.toList ++ s.plain.varTypes Try.prog).any (Try.prog.mapsRec ·)) = true) (h14 : (c.ifaces == (fn.params.toList ++ s.plain.varTypes Try.prog).any (Try.prog.ifacesRec ·)) = true) (h15 : (c.mapsOut == Try.prog.mapsAmong fn.resultTypes.toList) = true)
    (h16 : (c.loops == (fn.params.toList ++ s.plain.varTypes Try.prog).any (Try.prog.loopsFrom ·)) = true) (h17 : (c.wideKeys == (fn.params.toList ++ s.plain.varTypes Try.prog ++ fn.resultTypes.toList).any (Try.prog.wideKeysFrom ·)) = true)
    (h18 : s.vars.all (Try.prog.varReadable ·) = true) (h19 : fn.resultTypes.all (fun t => Try.prog.readableRec t && decide (t < Try.prog.types.size)) = true) (h20 : (c.ifacesOut == fn.resultTypes.toList.any (Try.prog.ifacesRec ·)) = true) (h21 : (c.loopsOut == fn.resultTypes.toList.any (Try.prog.loopsFrom ·)) = true)
    (h22 : (c.plainKeys == Try.prog.plainKeys) = true) (h23 : c.shortTexts.isNone = true) (h26 : (c.lifted == Try.prog.liftsFinal) = true) (h27 : (Try.prog.make == some c.make) = true)
    (h28 : (c.kinds == (if c.domain.isEmpty then [] else fn.params.toList.map fun t => match Try.prog.underlying t with | some (.int k) => some k | _ => none)) = true) (h29 : (c.pinned == c.pinnedBy) = true)
    (h30 : (c.veiled == (fn.params.toList ++ s.plain.varTypes Try.prog ++ fn.resultTypes.toList).any (Try.prog.veiledRec ·)) = true) (h31 : c.veiledFits Try.prog fn.params.toList (fn.params.toList ++ s.plain.varTypes Try.prog ++ fn.resultTypes.toList) = true) :
    joinedFacts Try.prog f fn s c = true := by
  unfold joinedFacts
  exact and_tt (and_tt (and_tt (and_tt (and_tt (and_tt (and_tt (and_tt (and_tt (and_tt (and_tt (and_tt (and_tt (and_tt (and_tt (and_tt (and_tt (and_tt (and_tt (and_tt (and_tt (and_tt (and_tt (and_tt (and_tt (and_tt (and_tt (and_tt (and_tt (and_tt (and_tt h0 pf_laid) pf_maps) h3) h4) h5) pf_stops) h7) pf_knobs) h9) h10) h11) h12) h13) h14) h15) h16) h17) h18) h19) h20) h21) h22) h23) pf_heard) pf_enter) h26) h27) h28) h29) h30) h31
end Go.Proofs.Ytlbfenfepmmihaa
