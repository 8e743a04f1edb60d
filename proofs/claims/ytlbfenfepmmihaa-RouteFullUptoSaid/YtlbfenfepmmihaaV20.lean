/- Part 20 of what the closing text rests on. -/
import Derived.Test.YtlbfenfepmmihaaV14
import Derived.Test.YtlbfenfepmmihaaV15
import Derived.Test.YtlbfenfepmmihaaV16
import Derived.JoinedCond
import Derived.OpenShut
import Derived.Test.YtlbfenfepmmihaaRows
set_option maxRecDepth 100000
namespace Go.ZR
open Go.Proofs
open Go.ChangeShapes Go.WideShapes Go.ChangeAt Go.RowKit
open Go.Z Go.ZM

theorem ol_consO {X : Nat → Prop} {w : World} {o : O} {v : Value} {l : List O} {vs : List Value} (h : O.holds X w o v []) (t : OL.holds X w l vs []) : OL.holds X w (o :: l) (v :: vs) [] := by
  simp only [OL.holds]; exact ⟨[], [], rfl, h, t⟩
theorem o_d {X : Nat → Prop} {w : World} {d : D} {v : Value} (h : d.holds X w v) : O.holds X w (.d d) v [] := by
  simp only [O.holds]; exact ⟨h, trivial⟩
theorem u8_in {n : Int} (h : IntKind.u8.min ≤ n ∧ n ≤ IntKind.u8.max) : 0 ≤ n ∧ n ≤ 255 := h

section
variable {H : Type} {enc : TypeId × Value → H} {W : World}
theorem int_cells {t : TypeId} {k : IntKind} {b0 : Nat} {r : Reach} {v : Value} (he : Try.prog.underlying t = some (.int k)) (hv : Value.okWide Try.prog W r b0 t v) : v.cells.toList = [v] := by
  obtain ⟨n, rfl⟩ := okWide_int he hv
  rfl
theorem open_one {t : TypeId} {s : Sh} {v : Value} {d : DataW H} {ps : List MemPlace} {base N : Nat} (hc : v.cells.toList = [v]) (hfl : flat Try.prog 8 t = some [s]) (h : DataW.Trod enc Try.prog W base (fun _ => true) true t v d ps) (hb : Bnd N d) :
    ∃ a : D, fits N s a ∧ a.holds (fun _ => True) W v := by
  obtain ⟨fuel, hf⟩ := h
  rw [hc] at hf
  obtain ⟨ds, h1, h2, h3⟩ := deep 8 t fuel _ _ _ N hf hfl hb
  match ds, h1 with
  | [a0], _ =>
    simp only [fitsL, List.getD_cons_zero] at h2
    exact ⟨a0, h2.1, h3.1⟩
theorem flat5 : flat Try.prog 8 5 = some [.int .u8] := by kernel_rfl
theorem open5 {b0 : Nat} {r : Reach} {v : Value} {d : DataW H} {ps : List MemPlace} {base : Nat} (hv : Value.okWide Try.prog W r b0 5 v) (h : DataW.Trod enc Try.prog W base (fun _ => true) true 5 v d ps) (hb : Bnd 1048576 d) :
    ∃ n : Int, (0 ≤ n ∧ n ≤ 255) ∧ O.holds (fun _ => True) W (iO .u8 n) v [] := by
  obtain ⟨a, h2, h3⟩ := open_one (int_cells Try.underlying5 hv) flat5 h hb
  simp only [fits] at h2
  obtain ⟨n, rfl, hn⟩ := h2
  exact ⟨n, u8_in hn, o_d h3⟩
end
end Go.ZR
namespace Go.Proofs.Ytlbfenfepmmihaa
open Go.RowKit
open Go.Z Go.ZM Go.ZR
theorem Try.own : ownKnob Try.prog.godebug = none := by kernel_rfl
theorem Try.laidOut : laidOutB Try.prog = true := by kernel_rfl
theorem bulk_in {H : Type} {d : DataW H} {ds : List (DataW H)} (hk : Rows.uptoSmall H (ds ++ []) = true) (hd : d ∈ ds) : Bnd 1048576 d := by
  have h := of_decide_eq_true hk
  rw [List.append_nil] at h
  exact .inl (Nat.le_trans (bulk_mem hd) h)
end Go.Proofs.Ytlbfenfepmmihaa

set_option maxRecDepth 100000
namespace Go.Proofs.Ytlbfenfepmmihaa
open Go.RowKit
theorem pf_laid : laidOutB Try.prog = true := by kernel_rfl
theorem pf_maps : mapsRowed Try.prog = true := by kernel_rfl
theorem pf_stops : (Try.prog.stops == []) = true := by kernel_rfl
theorem pf_knobs : (Try.prog.stopKnobs == []) = true := by kernel_rfl
theorem pf_keys : (Rows.tsnFarUptoRow.plainKeys == Try.prog.plainKeys) = true := by kernel_rfl
theorem pf_heard : Try.prog.stopsHeard = true := by kernel_rfl
theorem pf_enter : Try.prog.mayEnter = true := by kernel_rfl
theorem pf_lift : (Rows.tsnFarUptoRow.lifted == Try.prog.liftsFinal) = true := by kernel_rfl
theorem pf_make : (Try.prog.make == some Rows.tsnFarUptoRow.make) = true := by kernel_rfl
theorem and_tt {a b : Bool} (h : a = true) (k : b = true) : (a && b) = true := by rw [h, k]; rfl
theorem joined_of {f : FuncId} {fn : Func} {s : ChangeSpec} {c : OpenClaim} (h0 : c.wf (OpenSpec.ofChange s) = true) (h3 : fn.params.all (Try.prog.readableRec ·) = true) (h4 : namedTie Try.prog c.named s.vars = true)
    (h5 : (c.stops == []) = true) (h7 : (c.knobs == []) = true) (h9 : (c.inPlace == Try.prog.inPlace f) = true) (h10 : (c.unfollowed == Try.prog.unfollowed f) = true) (h11 : (c.recurses == Try.prog.recurses f) = true) (h12 : (c.named == Try.prog.varsNamed f) = true)
    (h13 : (c.maps == (fn.params.toList ++ s.plain.varTypes Try.prog).any (Try.prog.mapsRec ·)) = true) (h14 : (c.ifaces == (fn.params.toList ++ s.plain.varTypes Try.prog).any (Try.prog.ifacesRec ·)) = true) (h15 : (c.mapsOut == Try.prog.mapsAmong fn.resultTypes.toList) = true)
    (h16 : (c.loops == (fn.params.toList ++ s.plain.varTypes Try.prog).any (Try.prog.loopsFrom ·)) = true) (h17 : (c.wideKeys == (fn.params.toList ++ s.plain.varTypes Try.prog ++ fn.resultTypes.toList).any (Try.prog.wideKeysFrom ·)) = true)
    (h18 : s.vars.all (Try.prog.varReadable ·) = true) (h19 : fn.resultTypes.all (fun t => Try.prog.readableRec t && decide (t < Try.prog.types.size)) = true) (h20 : (c.ifacesOut == fn.resultTypes.toList.any (Try.prog.ifacesRec ·)) = true) (h21 : (c.loopsOut == fn.resultTypes.toList.any (Try.prog.loopsFrom ·)) = true)
    (h22 : (c.plainKeys == Try.prog.plainKeys) = true) (h23 : c.shortTexts.isNone = true) (h26 : (c.lifted == Try.prog.liftsFinal) = true) (h27 : (Try.prog.make == some c.make) = true)
    (h28 : (c.kinds == (if c.domain.isEmpty then [] else fn.params.toList.map fun t => match Try.prog.underlying t with | some (.int k) => some k | _ => none)) = true) (h29 : (c.pinned == c.pinnedBy) = true)
    (h30 : (c.veiled == (fn.params.toList ++ s.plain.varTypes Try.prog ++ fn.resultTypes.toList).any (Try.prog.veiledRec ·)) = true) (h31 : c.veiledFits Try.prog fn.params.toList (fn.params.toList ++ s.plain.varTypes Try.prog ++ fn.resultTypes.toList) = true) :
    joinedFacts Try.prog f fn s c = true := by
  unfold joinedFacts
  exact and_tt (and_tt (and_tt (and_tt (and_tt (and_tt (and_tt (and_tt (and_tt (and_tt (and_tt (and_tt (and_tt (and_tt (and_tt (and_tt (and_tt (and_tt (and_tt (and_tt (and_tt (and_tt (and_tt (and_tt (and_tt (and_tt (and_tt (and_tt (and_tt (and_tt (and_tt h0 pf_laid) pf_maps) h3) h4) h5) pf_stops) h7) pf_knobs) h9) h10) h11) h12) h13) h14) h15) h16) h17) h18) h19) h20) h21) h22) h23) pf_heard) pf_enter) h26) h27) h28) h29) h30) h31
end Go.Proofs.Ytlbfenfepmmihaa
