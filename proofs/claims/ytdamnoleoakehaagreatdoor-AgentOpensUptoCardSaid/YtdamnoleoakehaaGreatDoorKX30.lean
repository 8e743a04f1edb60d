/- Part 30 of what the closing text rests on. -/
import Derived.Test.YtdamnoleoakehaaGreatDoorKX29
import Derived.Test.YtdamnoleoakehaaGreatDoorRows
set_option maxRecDepth 100000
namespace Go.Proofs.YtdamnoleoakehaaGreatDoor
open Go.RowKit
theorem pf_laid : laidOutB Tryz.prog = true := by kernel_rfl
theorem pf_maps : mapsRowed Tryz.prog = true := by kernel_rfl
theorem pf_stops : (Tryz.prog.stops == []) = true := by kernel_rfl
theorem pf_knobs : (Tryz.prog.stopKnobs == []) = true := by kernel_rfl
theorem pf_keys : (Rows.agentLateUptoRow.plainKeys == Tryz.prog.plainKeys) = true := by kernel_rfl
theorem pf_heard : Tryz.prog.stopsHeard = true := by kernel_rfl
theorem pf_enter : Tryz.prog.mayEnter = true := by kernel_rfl
theorem pf_lift : (Rows.agentLateUptoRow.lifted == Tryz.prog.liftsFinal) = true := by kernel_rfl
theorem pf_make : (Tryz.prog.make == some Rows.agentLateUptoRow.make) = true := by kernel_rfl
theorem and_tt {a b : Bool} (h : a = true) (k : b = true) : (a && b) = true := by rw [h, k]; rfl
theorem joined_of {f : FuncId} {fn : Func} {s : ChangeSpec} {c : OpenClaim} (h0 : c.wf (OpenSpec.ofChange s) = true) (h3 : fn.params.all (Tryz.prog.readableRec ·) = true) (h4 : namedTie Tryz.prog c.named s.vars = true)
    (h5 : (c.stops == []) = true) (h7 : (c.knobs == []) = true) (h9 : (c.inPlace == Tryz.prog.inPlace f) = true) (h10 : (c.unfollowed == Tryz.prog.unfollowed f) = true) (h11 : (c.recurses == Tryz.prog.recurses f) = true) (h12 : (c.named == Tryz.prog.varsNamed f) = true)
    (h13 : (c.maps == (fn.params.toList ++ s.plain.varTypes Tryz.prog).any (Tryz.prog.mapsRec ·)) = true) (h14 : (c.ifaces == (fn.params.toList ++ s.plain.varTypes Tryz.prog).any (Tryz.prog.ifacesRec ·)) = true) (h15 : (c.mapsOut == Tryz.prog.mapsAmong fn.resultTypes.toList) = true)
    (h16 : (c.loops == (fn.params.toList ++ s.plain.varTypes Tryz.prog).any (Tryz.prog.loopsFrom ·)) = true) (h17 : (c.wideKeys == (fn.params.toList ++ s.plain.varTypes Tryz.prog ++ fn.resultTypes.toList).any (Tryz.prog.wideKeysFrom ·)) = true)
    (h18 : s.vars.all (Tryz.prog.varReadable ·) = true) (h19 : fn.resultTypes.all (fun t => Tryz.prog.readableRec t && decide (t < Tryz.prog.types.size)) = true) (h20 : (c.ifacesOut == fn.resultTypes.toList.any (Tryz.prog.ifacesRec ·)) = true) (h21 : (c.loopsOut == fn.resultTypes.toList.any (Tryz.prog.loopsFrom ·)) = true)
    (h22 : (c.plainKeys == Tryz.prog.plainKeys) = true) (h23 : c.shortTexts.isNone = true) (h26 : (c.lifted == Tryz.prog.liftsFinal) = true) (h27 : (Tryz.prog.make == some c.make) = true)
    (h28 : (c.kinds == (if c.domain.isEmpty then [] else fn.params.toList.map fun t => match Tryz.prog.underlying t with | some (.int k) => some k | _ => none)) = true) (h29 : (c.pinned == c.pinnedBy) = true)
    (h30 : (c.veiled == (fn.params.toList ++ s.plain.varTypes Tryz.prog ++ fn.resultTypes.toList).any (Tryz.prog.veiledRec ·)) = true) (h31 : c.veiledFits Tryz.prog fn.params.toList (fn.params.toList ++ s.plain.varTypes Tryz.prog ++ fn.resultTypes.toList) = true) :
    joinedFacts Tryz.prog f fn s c = true := by
  unfold joinedFacts
  exact and_tt (and_tt (and_tt (and_tt (and_tt (and_tt (and_tt (and_tt (and_tt (and_tt (and_tt (and_tt (and_tt (and_tt (and_tt (and_tt (and_tt (and_tt (and_tt (and_tt (and_tt (and_tt (and_tt (and_tt (and_tt (and_tt (and_tt (and_tt (and_tt (and_tt (and_tt h0 pf_laid) pf_maps) h3) h4) h5) pf_stops) h7) pf_knobs) h9) h10) h11) h12) h13) h14) h15) h16) h17) h18) h19) h20) h21) h22) h23) pf_heard) pf_enter) h26) h27) h28) h29) h30) h31
end Go.Proofs.YtdamnoleoakehaaGreatDoor

