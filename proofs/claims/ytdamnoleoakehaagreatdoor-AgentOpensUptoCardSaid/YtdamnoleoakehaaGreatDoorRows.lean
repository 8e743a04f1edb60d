/-
  NARROWER THAN 'FOR EVERY INPUT', by the rows' own cells (each row's printed sentence says how): AgentSound: laid · AgentOpens: laid · AgentAsks: laid · AgentTwice: laid · AgentSame: laid · AgentLate: laid · AgentOnce: laid · AgentNil: laid · AgentWatches: laid.
  DERIVED. THE GIVEN ROWS OF THIS SEAT. 9 by the template 'for every input the law returns true; each argument reads behind the call as it read before'; 0 by the template 'total and deterministic' (their statements: YtdamnoleoakehaaGreatDoorTotals.lean).
  GIVEN WITH THE SEED: the statements are not yours to turn. If you find one false, say at which input.
  Laid BY PROGRAM, IN A SANDBOX (cutbox-rows.mjs): the forced cells as the released guide's own fill.sh prints them over the translation e4f6ce24b8887836… (all of the seat's roots in one cut). By AI agents, Wed Nov 11 2026. No macro, syntax, notation, axiom, sorry.
-/
import Derived.Test.YtdamnoleoakehaaGreatDoorChecked
import GoSem.PinnedTables
import GoSem.Claim
import GoSem.ClaimJoined
import GoSem.ClaimMapViews
import Derived.JoinedTies
import Derived.KernelRfl
namespace Go.Proofs.YtdamnoleoakehaaGreatDoor
/- THE CELL 'sum', in the pinned program and in every row, IS THE sha256 OF THE DUMP (.gsa) THAT YtdamnoleoakehaaGreatDoorProg.lean LOADS. Nothing in Lean hashes anything: it is a label: what it is worth is what the hold of that sum in a sandbox is worth. -/
noncomputable def Tryz.pinned : Pinned := { name := "ytdamnoleoakehaagreatdoor", sum := "e4f6ce24b888783617cdb07b6692f655aeb1681e158a434f89080db7fcce51ec", checked := Tryz.checked }
namespace Rows
def none {H : Type} : Left H := { results := [], args := [] }

/- WHAT THE LISTED PACKAGE-LEVEL VARIABLES READ AS WHEN THE CALL BEGINS. Each datum BY PROGRAM (the guide's laid-datum.mjs) off the statement by which the dump's own 'gosem.cut.vars' lays the variable. In a bare row this is a premise. The card (YtdamnoleoakehaaGreatDoorCards.lean) ties it to the program's text. -/
def laid_unicode_utf8_acceptRanges {H : Type} : DataW H := .agg [.agg [.lit (.int .u8 128), .lit (.int .u8 191)], .agg [.lit (.int .u8 160), .lit (.int .u8 191)], .agg [.lit (.int .u8 128), .lit (.int .u8 159)], .agg [.lit (.int .u8 144), .lit (.int .u8 191)], .agg [.lit (.int .u8 128), .lit (.int .u8 143)], .agg [.lit (.int .u8 0), .lit (.int .u8 0)], .agg [.lit (.int .u8 0), .lit (.int .u8 0)], .agg [.lit (.int .u8 0), .lit (.int .u8 0)], .agg [.lit (.int .u8 0), .lit (.int .u8 0)], .agg [.lit (.int .u8 0), .lit (.int .u8 0)], .agg [.lit (.int .u8 0), .lit (.int .u8 0)], .agg [.lit (.int .u8 0), .lit (.int .u8 0)], .agg [.lit (.int .u8 0), .lit (.int .u8 0)], .agg [.lit (.int .u8 0), .lit (.int .u8 0)], .agg [.lit (.int .u8 0), .lit (.int .u8 0)], .agg [.lit (.int .u8 0), .lit (.int .u8 0)]]
/-- One of Go's own tables, pinned by name: the form's constant. -/
def laid_unicode_utf8_first : DataW Unit := Go.Pinned.utf8First

/-- 'trunklinelaw23.AgentSound': WHATEVER THE INPUT: true; the input reads as it did. -/
def agentSoundSpec : ChangeSpec := { name := "agentSound", fn := fun _ => fun
  | [d1, d2, d3] => { results := [.lit (.bool true)], args := [d1, d2, d3] }
  | _ => none }
def agentSoundRow : OpenClaim := { program := "ytdamnoleoakehaagreatdoor", sum := "e4f6ce24b888783617cdb07b6692f655aeb1681e158a434f89080db7fcce51ec", func := "trunkline/trunklinelaw23.AgentSound", spec := "agentSound", inPlace := ["math.Float32frombits", "math.Float64frombits"], unfollowed := true, recurses := true, named := ["unicode/utf8.first", "unicode/utf8.acceptRanges"], plainKeys := false, apart := false, laid := [("unicode/utf8.acceptRanges", laid_unicode_utf8_acceptRanges), ("unicode/utf8.first", laid_unicode_utf8_first)] }
def AgentSoundSaid : Prop := agentSoundRow.holds Tryz.pinned (OpenSpec.ofChange agentSoundSpec)

/-- ITS FALSE NEIGHBOUR: 'it returns false'. Refute it at one input. -/
def agentSoundWrong : ChangeSpec := { name := "agentSound", fn := fun _ => fun
  | [d1, d2, d3] => { results := [.lit (.bool false)], args := [d1, d2, d3] }
  | _ => none }
def AgentSoundWrongFalsely : Prop := agentSoundRow.holds Tryz.pinned (OpenSpec.ofChange agentSoundWrong)

/-- 'trunklinelaw23.AgentOpens': WHATEVER THE INPUT: true; the input reads as it did. -/
def agentOpensSpec : ChangeSpec := { name := "agentOpens", fn := fun _ => fun
  | [d1, d2, d3] => { results := [.lit (.bool true)], args := [d1, d2, d3] }
  | _ => none }
def agentOpensRow : OpenClaim := { program := "ytdamnoleoakehaagreatdoor", sum := "e4f6ce24b888783617cdb07b6692f655aeb1681e158a434f89080db7fcce51ec", func := "trunkline/trunklinelaw23.AgentOpens", spec := "agentOpens", inPlace := ["math.Float32frombits", "math.Float64frombits"], unfollowed := true, recurses := true, named := ["unicode/utf8.first", "unicode/utf8.acceptRanges"], plainKeys := false, apart := false, laid := [("unicode/utf8.acceptRanges", laid_unicode_utf8_acceptRanges), ("unicode/utf8.first", laid_unicode_utf8_first)] }
def AgentOpensSaid : Prop := agentOpensRow.holds Tryz.pinned (OpenSpec.ofChange agentOpensSpec)

/-- ITS FALSE NEIGHBOUR: 'it returns false'. Refute it at one input. -/
def agentOpensWrong : ChangeSpec := { name := "agentOpens", fn := fun _ => fun
  | [d1, d2, d3] => { results := [.lit (.bool false)], args := [d1, d2, d3] }
  | _ => none }
def AgentOpensWrongFalsely : Prop := agentOpensRow.holds Tryz.pinned (OpenSpec.ofChange agentOpensWrong)

/-- 'trunklinelaw23.AgentAsks': WHATEVER THE INPUT: true; the input reads as it did. -/
def agentAsksSpec : ChangeSpec := { name := "agentAsks", fn := fun _ => fun
  | [d1, d2] => { results := [.lit (.bool true)], args := [d1, d2] }
  | _ => none }
def agentAsksRow : OpenClaim := { program := "ytdamnoleoakehaagreatdoor", sum := "e4f6ce24b888783617cdb07b6692f655aeb1681e158a434f89080db7fcce51ec", func := "trunkline/trunklinelaw23.AgentAsks", spec := "agentAsks", inPlace := ["math.Float32frombits", "math.Float64frombits"], unfollowed := true, recurses := true, named := ["unicode/utf8.first", "unicode/utf8.acceptRanges"], plainKeys := false, apart := false, laid := [("unicode/utf8.acceptRanges", laid_unicode_utf8_acceptRanges), ("unicode/utf8.first", laid_unicode_utf8_first)] }
def AgentAsksSaid : Prop := agentAsksRow.holds Tryz.pinned (OpenSpec.ofChange agentAsksSpec)

/-- ITS FALSE NEIGHBOUR: 'it returns false'. Refute it at one input. -/
def agentAsksWrong : ChangeSpec := { name := "agentAsks", fn := fun _ => fun
  | [d1, d2] => { results := [.lit (.bool false)], args := [d1, d2] }
  | _ => none }
def AgentAsksWrongFalsely : Prop := agentAsksRow.holds Tryz.pinned (OpenSpec.ofChange agentAsksWrong)

/-- 'trunklinelaw23.AgentTwice': WHATEVER THE INPUT: true; the input reads as it did. -/
def agentTwiceSpec : ChangeSpec := { name := "agentTwice", fn := fun _ => fun
  | [d1, d2, d3] => { results := [.lit (.bool true)], args := [d1, d2, d3] }
  | _ => none }
def agentTwiceRow : OpenClaim := { program := "ytdamnoleoakehaagreatdoor", sum := "e4f6ce24b888783617cdb07b6692f655aeb1681e158a434f89080db7fcce51ec", func := "trunkline/trunklinelaw23.AgentTwice", spec := "agentTwice", inPlace := ["math.Float32frombits", "math.Float64frombits"], unfollowed := true, recurses := true, named := ["unicode/utf8.first", "unicode/utf8.acceptRanges"], plainKeys := false, apart := false, laid := [("unicode/utf8.acceptRanges", laid_unicode_utf8_acceptRanges), ("unicode/utf8.first", laid_unicode_utf8_first)] }
def AgentTwiceSaid : Prop := agentTwiceRow.holds Tryz.pinned (OpenSpec.ofChange agentTwiceSpec)

/-- ITS FALSE NEIGHBOUR: 'it returns false'. Refute it at one input. -/
def agentTwiceWrong : ChangeSpec := { name := "agentTwice", fn := fun _ => fun
  | [d1, d2, d3] => { results := [.lit (.bool false)], args := [d1, d2, d3] }
  | _ => none }
def AgentTwiceWrongFalsely : Prop := agentTwiceRow.holds Tryz.pinned (OpenSpec.ofChange agentTwiceWrong)

/-- 'trunklinelaw23.AgentSame': WHATEVER THE INPUT: true; the input reads as it did. -/
def agentSameSpec : ChangeSpec := { name := "agentSame", fn := fun _ => fun
  | [d1, d2, d3] => { results := [.lit (.bool true)], args := [d1, d2, d3] }
  | _ => none }
def agentSameRow : OpenClaim := { program := "ytdamnoleoakehaagreatdoor", sum := "e4f6ce24b888783617cdb07b6692f655aeb1681e158a434f89080db7fcce51ec", func := "trunkline/trunklinelaw23.AgentSame", spec := "agentSame", inPlace := ["math.Float32frombits", "math.Float64frombits"], unfollowed := true, recurses := true, named := ["unicode/utf8.first", "unicode/utf8.acceptRanges"], plainKeys := false, apart := false, laid := [("unicode/utf8.acceptRanges", laid_unicode_utf8_acceptRanges), ("unicode/utf8.first", laid_unicode_utf8_first)] }
def AgentSameSaid : Prop := agentSameRow.holds Tryz.pinned (OpenSpec.ofChange agentSameSpec)

/-- ITS FALSE NEIGHBOUR: 'it returns false'. Refute it at one input. -/
def agentSameWrong : ChangeSpec := { name := "agentSame", fn := fun _ => fun
  | [d1, d2, d3] => { results := [.lit (.bool false)], args := [d1, d2, d3] }
  | _ => none }
def AgentSameWrongFalsely : Prop := agentSameRow.holds Tryz.pinned (OpenSpec.ofChange agentSameWrong)

/-- 'trunklinelaw23.AgentLate': WHATEVER THE INPUT: true; the input reads as it did. -/
def agentLateSpec : ChangeSpec := { name := "agentLate", fn := fun _ => fun
  | [d1, d2] => { results := [.lit (.bool true)], args := [d1, d2] }
  | _ => none }
def agentLateRow : OpenClaim := { program := "ytdamnoleoakehaagreatdoor", sum := "e4f6ce24b888783617cdb07b6692f655aeb1681e158a434f89080db7fcce51ec", func := "trunkline/trunklinelaw23.AgentLate", spec := "agentLate", inPlace := ["math.Float32frombits", "math.Float64frombits"], unfollowed := true, recurses := true, named := ["unicode/utf8.first", "unicode/utf8.acceptRanges"], plainKeys := false, apart := false, laid := [("unicode/utf8.acceptRanges", laid_unicode_utf8_acceptRanges), ("unicode/utf8.first", laid_unicode_utf8_first)] }
def AgentLateSaid : Prop := agentLateRow.holds Tryz.pinned (OpenSpec.ofChange agentLateSpec)

/-- ITS FALSE NEIGHBOUR: 'it returns false'. Refute it at one input. -/
def agentLateWrong : ChangeSpec := { name := "agentLate", fn := fun _ => fun
  | [d1, d2] => { results := [.lit (.bool false)], args := [d1, d2] }
  | _ => none }
def AgentLateWrongFalsely : Prop := agentLateRow.holds Tryz.pinned (OpenSpec.ofChange agentLateWrong)

/-- 'trunklinelaw23.AgentOnce': WHATEVER THE INPUT: true; the input reads as it did. -/
def agentOnceSpec : ChangeSpec := { name := "agentOnce", fn := fun _ => fun
  | [d1, d2, d3] => { results := [.lit (.bool true)], args := [d1, d2, d3] }
  | _ => none }
def agentOnceRow : OpenClaim := { program := "ytdamnoleoakehaagreatdoor", sum := "e4f6ce24b888783617cdb07b6692f655aeb1681e158a434f89080db7fcce51ec", func := "trunkline/trunklinelaw23.AgentOnce", spec := "agentOnce", inPlace := ["math.Float32frombits", "math.Float64frombits"], unfollowed := true, recurses := true, named := ["unicode/utf8.first", "unicode/utf8.acceptRanges"], plainKeys := false, apart := false, laid := [("unicode/utf8.acceptRanges", laid_unicode_utf8_acceptRanges), ("unicode/utf8.first", laid_unicode_utf8_first)] }
def AgentOnceSaid : Prop := agentOnceRow.holds Tryz.pinned (OpenSpec.ofChange agentOnceSpec)

/-- ITS FALSE NEIGHBOUR: 'it returns false'. Refute it at one input. -/
def agentOnceWrong : ChangeSpec := { name := "agentOnce", fn := fun _ => fun
  | [d1, d2, d3] => { results := [.lit (.bool false)], args := [d1, d2, d3] }
  | _ => none }
def AgentOnceWrongFalsely : Prop := agentOnceRow.holds Tryz.pinned (OpenSpec.ofChange agentOnceWrong)

/-- 'trunklinelaw23.AgentNil': WHATEVER THE INPUT: true; the input reads as it did. -/
def agentNilSpec : ChangeSpec := { name := "agentNil", fn := fun _ => fun
  | [d1, d2] => { results := [.lit (.bool true)], args := [d1, d2] }
  | _ => none }
def agentNilRow : OpenClaim := { program := "ytdamnoleoakehaagreatdoor", sum := "e4f6ce24b888783617cdb07b6692f655aeb1681e158a434f89080db7fcce51ec", func := "trunkline/trunklinelaw23.AgentNil", spec := "agentNil", inPlace := ["math.Float32frombits", "math.Float64frombits"], unfollowed := true, recurses := true, named := ["unicode/utf8.first", "unicode/utf8.acceptRanges"], plainKeys := false, apart := false, laid := [("unicode/utf8.acceptRanges", laid_unicode_utf8_acceptRanges), ("unicode/utf8.first", laid_unicode_utf8_first)] }
def AgentNilSaid : Prop := agentNilRow.holds Tryz.pinned (OpenSpec.ofChange agentNilSpec)

/-- ITS FALSE NEIGHBOUR: 'it returns false'. Refute it at one input. -/
def agentNilWrong : ChangeSpec := { name := "agentNil", fn := fun _ => fun
  | [d1, d2] => { results := [.lit (.bool false)], args := [d1, d2] }
  | _ => none }
def AgentNilWrongFalsely : Prop := agentNilRow.holds Tryz.pinned (OpenSpec.ofChange agentNilWrong)

/-- 'trunklinelaw23.AgentWatches': WHATEVER THE INPUT: true; the input reads as it did. -/
def agentWatchesSpec : ChangeSpec := { name := "agentWatches", fn := fun _ => fun
  | [d] => { results := [.lit (.bool true)], args := [d] }
  | _ => none }
def agentWatchesRow : OpenClaim := { program := "ytdamnoleoakehaagreatdoor", sum := "e4f6ce24b888783617cdb07b6692f655aeb1681e158a434f89080db7fcce51ec", func := "trunkline/trunklinelaw23.AgentWatches", spec := "agentWatches", inPlace := ["math.Float32frombits", "math.Float64frombits"], unfollowed := true, recurses := true, named := ["unicode/utf8.first", "unicode/utf8.acceptRanges"], plainKeys := false, apart := false, laid := [("unicode/utf8.acceptRanges", laid_unicode_utf8_acceptRanges), ("unicode/utf8.first", laid_unicode_utf8_first)] }
def AgentWatchesSaid : Prop := agentWatchesRow.holds Tryz.pinned (OpenSpec.ofChange agentWatchesSpec)

/-- ITS FALSE NEIGHBOUR: 'it returns false'. Refute it at one input. -/
def agentWatchesWrong : ChangeSpec := { name := "agentWatches", fn := fun _ => fun
  | [d] => { results := [.lit (.bool false)], args := [d] }
  | _ => none }
def AgentWatchesWrongFalsely : Prop := agentWatchesRow.holds Tryz.pinned (OpenSpec.ofChange agentWatchesWrong)

/- THE SECOND FORM. 'bulk': how many values and letters a reading holds, each counted each time it is reached (what is shared counts as often as it is met; a slice's spare places count too). A statement '..UptoSaid' is the law's where the arguments, and the package variables that the reading takes, are together of bulk at most 1048576: NARROWER than '..Said'. Prove '..Said' where nothing that the law and all that it calls make is longer than what came in: it says more and counts as full. Else prove '..UptoSaid'. A law counts once. -/
mutual
def uptoBulk {H : Type} : DataW H → Nat
  | .lit (.string bytes) => bytes.length + 1
  | .lit _ => 1
  | .nil => 1
  | .ptr d => uptoBulk d + 1
  | .slice elems spare => uptoBulkAll elems + uptoBulkAll spare + 1
  | .agg parts => uptoBulkAll parts + 1
  | .iface _ d => uptoBulk d + 1
  | .map entries => uptoBulkEntries entries + 1
  | .held _ => 1
def uptoBulkAll {H : Type} : List (DataW H) → Nat
  | [] => 0
  | d :: r => uptoBulk d + uptoBulkAll r
def uptoBulkEntries {H : Type} : List (Lit × DataW H) → Nat
  | [] => 0
  | x :: r => uptoBulkEntry x + uptoBulkEntries r
def uptoBulkEntry {H : Type} : Lit × DataW H → Nat
  | (.string bytes, d) => bytes.length + uptoBulk d + 1
  | (_, d) => uptoBulk d + 1
 end
def uptoSmall : (H : Type) → List (DataW H) → Bool := fun _ ds => decide (uptoBulkAll ds ≤ 1048576)
def OpenSpec.upto (s : _root_.Go.ChangeSpec) : _root_.Go.OpenSpec := { _root_.Go.OpenSpec.ofChange s with cond := some uptoSmall }

/-- 'trunklinelaw23.AgentSound', WHERE WHAT IT READS IS OF BULK AT MOST 1048576: true; the input reads as it did. -/
def agentSoundUptoRow : OpenClaim := { program := "ytdamnoleoakehaagreatdoor", sum := "e4f6ce24b888783617cdb07b6692f655aeb1681e158a434f89080db7fcce51ec", func := "trunkline/trunklinelaw23.AgentSound", spec := "agentSound", inPlace := ["math.Float32frombits", "math.Float64frombits"], unfollowed := true, recurses := true, named := ["unicode/utf8.first", "unicode/utf8.acceptRanges"], plainKeys := false, apart := false, laid := [("unicode/utf8.acceptRanges", laid_unicode_utf8_acceptRanges), ("unicode/utf8.first", laid_unicode_utf8_first)], narrowed := true }
def AgentSoundUptoSaid : Prop := agentSoundUptoRow.holds Tryz.pinned (OpenSpec.upto agentSoundSpec)

/-- 'trunklinelaw23.AgentOpens', WHERE WHAT IT READS IS OF BULK AT MOST 1048576: true; the input reads as it did. -/
def agentOpensUptoRow : OpenClaim := { program := "ytdamnoleoakehaagreatdoor", sum := "e4f6ce24b888783617cdb07b6692f655aeb1681e158a434f89080db7fcce51ec", func := "trunkline/trunklinelaw23.AgentOpens", spec := "agentOpens", inPlace := ["math.Float32frombits", "math.Float64frombits"], unfollowed := true, recurses := true, named := ["unicode/utf8.first", "unicode/utf8.acceptRanges"], plainKeys := false, apart := false, laid := [("unicode/utf8.acceptRanges", laid_unicode_utf8_acceptRanges), ("unicode/utf8.first", laid_unicode_utf8_first)], narrowed := true }
def AgentOpensUptoSaid : Prop := agentOpensUptoRow.holds Tryz.pinned (OpenSpec.upto agentOpensSpec)

/-- 'trunklinelaw23.AgentAsks', WHERE WHAT IT READS IS OF BULK AT MOST 1048576: true; the input reads as it did. -/
def agentAsksUptoRow : OpenClaim := { program := "ytdamnoleoakehaagreatdoor", sum := "e4f6ce24b888783617cdb07b6692f655aeb1681e158a434f89080db7fcce51ec", func := "trunkline/trunklinelaw23.AgentAsks", spec := "agentAsks", inPlace := ["math.Float32frombits", "math.Float64frombits"], unfollowed := true, recurses := true, named := ["unicode/utf8.first", "unicode/utf8.acceptRanges"], plainKeys := false, apart := false, laid := [("unicode/utf8.acceptRanges", laid_unicode_utf8_acceptRanges), ("unicode/utf8.first", laid_unicode_utf8_first)], narrowed := true }
def AgentAsksUptoSaid : Prop := agentAsksUptoRow.holds Tryz.pinned (OpenSpec.upto agentAsksSpec)

/-- 'trunklinelaw23.AgentTwice', WHERE WHAT IT READS IS OF BULK AT MOST 1048576: true; the input reads as it did. -/
def agentTwiceUptoRow : OpenClaim := { program := "ytdamnoleoakehaagreatdoor", sum := "e4f6ce24b888783617cdb07b6692f655aeb1681e158a434f89080db7fcce51ec", func := "trunkline/trunklinelaw23.AgentTwice", spec := "agentTwice", inPlace := ["math.Float32frombits", "math.Float64frombits"], unfollowed := true, recurses := true, named := ["unicode/utf8.first", "unicode/utf8.acceptRanges"], plainKeys := false, apart := false, laid := [("unicode/utf8.acceptRanges", laid_unicode_utf8_acceptRanges), ("unicode/utf8.first", laid_unicode_utf8_first)], narrowed := true }
def AgentTwiceUptoSaid : Prop := agentTwiceUptoRow.holds Tryz.pinned (OpenSpec.upto agentTwiceSpec)

/-- 'trunklinelaw23.AgentSame', WHERE WHAT IT READS IS OF BULK AT MOST 1048576: true; the input reads as it did. -/
def agentSameUptoRow : OpenClaim := { program := "ytdamnoleoakehaagreatdoor", sum := "e4f6ce24b888783617cdb07b6692f655aeb1681e158a434f89080db7fcce51ec", func := "trunkline/trunklinelaw23.AgentSame", spec := "agentSame", inPlace := ["math.Float32frombits", "math.Float64frombits"], unfollowed := true, recurses := true, named := ["unicode/utf8.first", "unicode/utf8.acceptRanges"], plainKeys := false, apart := false, laid := [("unicode/utf8.acceptRanges", laid_unicode_utf8_acceptRanges), ("unicode/utf8.first", laid_unicode_utf8_first)], narrowed := true }
def AgentSameUptoSaid : Prop := agentSameUptoRow.holds Tryz.pinned (OpenSpec.upto agentSameSpec)

/-- 'trunklinelaw23.AgentLate', WHERE WHAT IT READS IS OF BULK AT MOST 1048576: true; the input reads as it did. -/
def agentLateUptoRow : OpenClaim := { program := "ytdamnoleoakehaagreatdoor", sum := "e4f6ce24b888783617cdb07b6692f655aeb1681e158a434f89080db7fcce51ec", func := "trunkline/trunklinelaw23.AgentLate", spec := "agentLate", inPlace := ["math.Float32frombits", "math.Float64frombits"], unfollowed := true, recurses := true, named := ["unicode/utf8.first", "unicode/utf8.acceptRanges"], plainKeys := false, apart := false, laid := [("unicode/utf8.acceptRanges", laid_unicode_utf8_acceptRanges), ("unicode/utf8.first", laid_unicode_utf8_first)], narrowed := true }
def AgentLateUptoSaid : Prop := agentLateUptoRow.holds Tryz.pinned (OpenSpec.upto agentLateSpec)

/-- 'trunklinelaw23.AgentOnce', WHERE WHAT IT READS IS OF BULK AT MOST 1048576: true; the input reads as it did. -/
def agentOnceUptoRow : OpenClaim := { program := "ytdamnoleoakehaagreatdoor", sum := "e4f6ce24b888783617cdb07b6692f655aeb1681e158a434f89080db7fcce51ec", func := "trunkline/trunklinelaw23.AgentOnce", spec := "agentOnce", inPlace := ["math.Float32frombits", "math.Float64frombits"], unfollowed := true, recurses := true, named := ["unicode/utf8.first", "unicode/utf8.acceptRanges"], plainKeys := false, apart := false, laid := [("unicode/utf8.acceptRanges", laid_unicode_utf8_acceptRanges), ("unicode/utf8.first", laid_unicode_utf8_first)], narrowed := true }
def AgentOnceUptoSaid : Prop := agentOnceUptoRow.holds Tryz.pinned (OpenSpec.upto agentOnceSpec)

/-- 'trunklinelaw23.AgentNil', WHERE WHAT IT READS IS OF BULK AT MOST 1048576: true; the input reads as it did. -/
def agentNilUptoRow : OpenClaim := { program := "ytdamnoleoakehaagreatdoor", sum := "e4f6ce24b888783617cdb07b6692f655aeb1681e158a434f89080db7fcce51ec", func := "trunkline/trunklinelaw23.AgentNil", spec := "agentNil", inPlace := ["math.Float32frombits", "math.Float64frombits"], unfollowed := true, recurses := true, named := ["unicode/utf8.first", "unicode/utf8.acceptRanges"], plainKeys := false, apart := false, laid := [("unicode/utf8.acceptRanges", laid_unicode_utf8_acceptRanges), ("unicode/utf8.first", laid_unicode_utf8_first)], narrowed := true }
def AgentNilUptoSaid : Prop := agentNilUptoRow.holds Tryz.pinned (OpenSpec.upto agentNilSpec)

/-- 'trunklinelaw23.AgentWatches', WHERE WHAT IT READS IS OF BULK AT MOST 1048576: true; the input reads as it did. -/
def agentWatchesUptoRow : OpenClaim := { program := "ytdamnoleoakehaagreatdoor", sum := "e4f6ce24b888783617cdb07b6692f655aeb1681e158a434f89080db7fcce51ec", func := "trunkline/trunklinelaw23.AgentWatches", spec := "agentWatches", inPlace := ["math.Float32frombits", "math.Float64frombits"], unfollowed := true, recurses := true, named := ["unicode/utf8.first", "unicode/utf8.acceptRanges"], plainKeys := false, apart := false, laid := [("unicode/utf8.acceptRanges", laid_unicode_utf8_acceptRanges), ("unicode/utf8.first", laid_unicode_utf8_first)], narrowed := true }
def AgentWatchesUptoSaid : Prop := agentWatchesUptoRow.holds Tryz.pinned (OpenSpec.upto agentWatchesSpec)

end Rows
end Go.Proofs.YtdamnoleoakehaaGreatDoor
