/-
  No cell of these rows narrows 'for every input' (looked for: loops, veiled, ifaces, maps, wideKeys, modest, calm, conditions, laid).
  DERIVED. THE GIVEN ROWS OF THIS SEAT. 14 by the template 'for every input the law returns true; each argument reads behind the call as it read before'; 0 by the template 'total and deterministic' (their statements: YtlbfenfepmmihaaTotals.lean).
  GIVEN WITH THE SEED: the statements are not yours to turn. If you find one false, say at which input.
  Laid BY PROGRAM, IN A SANDBOX (cutbox-rows.mjs): the forced cells as the released guide's own fill.sh prints them over the translation e9afadaffd992568… (all of the seat's roots in one cut). By AI agents, Wed Nov 11 2026. No macro, syntax, notation, axiom, sorry.
-/
import Derived.Test.YtlbfenfepmmihaaChecked
import GoSem.Claim
import GoSem.ClaimJoined
import GoSem.ClaimMapViews
import Derived.JoinedTies
import Derived.KernelRfl
namespace Go.Proofs.Ytlbfenfepmmihaa
/- THE CELL 'sum', in the pinned program and in every row, IS THE sha256 OF THE DUMP (.gsa) THAT YtlbfenfepmmihaaProg.lean LOADS. Nothing in Lean hashes anything: it is a label: what it is worth is what the hold of that sum in a sandbox is worth. -/
noncomputable def Try.pinned : Pinned := { name := "ytlbfenfepmmihaa", sum := "e9afadaffd9925688fb917442f44083184e97f1d391200eda94cb67812e59fe4", checked := Try.checked }
namespace Rows
def none {H : Type} : Left H := { results := [], args := [] }

/-- 'trunklinelaw10.TsnAny': WHATEVER THE INPUT: true; the input reads as it did. -/
def tsnAnySpec : ChangeSpec := { name := "tsnAny", fn := fun _ => fun
  | [d1, d2, d3, d4] => { results := [.lit (.bool true)], args := [d1, d2, d3, d4] }
  | _ => none }
def tsnAnyRow : OpenClaim := { program := "ytlbfenfepmmihaa", sum := "e9afadaffd9925688fb917442f44083184e97f1d391200eda94cb67812e59fe4", func := "trunkline/trunklinelaw10.TsnAny", spec := "tsnAny", unfollowed := true, recurses := true, apart := false }
def TsnAnySaid : Prop := tsnAnyRow.holds Try.pinned (OpenSpec.ofChange tsnAnySpec)

/-- ITS FALSE NEIGHBOUR: 'it returns false'. Refute it at one input. -/
def tsnAnyWrong : ChangeSpec := { name := "tsnAny", fn := fun _ => fun
  | [d1, d2, d3, d4] => { results := [.lit (.bool false)], args := [d1, d2, d3, d4] }
  | _ => none }
def TsnAnyWrongFalsely : Prop := tsnAnyRow.holds Try.pinned (OpenSpec.ofChange tsnAnyWrong)

/-- 'trunklinelaw10.TsnTells': WHATEVER THE INPUT: true; the input reads as it did. -/
def tsnTellsSpec : ChangeSpec := { name := "tsnTells", fn := fun _ => fun
  | [d1, d2] => { results := [.lit (.bool true)], args := [d1, d2] }
  | _ => none }
def tsnTellsRow : OpenClaim := { program := "ytlbfenfepmmihaa", sum := "e9afadaffd9925688fb917442f44083184e97f1d391200eda94cb67812e59fe4", func := "trunkline/trunklinelaw10.TsnTells", spec := "tsnTells", unfollowed := true, recurses := true, apart := false }
def TsnTellsSaid : Prop := tsnTellsRow.holds Try.pinned (OpenSpec.ofChange tsnTellsSpec)

/-- ITS FALSE NEIGHBOUR: 'it returns false'. Refute it at one input. -/
def tsnTellsWrong : ChangeSpec := { name := "tsnTells", fn := fun _ => fun
  | [d1, d2] => { results := [.lit (.bool false)], args := [d1, d2] }
  | _ => none }
def TsnTellsWrongFalsely : Prop := tsnTellsRow.holds Try.pinned (OpenSpec.ofChange tsnTellsWrong)

/-- 'trunklinelaw10.TsnFar': WHATEVER THE INPUT: true; the input reads as it did. -/
def tsnFarSpec : ChangeSpec := { name := "tsnFar", fn := fun _ => fun
  | [d1, d2, d3] => { results := [.lit (.bool true)], args := [d1, d2, d3] }
  | _ => none }
def tsnFarRow : OpenClaim := { program := "ytlbfenfepmmihaa", sum := "e9afadaffd9925688fb917442f44083184e97f1d391200eda94cb67812e59fe4", func := "trunkline/trunklinelaw10.TsnFar", spec := "tsnFar", unfollowed := true, recurses := true, apart := false }
def TsnFarSaid : Prop := tsnFarRow.holds Try.pinned (OpenSpec.ofChange tsnFarSpec)

/-- ITS FALSE NEIGHBOUR: 'it returns false'. Refute it at one input. -/
def tsnFarWrong : ChangeSpec := { name := "tsnFar", fn := fun _ => fun
  | [d1, d2, d3] => { results := [.lit (.bool false)], args := [d1, d2, d3] }
  | _ => none }
def TsnFarWrongFalsely : Prop := tsnFarRow.holds Try.pinned (OpenSpec.ofChange tsnFarWrong)

/-- 'trunklinelaw10.TsnNil': WHATEVER THE INPUT: true; the input reads as it did. -/
def tsnNilSpec : ChangeSpec := { name := "tsnNil", fn := fun _ => fun
  | [d1, d2] => { results := [.lit (.bool true)], args := [d1, d2] }
  | _ => none }
def tsnNilRow : OpenClaim := { program := "ytlbfenfepmmihaa", sum := "e9afadaffd9925688fb917442f44083184e97f1d391200eda94cb67812e59fe4", func := "trunkline/trunklinelaw10.TsnNil", spec := "tsnNil", unfollowed := true, recurses := true, apart := false }
def TsnNilSaid : Prop := tsnNilRow.holds Try.pinned (OpenSpec.ofChange tsnNilSpec)

/-- ITS FALSE NEIGHBOUR: 'it returns false'. Refute it at one input. -/
def tsnNilWrong : ChangeSpec := { name := "tsnNil", fn := fun _ => fun
  | [d1, d2] => { results := [.lit (.bool false)], args := [d1, d2] }
  | _ => none }
def TsnNilWrongFalsely : Prop := tsnNilRow.holds Try.pinned (OpenSpec.ofChange tsnNilWrong)

/-- 'trunklinelaw14.AssocPairs': WHATEVER THE INPUT: true; the input reads as it did. -/
def assocPairsSpec : ChangeSpec := { name := "assocPairs", fn := fun _ => fun
  | [d] => { results := [.lit (.bool true)], args := [d] }
  | _ => none }
def assocPairsRow : OpenClaim := { program := "ytlbfenfepmmihaa", sum := "e9afadaffd9925688fb917442f44083184e97f1d391200eda94cb67812e59fe4", func := "trunkline/trunklinelaw14.AssocPairs", spec := "assocPairs", apart := false }
def AssocPairsSaid : Prop := assocPairsRow.holds Try.pinned (OpenSpec.ofChange assocPairsSpec)

/-- ITS FALSE NEIGHBOUR: 'it returns false'. Refute it at one input. -/
def assocPairsWrong : ChangeSpec := { name := "assocPairs", fn := fun _ => fun
  | [d] => { results := [.lit (.bool false)], args := [d] }
  | _ => none }
def AssocPairsWrongFalsely : Prop := assocPairsRow.holds Try.pinned (OpenSpec.ofChange assocPairsWrong)

/-- 'trunklinelaw14.AssocMeets': WHATEVER THE INPUT: true; the input reads as it did. -/
def assocMeetsSpec : ChangeSpec := { name := "assocMeets", fn := fun _ => fun
  | [d1, d2] => { results := [.lit (.bool true)], args := [d1, d2] }
  | _ => none }
def assocMeetsRow : OpenClaim := { program := "ytlbfenfepmmihaa", sum := "e9afadaffd9925688fb917442f44083184e97f1d391200eda94cb67812e59fe4", func := "trunkline/trunklinelaw14.AssocMeets", spec := "assocMeets", apart := false }
def AssocMeetsSaid : Prop := assocMeetsRow.holds Try.pinned (OpenSpec.ofChange assocMeetsSpec)

/-- ITS FALSE NEIGHBOUR: 'it returns false'. Refute it at one input. -/
def assocMeetsWrong : ChangeSpec := { name := "assocMeets", fn := fun _ => fun
  | [d1, d2] => { results := [.lit (.bool false)], args := [d1, d2] }
  | _ => none }
def AssocMeetsWrongFalsely : Prop := assocMeetsRow.holds Try.pinned (OpenSpec.ofChange assocMeetsWrong)

/-- 'trunklinelaw14.AssocParts': WHATEVER THE INPUT: true; the input reads as it did. -/
def assocPartsSpec : ChangeSpec := { name := "assocParts", fn := fun _ => fun
  | [d1, d2] => { results := [.lit (.bool true)], args := [d1, d2] }
  | _ => none }
def assocPartsRow : OpenClaim := { program := "ytlbfenfepmmihaa", sum := "e9afadaffd9925688fb917442f44083184e97f1d391200eda94cb67812e59fe4", func := "trunkline/trunklinelaw14.AssocParts", spec := "assocParts", apart := false }
def AssocPartsSaid : Prop := assocPartsRow.holds Try.pinned (OpenSpec.ofChange assocPartsSpec)

/-- ITS FALSE NEIGHBOUR: 'it returns false'. Refute it at one input. -/
def assocPartsWrong : ChangeSpec := { name := "assocParts", fn := fun _ => fun
  | [d1, d2] => { results := [.lit (.bool false)], args := [d1, d2] }
  | _ => none }
def AssocPartsWrongFalsely : Prop := assocPartsRow.holds Try.pinned (OpenSpec.ofChange assocPartsWrong)

/-- 'trunklinelaw13.SendqFast': WHATEVER THE INPUT: true; the input reads as it did. -/
def sendqFastSpec : ChangeSpec := { name := "sendqFast", fn := fun _ => fun
  | [d1, d2, d3] => { results := [.lit (.bool true)], args := [d1, d2, d3] }
  | _ => none }
def sendqFastRow : OpenClaim := { program := "ytlbfenfepmmihaa", sum := "e9afadaffd9925688fb917442f44083184e97f1d391200eda94cb67812e59fe4", func := "trunkline/trunklinelaw13.SendqFast", spec := "sendqFast", unfollowed := true, recurses := true, apart := false }
def SendqFastSaid : Prop := sendqFastRow.holds Try.pinned (OpenSpec.ofChange sendqFastSpec)

/-- ITS FALSE NEIGHBOUR: 'it returns false'. Refute it at one input. -/
def sendqFastWrong : ChangeSpec := { name := "sendqFast", fn := fun _ => fun
  | [d1, d2, d3] => { results := [.lit (.bool false)], args := [d1, d2, d3] }
  | _ => none }
def SendqFastWrongFalsely : Prop := sendqFastRow.holds Try.pinned (OpenSpec.ofChange sendqFastWrong)

/-- 'trunklinelaw13.SendqFull': WHATEVER THE INPUT: true; the input reads as it did. -/
def sendqFullSpec : ChangeSpec := { name := "sendqFull", fn := fun _ => fun
  | [d1, d2, d3] => { results := [.lit (.bool true)], args := [d1, d2, d3] }
  | _ => none }
def sendqFullRow : OpenClaim := { program := "ytlbfenfepmmihaa", sum := "e9afadaffd9925688fb917442f44083184e97f1d391200eda94cb67812e59fe4", func := "trunkline/trunklinelaw13.SendqFull", spec := "sendqFull", unfollowed := true, recurses := true, apart := false }
def SendqFullSaid : Prop := sendqFullRow.holds Try.pinned (OpenSpec.ofChange sendqFullSpec)

/-- ITS FALSE NEIGHBOUR: 'it returns false'. Refute it at one input. -/
def sendqFullWrong : ChangeSpec := { name := "sendqFull", fn := fun _ => fun
  | [d1, d2, d3] => { results := [.lit (.bool false)], args := [d1, d2, d3] }
  | _ => none }
def SendqFullWrongFalsely : Prop := sendqFullRow.holds Try.pinned (OpenSpec.ofChange sendqFullWrong)

/-- 'trunklinelaw05.WheelOnce': WHATEVER THE INPUT: true; the input reads as it did. -/
def wheelOnceSpec : ChangeSpec := { name := "wheelOnce", fn := fun _ => fun
  | [d1, d2] => { results := [.lit (.bool true)], args := [d1, d2] }
  | _ => none }
def wheelOnceRow : OpenClaim := { program := "ytlbfenfepmmihaa", sum := "e9afadaffd9925688fb917442f44083184e97f1d391200eda94cb67812e59fe4", func := "trunkline/trunklinelaw05.WheelOnce", spec := "wheelOnce", unfollowed := true, recurses := true, apart := false }
def WheelOnceSaid : Prop := wheelOnceRow.holds Try.pinned (OpenSpec.ofChange wheelOnceSpec)

/-- ITS FALSE NEIGHBOUR: 'it returns false'. Refute it at one input. -/
def wheelOnceWrong : ChangeSpec := { name := "wheelOnce", fn := fun _ => fun
  | [d1, d2] => { results := [.lit (.bool false)], args := [d1, d2] }
  | _ => none }
def WheelOnceWrongFalsely : Prop := wheelOnceRow.holds Try.pinned (OpenSpec.ofChange wheelOnceWrong)

/-- 'trunklinelaw05.WheelOrder': WHATEVER THE INPUT: true; the input reads as it did. -/
def wheelOrderSpec : ChangeSpec := { name := "wheelOrder", fn := fun _ => fun
  | [d1, d2] => { results := [.lit (.bool true)], args := [d1, d2] }
  | _ => none }
def wheelOrderRow : OpenClaim := { program := "ytlbfenfepmmihaa", sum := "e9afadaffd9925688fb917442f44083184e97f1d391200eda94cb67812e59fe4", func := "trunkline/trunklinelaw05.WheelOrder", spec := "wheelOrder", unfollowed := true, recurses := true, apart := false }
def WheelOrderSaid : Prop := wheelOrderRow.holds Try.pinned (OpenSpec.ofChange wheelOrderSpec)

/-- ITS FALSE NEIGHBOUR: 'it returns false'. Refute it at one input. -/
def wheelOrderWrong : ChangeSpec := { name := "wheelOrder", fn := fun _ => fun
  | [d1, d2] => { results := [.lit (.bool false)], args := [d1, d2] }
  | _ => none }
def WheelOrderWrongFalsely : Prop := wheelOrderRow.holds Try.pinned (OpenSpec.ofChange wheelOrderWrong)

/-- 'trunklinelaw13.SendqNil': WHATEVER THE INPUT: true; the input reads as it did. -/
def sendqNilSpec : ChangeSpec := { name := "sendqNil", fn := fun _ => fun
  | [d1, d2] => { results := [.lit (.bool true)], args := [d1, d2] }
  | _ => none }
def sendqNilRow : OpenClaim := { program := "ytlbfenfepmmihaa", sum := "e9afadaffd9925688fb917442f44083184e97f1d391200eda94cb67812e59fe4", func := "trunkline/trunklinelaw13.SendqNil", spec := "sendqNil", unfollowed := true, recurses := true, apart := false }
def SendqNilSaid : Prop := sendqNilRow.holds Try.pinned (OpenSpec.ofChange sendqNilSpec)

/-- ITS FALSE NEIGHBOUR: 'it returns false'. Refute it at one input. -/
def sendqNilWrong : ChangeSpec := { name := "sendqNil", fn := fun _ => fun
  | [d1, d2] => { results := [.lit (.bool false)], args := [d1, d2] }
  | _ => none }
def SendqNilWrongFalsely : Prop := sendqNilRow.holds Try.pinned (OpenSpec.ofChange sendqNilWrong)

/-- 'trunklinelaw05.WheelFull': WHATEVER THE INPUT: true; the input reads as it did. -/
def wheelFullSpec : ChangeSpec := { name := "wheelFull", fn := fun _ => fun
  | [d1, d2] => { results := [.lit (.bool true)], args := [d1, d2] }
  | _ => none }
def wheelFullRow : OpenClaim := { program := "ytlbfenfepmmihaa", sum := "e9afadaffd9925688fb917442f44083184e97f1d391200eda94cb67812e59fe4", func := "trunkline/trunklinelaw05.WheelFull", spec := "wheelFull", unfollowed := true, recurses := true, apart := false }
def WheelFullSaid : Prop := wheelFullRow.holds Try.pinned (OpenSpec.ofChange wheelFullSpec)

/-- ITS FALSE NEIGHBOUR: 'it returns false'. Refute it at one input. -/
def wheelFullWrong : ChangeSpec := { name := "wheelFull", fn := fun _ => fun
  | [d1, d2] => { results := [.lit (.bool false)], args := [d1, d2] }
  | _ => none }
def WheelFullWrongFalsely : Prop := wheelFullRow.holds Try.pinned (OpenSpec.ofChange wheelFullWrong)

/-- 'trunklinelaw21.RouteFull': WHATEVER THE INPUT: true; the input reads as it did. -/
def routeFullSpec : ChangeSpec := { name := "routeFull", fn := fun _ => fun
  | [d1, d2] => { results := [.lit (.bool true)], args := [d1, d2] }
  | _ => none }
def routeFullRow : OpenClaim := { program := "ytlbfenfepmmihaa", sum := "e9afadaffd9925688fb917442f44083184e97f1d391200eda94cb67812e59fe4", func := "trunkline/trunklinelaw21.RouteFull", spec := "routeFull", unfollowed := true, recurses := true, apart := false }
def RouteFullSaid : Prop := routeFullRow.holds Try.pinned (OpenSpec.ofChange routeFullSpec)

/-- ITS FALSE NEIGHBOUR: 'it returns false'. Refute it at one input. -/
def routeFullWrong : ChangeSpec := { name := "routeFull", fn := fun _ => fun
  | [d1, d2] => { results := [.lit (.bool false)], args := [d1, d2] }
  | _ => none }
def RouteFullWrongFalsely : Prop := routeFullRow.holds Try.pinned (OpenSpec.ofChange routeFullWrong)

/- THE SECOND FORM. 'bulk': how many values and letters a reading holds, each counted each time it is reached (what is shared counts as often as it is met; a slice's spare places count too). A statement '..UptoSaid' is the law's where the arguments, and the package variables that the reading takes, are together of bulk at most 1048576: NARROWER than '..Said'. Prove '..Said' where nothing that the law and all that it calls make is longer than what came in: it says more and counts as full. Else prove '..UptoSaid'. A law counts once. -/
mutual
def uptoBulk {H : Type} : DataW H → Nat
  | .lit (.string bytes) => bytes.length + 1
  | .lit _ => 1
  | .nil => 1
  | .ptr d => uptoBulk d + 1
  | .slice elems spare => uptoBulkAll elems + uptoBulkAll spare + 1
  | .agg parts => uptoBulkAll parts + 1
  | .iface _ d => uptoBulk d + 1
  | .map entries => uptoBulkEntries entries + 1
  | .held _ => 1
def uptoBulkAll {H : Type} : List (DataW H) → Nat
  | [] => 0
  | d :: r => uptoBulk d + uptoBulkAll r
def uptoBulkEntries {H : Type} : List (Lit × DataW H) → Nat
  | [] => 0
  | x :: r => uptoBulkEntry x + uptoBulkEntries r
def uptoBulkEntry {H : Type} : Lit × DataW H → Nat
  | (.string bytes, d) => bytes.length + uptoBulk d + 1
  | (_, d) => uptoBulk d + 1
 end
def uptoSmall : (H : Type) → List (DataW H) → Bool := fun _ ds => decide (uptoBulkAll ds ≤ 1048576)
def OpenSpec.upto (s : _root_.Go.ChangeSpec) : _root_.Go.OpenSpec := { _root_.Go.OpenSpec.ofChange s with cond := some uptoSmall }

/-- 'trunklinelaw10.TsnAny', WHERE WHAT IT READS IS OF BULK AT MOST 1048576: true; the input reads as it did. -/
def tsnAnyUptoRow : OpenClaim := { program := "ytlbfenfepmmihaa", sum := "e9afadaffd9925688fb917442f44083184e97f1d391200eda94cb67812e59fe4", func := "trunkline/trunklinelaw10.TsnAny", spec := "tsnAny", unfollowed := true, recurses := true, apart := false, narrowed := true }
def TsnAnyUptoSaid : Prop := tsnAnyUptoRow.holds Try.pinned (OpenSpec.upto tsnAnySpec)

/-- 'trunklinelaw10.TsnTells', WHERE WHAT IT READS IS OF BULK AT MOST 1048576: true; the input reads as it did. -/
def tsnTellsUptoRow : OpenClaim := { program := "ytlbfenfepmmihaa", sum := "e9afadaffd9925688fb917442f44083184e97f1d391200eda94cb67812e59fe4", func := "trunkline/trunklinelaw10.TsnTells", spec := "tsnTells", unfollowed := true, recurses := true, apart := false, narrowed := true }
def TsnTellsUptoSaid : Prop := tsnTellsUptoRow.holds Try.pinned (OpenSpec.upto tsnTellsSpec)

/-- 'trunklinelaw10.TsnFar', WHERE WHAT IT READS IS OF BULK AT MOST 1048576: true; the input reads as it did. -/
def tsnFarUptoRow : OpenClaim := { program := "ytlbfenfepmmihaa", sum := "e9afadaffd9925688fb917442f44083184e97f1d391200eda94cb67812e59fe4", func := "trunkline/trunklinelaw10.TsnFar", spec := "tsnFar", unfollowed := true, recurses := true, apart := false, narrowed := true }
def TsnFarUptoSaid : Prop := tsnFarUptoRow.holds Try.pinned (OpenSpec.upto tsnFarSpec)

/-- 'trunklinelaw10.TsnNil', WHERE WHAT IT READS IS OF BULK AT MOST 1048576: true; the input reads as it did. -/
def tsnNilUptoRow : OpenClaim := { program := "ytlbfenfepmmihaa", sum := "e9afadaffd9925688fb917442f44083184e97f1d391200eda94cb67812e59fe4", func := "trunkline/trunklinelaw10.TsnNil", spec := "tsnNil", unfollowed := true, recurses := true, apart := false, narrowed := true }
def TsnNilUptoSaid : Prop := tsnNilUptoRow.holds Try.pinned (OpenSpec.upto tsnNilSpec)

/-- 'trunklinelaw14.AssocPairs', WHERE WHAT IT READS IS OF BULK AT MOST 1048576: true; the input reads as it did. -/
def assocPairsUptoRow : OpenClaim := { program := "ytlbfenfepmmihaa", sum := "e9afadaffd9925688fb917442f44083184e97f1d391200eda94cb67812e59fe4", func := "trunkline/trunklinelaw14.AssocPairs", spec := "assocPairs", apart := false, narrowed := true }
def AssocPairsUptoSaid : Prop := assocPairsUptoRow.holds Try.pinned (OpenSpec.upto assocPairsSpec)

/-- 'trunklinelaw14.AssocMeets', WHERE WHAT IT READS IS OF BULK AT MOST 1048576: true; the input reads as it did. -/
def assocMeetsUptoRow : OpenClaim := { program := "ytlbfenfepmmihaa", sum := "e9afadaffd9925688fb917442f44083184e97f1d391200eda94cb67812e59fe4", func := "trunkline/trunklinelaw14.AssocMeets", spec := "assocMeets", apart := false, narrowed := true }
def AssocMeetsUptoSaid : Prop := assocMeetsUptoRow.holds Try.pinned (OpenSpec.upto assocMeetsSpec)

/-- 'trunklinelaw14.AssocParts', WHERE WHAT IT READS IS OF BULK AT MOST 1048576: true; the input reads as it did. -/
def assocPartsUptoRow : OpenClaim := { program := "ytlbfenfepmmihaa", sum := "e9afadaffd9925688fb917442f44083184e97f1d391200eda94cb67812e59fe4", func := "trunkline/trunklinelaw14.AssocParts", spec := "assocParts", apart := false, narrowed := true }
def AssocPartsUptoSaid : Prop := assocPartsUptoRow.holds Try.pinned (OpenSpec.upto assocPartsSpec)

/-- 'trunklinelaw13.SendqFast', WHERE WHAT IT READS IS OF BULK AT MOST 1048576: true; the input reads as it did. -/
def sendqFastUptoRow : OpenClaim := { program := "ytlbfenfepmmihaa", sum := "e9afadaffd9925688fb917442f44083184e97f1d391200eda94cb67812e59fe4", func := "trunkline/trunklinelaw13.SendqFast", spec := "sendqFast", unfollowed := true, recurses := true, apart := false, narrowed := true }
def SendqFastUptoSaid : Prop := sendqFastUptoRow.holds Try.pinned (OpenSpec.upto sendqFastSpec)

/-- 'trunklinelaw13.SendqFull', WHERE WHAT IT READS IS OF BULK AT MOST 1048576: true; the input reads as it did. -/
def sendqFullUptoRow : OpenClaim := { program := "ytlbfenfepmmihaa", sum := "e9afadaffd9925688fb917442f44083184e97f1d391200eda94cb67812e59fe4", func := "trunkline/trunklinelaw13.SendqFull", spec := "sendqFull", unfollowed := true, recurses := true, apart := false, narrowed := true }
def SendqFullUptoSaid : Prop := sendqFullUptoRow.holds Try.pinned (OpenSpec.upto sendqFullSpec)

/-- 'trunklinelaw05.WheelOnce', WHERE WHAT IT READS IS OF BULK AT MOST 1048576: true; the input reads as it did. -/
def wheelOnceUptoRow : OpenClaim := { program := "ytlbfenfepmmihaa", sum := "e9afadaffd9925688fb917442f44083184e97f1d391200eda94cb67812e59fe4", func := "trunkline/trunklinelaw05.WheelOnce", spec := "wheelOnce", unfollowed := true, recurses := true, apart := false, narrowed := true }
def WheelOnceUptoSaid : Prop := wheelOnceUptoRow.holds Try.pinned (OpenSpec.upto wheelOnceSpec)

/-- 'trunklinelaw05.WheelOrder', WHERE WHAT IT READS IS OF BULK AT MOST 1048576: true; the input reads as it did. -/
def wheelOrderUptoRow : OpenClaim := { program := "ytlbfenfepmmihaa", sum := "e9afadaffd9925688fb917442f44083184e97f1d391200eda94cb67812e59fe4", func := "trunkline/trunklinelaw05.WheelOrder", spec := "wheelOrder", unfollowed := true, recurses := true, apart := false, narrowed := true }
def WheelOrderUptoSaid : Prop := wheelOrderUptoRow.holds Try.pinned (OpenSpec.upto wheelOrderSpec)

/-- 'trunklinelaw13.SendqNil', WHERE WHAT IT READS IS OF BULK AT MOST 1048576: true; the input reads as it did. -/
def sendqNilUptoRow : OpenClaim := { program := "ytlbfenfepmmihaa", sum := "e9afadaffd9925688fb917442f44083184e97f1d391200eda94cb67812e59fe4", func := "trunkline/trunklinelaw13.SendqNil", spec := "sendqNil", unfollowed := true, recurses := true, apart := false, narrowed := true }
def SendqNilUptoSaid : Prop := sendqNilUptoRow.holds Try.pinned (OpenSpec.upto sendqNilSpec)

/-- 'trunklinelaw05.WheelFull', WHERE WHAT IT READS IS OF BULK AT MOST 1048576: true; the input reads as it did. -/
def wheelFullUptoRow : OpenClaim := { program := "ytlbfenfepmmihaa", sum := "e9afadaffd9925688fb917442f44083184e97f1d391200eda94cb67812e59fe4", func := "trunkline/trunklinelaw05.WheelFull", spec := "wheelFull", unfollowed := true, recurses := true, apart := false, narrowed := true }
def WheelFullUptoSaid : Prop := wheelFullUptoRow.holds Try.pinned (OpenSpec.upto wheelFullSpec)

/-- 'trunklinelaw21.RouteFull', WHERE WHAT IT READS IS OF BULK AT MOST 1048576: true; the input reads as it did. -/
def routeFullUptoRow : OpenClaim := { program := "ytlbfenfepmmihaa", sum := "e9afadaffd9925688fb917442f44083184e97f1d391200eda94cb67812e59fe4", func := "trunkline/trunklinelaw21.RouteFull", spec := "routeFull", unfollowed := true, recurses := true, apart := false, narrowed := true }
def RouteFullUptoSaid : Prop := routeFullUptoRow.holds Try.pinned (OpenSpec.upto routeFullSpec)

end Rows
end Go.Proofs.Ytlbfenfepmmihaa
