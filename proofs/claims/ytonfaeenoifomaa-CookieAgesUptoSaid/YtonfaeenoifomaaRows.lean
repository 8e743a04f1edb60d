/-
  No cell of these rows narrows 'for every input' (looked for: loops, veiled, ifaces, maps, wideKeys, modest, calm, conditions, laid).
  DERIVED. THE GIVEN ROWS OF THIS SEAT. 11 by the template 'for every input the law returns true; each argument reads behind the call as it read before'; 0 by the template 'total and deterministic' (their statements: YtonfaeenoifomaaTotals.lean).
  GIVEN WITH THE SEED: the statements are not yours to turn. If you find one false, say at which input.
  Laid BY PROGRAM, IN A SANDBOX (cutbox-rows.mjs): the forced cells as the released guide's own fill.sh prints them over the translation 3d5a654105aaa316… (all of the seat's roots in one cut). By AI agents, Wed Nov 11 2026. No macro, syntax, notation, axiom, sorry.
-/
import Derived.Test.YtonfaeenoifomaaChecked
import GoSem.Claim
import GoSem.ClaimJoined
import GoSem.ClaimMapViews
import Derived.JoinedTies
import Derived.KernelRfl
namespace Go.Proofs.Ytonfaeenoifomaa
/- THE CELL 'sum', in the pinned program and in every row, IS THE sha256 OF THE DUMP (.gsa) THAT YtonfaeenoifomaaProg.lean LOADS. Nothing in Lean hashes anything: it is a label: what it is worth is what the hold of that sum in a sandbox is worth. -/
noncomputable def Try.pinned : Pinned := { name := "ytonfaeenoifomaa", sum := "3d5a654105aaa316d7009dd54ac5696bb449530e009a50c051a0c09a1256ca60", checked := Try.checked }
namespace Rows
def none {H : Type} : Left H := { results := [], args := [] }

/-- 'trunklinelaw07.ChunkPuts': WHATEVER THE INPUT: true; the input reads as it did. -/
def chunkPutsSpec : ChangeSpec := { name := "chunkPuts", fn := fun _ => fun
  | [d] => { results := [.lit (.bool true)], args := [d] }
  | _ => none }
def chunkPutsRow : OpenClaim := { program := "ytonfaeenoifomaa", sum := "3d5a654105aaa316d7009dd54ac5696bb449530e009a50c051a0c09a1256ca60", func := "trunkline/trunklinelaw07.ChunkPuts", spec := "chunkPuts", apart := false }
def ChunkPutsSaid : Prop := chunkPutsRow.holds Try.pinned (OpenSpec.ofChange chunkPutsSpec)

/-- ITS FALSE NEIGHBOUR: 'it returns false'. Refute it at one input. -/
def chunkPutsWrong : ChangeSpec := { name := "chunkPuts", fn := fun _ => fun
  | [d] => { results := [.lit (.bool false)], args := [d] }
  | _ => none }
def ChunkPutsWrongFalsely : Prop := chunkPutsRow.holds Try.pinned (OpenSpec.ofChange chunkPutsWrong)

/-- 'trunklinelaw09.CookieAges': WHATEVER THE INPUT: true; the input reads as it did. -/
def cookieAgesSpec : ChangeSpec := { name := "cookieAges", fn := fun _ => fun
  | [d1, d2, d3] => { results := [.lit (.bool true)], args := [d1, d2, d3] }
  | _ => none }
def cookieAgesRow : OpenClaim := { program := "ytonfaeenoifomaa", sum := "3d5a654105aaa316d7009dd54ac5696bb449530e009a50c051a0c09a1256ca60", func := "trunkline/trunklinelaw09.CookieAges", spec := "cookieAges", apart := false }
def CookieAgesSaid : Prop := cookieAgesRow.holds Try.pinned (OpenSpec.ofChange cookieAgesSpec)

/-- ITS FALSE NEIGHBOUR: 'it returns false'. Refute it at one input. -/
def cookieAgesWrong : ChangeSpec := { name := "cookieAges", fn := fun _ => fun
  | [d1, d2, d3] => { results := [.lit (.bool false)], args := [d1, d2, d3] }
  | _ => none }
def CookieAgesWrongFalsely : Prop := cookieAgesRow.holds Try.pinned (OpenSpec.ofChange cookieAgesWrong)

/-- 'trunklinelaw07.ChunkGets': WHATEVER THE INPUT: true; the input reads as it did. -/
def chunkGetsSpec : ChangeSpec := { name := "chunkGets", fn := fun _ => fun
  | [d] => { results := [.lit (.bool true)], args := [d] }
  | _ => none }
def chunkGetsRow : OpenClaim := { program := "ytonfaeenoifomaa", sum := "3d5a654105aaa316d7009dd54ac5696bb449530e009a50c051a0c09a1256ca60", func := "trunkline/trunklinelaw07.ChunkGets", spec := "chunkGets", unfollowed := true, recurses := true, apart := false }
def ChunkGetsSaid : Prop := chunkGetsRow.holds Try.pinned (OpenSpec.ofChange chunkGetsSpec)

/-- ITS FALSE NEIGHBOUR: 'it returns false'. Refute it at one input. -/
def chunkGetsWrong : ChangeSpec := { name := "chunkGets", fn := fun _ => fun
  | [d] => { results := [.lit (.bool false)], args := [d] }
  | _ => none }
def ChunkGetsWrongFalsely : Prop := chunkGetsRow.holds Try.pinned (OpenSpec.ofChange chunkGetsWrong)

/-- 'trunklinelaw07.ChunkBack': WHATEVER THE INPUT: true; the input reads as it did. -/
def chunkBackSpec : ChangeSpec := { name := "chunkBack", fn := fun _ => fun
  | [d1, d2, d3] => { results := [.lit (.bool true)], args := [d1, d2, d3] }
  | _ => none }
def chunkBackRow : OpenClaim := { program := "ytonfaeenoifomaa", sum := "3d5a654105aaa316d7009dd54ac5696bb449530e009a50c051a0c09a1256ca60", func := "trunkline/trunklinelaw07.ChunkBack", spec := "chunkBack", unfollowed := true, recurses := true, apart := false }
def ChunkBackSaid : Prop := chunkBackRow.holds Try.pinned (OpenSpec.ofChange chunkBackSpec)

/-- ITS FALSE NEIGHBOUR: 'it returns false'. Refute it at one input. -/
def chunkBackWrong : ChangeSpec := { name := "chunkBack", fn := fun _ => fun
  | [d1, d2, d3] => { results := [.lit (.bool false)], args := [d1, d2, d3] }
  | _ => none }
def ChunkBackWrongFalsely : Prop := chunkBackRow.holds Try.pinned (OpenSpec.ofChange chunkBackWrong)

/-- 'trunklinelaw07.ChunkPieces': WHATEVER THE INPUT: true; the input reads as it did. -/
def chunkPiecesSpec : ChangeSpec := { name := "chunkPieces", fn := fun _ => fun
  | [d1, d2] => { results := [.lit (.bool true)], args := [d1, d2] }
  | _ => none }
def chunkPiecesRow : OpenClaim := { program := "ytonfaeenoifomaa", sum := "3d5a654105aaa316d7009dd54ac5696bb449530e009a50c051a0c09a1256ca60", func := "trunkline/trunklinelaw07.ChunkPieces", spec := "chunkPieces", apart := false }
def ChunkPiecesSaid : Prop := chunkPiecesRow.holds Try.pinned (OpenSpec.ofChange chunkPiecesSpec)

/-- ITS FALSE NEIGHBOUR: 'it returns false'. Refute it at one input. -/
def chunkPiecesWrong : ChangeSpec := { name := "chunkPieces", fn := fun _ => fun
  | [d1, d2] => { results := [.lit (.bool false)], args := [d1, d2] }
  | _ => none }
def ChunkPiecesWrongFalsely : Prop := chunkPiecesRow.holds Try.pinned (OpenSpec.ofChange chunkPiecesWrong)

/-- 'trunklinelaw07.ChunkHellos': WHATEVER THE INPUT: true; the input reads as it did. -/
def chunkHellosSpec : ChangeSpec := { name := "chunkHellos", fn := fun _ => fun
  | [d1, d2, d3] => { results := [.lit (.bool true)], args := [d1, d2, d3] }
  | _ => none }
def chunkHellosRow : OpenClaim := { program := "ytonfaeenoifomaa", sum := "3d5a654105aaa316d7009dd54ac5696bb449530e009a50c051a0c09a1256ca60", func := "trunkline/trunklinelaw07.ChunkHellos", spec := "chunkHellos", apart := false }
def ChunkHellosSaid : Prop := chunkHellosRow.holds Try.pinned (OpenSpec.ofChange chunkHellosSpec)

/-- ITS FALSE NEIGHBOUR: 'it returns false'. Refute it at one input. -/
def chunkHellosWrong : ChangeSpec := { name := "chunkHellos", fn := fun _ => fun
  | [d1, d2, d3] => { results := [.lit (.bool false)], args := [d1, d2, d3] }
  | _ => none }
def ChunkHellosWrongFalsely : Prop := chunkHellosRow.holds Try.pinned (OpenSpec.ofChange chunkHellosWrong)

/-- 'trunklinelaw07.ChunkHeards': WHATEVER THE INPUT: true; the input reads as it did. -/
def chunkHeardsSpec : ChangeSpec := { name := "chunkHeards", fn := fun _ => fun
  | [d1, d2] => { results := [.lit (.bool true)], args := [d1, d2] }
  | _ => none }
def chunkHeardsRow : OpenClaim := { program := "ytonfaeenoifomaa", sum := "3d5a654105aaa316d7009dd54ac5696bb449530e009a50c051a0c09a1256ca60", func := "trunkline/trunklinelaw07.ChunkHeards", spec := "chunkHeards", apart := false }
def ChunkHeardsSaid : Prop := chunkHeardsRow.holds Try.pinned (OpenSpec.ofChange chunkHeardsSpec)

/-- ITS FALSE NEIGHBOUR: 'it returns false'. Refute it at one input. -/
def chunkHeardsWrong : ChangeSpec := { name := "chunkHeards", fn := fun _ => fun
  | [d1, d2] => { results := [.lit (.bool false)], args := [d1, d2] }
  | _ => none }
def ChunkHeardsWrongFalsely : Prop := chunkHeardsRow.holds Try.pinned (OpenSpec.ofChange chunkHeardsWrong)

/-- 'trunklinelaw09.CookieSeals': WHATEVER THE INPUT: true; the input reads as it did. -/
def cookieSealsSpec : ChangeSpec := { name := "cookieSeals", fn := fun _ => fun
  | [d1, d2] => { results := [.lit (.bool true)], args := [d1, d2] }
  | _ => none }
def cookieSealsRow : OpenClaim := { program := "ytonfaeenoifomaa", sum := "3d5a654105aaa316d7009dd54ac5696bb449530e009a50c051a0c09a1256ca60", func := "trunkline/trunklinelaw09.CookieSeals", spec := "cookieSeals", apart := false }
def CookieSealsSaid : Prop := cookieSealsRow.holds Try.pinned (OpenSpec.ofChange cookieSealsSpec)

/-- ITS FALSE NEIGHBOUR: 'it returns false'. Refute it at one input. -/
def cookieSealsWrong : ChangeSpec := { name := "cookieSeals", fn := fun _ => fun
  | [d1, d2] => { results := [.lit (.bool false)], args := [d1, d2] }
  | _ => none }
def CookieSealsWrongFalsely : Prop := cookieSealsRow.holds Try.pinned (OpenSpec.ofChange cookieSealsWrong)

/-- 'trunklinelaw09.CookieOpens': WHATEVER THE INPUT: true; the input reads as it did. -/
def cookieOpensSpec : ChangeSpec := { name := "cookieOpens", fn := fun _ => fun
  | [d1, d2] => { results := [.lit (.bool true)], args := [d1, d2] }
  | _ => none }
def cookieOpensRow : OpenClaim := { program := "ytonfaeenoifomaa", sum := "3d5a654105aaa316d7009dd54ac5696bb449530e009a50c051a0c09a1256ca60", func := "trunkline/trunklinelaw09.CookieOpens", spec := "cookieOpens", apart := false }
def CookieOpensSaid : Prop := cookieOpensRow.holds Try.pinned (OpenSpec.ofChange cookieOpensSpec)

/-- ITS FALSE NEIGHBOUR: 'it returns false'. Refute it at one input. -/
def cookieOpensWrong : ChangeSpec := { name := "cookieOpens", fn := fun _ => fun
  | [d1, d2] => { results := [.lit (.bool false)], args := [d1, d2] }
  | _ => none }
def CookieOpensWrongFalsely : Prop := cookieOpensRow.holds Try.pinned (OpenSpec.ofChange cookieOpensWrong)

/-- 'trunklinelaw09.CookieTurns': WHATEVER THE INPUT: true; the input reads as it did. -/
def cookieTurnsSpec : ChangeSpec := { name := "cookieTurns", fn := fun _ => fun
  | [d1, d2, d3, d4] => { results := [.lit (.bool true)], args := [d1, d2, d3, d4] }
  | _ => none }
def cookieTurnsRow : OpenClaim := { program := "ytonfaeenoifomaa", sum := "3d5a654105aaa316d7009dd54ac5696bb449530e009a50c051a0c09a1256ca60", func := "trunkline/trunklinelaw09.CookieTurns", spec := "cookieTurns", apart := false }
def CookieTurnsSaid : Prop := cookieTurnsRow.holds Try.pinned (OpenSpec.ofChange cookieTurnsSpec)

/-- ITS FALSE NEIGHBOUR: 'it returns false'. Refute it at one input. -/
def cookieTurnsWrong : ChangeSpec := { name := "cookieTurns", fn := fun _ => fun
  | [d1, d2, d3, d4] => { results := [.lit (.bool false)], args := [d1, d2, d3, d4] }
  | _ => none }
def CookieTurnsWrongFalsely : Prop := cookieTurnsRow.holds Try.pinned (OpenSpec.ofChange cookieTurnsWrong)

/-- 'trunklinelaw07.ChunkActions': WHATEVER THE INPUT: true; the input reads as it did. -/
def chunkActionsSpec : ChangeSpec := { name := "chunkActions", fn := fun _ => fun
  | [d1, d2] => { results := [.lit (.bool true)], args := [d1, d2] }
  | _ => none }
def chunkActionsRow : OpenClaim := { program := "ytonfaeenoifomaa", sum := "3d5a654105aaa316d7009dd54ac5696bb449530e009a50c051a0c09a1256ca60", func := "trunkline/trunklinelaw07.ChunkActions", spec := "chunkActions", apart := false }
def ChunkActionsSaid : Prop := chunkActionsRow.holds Try.pinned (OpenSpec.ofChange chunkActionsSpec)

/-- ITS FALSE NEIGHBOUR: 'it returns false'. Refute it at one input. -/
def chunkActionsWrong : ChangeSpec := { name := "chunkActions", fn := fun _ => fun
  | [d1, d2] => { results := [.lit (.bool false)], args := [d1, d2] }
  | _ => none }
def ChunkActionsWrongFalsely : Prop := chunkActionsRow.holds Try.pinned (OpenSpec.ofChange chunkActionsWrong)

/- THE SECOND FORM. 'bulk': how many values and letters a reading holds, each counted each time it is reached (what is shared counts as often as it is met; a slice's spare places count too). A statement '..UptoSaid' is the law's where the arguments, and the package variables that the reading takes, are together of bulk at most 1048576: NARROWER than '..Said'. Prove '..Said' where nothing that the law and all that it calls make is longer than what came in: it says more and counts as full. Else prove '..UptoSaid'. A law counts once. -/
mutual
def uptoBulk {H : Type} : DataW H → Nat
  | .lit (.string bytes) => bytes.length + 1
  | .lit _ => 1
  | .nil => 1
  | .ptr d => uptoBulk d + 1
  | .slice elems spare => uptoBulkAll elems + uptoBulkAll spare + 1
  | .agg parts => uptoBulkAll parts + 1
  | .iface _ d => uptoBulk d + 1
  | .map entries => uptoBulkEntries entries + 1
  | .held _ => 1
def uptoBulkAll {H : Type} : List (DataW H) → Nat
  | [] => 0
  | d :: r => uptoBulk d + uptoBulkAll r
def uptoBulkEntries {H : Type} : List (Lit × DataW H) → Nat
  | [] => 0
  | x :: r => uptoBulkEntry x + uptoBulkEntries r
def uptoBulkEntry {H : Type} : Lit × DataW H → Nat
  | (.string bytes, d) => bytes.length + uptoBulk d + 1
  | (_, d) => uptoBulk d + 1
 end
def uptoSmall : (H : Type) → List (DataW H) → Bool := fun _ ds => decide (uptoBulkAll ds ≤ 1048576)
def OpenSpec.upto (s : _root_.Go.ChangeSpec) : _root_.Go.OpenSpec := { _root_.Go.OpenSpec.ofChange s with cond := some uptoSmall }

/-- 'trunklinelaw07.ChunkPuts', WHERE WHAT IT READS IS OF BULK AT MOST 1048576: true; the input reads as it did. -/
def chunkPutsUptoRow : OpenClaim := { program := "ytonfaeenoifomaa", sum := "3d5a654105aaa316d7009dd54ac5696bb449530e009a50c051a0c09a1256ca60", func := "trunkline/trunklinelaw07.ChunkPuts", spec := "chunkPuts", apart := false, narrowed := true }
def ChunkPutsUptoSaid : Prop := chunkPutsUptoRow.holds Try.pinned (OpenSpec.upto chunkPutsSpec)

/-- 'trunklinelaw09.CookieAges', WHERE WHAT IT READS IS OF BULK AT MOST 1048576: true; the input reads as it did. -/
def cookieAgesUptoRow : OpenClaim := { program := "ytonfaeenoifomaa", sum := "3d5a654105aaa316d7009dd54ac5696bb449530e009a50c051a0c09a1256ca60", func := "trunkline/trunklinelaw09.CookieAges", spec := "cookieAges", apart := false, narrowed := true }
def CookieAgesUptoSaid : Prop := cookieAgesUptoRow.holds Try.pinned (OpenSpec.upto cookieAgesSpec)

/-- 'trunklinelaw07.ChunkGets', WHERE WHAT IT READS IS OF BULK AT MOST 1048576: true; the input reads as it did. -/
def chunkGetsUptoRow : OpenClaim := { program := "ytonfaeenoifomaa", sum := "3d5a654105aaa316d7009dd54ac5696bb449530e009a50c051a0c09a1256ca60", func := "trunkline/trunklinelaw07.ChunkGets", spec := "chunkGets", unfollowed := true, recurses := true, apart := false, narrowed := true }
def ChunkGetsUptoSaid : Prop := chunkGetsUptoRow.holds Try.pinned (OpenSpec.upto chunkGetsSpec)

/-- 'trunklinelaw07.ChunkBack', WHERE WHAT IT READS IS OF BULK AT MOST 1048576: true; the input reads as it did. -/
def chunkBackUptoRow : OpenClaim := { program := "ytonfaeenoifomaa", sum := "3d5a654105aaa316d7009dd54ac5696bb449530e009a50c051a0c09a1256ca60", func := "trunkline/trunklinelaw07.ChunkBack", spec := "chunkBack", unfollowed := true, recurses := true, apart := false, narrowed := true }
def ChunkBackUptoSaid : Prop := chunkBackUptoRow.holds Try.pinned (OpenSpec.upto chunkBackSpec)

/-- 'trunklinelaw07.ChunkPieces', WHERE WHAT IT READS IS OF BULK AT MOST 1048576: true; the input reads as it did. -/
def chunkPiecesUptoRow : OpenClaim := { program := "ytonfaeenoifomaa", sum := "3d5a654105aaa316d7009dd54ac5696bb449530e009a50c051a0c09a1256ca60", func := "trunkline/trunklinelaw07.ChunkPieces", spec := "chunkPieces", apart := false, narrowed := true }
def ChunkPiecesUptoSaid : Prop := chunkPiecesUptoRow.holds Try.pinned (OpenSpec.upto chunkPiecesSpec)

/-- 'trunklinelaw07.ChunkHellos', WHERE WHAT IT READS IS OF BULK AT MOST 1048576: true; the input reads as it did. -/
def chunkHellosUptoRow : OpenClaim := { program := "ytonfaeenoifomaa", sum := "3d5a654105aaa316d7009dd54ac5696bb449530e009a50c051a0c09a1256ca60", func := "trunkline/trunklinelaw07.ChunkHellos", spec := "chunkHellos", apart := false, narrowed := true }
def ChunkHellosUptoSaid : Prop := chunkHellosUptoRow.holds Try.pinned (OpenSpec.upto chunkHellosSpec)

/-- 'trunklinelaw07.ChunkHeards', WHERE WHAT IT READS IS OF BULK AT MOST 1048576: true; the input reads as it did. -/
def chunkHeardsUptoRow : OpenClaim := { program := "ytonfaeenoifomaa", sum := "3d5a654105aaa316d7009dd54ac5696bb449530e009a50c051a0c09a1256ca60", func := "trunkline/trunklinelaw07.ChunkHeards", spec := "chunkHeards", apart := false, narrowed := true }
def ChunkHeardsUptoSaid : Prop := chunkHeardsUptoRow.holds Try.pinned (OpenSpec.upto chunkHeardsSpec)

/-- 'trunklinelaw09.CookieSeals', WHERE WHAT IT READS IS OF BULK AT MOST 1048576: true; the input reads as it did. -/
def cookieSealsUptoRow : OpenClaim := { program := "ytonfaeenoifomaa", sum := "3d5a654105aaa316d7009dd54ac5696bb449530e009a50c051a0c09a1256ca60", func := "trunkline/trunklinelaw09.CookieSeals", spec := "cookieSeals", apart := false, narrowed := true }
def CookieSealsUptoSaid : Prop := cookieSealsUptoRow.holds Try.pinned (OpenSpec.upto cookieSealsSpec)

/-- 'trunklinelaw09.CookieOpens', WHERE WHAT IT READS IS OF BULK AT MOST 1048576: true; the input reads as it did. -/
def cookieOpensUptoRow : OpenClaim := { program := "ytonfaeenoifomaa", sum := "3d5a654105aaa316d7009dd54ac5696bb449530e009a50c051a0c09a1256ca60", func := "trunkline/trunklinelaw09.CookieOpens", spec := "cookieOpens", apart := false, narrowed := true }
def CookieOpensUptoSaid : Prop := cookieOpensUptoRow.holds Try.pinned (OpenSpec.upto cookieOpensSpec)

/-- 'trunklinelaw09.CookieTurns', WHERE WHAT IT READS IS OF BULK AT MOST 1048576: true; the input reads as it did. -/
def cookieTurnsUptoRow : OpenClaim := { program := "ytonfaeenoifomaa", sum := "3d5a654105aaa316d7009dd54ac5696bb449530e009a50c051a0c09a1256ca60", func := "trunkline/trunklinelaw09.CookieTurns", spec := "cookieTurns", apart := false, narrowed := true }
def CookieTurnsUptoSaid : Prop := cookieTurnsUptoRow.holds Try.pinned (OpenSpec.upto cookieTurnsSpec)

/-- 'trunklinelaw07.ChunkActions', WHERE WHAT IT READS IS OF BULK AT MOST 1048576: true; the input reads as it did. -/
def chunkActionsUptoRow : OpenClaim := { program := "ytonfaeenoifomaa", sum := "3d5a654105aaa316d7009dd54ac5696bb449530e009a50c051a0c09a1256ca60", func := "trunkline/trunklinelaw07.ChunkActions", spec := "chunkActions", apart := false, narrowed := true }
def ChunkActionsUptoSaid : Prop := chunkActionsUptoRow.holds Try.pinned (OpenSpec.upto chunkActionsSpec)

end Rows
end Go.Proofs.Ytonfaeenoifomaa
