/-
  NARROWER THAN 'FOR EVERY INPUT', by the rows' own cells (each row's printed sentence says how): TicketMakes: loops · TicketOpens: loops · TicketBoxes: loops · TicketBack: loops · TicketShape: loops · TicketNames: loops · CredMakes: loops · CredHands: loops · CredShows: loops · CredOpens: loops · CredShort: loops · BackendKeys: loops · BackendTakes: loops · BackendOnly: loops.
  DERIVED. THE GIVEN ROWS OF THIS SEAT. 16 by the template 'for every input the law returns true; each argument reads behind the call as it read before'; 0 by the template 'total and deterministic' (their statements: YtlgaolpkeejmdaaTotals.lean).
  GIVEN WITH THE SEED: the statements are not yours to turn. If you find one false, say at which input.
  Laid BY PROGRAM, IN A SANDBOX (cutbox-rows.mjs): the forced cells as the released guide's own fill.sh prints them over the translation 69170032e987f105… (all of the seat's roots in one cut). By AI agents, Wed Nov 11 2026. No macro, syntax, notation, axiom, sorry.
-/
import Derived.Test.YtlgaolpkeejmdaaChecked
import GoSem.Claim
import GoSem.ClaimJoined
import GoSem.ClaimMapViews
import Derived.JoinedTies
import Derived.KernelRfl
namespace Go.Proofs.Ytlgaolpkeejmdaa
/- THE CELL 'sum', in the pinned program and in every row, IS THE sha256 OF THE DUMP (.gsa) THAT YtlgaolpkeejmdaaProg.lean LOADS. Nothing in Lean hashes anything: it is a label: what it is worth is what the hold of that sum in a sandbox is worth. -/
noncomputable def Try.pinned : Pinned := { name := "ytlgaolpkeejmdaa", sum := "69170032e987f10515463bfa641d6f125f55006143d3deec13fe9c41042c265c", checked := Try.checked }
namespace Rows
def none {H : Type} : Left H := { results := [], args := [] }

/-- 'legatelaw14.TicketMakes': WHATEVER THE INPUT: true; the input reads as it did. -/
def ticketMakesSpec : ChangeSpec := { name := "ticketMakes", fn := fun _ => fun
  | [d1, d2, d3, d4] => { results := [.lit (.bool true)], args := [d1, d2, d3, d4] }
  | _ => none }
def ticketMakesRow : OpenClaim := { program := "ytlgaolpkeejmdaa", sum := "69170032e987f10515463bfa641d6f125f55006143d3deec13fe9c41042c265c", func := "legate/legatelaw14.TicketMakes", spec := "ticketMakes", inPlace := ["internal/bytealg.IndexByteString", "internal/bytealg.abigen_runtime_cmpstring"], unfollowed := true, recurses := true, loops := true, apart := false }
def TicketMakesSaid : Prop := ticketMakesRow.holds Try.pinned (OpenSpec.ofChange ticketMakesSpec)

/-- ITS FALSE NEIGHBOUR: 'it returns false'. Refute it at one input. -/
def ticketMakesWrong : ChangeSpec := { name := "ticketMakes", fn := fun _ => fun
  | [d1, d2, d3, d4] => { results := [.lit (.bool false)], args := [d1, d2, d3, d4] }
  | _ => none }
def TicketMakesWrongFalsely : Prop := ticketMakesRow.holds Try.pinned (OpenSpec.ofChange ticketMakesWrong)

/-- 'legatelaw14.TicketOpens': WHATEVER THE INPUT: true; the input reads as it did. -/
def ticketOpensSpec : ChangeSpec := { name := "ticketOpens", fn := fun _ => fun
  | [d1, d2] => { results := [.lit (.bool true)], args := [d1, d2] }
  | _ => none }
def ticketOpensRow : OpenClaim := { program := "ytlgaolpkeejmdaa", sum := "69170032e987f10515463bfa641d6f125f55006143d3deec13fe9c41042c265c", func := "legate/legatelaw14.TicketOpens", spec := "ticketOpens", inPlace := ["internal/bytealg.IndexByteString", "internal/bytealg.abigen_runtime_cmpstring"], unfollowed := true, recurses := true, loops := true, apart := false }
def TicketOpensSaid : Prop := ticketOpensRow.holds Try.pinned (OpenSpec.ofChange ticketOpensSpec)

/-- ITS FALSE NEIGHBOUR: 'it returns false'. Refute it at one input. -/
def ticketOpensWrong : ChangeSpec := { name := "ticketOpens", fn := fun _ => fun
  | [d1, d2] => { results := [.lit (.bool false)], args := [d1, d2] }
  | _ => none }
def TicketOpensWrongFalsely : Prop := ticketOpensRow.holds Try.pinned (OpenSpec.ofChange ticketOpensWrong)

/-- 'legatelaw14.TicketBoxes': WHATEVER THE INPUT: true; the input reads as it did. -/
def ticketBoxesSpec : ChangeSpec := { name := "ticketBoxes", fn := fun _ => fun
  | [d1, d2, d3, d4, d5, d6] => { results := [.lit (.bool true)], args := [d1, d2, d3, d4, d5, d6] }
  | _ => none }
def ticketBoxesRow : OpenClaim := { program := "ytlgaolpkeejmdaa", sum := "69170032e987f10515463bfa641d6f125f55006143d3deec13fe9c41042c265c", func := "legate/legatelaw14.TicketBoxes", spec := "ticketBoxes", inPlace := ["internal/bytealg.IndexByteString", "internal/bytealg.abigen_runtime_cmpstring"], unfollowed := true, recurses := true, loops := true, apart := false }
def TicketBoxesSaid : Prop := ticketBoxesRow.holds Try.pinned (OpenSpec.ofChange ticketBoxesSpec)

/-- ITS FALSE NEIGHBOUR: 'it returns false'. Refute it at one input. -/
def ticketBoxesWrong : ChangeSpec := { name := "ticketBoxes", fn := fun _ => fun
  | [d1, d2, d3, d4, d5, d6] => { results := [.lit (.bool false)], args := [d1, d2, d3, d4, d5, d6] }
  | _ => none }
def TicketBoxesWrongFalsely : Prop := ticketBoxesRow.holds Try.pinned (OpenSpec.ofChange ticketBoxesWrong)

/-- 'legatelaw14.TicketBack': WHATEVER THE INPUT: true; the input reads as it did. -/
def ticketBackSpec : ChangeSpec := { name := "ticketBack", fn := fun _ => fun
  | [d1, d2, d3] => { results := [.lit (.bool true)], args := [d1, d2, d3] }
  | _ => none }
def ticketBackRow : OpenClaim := { program := "ytlgaolpkeejmdaa", sum := "69170032e987f10515463bfa641d6f125f55006143d3deec13fe9c41042c265c", func := "legate/legatelaw14.TicketBack", spec := "ticketBack", inPlace := ["internal/bytealg.IndexByteString", "internal/bytealg.abigen_runtime_cmpstring"], unfollowed := true, recurses := true, loops := true, apart := false }
def TicketBackSaid : Prop := ticketBackRow.holds Try.pinned (OpenSpec.ofChange ticketBackSpec)

/-- ITS FALSE NEIGHBOUR: 'it returns false'. Refute it at one input. -/
def ticketBackWrong : ChangeSpec := { name := "ticketBack", fn := fun _ => fun
  | [d1, d2, d3] => { results := [.lit (.bool false)], args := [d1, d2, d3] }
  | _ => none }
def TicketBackWrongFalsely : Prop := ticketBackRow.holds Try.pinned (OpenSpec.ofChange ticketBackWrong)

/-- 'legatelaw14.TicketFlags': WHATEVER THE INPUT: true; the input reads as it did. -/
def ticketFlagsSpec : ChangeSpec := { name := "ticketFlags", fn := fun _ => fun
  | [d1, d2, d3] => { results := [.lit (.bool true)], args := [d1, d2, d3] }
  | _ => none }
def ticketFlagsRow : OpenClaim := { program := "ytlgaolpkeejmdaa", sum := "69170032e987f10515463bfa641d6f125f55006143d3deec13fe9c41042c265c", func := "legate/legatelaw14.TicketFlags", spec := "ticketFlags", inPlace := ["internal/bytealg.IndexByteString", "internal/bytealg.abigen_runtime_cmpstring"], unfollowed := true, recurses := true, apart := false }
def TicketFlagsSaid : Prop := ticketFlagsRow.holds Try.pinned (OpenSpec.ofChange ticketFlagsSpec)

/-- ITS FALSE NEIGHBOUR: 'it returns false'. Refute it at one input. -/
def ticketFlagsWrong : ChangeSpec := { name := "ticketFlags", fn := fun _ => fun
  | [d1, d2, d3] => { results := [.lit (.bool false)], args := [d1, d2, d3] }
  | _ => none }
def TicketFlagsWrongFalsely : Prop := ticketFlagsRow.holds Try.pinned (OpenSpec.ofChange ticketFlagsWrong)

/-- 'legatelaw14.TicketShape': WHATEVER THE INPUT: true; the input reads as it did. -/
def ticketShapeSpec : ChangeSpec := { name := "ticketShape", fn := fun _ => fun
  | [d1, d2, d3] => { results := [.lit (.bool true)], args := [d1, d2, d3] }
  | _ => none }
def ticketShapeRow : OpenClaim := { program := "ytlgaolpkeejmdaa", sum := "69170032e987f10515463bfa641d6f125f55006143d3deec13fe9c41042c265c", func := "legate/legatelaw14.TicketShape", spec := "ticketShape", inPlace := ["internal/bytealg.IndexByteString", "internal/bytealg.abigen_runtime_cmpstring"], unfollowed := true, recurses := true, loops := true, apart := false }
def TicketShapeSaid : Prop := ticketShapeRow.holds Try.pinned (OpenSpec.ofChange ticketShapeSpec)

/-- ITS FALSE NEIGHBOUR: 'it returns false'. Refute it at one input. -/
def ticketShapeWrong : ChangeSpec := { name := "ticketShape", fn := fun _ => fun
  | [d1, d2, d3] => { results := [.lit (.bool false)], args := [d1, d2, d3] }
  | _ => none }
def TicketShapeWrongFalsely : Prop := ticketShapeRow.holds Try.pinned (OpenSpec.ofChange ticketShapeWrong)

/-- 'legatelaw14.TicketNames': WHATEVER THE INPUT: true; the input reads as it did. -/
def ticketNamesSpec : ChangeSpec := { name := "ticketNames", fn := fun _ => fun
  | [d1, d2, d3, d4] => { results := [.lit (.bool true)], args := [d1, d2, d3, d4] }
  | _ => none }
def ticketNamesRow : OpenClaim := { program := "ytlgaolpkeejmdaa", sum := "69170032e987f10515463bfa641d6f125f55006143d3deec13fe9c41042c265c", func := "legate/legatelaw14.TicketNames", spec := "ticketNames", inPlace := ["internal/bytealg.IndexByteString", "internal/bytealg.abigen_runtime_cmpstring"], unfollowed := true, recurses := true, loops := true, apart := false }
def TicketNamesSaid : Prop := ticketNamesRow.holds Try.pinned (OpenSpec.ofChange ticketNamesSpec)

/-- ITS FALSE NEIGHBOUR: 'it returns false'. Refute it at one input. -/
def ticketNamesWrong : ChangeSpec := { name := "ticketNames", fn := fun _ => fun
  | [d1, d2, d3, d4] => { results := [.lit (.bool false)], args := [d1, d2, d3, d4] }
  | _ => none }
def TicketNamesWrongFalsely : Prop := ticketNamesRow.holds Try.pinned (OpenSpec.ofChange ticketNamesWrong)

/-- 'legatelaw20.CredMakes': WHATEVER THE INPUT: true; the input reads as it did. -/
def credMakesSpec : ChangeSpec := { name := "credMakes", fn := fun _ => fun
  | [d1, d2, d3, d4, d5] => { results := [.lit (.bool true)], args := [d1, d2, d3, d4, d5] }
  | _ => none }
def credMakesRow : OpenClaim := { program := "ytlgaolpkeejmdaa", sum := "69170032e987f10515463bfa641d6f125f55006143d3deec13fe9c41042c265c", func := "legate/legatelaw20.CredMakes", spec := "credMakes", inPlace := ["internal/bytealg.IndexByteString", "internal/bytealg.abigen_runtime_cmpstring"], unfollowed := true, recurses := true, loops := true, apart := false }
def CredMakesSaid : Prop := credMakesRow.holds Try.pinned (OpenSpec.ofChange credMakesSpec)

/-- ITS FALSE NEIGHBOUR: 'it returns false'. Refute it at one input. -/
def credMakesWrong : ChangeSpec := { name := "credMakes", fn := fun _ => fun
  | [d1, d2, d3, d4, d5] => { results := [.lit (.bool false)], args := [d1, d2, d3, d4, d5] }
  | _ => none }
def CredMakesWrongFalsely : Prop := credMakesRow.holds Try.pinned (OpenSpec.ofChange credMakesWrong)

/-- 'legatelaw20.CredHands': WHATEVER THE INPUT: true; the input reads as it did. -/
def credHandsSpec : ChangeSpec := { name := "credHands", fn := fun _ => fun
  | [d1, d2, d3] => { results := [.lit (.bool true)], args := [d1, d2, d3] }
  | _ => none }
def credHandsRow : OpenClaim := { program := "ytlgaolpkeejmdaa", sum := "69170032e987f10515463bfa641d6f125f55006143d3deec13fe9c41042c265c", func := "legate/legatelaw20.CredHands", spec := "credHands", inPlace := ["internal/bytealg.IndexByteString", "internal/bytealg.abigen_runtime_cmpstring"], unfollowed := true, recurses := true, loops := true, apart := false }
def CredHandsSaid : Prop := credHandsRow.holds Try.pinned (OpenSpec.ofChange credHandsSpec)

/-- ITS FALSE NEIGHBOUR: 'it returns false'. Refute it at one input. -/
def credHandsWrong : ChangeSpec := { name := "credHands", fn := fun _ => fun
  | [d1, d2, d3] => { results := [.lit (.bool false)], args := [d1, d2, d3] }
  | _ => none }
def CredHandsWrongFalsely : Prop := credHandsRow.holds Try.pinned (OpenSpec.ofChange credHandsWrong)

/-- 'legatelaw20.CredShows': WHATEVER THE INPUT: true; the input reads as it did. -/
def credShowsSpec : ChangeSpec := { name := "credShows", fn := fun _ => fun
  | [d1, d2, d3, d4, d5] => { results := [.lit (.bool true)], args := [d1, d2, d3, d4, d5] }
  | _ => none }
def credShowsRow : OpenClaim := { program := "ytlgaolpkeejmdaa", sum := "69170032e987f10515463bfa641d6f125f55006143d3deec13fe9c41042c265c", func := "legate/legatelaw20.CredShows", spec := "credShows", inPlace := ["internal/bytealg.IndexByteString", "internal/bytealg.abigen_runtime_cmpstring"], unfollowed := true, recurses := true, loops := true, apart := false }
def CredShowsSaid : Prop := credShowsRow.holds Try.pinned (OpenSpec.ofChange credShowsSpec)

/-- ITS FALSE NEIGHBOUR: 'it returns false'. Refute it at one input. -/
def credShowsWrong : ChangeSpec := { name := "credShows", fn := fun _ => fun
  | [d1, d2, d3, d4, d5] => { results := [.lit (.bool false)], args := [d1, d2, d3, d4, d5] }
  | _ => none }
def CredShowsWrongFalsely : Prop := credShowsRow.holds Try.pinned (OpenSpec.ofChange credShowsWrong)

/-- 'legatelaw20.CredOpens': WHATEVER THE INPUT: true; the input reads as it did. -/
def credOpensSpec : ChangeSpec := { name := "credOpens", fn := fun _ => fun
  | [d1, d2, d3, d4, d5, d6] => { results := [.lit (.bool true)], args := [d1, d2, d3, d4, d5, d6] }
  | _ => none }
def credOpensRow : OpenClaim := { program := "ytlgaolpkeejmdaa", sum := "69170032e987f10515463bfa641d6f125f55006143d3deec13fe9c41042c265c", func := "legate/legatelaw20.CredOpens", spec := "credOpens", inPlace := ["internal/bytealg.IndexByteString", "internal/bytealg.abigen_runtime_cmpstring"], unfollowed := true, recurses := true, loops := true, apart := false }
def CredOpensSaid : Prop := credOpensRow.holds Try.pinned (OpenSpec.ofChange credOpensSpec)

/-- ITS FALSE NEIGHBOUR: 'it returns false'. Refute it at one input. -/
def credOpensWrong : ChangeSpec := { name := "credOpens", fn := fun _ => fun
  | [d1, d2, d3, d4, d5, d6] => { results := [.lit (.bool false)], args := [d1, d2, d3, d4, d5, d6] }
  | _ => none }
def CredOpensWrongFalsely : Prop := credOpensRow.holds Try.pinned (OpenSpec.ofChange credOpensWrong)

/-- 'legatelaw20.CredShort': WHATEVER THE INPUT: true; the input reads as it did. -/
def credShortSpec : ChangeSpec := { name := "credShort", fn := fun _ => fun
  | [d1, d2, d3, d4] => { results := [.lit (.bool true)], args := [d1, d2, d3, d4] }
  | _ => none }
def credShortRow : OpenClaim := { program := "ytlgaolpkeejmdaa", sum := "69170032e987f10515463bfa641d6f125f55006143d3deec13fe9c41042c265c", func := "legate/legatelaw20.CredShort", spec := "credShort", inPlace := ["internal/bytealg.IndexByteString", "internal/bytealg.abigen_runtime_cmpstring"], unfollowed := true, recurses := true, loops := true, apart := false }
def CredShortSaid : Prop := credShortRow.holds Try.pinned (OpenSpec.ofChange credShortSpec)

/-- ITS FALSE NEIGHBOUR: 'it returns false'. Refute it at one input. -/
def credShortWrong : ChangeSpec := { name := "credShort", fn := fun _ => fun
  | [d1, d2, d3, d4] => { results := [.lit (.bool false)], args := [d1, d2, d3, d4] }
  | _ => none }
def CredShortWrongFalsely : Prop := credShortRow.holds Try.pinned (OpenSpec.ofChange credShortWrong)

/-- 'legatelaw22.BackendFull': WHATEVER THE INPUT: true; the input reads as it did. -/
def backendFullSpec : ChangeSpec := { name := "backendFull", fn := fun _ => fun
  | [d1, d2, d3] => { results := [.lit (.bool true)], args := [d1, d2, d3] }
  | _ => none }
def backendFullRow : OpenClaim := { program := "ytlgaolpkeejmdaa", sum := "69170032e987f10515463bfa641d6f125f55006143d3deec13fe9c41042c265c", func := "legate/legatelaw22.BackendFull", spec := "backendFull", inPlace := ["internal/bytealg.IndexByteString", "internal/bytealg.abigen_runtime_cmpstring"], unfollowed := true, recurses := true, apart := false }
def BackendFullSaid : Prop := backendFullRow.holds Try.pinned (OpenSpec.ofChange backendFullSpec)

/-- ITS FALSE NEIGHBOUR: 'it returns false'. Refute it at one input. -/
def backendFullWrong : ChangeSpec := { name := "backendFull", fn := fun _ => fun
  | [d1, d2, d3] => { results := [.lit (.bool false)], args := [d1, d2, d3] }
  | _ => none }
def BackendFullWrongFalsely : Prop := backendFullRow.holds Try.pinned (OpenSpec.ofChange backendFullWrong)

/-- 'legatelaw22.BackendKeys': WHATEVER THE INPUT: true; the input reads as it did. -/
def backendKeysSpec : ChangeSpec := { name := "backendKeys", fn := fun _ => fun
  | [d1, d2, d3, d4] => { results := [.lit (.bool true)], args := [d1, d2, d3, d4] }
  | _ => none }
def backendKeysRow : OpenClaim := { program := "ytlgaolpkeejmdaa", sum := "69170032e987f10515463bfa641d6f125f55006143d3deec13fe9c41042c265c", func := "legate/legatelaw22.BackendKeys", spec := "backendKeys", inPlace := ["internal/bytealg.IndexByteString", "internal/bytealg.abigen_runtime_cmpstring"], unfollowed := true, recurses := true, loops := true, apart := false }
def BackendKeysSaid : Prop := backendKeysRow.holds Try.pinned (OpenSpec.ofChange backendKeysSpec)

/-- ITS FALSE NEIGHBOUR: 'it returns false'. Refute it at one input. -/
def backendKeysWrong : ChangeSpec := { name := "backendKeys", fn := fun _ => fun
  | [d1, d2, d3, d4] => { results := [.lit (.bool false)], args := [d1, d2, d3, d4] }
  | _ => none }
def BackendKeysWrongFalsely : Prop := backendKeysRow.holds Try.pinned (OpenSpec.ofChange backendKeysWrong)

/-- 'legatelaw22.BackendTakes': WHATEVER THE INPUT: true; the input reads as it did. -/
def backendTakesSpec : ChangeSpec := { name := "backendTakes", fn := fun _ => fun
  | [d1, d2, d3, d4, d5, d6, d7, d8] => { results := [.lit (.bool true)], args := [d1, d2, d3, d4, d5, d6, d7, d8] }
  | _ => none }
def backendTakesRow : OpenClaim := { program := "ytlgaolpkeejmdaa", sum := "69170032e987f10515463bfa641d6f125f55006143d3deec13fe9c41042c265c", func := "legate/legatelaw22.BackendTakes", spec := "backendTakes", inPlace := ["internal/bytealg.IndexByteString", "internal/bytealg.abigen_runtime_cmpstring"], unfollowed := true, recurses := true, loops := true, apart := false }
def BackendTakesSaid : Prop := backendTakesRow.holds Try.pinned (OpenSpec.ofChange backendTakesSpec)

/-- ITS FALSE NEIGHBOUR: 'it returns false'. Refute it at one input. -/
def backendTakesWrong : ChangeSpec := { name := "backendTakes", fn := fun _ => fun
  | [d1, d2, d3, d4, d5, d6, d7, d8] => { results := [.lit (.bool false)], args := [d1, d2, d3, d4, d5, d6, d7, d8] }
  | _ => none }
def BackendTakesWrongFalsely : Prop := backendTakesRow.holds Try.pinned (OpenSpec.ofChange backendTakesWrong)

/-- 'legatelaw22.BackendOnly': WHATEVER THE INPUT: true; the input reads as it did. -/
def backendOnlySpec : ChangeSpec := { name := "backendOnly", fn := fun _ => fun
  | [d1, d2, d3, d4] => { results := [.lit (.bool true)], args := [d1, d2, d3, d4] }
  | _ => none }
def backendOnlyRow : OpenClaim := { program := "ytlgaolpkeejmdaa", sum := "69170032e987f10515463bfa641d6f125f55006143d3deec13fe9c41042c265c", func := "legate/legatelaw22.BackendOnly", spec := "backendOnly", inPlace := ["internal/bytealg.IndexByteString", "internal/bytealg.abigen_runtime_cmpstring"], unfollowed := true, recurses := true, loops := true, apart := false }
def BackendOnlySaid : Prop := backendOnlyRow.holds Try.pinned (OpenSpec.ofChange backendOnlySpec)

/-- ITS FALSE NEIGHBOUR: 'it returns false'. Refute it at one input. -/
def backendOnlyWrong : ChangeSpec := { name := "backendOnly", fn := fun _ => fun
  | [d1, d2, d3, d4] => { results := [.lit (.bool false)], args := [d1, d2, d3, d4] }
  | _ => none }
def BackendOnlyWrongFalsely : Prop := backendOnlyRow.holds Try.pinned (OpenSpec.ofChange backendOnlyWrong)

/- THE SECOND FORM. 'bulk': how many values and letters a reading holds, each counted each time it is reached (what is shared counts as often as it is met; a slice's spare places count too). A statement '..UptoSaid' is the law's where the arguments, and the package variables that the reading takes, are together of bulk at most 1048576: NARROWER than '..Said'. Prove '..Said' where nothing that the law and all that it calls make is longer than what came in: it says more and counts as full. Else prove '..UptoSaid'. A law counts once. -/
mutual
def uptoBulk {H : Type} : DataW H → Nat
  | .lit (.string bytes) => bytes.length + 1
  | .lit _ => 1
  | .nil => 1
  | .ptr d => uptoBulk d + 1
  | .slice elems spare => uptoBulkAll elems + uptoBulkAll spare + 1
  | .agg parts => uptoBulkAll parts + 1
  | .iface _ d => uptoBulk d + 1
  | .map entries => uptoBulkEntries entries + 1
  | .held _ => 1
def uptoBulkAll {H : Type} : List (DataW H) → Nat
  | [] => 0
  | d :: r => uptoBulk d + uptoBulkAll r
def uptoBulkEntries {H : Type} : List (Lit × DataW H) → Nat
  | [] => 0
  | x :: r => uptoBulkEntry x + uptoBulkEntries r
def uptoBulkEntry {H : Type} : Lit × DataW H → Nat
  | (.string bytes, d) => bytes.length + uptoBulk d + 1
  | (_, d) => uptoBulk d + 1
 end
def uptoSmall : (H : Type) → List (DataW H) → Bool := fun _ ds => decide (uptoBulkAll ds ≤ 1048576)
def OpenSpec.upto (s : _root_.Go.ChangeSpec) : _root_.Go.OpenSpec := { _root_.Go.OpenSpec.ofChange s with cond := some uptoSmall }

/-- 'legatelaw14.TicketMakes', WHERE WHAT IT READS IS OF BULK AT MOST 1048576: true; the input reads as it did. -/
def ticketMakesUptoRow : OpenClaim := { program := "ytlgaolpkeejmdaa", sum := "69170032e987f10515463bfa641d6f125f55006143d3deec13fe9c41042c265c", func := "legate/legatelaw14.TicketMakes", spec := "ticketMakes", inPlace := ["internal/bytealg.IndexByteString", "internal/bytealg.abigen_runtime_cmpstring"], unfollowed := true, recurses := true, loops := true, apart := false, narrowed := true }
def TicketMakesUptoSaid : Prop := ticketMakesUptoRow.holds Try.pinned (OpenSpec.upto ticketMakesSpec)

/-- 'legatelaw14.TicketOpens', WHERE WHAT IT READS IS OF BULK AT MOST 1048576: true; the input reads as it did. -/
def ticketOpensUptoRow : OpenClaim := { program := "ytlgaolpkeejmdaa", sum := "69170032e987f10515463bfa641d6f125f55006143d3deec13fe9c41042c265c", func := "legate/legatelaw14.TicketOpens", spec := "ticketOpens", inPlace := ["internal/bytealg.IndexByteString", "internal/bytealg.abigen_runtime_cmpstring"], unfollowed := true, recurses := true, loops := true, apart := false, narrowed := true }
def TicketOpensUptoSaid : Prop := ticketOpensUptoRow.holds Try.pinned (OpenSpec.upto ticketOpensSpec)

/-- 'legatelaw14.TicketBoxes', WHERE WHAT IT READS IS OF BULK AT MOST 1048576: true; the input reads as it did. -/
def ticketBoxesUptoRow : OpenClaim := { program := "ytlgaolpkeejmdaa", sum := "69170032e987f10515463bfa641d6f125f55006143d3deec13fe9c41042c265c", func := "legate/legatelaw14.TicketBoxes", spec := "ticketBoxes", inPlace := ["internal/bytealg.IndexByteString", "internal/bytealg.abigen_runtime_cmpstring"], unfollowed := true, recurses := true, loops := true, apart := false, narrowed := true }
def TicketBoxesUptoSaid : Prop := ticketBoxesUptoRow.holds Try.pinned (OpenSpec.upto ticketBoxesSpec)

/-- 'legatelaw14.TicketBack', WHERE WHAT IT READS IS OF BULK AT MOST 1048576: true; the input reads as it did. -/
def ticketBackUptoRow : OpenClaim := { program := "ytlgaolpkeejmdaa", sum := "69170032e987f10515463bfa641d6f125f55006143d3deec13fe9c41042c265c", func := "legate/legatelaw14.TicketBack", spec := "ticketBack", inPlace := ["internal/bytealg.IndexByteString", "internal/bytealg.abigen_runtime_cmpstring"], unfollowed := true, recurses := true, loops := true, apart := false, narrowed := true }
def TicketBackUptoSaid : Prop := ticketBackUptoRow.holds Try.pinned (OpenSpec.upto ticketBackSpec)

/-- 'legatelaw14.TicketFlags', WHERE WHAT IT READS IS OF BULK AT MOST 1048576: true; the input reads as it did. -/
def ticketFlagsUptoRow : OpenClaim := { program := "ytlgaolpkeejmdaa", sum := "69170032e987f10515463bfa641d6f125f55006143d3deec13fe9c41042c265c", func := "legate/legatelaw14.TicketFlags", spec := "ticketFlags", inPlace := ["internal/bytealg.IndexByteString", "internal/bytealg.abigen_runtime_cmpstring"], unfollowed := true, recurses := true, apart := false, narrowed := true }
def TicketFlagsUptoSaid : Prop := ticketFlagsUptoRow.holds Try.pinned (OpenSpec.upto ticketFlagsSpec)

/-- 'legatelaw14.TicketShape', WHERE WHAT IT READS IS OF BULK AT MOST 1048576: true; the input reads as it did. -/
def ticketShapeUptoRow : OpenClaim := { program := "ytlgaolpkeejmdaa", sum := "69170032e987f10515463bfa641d6f125f55006143d3deec13fe9c41042c265c", func := "legate/legatelaw14.TicketShape", spec := "ticketShape", inPlace := ["internal/bytealg.IndexByteString", "internal/bytealg.abigen_runtime_cmpstring"], unfollowed := true, recurses := true, loops := true, apart := false, narrowed := true }
def TicketShapeUptoSaid : Prop := ticketShapeUptoRow.holds Try.pinned (OpenSpec.upto ticketShapeSpec)

/-- 'legatelaw14.TicketNames', WHERE WHAT IT READS IS OF BULK AT MOST 1048576: true; the input reads as it did. -/
def ticketNamesUptoRow : OpenClaim := { program := "ytlgaolpkeejmdaa", sum := "69170032e987f10515463bfa641d6f125f55006143d3deec13fe9c41042c265c", func := "legate/legatelaw14.TicketNames", spec := "ticketNames", inPlace := ["internal/bytealg.IndexByteString", "internal/bytealg.abigen_runtime_cmpstring"], unfollowed := true, recurses := true, loops := true, apart := false, narrowed := true }
def TicketNamesUptoSaid : Prop := ticketNamesUptoRow.holds Try.pinned (OpenSpec.upto ticketNamesSpec)

/-- 'legatelaw20.CredMakes', WHERE WHAT IT READS IS OF BULK AT MOST 1048576: true; the input reads as it did. -/
def credMakesUptoRow : OpenClaim := { program := "ytlgaolpkeejmdaa", sum := "69170032e987f10515463bfa641d6f125f55006143d3deec13fe9c41042c265c", func := "legate/legatelaw20.CredMakes", spec := "credMakes", inPlace := ["internal/bytealg.IndexByteString", "internal/bytealg.abigen_runtime_cmpstring"], unfollowed := true, recurses := true, loops := true, apart := false, narrowed := true }
def CredMakesUptoSaid : Prop := credMakesUptoRow.holds Try.pinned (OpenSpec.upto credMakesSpec)

/-- 'legatelaw20.CredHands', WHERE WHAT IT READS IS OF BULK AT MOST 1048576: true; the input reads as it did. -/
def credHandsUptoRow : OpenClaim := { program := "ytlgaolpkeejmdaa", sum := "69170032e987f10515463bfa641d6f125f55006143d3deec13fe9c41042c265c", func := "legate/legatelaw20.CredHands", spec := "credHands", inPlace := ["internal/bytealg.IndexByteString", "internal/bytealg.abigen_runtime_cmpstring"], unfollowed := true, recurses := true, loops := true, apart := false, narrowed := true }
def CredHandsUptoSaid : Prop := credHandsUptoRow.holds Try.pinned (OpenSpec.upto credHandsSpec)

/-- 'legatelaw20.CredShows', WHERE WHAT IT READS IS OF BULK AT MOST 1048576: true; the input reads as it did. -/
def credShowsUptoRow : OpenClaim := { program := "ytlgaolpkeejmdaa", sum := "69170032e987f10515463bfa641d6f125f55006143d3deec13fe9c41042c265c", func := "legate/legatelaw20.CredShows", spec := "credShows", inPlace := ["internal/bytealg.IndexByteString", "internal/bytealg.abigen_runtime_cmpstring"], unfollowed := true, recurses := true, loops := true, apart := false, narrowed := true }
def CredShowsUptoSaid : Prop := credShowsUptoRow.holds Try.pinned (OpenSpec.upto credShowsSpec)

/-- 'legatelaw20.CredOpens', WHERE WHAT IT READS IS OF BULK AT MOST 1048576: true; the input reads as it did. -/
def credOpensUptoRow : OpenClaim := { program := "ytlgaolpkeejmdaa", sum := "69170032e987f10515463bfa641d6f125f55006143d3deec13fe9c41042c265c", func := "legate/legatelaw20.CredOpens", spec := "credOpens", inPlace := ["internal/bytealg.IndexByteString", "internal/bytealg.abigen_runtime_cmpstring"], unfollowed := true, recurses := true, loops := true, apart := false, narrowed := true }
def CredOpensUptoSaid : Prop := credOpensUptoRow.holds Try.pinned (OpenSpec.upto credOpensSpec)

/-- 'legatelaw20.CredShort', WHERE WHAT IT READS IS OF BULK AT MOST 1048576: true; the input reads as it did. -/
def credShortUptoRow : OpenClaim := { program := "ytlgaolpkeejmdaa", sum := "69170032e987f10515463bfa641d6f125f55006143d3deec13fe9c41042c265c", func := "legate/legatelaw20.CredShort", spec := "credShort", inPlace := ["internal/bytealg.IndexByteString", "internal/bytealg.abigen_runtime_cmpstring"], unfollowed := true, recurses := true, loops := true, apart := false, narrowed := true }
def CredShortUptoSaid : Prop := credShortUptoRow.holds Try.pinned (OpenSpec.upto credShortSpec)

/-- 'legatelaw22.BackendFull', WHERE WHAT IT READS IS OF BULK AT MOST 1048576: true; the input reads as it did. -/
def backendFullUptoRow : OpenClaim := { program := "ytlgaolpkeejmdaa", sum := "69170032e987f10515463bfa641d6f125f55006143d3deec13fe9c41042c265c", func := "legate/legatelaw22.BackendFull", spec := "backendFull", inPlace := ["internal/bytealg.IndexByteString", "internal/bytealg.abigen_runtime_cmpstring"], unfollowed := true, recurses := true, apart := false, narrowed := true }
def BackendFullUptoSaid : Prop := backendFullUptoRow.holds Try.pinned (OpenSpec.upto backendFullSpec)

/-- 'legatelaw22.BackendKeys', WHERE WHAT IT READS IS OF BULK AT MOST 1048576: true; the input reads as it did. -/
def backendKeysUptoRow : OpenClaim := { program := "ytlgaolpkeejmdaa", sum := "69170032e987f10515463bfa641d6f125f55006143d3deec13fe9c41042c265c", func := "legate/legatelaw22.BackendKeys", spec := "backendKeys", inPlace := ["internal/bytealg.IndexByteString", "internal/bytealg.abigen_runtime_cmpstring"], unfollowed := true, recurses := true, loops := true, apart := false, narrowed := true }
def BackendKeysUptoSaid : Prop := backendKeysUptoRow.holds Try.pinned (OpenSpec.upto backendKeysSpec)

/-- 'legatelaw22.BackendTakes', WHERE WHAT IT READS IS OF BULK AT MOST 1048576: true; the input reads as it did. -/
def backendTakesUptoRow : OpenClaim := { program := "ytlgaolpkeejmdaa", sum := "69170032e987f10515463bfa641d6f125f55006143d3deec13fe9c41042c265c", func := "legate/legatelaw22.BackendTakes", spec := "backendTakes", inPlace := ["internal/bytealg.IndexByteString", "internal/bytealg.abigen_runtime_cmpstring"], unfollowed := true, recurses := true, loops := true, apart := false, narrowed := true }
def BackendTakesUptoSaid : Prop := backendTakesUptoRow.holds Try.pinned (OpenSpec.upto backendTakesSpec)

/-- 'legatelaw22.BackendOnly', WHERE WHAT IT READS IS OF BULK AT MOST 1048576: true; the input reads as it did. -/
def backendOnlyUptoRow : OpenClaim := { program := "ytlgaolpkeejmdaa", sum := "69170032e987f10515463bfa641d6f125f55006143d3deec13fe9c41042c265c", func := "legate/legatelaw22.BackendOnly", spec := "backendOnly", inPlace := ["internal/bytealg.IndexByteString", "internal/bytealg.abigen_runtime_cmpstring"], unfollowed := true, recurses := true, loops := true, apart := false, narrowed := true }
def BackendOnlyUptoSaid : Prop := backendOnlyUptoRow.holds Try.pinned (OpenSpec.upto backendOnlySpec)

end Rows
end Go.Proofs.Ytlgaolpkeejmdaa
