/-
  NARROWER THAN 'FOR EVERY INPUT', by the rows' own cells (each row's printed sentence says how): BackendDoes: loops · LoginAsks: loops · LoginOnly: loops · LoginDoes: loops.
  DERIVED. THE GIVEN ROWS OF THIS SEAT. 8 by the template 'for every input the law returns true; each argument reads behind the call as it read before'; 0 by the template 'total and deterministic' (their statements: YtlgaolpkeejmdaaGreatTotals.lean).
  GIVEN WITH THE SEED: the statements are not yours to turn. If you find one false, say at which input.
  Laid BY PROGRAM, IN A SANDBOX (cutbox-rows.mjs): the forced cells as the released guide's own fill.sh prints them over the translation 960d3ac819aae39c… (all of the seat's roots in one cut). By AI agents, Wed Nov 11 2026. No macro, syntax, notation, axiom, sorry.
-/
import Derived.Test.YtlgaolpkeejmdaaGreatChecked
import GoSem.Claim
import GoSem.ClaimJoined
import GoSem.ClaimMapViews
import Derived.JoinedTies
import Derived.KernelRfl
namespace Go.Proofs.YtlgaolpkeejmdaaGreat
/- THE CELL 'sum', in the pinned program and in every row, IS THE sha256 OF THE DUMP (.gsa) THAT YtlgaolpkeejmdaaGreatProg.lean LOADS. Nothing in Lean hashes anything: it is a label: what it is worth is what the hold of that sum in a sandbox is worth. -/
noncomputable def Tryz.pinned : Pinned := { name := "ytlgaolpkeejmdaagreat", sum := "960d3ac819aae39cefa59ce82321583c77536628da5d5aeeb9b1bb2c63bf1c29", checked := Tryz.checked }
namespace Rows
def none {H : Type} : Left H := { results := [], args := [] }

/-- 'legatelaw22.BackendDoes': WHATEVER THE INPUT: true; the input reads as it did. -/
def backendDoesSpec : ChangeSpec := { name := "backendDoes", fn := fun _ => fun
  | [d1, d2, d3, d4] => { results := [.lit (.bool true)], args := [d1, d2, d3, d4] }
  | _ => none }
def backendDoesRow : OpenClaim := { program := "ytlgaolpkeejmdaagreat", sum := "960d3ac819aae39cefa59ce82321583c77536628da5d5aeeb9b1bb2c63bf1c29", func := "legate/legatelaw22.BackendDoes", spec := "backendDoes", inPlace := ["internal/bytealg.IndexByteString", "internal/bytealg.abigen_runtime_cmpstring"], unfollowed := true, recurses := true, loops := true, apart := false }
def BackendDoesSaid : Prop := backendDoesRow.holds Tryz.pinned (OpenSpec.ofChange backendDoesSpec)

/-- ITS FALSE NEIGHBOUR: 'it returns false'. Refute it at one input. -/
def backendDoesWrong : ChangeSpec := { name := "backendDoes", fn := fun _ => fun
  | [d1, d2, d3, d4] => { results := [.lit (.bool false)], args := [d1, d2, d3, d4] }
  | _ => none }
def BackendDoesWrongFalsely : Prop := backendDoesRow.holds Tryz.pinned (OpenSpec.ofChange backendDoesWrong)

/-- 'legatelaw16.LoginAsks': WHATEVER THE INPUT: true; the input reads as it did. -/
def loginAsksSpec : ChangeSpec := { name := "loginAsks", fn := fun _ => fun
  | [d1, d2, d3, d4, d5, d6, d7, d8, d9] => { results := [.lit (.bool true)], args := [d1, d2, d3, d4, d5, d6, d7, d8, d9] }
  | _ => none }
def loginAsksRow : OpenClaim := { program := "ytlgaolpkeejmdaagreat", sum := "960d3ac819aae39cefa59ce82321583c77536628da5d5aeeb9b1bb2c63bf1c29", func := "legate/legatelaw16.LoginAsks", spec := "loginAsks", inPlace := ["internal/bytealg.IndexByteString", "internal/bytealg.abigen_runtime_cmpstring", "math.archTrunc", "math.Float64bits", "math.Float64frombits"], unfollowed := true, recurses := true, loops := true, apart := false }
def LoginAsksSaid : Prop := loginAsksRow.holds Tryz.pinned (OpenSpec.ofChange loginAsksSpec)

/-- ITS FALSE NEIGHBOUR: 'it returns false'. Refute it at one input. -/
def loginAsksWrong : ChangeSpec := { name := "loginAsks", fn := fun _ => fun
  | [d1, d2, d3, d4, d5, d6, d7, d8, d9] => { results := [.lit (.bool false)], args := [d1, d2, d3, d4, d5, d6, d7, d8, d9] }
  | _ => none }
def LoginAsksWrongFalsely : Prop := loginAsksRow.holds Tryz.pinned (OpenSpec.ofChange loginAsksWrong)

/-- 'legatelaw16.LoginOnly': WHATEVER THE INPUT: true; the input reads as it did. -/
def loginOnlySpec : ChangeSpec := { name := "loginOnly", fn := fun _ => fun
  | [d1, d2, d3] => { results := [.lit (.bool true)], args := [d1, d2, d3] }
  | _ => none }
def loginOnlyRow : OpenClaim := { program := "ytlgaolpkeejmdaagreat", sum := "960d3ac819aae39cefa59ce82321583c77536628da5d5aeeb9b1bb2c63bf1c29", func := "legate/legatelaw16.LoginOnly", spec := "loginOnly", inPlace := ["internal/bytealg.IndexByteString", "internal/bytealg.abigen_runtime_cmpstring", "math.archTrunc", "math.Float64bits", "math.Float64frombits"], unfollowed := true, recurses := true, loops := true, apart := false }
def LoginOnlySaid : Prop := loginOnlyRow.holds Tryz.pinned (OpenSpec.ofChange loginOnlySpec)

/-- ITS FALSE NEIGHBOUR: 'it returns false'. Refute it at one input. -/
def loginOnlyWrong : ChangeSpec := { name := "loginOnly", fn := fun _ => fun
  | [d1, d2, d3] => { results := [.lit (.bool false)], args := [d1, d2, d3] }
  | _ => none }
def LoginOnlyWrongFalsely : Prop := loginOnlyRow.holds Tryz.pinned (OpenSpec.ofChange loginOnlyWrong)

/-- 'legatelaw16.LoginSerial': WHATEVER THE INPUT: true; the input reads as it did. -/
def loginSerialSpec : ChangeSpec := { name := "loginSerial", fn := fun _ => fun
  | [d1, d2] => { results := [.lit (.bool true)], args := [d1, d2] }
  | _ => none }
def loginSerialRow : OpenClaim := { program := "ytlgaolpkeejmdaagreat", sum := "960d3ac819aae39cefa59ce82321583c77536628da5d5aeeb9b1bb2c63bf1c29", func := "legate/legatelaw16.LoginSerial", spec := "loginSerial", inPlace := ["internal/bytealg.IndexByteString", "internal/bytealg.abigen_runtime_cmpstring", "math.archTrunc", "math.Float64bits", "math.Float64frombits"], unfollowed := true, recurses := true, apart := false }
def LoginSerialSaid : Prop := loginSerialRow.holds Tryz.pinned (OpenSpec.ofChange loginSerialSpec)

/-- ITS FALSE NEIGHBOUR: 'it returns false'. Refute it at one input. -/
def loginSerialWrong : ChangeSpec := { name := "loginSerial", fn := fun _ => fun
  | [d1, d2] => { results := [.lit (.bool false)], args := [d1, d2] }
  | _ => none }
def LoginSerialWrongFalsely : Prop := loginSerialRow.holds Tryz.pinned (OpenSpec.ofChange loginSerialWrong)

/-- 'legatelaw16.LoginNotes': WHATEVER THE INPUT: true; the input reads as it did. -/
def loginNotesSpec : ChangeSpec := { name := "loginNotes", fn := fun _ => fun
  | [d1, d2] => { results := [.lit (.bool true)], args := [d1, d2] }
  | _ => none }
def loginNotesRow : OpenClaim := { program := "ytlgaolpkeejmdaagreat", sum := "960d3ac819aae39cefa59ce82321583c77536628da5d5aeeb9b1bb2c63bf1c29", func := "legate/legatelaw16.LoginNotes", spec := "loginNotes", inPlace := ["internal/bytealg.IndexByteString", "internal/bytealg.abigen_runtime_cmpstring", "math.archTrunc", "math.Float64bits", "math.Float64frombits"], unfollowed := true, recurses := true, apart := false }
def LoginNotesSaid : Prop := loginNotesRow.holds Tryz.pinned (OpenSpec.ofChange loginNotesSpec)

/-- ITS FALSE NEIGHBOUR: 'it returns false'. Refute it at one input. -/
def loginNotesWrong : ChangeSpec := { name := "loginNotes", fn := fun _ => fun
  | [d1, d2] => { results := [.lit (.bool false)], args := [d1, d2] }
  | _ => none }
def LoginNotesWrongFalsely : Prop := loginNotesRow.holds Tryz.pinned (OpenSpec.ofChange loginNotesWrong)

/-- 'legatelaw16.LoginLate': WHATEVER THE INPUT: true; the input reads as it did. -/
def loginLateSpec : ChangeSpec := { name := "loginLate", fn := fun _ => fun
  | [d1, d2, d3, d4] => { results := [.lit (.bool true)], args := [d1, d2, d3, d4] }
  | _ => none }
def loginLateRow : OpenClaim := { program := "ytlgaolpkeejmdaagreat", sum := "960d3ac819aae39cefa59ce82321583c77536628da5d5aeeb9b1bb2c63bf1c29", func := "legate/legatelaw16.LoginLate", spec := "loginLate", inPlace := ["internal/bytealg.IndexByteString", "internal/bytealg.abigen_runtime_cmpstring", "math.archTrunc", "math.Float64bits", "math.Float64frombits"], unfollowed := true, recurses := true, apart := false }
def LoginLateSaid : Prop := loginLateRow.holds Tryz.pinned (OpenSpec.ofChange loginLateSpec)

/-- ITS FALSE NEIGHBOUR: 'it returns false'. Refute it at one input. -/
def loginLateWrong : ChangeSpec := { name := "loginLate", fn := fun _ => fun
  | [d1, d2, d3, d4] => { results := [.lit (.bool false)], args := [d1, d2, d3, d4] }
  | _ => none }
def LoginLateWrongFalsely : Prop := loginLateRow.holds Tryz.pinned (OpenSpec.ofChange loginLateWrong)

/-- 'legatelaw16.LoginDoes': WHATEVER THE INPUT: true; the input reads as it did. -/
def loginDoesSpec : ChangeSpec := { name := "loginDoes", fn := fun _ => fun
  | [d1, d2, d3] => { results := [.lit (.bool true)], args := [d1, d2, d3] }
  | _ => none }
def loginDoesRow : OpenClaim := { program := "ytlgaolpkeejmdaagreat", sum := "960d3ac819aae39cefa59ce82321583c77536628da5d5aeeb9b1bb2c63bf1c29", func := "legate/legatelaw16.LoginDoes", spec := "loginDoes", inPlace := ["internal/bytealg.IndexByteString", "internal/bytealg.abigen_runtime_cmpstring", "math.archTrunc", "math.Float64bits", "math.Float64frombits"], unfollowed := true, recurses := true, loops := true, apart := false }
def LoginDoesSaid : Prop := loginDoesRow.holds Tryz.pinned (OpenSpec.ofChange loginDoesSpec)

/-- ITS FALSE NEIGHBOUR: 'it returns false'. Refute it at one input. -/
def loginDoesWrong : ChangeSpec := { name := "loginDoes", fn := fun _ => fun
  | [d1, d2, d3] => { results := [.lit (.bool false)], args := [d1, d2, d3] }
  | _ => none }
def LoginDoesWrongFalsely : Prop := loginDoesRow.holds Tryz.pinned (OpenSpec.ofChange loginDoesWrong)

/-- 'legatelaw16.LoginGives': WHATEVER THE INPUT: true; the input reads as it did. -/
def loginGivesSpec : ChangeSpec := { name := "loginGives", fn := fun _ => fun
  | [d1, d2, d3, d4, d5] => { results := [.lit (.bool true)], args := [d1, d2, d3, d4, d5] }
  | _ => none }
def loginGivesRow : OpenClaim := { program := "ytlgaolpkeejmdaagreat", sum := "960d3ac819aae39cefa59ce82321583c77536628da5d5aeeb9b1bb2c63bf1c29", func := "legate/legatelaw16.LoginGives", spec := "loginGives", inPlace := ["internal/bytealg.IndexByteString", "internal/bytealg.abigen_runtime_cmpstring", "math.archTrunc", "math.Float64bits", "math.Float64frombits"], unfollowed := true, recurses := true, apart := false }
def LoginGivesSaid : Prop := loginGivesRow.holds Tryz.pinned (OpenSpec.ofChange loginGivesSpec)

/-- ITS FALSE NEIGHBOUR: 'it returns false'. Refute it at one input. -/
def loginGivesWrong : ChangeSpec := { name := "loginGives", fn := fun _ => fun
  | [d1, d2, d3, d4, d5] => { results := [.lit (.bool false)], args := [d1, d2, d3, d4, d5] }
  | _ => none }
def LoginGivesWrongFalsely : Prop := loginGivesRow.holds Tryz.pinned (OpenSpec.ofChange loginGivesWrong)

/- THE SECOND FORM. 'bulk': how many values and letters a reading holds, each counted each time it is reached (what is shared counts as often as it is met; a slice's spare places count too). A statement '..UptoSaid' is the law's where the arguments, and the package variables that the reading takes, are together of bulk at most 1048576: NARROWER than '..Said'. Prove '..Said' where nothing that the law and all that it calls make is longer than what came in: it says more and counts as full. Else prove '..UptoSaid'. A law counts once. -/
mutual
def uptoBulk {H : Type} : DataW H → Nat
  | .lit (.string bytes) => bytes.length + 1
  | .lit _ => 1
  | .nil => 1
  | .ptr d => uptoBulk d + 1
  | .slice elems spare => uptoBulkAll elems + uptoBulkAll spare + 1
  | .agg parts => uptoBulkAll parts + 1
  | .iface _ d => uptoBulk d + 1
  | .map entries => uptoBulkEntries entries + 1
  | .held _ => 1
def uptoBulkAll {H : Type} : List (DataW H) → Nat
  | [] => 0
  | d :: r => uptoBulk d + uptoBulkAll r
def uptoBulkEntries {H : Type} : List (Lit × DataW H) → Nat
  | [] => 0
  | x :: r => uptoBulkEntry x + uptoBulkEntries r
def uptoBulkEntry {H : Type} : Lit × DataW H → Nat
  | (.string bytes, d) => bytes.length + uptoBulk d + 1
  | (_, d) => uptoBulk d + 1
 end
def uptoSmall : (H : Type) → List (DataW H) → Bool := fun _ ds => decide (uptoBulkAll ds ≤ 1048576)
def OpenSpec.upto (s : _root_.Go.ChangeSpec) : _root_.Go.OpenSpec := { _root_.Go.OpenSpec.ofChange s with cond := some uptoSmall }

/-- 'legatelaw22.BackendDoes', WHERE WHAT IT READS IS OF BULK AT MOST 1048576: true; the input reads as it did. -/
def backendDoesUptoRow : OpenClaim := { program := "ytlgaolpkeejmdaagreat", sum := "960d3ac819aae39cefa59ce82321583c77536628da5d5aeeb9b1bb2c63bf1c29", func := "legate/legatelaw22.BackendDoes", spec := "backendDoes", inPlace := ["internal/bytealg.IndexByteString", "internal/bytealg.abigen_runtime_cmpstring"], unfollowed := true, recurses := true, loops := true, apart := false, narrowed := true }
def BackendDoesUptoSaid : Prop := backendDoesUptoRow.holds Tryz.pinned (OpenSpec.upto backendDoesSpec)

/-- 'legatelaw16.LoginAsks', WHERE WHAT IT READS IS OF BULK AT MOST 1048576: true; the input reads as it did. -/
def loginAsksUptoRow : OpenClaim := { program := "ytlgaolpkeejmdaagreat", sum := "960d3ac819aae39cefa59ce82321583c77536628da5d5aeeb9b1bb2c63bf1c29", func := "legate/legatelaw16.LoginAsks", spec := "loginAsks", inPlace := ["internal/bytealg.IndexByteString", "internal/bytealg.abigen_runtime_cmpstring", "math.archTrunc", "math.Float64bits", "math.Float64frombits"], unfollowed := true, recurses := true, loops := true, apart := false, narrowed := true }
def LoginAsksUptoSaid : Prop := loginAsksUptoRow.holds Tryz.pinned (OpenSpec.upto loginAsksSpec)

/-- 'legatelaw16.LoginOnly', WHERE WHAT IT READS IS OF BULK AT MOST 1048576: true; the input reads as it did. -/
def loginOnlyUptoRow : OpenClaim := { program := "ytlgaolpkeejmdaagreat", sum := "960d3ac819aae39cefa59ce82321583c77536628da5d5aeeb9b1bb2c63bf1c29", func := "legate/legatelaw16.LoginOnly", spec := "loginOnly", inPlace := ["internal/bytealg.IndexByteString", "internal/bytealg.abigen_runtime_cmpstring", "math.archTrunc", "math.Float64bits", "math.Float64frombits"], unfollowed := true, recurses := true, loops := true, apart := false, narrowed := true }
def LoginOnlyUptoSaid : Prop := loginOnlyUptoRow.holds Tryz.pinned (OpenSpec.upto loginOnlySpec)

/-- 'legatelaw16.LoginSerial', WHERE WHAT IT READS IS OF BULK AT MOST 1048576: true; the input reads as it did. -/
def loginSerialUptoRow : OpenClaim := { program := "ytlgaolpkeejmdaagreat", sum := "960d3ac819aae39cefa59ce82321583c77536628da5d5aeeb9b1bb2c63bf1c29", func := "legate/legatelaw16.LoginSerial", spec := "loginSerial", inPlace := ["internal/bytealg.IndexByteString", "internal/bytealg.abigen_runtime_cmpstring", "math.archTrunc", "math.Float64bits", "math.Float64frombits"], unfollowed := true, recurses := true, apart := false, narrowed := true }
def LoginSerialUptoSaid : Prop := loginSerialUptoRow.holds Tryz.pinned (OpenSpec.upto loginSerialSpec)

/-- 'legatelaw16.LoginNotes', WHERE WHAT IT READS IS OF BULK AT MOST 1048576: true; the input reads as it did. -/
def loginNotesUptoRow : OpenClaim := { program := "ytlgaolpkeejmdaagreat", sum := "960d3ac819aae39cefa59ce82321583c77536628da5d5aeeb9b1bb2c63bf1c29", func := "legate/legatelaw16.LoginNotes", spec := "loginNotes", inPlace := ["internal/bytealg.IndexByteString", "internal/bytealg.abigen_runtime_cmpstring", "math.archTrunc", "math.Float64bits", "math.Float64frombits"], unfollowed := true, recurses := true, apart := false, narrowed := true }
def LoginNotesUptoSaid : Prop := loginNotesUptoRow.holds Tryz.pinned (OpenSpec.upto loginNotesSpec)

/-- 'legatelaw16.LoginLate', WHERE WHAT IT READS IS OF BULK AT MOST 1048576: true; the input reads as it did. -/
def loginLateUptoRow : OpenClaim := { program := "ytlgaolpkeejmdaagreat", sum := "960d3ac819aae39cefa59ce82321583c77536628da5d5aeeb9b1bb2c63bf1c29", func := "legate/legatelaw16.LoginLate", spec := "loginLate", inPlace := ["internal/bytealg.IndexByteString", "internal/bytealg.abigen_runtime_cmpstring", "math.archTrunc", "math.Float64bits", "math.Float64frombits"], unfollowed := true, recurses := true, apart := false, narrowed := true }
def LoginLateUptoSaid : Prop := loginLateUptoRow.holds Tryz.pinned (OpenSpec.upto loginLateSpec)

/-- 'legatelaw16.LoginDoes', WHERE WHAT IT READS IS OF BULK AT MOST 1048576: true; the input reads as it did. -/
def loginDoesUptoRow : OpenClaim := { program := "ytlgaolpkeejmdaagreat", sum := "960d3ac819aae39cefa59ce82321583c77536628da5d5aeeb9b1bb2c63bf1c29", func := "legate/legatelaw16.LoginDoes", spec := "loginDoes", inPlace := ["internal/bytealg.IndexByteString", "internal/bytealg.abigen_runtime_cmpstring", "math.archTrunc", "math.Float64bits", "math.Float64frombits"], unfollowed := true, recurses := true, loops := true, apart := false, narrowed := true }
def LoginDoesUptoSaid : Prop := loginDoesUptoRow.holds Tryz.pinned (OpenSpec.upto loginDoesSpec)

/-- 'legatelaw16.LoginGives', WHERE WHAT IT READS IS OF BULK AT MOST 1048576: true; the input reads as it did. -/
def loginGivesUptoRow : OpenClaim := { program := "ytlgaolpkeejmdaagreat", sum := "960d3ac819aae39cefa59ce82321583c77536628da5d5aeeb9b1bb2c63bf1c29", func := "legate/legatelaw16.LoginGives", spec := "loginGives", inPlace := ["internal/bytealg.IndexByteString", "internal/bytealg.abigen_runtime_cmpstring", "math.archTrunc", "math.Float64bits", "math.Float64frombits"], unfollowed := true, recurses := true, apart := false, narrowed := true }
def LoginGivesUptoSaid : Prop := loginGivesUptoRow.holds Tryz.pinned (OpenSpec.upto loginGivesSpec)

end Rows
end Go.Proofs.YtlgaolpkeejmdaaGreat
