/-
  No cell of these rows narrows 'for every input' (looked for: loops, veiled, ifaces, maps, wideKeys, modest, calm, conditions, laid).
  DERIVED. THE GIVEN ROWS OF THIS SEAT. 3 by the template 'for every input the law returns true; each argument reads behind the call as it read before'; 0 by the template 'total and deterministic' (their statements: YtcjlpgpmoleidaaTotals.lean).
  GIVEN WITH THE SEED: the statements are not yours to turn. If you find one false, say at which input.
  Laid BY PROGRAM, IN A SANDBOX (cutbox-rows.mjs): the forced cells as the released guide's own fill.sh prints them over the translation 40dc0e9b877f77dc… (all of the seat's roots in one cut). By AI agents, Wed Nov 11 2026. No macro, syntax, notation, axiom, sorry.
-/
import Derived.Test.YtcjlpgpmoleidaaChecked
import GoSem.Claim
import GoSem.ClaimJoined
import GoSem.ClaimMapViews
import Derived.JoinedTies
import Derived.KernelRfl
namespace Go.Proofs.Ytcjlpgpmoleidaa
/- THE CELL 'sum', in the pinned program and in every row, IS THE sha256 OF THE DUMP (.gsa) THAT YtcjlpgpmoleidaaProg.lean LOADS. Nothing in Lean hashes anything: it is a label: what it is worth is what the hold of that sum in a sandbox is worth. -/
noncomputable def Try.pinned : Pinned := { name := "ytcjlpgpmoleidaa", sum := "40dc0e9b877f77dc5f020fa3a5ae75bbb4c4747479205312a8e25ee3cade4072", checked := Try.checked }
namespace Rows
def none {H : Type} : Left H := { results := [], args := [] }

/-- 'backstaylaw20.CreditRight': WHATEVER THE INPUT: true; the input reads as it did. -/
def creditRightSpec : ChangeSpec := { name := "creditRight", fn := fun _ => fun
  | [d1, d2, d3, d4, d5] => { results := [.lit (.bool true)], args := [d1, d2, d3, d4, d5] }
  | _ => none }
def creditRightRow : OpenClaim := { program := "ytcjlpgpmoleidaa", sum := "40dc0e9b877f77dc5f020fa3a5ae75bbb4c4747479205312a8e25ee3cade4072", func := "backstay/backstaylaw20.CreditRight", spec := "creditRight", unfollowed := true, recurses := true, apart := false }
def CreditRightSaid : Prop := creditRightRow.holds Try.pinned (OpenSpec.ofChange creditRightSpec)

/-- ITS FALSE NEIGHBOUR: 'it returns false'. Refute it at one input. -/
def creditRightWrong : ChangeSpec := { name := "creditRight", fn := fun _ => fun
  | [d1, d2, d3, d4, d5] => { results := [.lit (.bool false)], args := [d1, d2, d3, d4, d5] }
  | _ => none }
def CreditRightWrongFalsely : Prop := creditRightRow.holds Try.pinned (OpenSpec.ofChange creditRightWrong)

/-- 'backstaylaw20.CreditNever': WHATEVER THE INPUT: true; the input reads as it did. -/
def creditNeverSpec : ChangeSpec := { name := "creditNever", fn := fun _ => fun
  | [d1, d2] => { results := [.lit (.bool true)], args := [d1, d2] }
  | _ => none }
def creditNeverRow : OpenClaim := { program := "ytcjlpgpmoleidaa", sum := "40dc0e9b877f77dc5f020fa3a5ae75bbb4c4747479205312a8e25ee3cade4072", func := "backstay/backstaylaw20.CreditNever", spec := "creditNever", unfollowed := true, recurses := true, apart := false }
def CreditNeverSaid : Prop := creditNeverRow.holds Try.pinned (OpenSpec.ofChange creditNeverSpec)

/-- ITS FALSE NEIGHBOUR: 'it returns false'. Refute it at one input. -/
def creditNeverWrong : ChangeSpec := { name := "creditNever", fn := fun _ => fun
  | [d1, d2] => { results := [.lit (.bool false)], args := [d1, d2] }
  | _ => none }
def CreditNeverWrongFalsely : Prop := creditNeverRow.holds Try.pinned (OpenSpec.ofChange creditNeverWrong)

/-- 'backstaylaw20.CreditTurns': WHATEVER THE INPUT: true; the input reads as it did. -/
def creditTurnsSpec : ChangeSpec := { name := "creditTurns", fn := fun _ => fun
  | [d1, d2, d3, d4, d5] => { results := [.lit (.bool true)], args := [d1, d2, d3, d4, d5] }
  | _ => none }
def creditTurnsRow : OpenClaim := { program := "ytcjlpgpmoleidaa", sum := "40dc0e9b877f77dc5f020fa3a5ae75bbb4c4747479205312a8e25ee3cade4072", func := "backstay/backstaylaw20.CreditTurns", spec := "creditTurns", unfollowed := true, recurses := true, apart := false }
def CreditTurnsSaid : Prop := creditTurnsRow.holds Try.pinned (OpenSpec.ofChange creditTurnsSpec)

/-- ITS FALSE NEIGHBOUR: 'it returns false'. Refute it at one input. -/
def creditTurnsWrong : ChangeSpec := { name := "creditTurns", fn := fun _ => fun
  | [d1, d2, d3, d4, d5] => { results := [.lit (.bool false)], args := [d1, d2, d3, d4, d5] }
  | _ => none }
def CreditTurnsWrongFalsely : Prop := creditTurnsRow.holds Try.pinned (OpenSpec.ofChange creditTurnsWrong)

/- THE SECOND FORM. 'bulk': how many values and letters a reading holds, each counted each time it is reached (what is shared counts as often as it is met; a slice's spare places count too). A statement '..UptoSaid' is the law's where the arguments, and the package variables that the reading takes, are together of bulk at most 1048576: NARROWER than '..Said'. Prove '..Said' where nothing that the law and all that it calls make is longer than what came in: it says more and counts as full. Else prove '..UptoSaid'. A law counts once. -/
mutual
def uptoBulk {H : Type} : DataW H → Nat
  | .lit (.string bytes) => bytes.length + 1
  | .lit _ => 1
  | .nil => 1
  | .ptr d => uptoBulk d + 1
  | .slice elems spare => uptoBulkAll elems + uptoBulkAll spare + 1
  | .agg parts => uptoBulkAll parts + 1
  | .iface _ d => uptoBulk d + 1
  | .map entries => uptoBulkEntries entries + 1
  | .held _ => 1
def uptoBulkAll {H : Type} : List (DataW H) → Nat
  | [] => 0
  | d :: r => uptoBulk d + uptoBulkAll r
def uptoBulkEntries {H : Type} : List (Lit × DataW H) → Nat
  | [] => 0
  | x :: r => uptoBulkEntry x + uptoBulkEntries r
def uptoBulkEntry {H : Type} : Lit × DataW H → Nat
  | (.string bytes, d) => bytes.length + uptoBulk d + 1
  | (_, d) => uptoBulk d + 1
 end
def uptoSmall : (H : Type) → List (DataW H) → Bool := fun _ ds => decide (uptoBulkAll ds ≤ 1048576)
def OpenSpec.upto (s : _root_.Go.ChangeSpec) : _root_.Go.OpenSpec := { _root_.Go.OpenSpec.ofChange s with cond := some uptoSmall }

/-- 'backstaylaw20.CreditRight', WHERE WHAT IT READS IS OF BULK AT MOST 1048576: true; the input reads as it did. -/
def creditRightUptoRow : OpenClaim := { program := "ytcjlpgpmoleidaa", sum := "40dc0e9b877f77dc5f020fa3a5ae75bbb4c4747479205312a8e25ee3cade4072", func := "backstay/backstaylaw20.CreditRight", spec := "creditRight", unfollowed := true, recurses := true, apart := false, narrowed := true }
def CreditRightUptoSaid : Prop := creditRightUptoRow.holds Try.pinned (OpenSpec.upto creditRightSpec)

/-- 'backstaylaw20.CreditNever', WHERE WHAT IT READS IS OF BULK AT MOST 1048576: true; the input reads as it did. -/
def creditNeverUptoRow : OpenClaim := { program := "ytcjlpgpmoleidaa", sum := "40dc0e9b877f77dc5f020fa3a5ae75bbb4c4747479205312a8e25ee3cade4072", func := "backstay/backstaylaw20.CreditNever", spec := "creditNever", unfollowed := true, recurses := true, apart := false, narrowed := true }
def CreditNeverUptoSaid : Prop := creditNeverUptoRow.holds Try.pinned (OpenSpec.upto creditNeverSpec)

/-- 'backstaylaw20.CreditTurns', WHERE WHAT IT READS IS OF BULK AT MOST 1048576: true; the input reads as it did. -/
def creditTurnsUptoRow : OpenClaim := { program := "ytcjlpgpmoleidaa", sum := "40dc0e9b877f77dc5f020fa3a5ae75bbb4c4747479205312a8e25ee3cade4072", func := "backstay/backstaylaw20.CreditTurns", spec := "creditTurns", unfollowed := true, recurses := true, apart := false, narrowed := true }
def CreditTurnsUptoSaid : Prop := creditTurnsUptoRow.holds Try.pinned (OpenSpec.upto creditTurnsSpec)

end Rows
end Go.Proofs.Ytcjlpgpmoleidaa
