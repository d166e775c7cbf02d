/-
  No cell of these rows narrows 'for every input' (looked for: loops, veiled, ifaces, maps, wideKeys, modest, calm, conditions, laid).
  DERIVED. THE GIVEN ROWS OF THIS SEAT. 3 by the template 'for every input the law returns true; each argument reads behind the call as it read before'; 0 by the template 'total and deterministic' (their statements: YtimhdkgllgdamaaTotals.lean).
  GIVEN WITH THE SEED: the statements are not yours to turn. If you find one false, say at which input.
  Laid BY PROGRAM, IN A SANDBOX (cutbox-rows.mjs): the forced cells as the released guide's own fill.sh prints them over the translation 7c4d2938477333d8… (all of the seat's roots in one cut). By AI agents, Wed Nov 11 2026. No macro, syntax, notation, axiom, sorry.
-/
import Derived.Test.YtimhdkgllgdamaaChecked
import GoSem.Claim
import GoSem.ClaimJoined
import GoSem.ClaimMapViews
import Derived.JoinedTies
import Derived.KernelRfl
namespace Go.Proofs.Ytimhdkgllgdamaa
/- THE CELL 'sum', in the pinned program and in every row, IS THE sha256 OF THE DUMP (.gsa) THAT YtimhdkgllgdamaaProg.lean LOADS. Nothing in Lean hashes anything: it is a label: what it is worth is what the hold of that sum in a sandbox is worth. -/
noncomputable def Try.pinned : Pinned := { name := "ytimhdkgllgdamaa", sum := "7c4d2938477333d860dae14c1f2935750b0ac06d07bea783b3cd8137d594db86", checked := Try.checked }
namespace Rows
def none {H : Type} : Left H := { results := [], args := [] }

/-- 'backstaylaw15.DueFirst': WHATEVER THE INPUT: true; the input reads as it did. -/
def dueFirstSpec : ChangeSpec := { name := "dueFirst", fn := fun _ => fun
  | [d1, d2] => { results := [.lit (.bool true)], args := [d1, d2] }
  | _ => none }
def dueFirstRow : OpenClaim := { program := "ytimhdkgllgdamaa", sum := "7c4d2938477333d860dae14c1f2935750b0ac06d07bea783b3cd8137d594db86", func := "backstay/backstaylaw15.DueFirst", spec := "dueFirst", unfollowed := true, recurses := true, apart := false }
def DueFirstSaid : Prop := dueFirstRow.holds Try.pinned (OpenSpec.ofChange dueFirstSpec)

/-- ITS FALSE NEIGHBOUR: 'it returns false'. Refute it at one input. -/
def dueFirstWrong : ChangeSpec := { name := "dueFirst", fn := fun _ => fun
  | [d1, d2] => { results := [.lit (.bool false)], args := [d1, d2] }
  | _ => none }
def DueFirstWrongFalsely : Prop := dueFirstRow.holds Try.pinned (OpenSpec.ofChange dueFirstWrong)

/-- 'backstaylaw15.DueSorts': WHATEVER THE INPUT: true; the input reads as it did. -/
def dueSortsSpec : ChangeSpec := { name := "dueSorts", fn := fun _ => fun
  | [d] => { results := [.lit (.bool true)], args := [d] }
  | _ => none }
def dueSortsRow : OpenClaim := { program := "ytimhdkgllgdamaa", sum := "7c4d2938477333d860dae14c1f2935750b0ac06d07bea783b3cd8137d594db86", func := "backstay/backstaylaw15.DueSorts", spec := "dueSorts", unfollowed := true, recurses := true, apart := false }
def DueSortsSaid : Prop := dueSortsRow.holds Try.pinned (OpenSpec.ofChange dueSortsSpec)

/-- ITS FALSE NEIGHBOUR: 'it returns false'. Refute it at one input. -/
def dueSortsWrong : ChangeSpec := { name := "dueSorts", fn := fun _ => fun
  | [d] => { results := [.lit (.bool false)], args := [d] }
  | _ => none }
def DueSortsWrongFalsely : Prop := dueSortsRow.holds Try.pinned (OpenSpec.ofChange dueSortsWrong)

/-- 'backstaylaw15.DueRight': WHATEVER THE INPUT: true; the input reads as it did. -/
def dueRightSpec : ChangeSpec := { name := "dueRight", fn := fun _ => fun
  | [d1, d2, d3, d4] => { results := [.lit (.bool true)], args := [d1, d2, d3, d4] }
  | _ => none }
def dueRightRow : OpenClaim := { program := "ytimhdkgllgdamaa", sum := "7c4d2938477333d860dae14c1f2935750b0ac06d07bea783b3cd8137d594db86", func := "backstay/backstaylaw15.DueRight", spec := "dueRight", unfollowed := true, recurses := true, apart := false }
def DueRightSaid : Prop := dueRightRow.holds Try.pinned (OpenSpec.ofChange dueRightSpec)

/-- ITS FALSE NEIGHBOUR: 'it returns false'. Refute it at one input. -/
def dueRightWrong : ChangeSpec := { name := "dueRight", fn := fun _ => fun
  | [d1, d2, d3, d4] => { results := [.lit (.bool false)], args := [d1, d2, d3, d4] }
  | _ => none }
def DueRightWrongFalsely : Prop := dueRightRow.holds Try.pinned (OpenSpec.ofChange dueRightWrong)

/- THE SECOND FORM. 'bulk': how many values and letters a reading holds, each counted each time it is reached (what is shared counts as often as it is met; a slice's spare places count too). A statement '..UptoSaid' is the law's where the arguments, and the package variables that the reading takes, are together of bulk at most 1048576: NARROWER than '..Said'. Prove '..Said' where nothing that the law and all that it calls make is longer than what came in: it says more and counts as full. Else prove '..UptoSaid'. A law counts once. -/
mutual
def uptoBulk {H : Type} : DataW H → Nat
  | .lit (.string bytes) => bytes.length + 1
  | .lit _ => 1
  | .nil => 1
  | .ptr d => uptoBulk d + 1
  | .slice elems spare => uptoBulkAll elems + uptoBulkAll spare + 1
  | .agg parts => uptoBulkAll parts + 1
  | .iface _ d => uptoBulk d + 1
  | .map entries => uptoBulkEntries entries + 1
  | .held _ => 1
def uptoBulkAll {H : Type} : List (DataW H) → Nat
  | [] => 0
  | d :: r => uptoBulk d + uptoBulkAll r
def uptoBulkEntries {H : Type} : List (Lit × DataW H) → Nat
  | [] => 0
  | x :: r => uptoBulkEntry x + uptoBulkEntries r
def uptoBulkEntry {H : Type} : Lit × DataW H → Nat
  | (.string bytes, d) => bytes.length + uptoBulk d + 1
  | (_, d) => uptoBulk d + 1
 end
def uptoSmall : (H : Type) → List (DataW H) → Bool := fun _ ds => decide (uptoBulkAll ds ≤ 1048576)
def OpenSpec.upto (s : _root_.Go.ChangeSpec) : _root_.Go.OpenSpec := { _root_.Go.OpenSpec.ofChange s with cond := some uptoSmall }

/-- 'backstaylaw15.DueFirst', WHERE WHAT IT READS IS OF BULK AT MOST 1048576: true; the input reads as it did. -/
def dueFirstUptoRow : OpenClaim := { program := "ytimhdkgllgdamaa", sum := "7c4d2938477333d860dae14c1f2935750b0ac06d07bea783b3cd8137d594db86", func := "backstay/backstaylaw15.DueFirst", spec := "dueFirst", unfollowed := true, recurses := true, apart := false, narrowed := true }
def DueFirstUptoSaid : Prop := dueFirstUptoRow.holds Try.pinned (OpenSpec.upto dueFirstSpec)

/-- 'backstaylaw15.DueSorts', WHERE WHAT IT READS IS OF BULK AT MOST 1048576: true; the input reads as it did. -/
def dueSortsUptoRow : OpenClaim := { program := "ytimhdkgllgdamaa", sum := "7c4d2938477333d860dae14c1f2935750b0ac06d07bea783b3cd8137d594db86", func := "backstay/backstaylaw15.DueSorts", spec := "dueSorts", unfollowed := true, recurses := true, apart := false, narrowed := true }
def DueSortsUptoSaid : Prop := dueSortsUptoRow.holds Try.pinned (OpenSpec.upto dueSortsSpec)

/-- 'backstaylaw15.DueRight', WHERE WHAT IT READS IS OF BULK AT MOST 1048576: true; the input reads as it did. -/
def dueRightUptoRow : OpenClaim := { program := "ytimhdkgllgdamaa", sum := "7c4d2938477333d860dae14c1f2935750b0ac06d07bea783b3cd8137d594db86", func := "backstay/backstaylaw15.DueRight", spec := "dueRight", unfollowed := true, recurses := true, apart := false, narrowed := true }
def DueRightUptoSaid : Prop := dueRightUptoRow.holds Try.pinned (OpenSpec.upto dueRightSpec)

end Rows
end Go.Proofs.Ytimhdkgllgdamaa
