/-
  No cell of these rows narrows 'for every input' (looked for: loops, veiled, ifaces, maps, wideKeys, modest, calm, conditions, laid).
  DERIVED. THE GIVEN ROWS OF THIS SEAT. 6 by the template 'for every input the law returns true; each argument reads behind the call as it read before'; 0 by the template 'total and deterministic' (their statements: YthgkpcpioildcaaTotals.lean).
  GIVEN WITH THE SEED: the statements are not yours to turn. If you find one false, say at which input.
  Laid BY PROGRAM, IN A SANDBOX (cutbox-rows.mjs): the forced cells as the released guide's own fill.sh prints them over the translation 1c890fac793963bc… (all of the seat's roots in one cut). By AI agents, Wed Nov 11 2026. No macro, syntax, notation, axiom, sorry.
-/
import Derived.Test.YthgkpcpioildcaaChecked
import GoSem.Claim
import GoSem.ClaimJoined
import GoSem.ClaimMapViews
import Derived.JoinedTies
import Derived.KernelRfl
namespace Go.Proofs.Ythgkpcpioildcaa
/- THE CELL 'sum', in the pinned program and in every row, IS THE sha256 OF THE DUMP (.gsa) THAT YthgkpcpioildcaaProg.lean LOADS. Nothing in Lean hashes anything: it is a label: what it is worth is what the hold of that sum in a sandbox is worth. -/
noncomputable def Try.pinned : Pinned := { name := "ythgkpcpioildcaa", sum := "1c890fac793963bc985a2a2cc5cda461adae0ac7744eafc79b0f75cf812d886f", checked := Try.checked }
namespace Rows
def none {H : Type} : Left H := { results := [], args := [] }

/-- 'concordancelaw04.VintGets': WHATEVER THE INPUT: true; the input reads as it did. -/
def vintGetsSpec : ChangeSpec := { name := "vintGets", fn := fun _ => fun
  | [d1, d2] => { results := [.lit (.bool true)], args := [d1, d2] }
  | _ => none }
def vintGetsRow : OpenClaim := { program := "ythgkpcpioildcaa", sum := "1c890fac793963bc985a2a2cc5cda461adae0ac7744eafc79b0f75cf812d886f", func := "concordance/concordancelaw04.VintGets", spec := "vintGets", apart := false }
def VintGetsSaid : Prop := vintGetsRow.holds Try.pinned (OpenSpec.ofChange vintGetsSpec)

/-- ITS FALSE NEIGHBOUR: 'it returns false'. Refute it at one input. -/
def vintGetsWrong : ChangeSpec := { name := "vintGets", fn := fun _ => fun
  | [d1, d2] => { results := [.lit (.bool false)], args := [d1, d2] }
  | _ => none }
def VintGetsWrongFalsely : Prop := vintGetsRow.holds Try.pinned (OpenSpec.ofChange vintGetsWrong)

/-- 'concordancelaw04.VintPuts': WHATEVER THE INPUT: true; the input reads as it did. -/
def vintPutsSpec : ChangeSpec := { name := "vintPuts", fn := fun _ => fun
  | [d1, d2, d3] => { results := [.lit (.bool true)], args := [d1, d2, d3] }
  | _ => none }
def vintPutsRow : OpenClaim := { program := "ythgkpcpioildcaa", sum := "1c890fac793963bc985a2a2cc5cda461adae0ac7744eafc79b0f75cf812d886f", func := "concordance/concordancelaw04.VintPuts", spec := "vintPuts", apart := false }
def VintPutsSaid : Prop := vintPutsRow.holds Try.pinned (OpenSpec.ofChange vintPutsSpec)

/-- ITS FALSE NEIGHBOUR: 'it returns false'. Refute it at one input. -/
def vintPutsWrong : ChangeSpec := { name := "vintPuts", fn := fun _ => fun
  | [d1, d2, d3] => { results := [.lit (.bool false)], args := [d1, d2, d3] }
  | _ => none }
def VintPutsWrongFalsely : Prop := vintPutsRow.holds Try.pinned (OpenSpec.ofChange vintPutsWrong)

/-- 'concordancelaw04.VintShort': WHATEVER THE INPUT: true; the input reads as it did. -/
def vintShortSpec : ChangeSpec := { name := "vintShort", fn := fun _ => fun
  | [d1, d2, d3] => { results := [.lit (.bool true)], args := [d1, d2, d3] }
  | _ => none }
def vintShortRow : OpenClaim := { program := "ythgkpcpioildcaa", sum := "1c890fac793963bc985a2a2cc5cda461adae0ac7744eafc79b0f75cf812d886f", func := "concordance/concordancelaw04.VintShort", spec := "vintShort", apart := false }
def VintShortSaid : Prop := vintShortRow.holds Try.pinned (OpenSpec.ofChange vintShortSpec)

/-- ITS FALSE NEIGHBOUR: 'it returns false'. Refute it at one input. -/
def vintShortWrong : ChangeSpec := { name := "vintShort", fn := fun _ => fun
  | [d1, d2, d3] => { results := [.lit (.bool false)], args := [d1, d2, d3] }
  | _ => none }
def VintShortWrongFalsely : Prop := vintShortRow.holds Try.pinned (OpenSpec.ofChange vintShortWrong)

/-- 'concordancelaw04.VintRows': WHATEVER THE INPUT: true; the input reads as it did. -/
def vintRowsSpec : ChangeSpec := { name := "vintRows", fn := fun _ => fun
  | [d] => { results := [.lit (.bool true)], args := [d] }
  | _ => none }
def vintRowsRow : OpenClaim := { program := "ythgkpcpioildcaa", sum := "1c890fac793963bc985a2a2cc5cda461adae0ac7744eafc79b0f75cf812d886f", func := "concordance/concordancelaw04.VintRows", spec := "vintRows", apart := false }
def VintRowsSaid : Prop := vintRowsRow.holds Try.pinned (OpenSpec.ofChange vintRowsSpec)

/-- ITS FALSE NEIGHBOUR: 'it returns false'. Refute it at one input. -/
def vintRowsWrong : ChangeSpec := { name := "vintRows", fn := fun _ => fun
  | [d] => { results := [.lit (.bool false)], args := [d] }
  | _ => none }
def VintRowsWrongFalsely : Prop := vintRowsRow.holds Try.pinned (OpenSpec.ofChange vintRowsWrong)

/-- 'concordancelaw04.VintRising': WHATEVER THE INPUT: true; the input reads as it did. -/
def vintRisingSpec : ChangeSpec := { name := "vintRising", fn := fun _ => fun
  | [d1, d2, d3] => { results := [.lit (.bool true)], args := [d1, d2, d3] }
  | _ => none }
def vintRisingRow : OpenClaim := { program := "ythgkpcpioildcaa", sum := "1c890fac793963bc985a2a2cc5cda461adae0ac7744eafc79b0f75cf812d886f", func := "concordance/concordancelaw04.VintRising", spec := "vintRising", unfollowed := true, recurses := true, apart := false }
def VintRisingSaid : Prop := vintRisingRow.holds Try.pinned (OpenSpec.ofChange vintRisingSpec)

/-- ITS FALSE NEIGHBOUR: 'it returns false'. Refute it at one input. -/
def vintRisingWrong : ChangeSpec := { name := "vintRising", fn := fun _ => fun
  | [d1, d2, d3] => { results := [.lit (.bool false)], args := [d1, d2, d3] }
  | _ => none }
def VintRisingWrongFalsely : Prop := vintRisingRow.holds Try.pinned (OpenSpec.ofChange vintRisingWrong)

/-- 'concordancelaw04.VintTakes': WHATEVER THE INPUT: true; the input reads as it did. -/
def vintTakesSpec : ChangeSpec := { name := "vintTakes", fn := fun _ => fun
  | [d1, d2] => { results := [.lit (.bool true)], args := [d1, d2] }
  | _ => none }
def vintTakesRow : OpenClaim := { program := "ythgkpcpioildcaa", sum := "1c890fac793963bc985a2a2cc5cda461adae0ac7744eafc79b0f75cf812d886f", func := "concordance/concordancelaw04.VintTakes", spec := "vintTakes", unfollowed := true, recurses := true, apart := false }
def VintTakesSaid : Prop := vintTakesRow.holds Try.pinned (OpenSpec.ofChange vintTakesSpec)

/-- ITS FALSE NEIGHBOUR: 'it returns false'. Refute it at one input. -/
def vintTakesWrong : ChangeSpec := { name := "vintTakes", fn := fun _ => fun
  | [d1, d2] => { results := [.lit (.bool false)], args := [d1, d2] }
  | _ => none }
def VintTakesWrongFalsely : Prop := vintTakesRow.holds Try.pinned (OpenSpec.ofChange vintTakesWrong)

/- THE SECOND FORM. 'bulk': how many values and letters a reading holds, each counted each time it is reached (what is shared counts as often as it is met; a slice's spare places count too). A statement '..UptoSaid' is the law's where the arguments, and the package variables that the reading takes, are together of bulk at most 1048576: NARROWER than '..Said'. Prove '..Said' where nothing that the law and all that it calls make is longer than what came in: it says more and counts as full. Else prove '..UptoSaid'. A law counts once. -/
mutual
def uptoBulk {H : Type} : DataW H → Nat
  | .lit (.string bytes) => bytes.length + 1
  | .lit _ => 1
  | .nil => 1
  | .ptr d => uptoBulk d + 1
  | .slice elems spare => uptoBulkAll elems + uptoBulkAll spare + 1
  | .agg parts => uptoBulkAll parts + 1
  | .iface _ d => uptoBulk d + 1
  | .map entries => uptoBulkEntries entries + 1
  | .held _ => 1
def uptoBulkAll {H : Type} : List (DataW H) → Nat
  | [] => 0
  | d :: r => uptoBulk d + uptoBulkAll r
def uptoBulkEntries {H : Type} : List (Lit × DataW H) → Nat
  | [] => 0
  | x :: r => uptoBulkEntry x + uptoBulkEntries r
def uptoBulkEntry {H : Type} : Lit × DataW H → Nat
  | (.string bytes, d) => bytes.length + uptoBulk d + 1
  | (_, d) => uptoBulk d + 1
 end
def uptoSmall : (H : Type) → List (DataW H) → Bool := fun _ ds => decide (uptoBulkAll ds ≤ 1048576)
def OpenSpec.upto (s : _root_.Go.ChangeSpec) : _root_.Go.OpenSpec := { _root_.Go.OpenSpec.ofChange s with cond := some uptoSmall }

/-- 'concordancelaw04.VintGets', WHERE WHAT IT READS IS OF BULK AT MOST 1048576: true; the input reads as it did. -/
def vintGetsUptoRow : OpenClaim := { program := "ythgkpcpioildcaa", sum := "1c890fac793963bc985a2a2cc5cda461adae0ac7744eafc79b0f75cf812d886f", func := "concordance/concordancelaw04.VintGets", spec := "vintGets", apart := false, narrowed := true }
def VintGetsUptoSaid : Prop := vintGetsUptoRow.holds Try.pinned (OpenSpec.upto vintGetsSpec)

/-- 'concordancelaw04.VintPuts', WHERE WHAT IT READS IS OF BULK AT MOST 1048576: true; the input reads as it did. -/
def vintPutsUptoRow : OpenClaim := { program := "ythgkpcpioildcaa", sum := "1c890fac793963bc985a2a2cc5cda461adae0ac7744eafc79b0f75cf812d886f", func := "concordance/concordancelaw04.VintPuts", spec := "vintPuts", apart := false, narrowed := true }
def VintPutsUptoSaid : Prop := vintPutsUptoRow.holds Try.pinned (OpenSpec.upto vintPutsSpec)

/-- 'concordancelaw04.VintShort', WHERE WHAT IT READS IS OF BULK AT MOST 1048576: true; the input reads as it did. -/
def vintShortUptoRow : OpenClaim := { program := "ythgkpcpioildcaa", sum := "1c890fac793963bc985a2a2cc5cda461adae0ac7744eafc79b0f75cf812d886f", func := "concordance/concordancelaw04.VintShort", spec := "vintShort", apart := false, narrowed := true }
def VintShortUptoSaid : Prop := vintShortUptoRow.holds Try.pinned (OpenSpec.upto vintShortSpec)

/-- 'concordancelaw04.VintRows', WHERE WHAT IT READS IS OF BULK AT MOST 1048576: true; the input reads as it did. -/
def vintRowsUptoRow : OpenClaim := { program := "ythgkpcpioildcaa", sum := "1c890fac793963bc985a2a2cc5cda461adae0ac7744eafc79b0f75cf812d886f", func := "concordance/concordancelaw04.VintRows", spec := "vintRows", apart := false, narrowed := true }
def VintRowsUptoSaid : Prop := vintRowsUptoRow.holds Try.pinned (OpenSpec.upto vintRowsSpec)

/-- 'concordancelaw04.VintRising', WHERE WHAT IT READS IS OF BULK AT MOST 1048576: true; the input reads as it did. -/
def vintRisingUptoRow : OpenClaim := { program := "ythgkpcpioildcaa", sum := "1c890fac793963bc985a2a2cc5cda461adae0ac7744eafc79b0f75cf812d886f", func := "concordance/concordancelaw04.VintRising", spec := "vintRising", unfollowed := true, recurses := true, apart := false, narrowed := true }
def VintRisingUptoSaid : Prop := vintRisingUptoRow.holds Try.pinned (OpenSpec.upto vintRisingSpec)

/-- 'concordancelaw04.VintTakes', WHERE WHAT IT READS IS OF BULK AT MOST 1048576: true; the input reads as it did. -/
def vintTakesUptoRow : OpenClaim := { program := "ythgkpcpioildcaa", sum := "1c890fac793963bc985a2a2cc5cda461adae0ac7744eafc79b0f75cf812d886f", func := "concordance/concordancelaw04.VintTakes", spec := "vintTakes", unfollowed := true, recurses := true, apart := false, narrowed := true }
def VintTakesUptoSaid : Prop := vintTakesUptoRow.holds Try.pinned (OpenSpec.upto vintTakesSpec)

end Rows
end Go.Proofs.Ythgkpcpioildcaa
