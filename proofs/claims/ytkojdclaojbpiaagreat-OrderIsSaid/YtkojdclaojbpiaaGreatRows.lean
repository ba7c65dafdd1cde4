/-
  No cell of these rows narrows 'for every input' (looked for: loops, veiled, ifaces, maps, wideKeys, modest, calm, conditions, laid).
  DERIVED. THE GIVEN ROWS OF THIS SEAT. 2 by the template 'for every input the law returns true; each argument reads behind the call as it read before'; 0 by the template 'total and deterministic' (their statements: YtkojdclaojbpiaaGreatTotals.lean).
  GIVEN WITH THE SEED: the statements are not yours to turn. If you find one false, say at which input.
  Laid BY PROGRAM, IN A SANDBOX (cutbox-rows.mjs): the forced cells as the released guide's own fill.sh prints them over the translation f9eb391c9e9fd6dd… (all of the seat's roots in one cut). By AI agents, Wed Nov 11 2026. No macro, syntax, notation, axiom, sorry.
-/
import Derived.Test.YtkojdclaojbpiaaGreatChecked
import GoSem.Claim
import GoSem.ClaimJoined
import GoSem.ClaimMapViews
import Derived.JoinedTies
import Derived.KernelRfl
namespace Go.Proofs.YtkojdclaojbpiaaGreat
/- THE CELL 'sum', in the pinned program and in every row, IS THE sha256 OF THE DUMP (.gsa) THAT YtkojdclaojbpiaaGreatProg.lean LOADS. Nothing in Lean hashes anything: it is a label: what it is worth is what the hold of that sum in a sandbox is worth. -/
noncomputable def Tryz.pinned : Pinned := { name := "ytkojdclaojbpiaagreat", sum := "f9eb391c9e9fd6dd68f947d741dcf912e17a277a7b17c958132b2fc0945bafdb", checked := Tryz.checked }
namespace Rows
def none {H : Type} : Left H := { results := [], args := [] }

/-- 'tracerylaw22.OrderIs': WHATEVER THE INPUT: true; the input reads as it did. -/
def orderIsSpec : ChangeSpec := { name := "orderIs", fn := fun _ => fun
  | [d1, d2] => { results := [.lit (.bool true)], args := [d1, d2] }
  | _ => none }
def orderIsRow : OpenClaim := { program := "ytkojdclaojbpiaagreat", sum := "f9eb391c9e9fd6dd68f947d741dcf912e17a277a7b17c958132b2fc0945bafdb", func := "tracery/tracerylaw22.OrderIs", spec := "orderIs", inPlace := ["slices.overlaps[int]"], unfollowed := true, recurses := true, plainKeys := false, apart := false }
def OrderIsSaid : Prop := orderIsRow.holds Tryz.pinned (OpenSpec.ofChange orderIsSpec)

/-- ITS FALSE NEIGHBOUR: 'it returns false'. Refute it at one input. -/
def orderIsWrong : ChangeSpec := { name := "orderIs", fn := fun _ => fun
  | [d1, d2] => { results := [.lit (.bool false)], args := [d1, d2] }
  | _ => none }
def OrderIsWrongFalsely : Prop := orderIsRow.holds Tryz.pinned (OpenSpec.ofChange orderIsWrong)

/-- 'tracerylaw26.OrthoKnown': WHATEVER THE INPUT: true; the input reads as it did. -/
def orthoKnownSpec : ChangeSpec := { name := "orthoKnown", fn := fun _ => fun
  | [d1, d2] => { results := [.lit (.bool true)], args := [d1, d2] }
  | _ => none }
def orthoKnownRow : OpenClaim := { program := "ytkojdclaojbpiaagreat", sum := "f9eb391c9e9fd6dd68f947d741dcf912e17a277a7b17c958132b2fc0945bafdb", func := "tracery/tracerylaw26.OrthoKnown", spec := "orthoKnown", inPlace := ["slices.overlaps[int]"], unfollowed := true, recurses := true, plainKeys := false, apart := false }
def OrthoKnownSaid : Prop := orthoKnownRow.holds Tryz.pinned (OpenSpec.ofChange orthoKnownSpec)

/-- ITS FALSE NEIGHBOUR: 'it returns false'. Refute it at one input. -/
def orthoKnownWrong : ChangeSpec := { name := "orthoKnown", fn := fun _ => fun
  | [d1, d2] => { results := [.lit (.bool false)], args := [d1, d2] }
  | _ => none }
def OrthoKnownWrongFalsely : Prop := orthoKnownRow.holds Tryz.pinned (OpenSpec.ofChange orthoKnownWrong)

/- THE SECOND FORM. 'bulk': how many values and letters a reading holds, each counted each time it is reached (what is shared counts as often as it is met; a slice's spare places count too). A statement '..UptoSaid' is the law's where the arguments, and the package variables that the reading takes, are together of bulk at most 1048576: NARROWER than '..Said'. Prove '..Said' where nothing that the law and all that it calls make is longer than what came in: it says more and counts as full. Else prove '..UptoSaid'. A law counts once. -/
mutual
def uptoBulk {H : Type} : DataW H → Nat
  | .lit (.string bytes) => bytes.length + 1
  | .lit _ => 1
  | .nil => 1
  | .ptr d => uptoBulk d + 1
  | .slice elems spare => uptoBulkAll elems + uptoBulkAll spare + 1
  | .agg parts => uptoBulkAll parts + 1
  | .iface _ d => uptoBulk d + 1
  | .map entries => uptoBulkEntries entries + 1
  | .held _ => 1
def uptoBulkAll {H : Type} : List (DataW H) → Nat
  | [] => 0
  | d :: r => uptoBulk d + uptoBulkAll r
def uptoBulkEntries {H : Type} : List (Lit × DataW H) → Nat
  | [] => 0
  | x :: r => uptoBulkEntry x + uptoBulkEntries r
def uptoBulkEntry {H : Type} : Lit × DataW H → Nat
  | (.string bytes, d) => bytes.length + uptoBulk d + 1
  | (_, d) => uptoBulk d + 1
 end
def uptoSmall : (H : Type) → List (DataW H) → Bool := fun _ ds => decide (uptoBulkAll ds ≤ 1048576)
def OpenSpec.upto (s : _root_.Go.ChangeSpec) : _root_.Go.OpenSpec := { _root_.Go.OpenSpec.ofChange s with cond := some uptoSmall }

/-- 'tracerylaw22.OrderIs', WHERE WHAT IT READS IS OF BULK AT MOST 1048576: true; the input reads as it did. -/
def orderIsUptoRow : OpenClaim := { program := "ytkojdclaojbpiaagreat", sum := "f9eb391c9e9fd6dd68f947d741dcf912e17a277a7b17c958132b2fc0945bafdb", func := "tracery/tracerylaw22.OrderIs", spec := "orderIs", inPlace := ["slices.overlaps[int]"], unfollowed := true, recurses := true, plainKeys := false, apart := false, narrowed := true }
def OrderIsUptoSaid : Prop := orderIsUptoRow.holds Tryz.pinned (OpenSpec.upto orderIsSpec)

/-- 'tracerylaw26.OrthoKnown', WHERE WHAT IT READS IS OF BULK AT MOST 1048576: true; the input reads as it did. -/
def orthoKnownUptoRow : OpenClaim := { program := "ytkojdclaojbpiaagreat", sum := "f9eb391c9e9fd6dd68f947d741dcf912e17a277a7b17c958132b2fc0945bafdb", func := "tracery/tracerylaw26.OrthoKnown", spec := "orthoKnown", inPlace := ["slices.overlaps[int]"], unfollowed := true, recurses := true, plainKeys := false, apart := false, narrowed := true }
def OrthoKnownUptoSaid : Prop := orthoKnownUptoRow.holds Tryz.pinned (OpenSpec.upto orthoKnownSpec)

end Rows
end Go.Proofs.YtkojdclaojbpiaaGreat
