/-
  No cell of these rows narrows 'for every input' (looked for: loops, veiled, ifaces, maps, wideKeys, modest, calm, conditions, laid).
  DERIVED. THE GIVEN ROWS OF THIS SEAT. 6 by the template 'for every input the law returns true; each argument reads behind the call as it read before'; 0 by the template 'total and deterministic' (their statements: YtelpplijjglooaaTotals.lean).
  GIVEN WITH THE SEED: the statements are not yours to turn. If you find one false, say at which input.
  Laid BY PROGRAM, IN A SANDBOX (cutbox-rows.mjs): the forced cells as the released guide's own fill.sh prints them over the translation c5d40f6642398506… (all of the seat's roots in one cut). By AI agents, Wed Nov 11 2026. No macro, syntax, notation, axiom, sorry.
-/
import Derived.Test.YtelpplijjglooaaChecked
import GoSem.Claim
import GoSem.ClaimJoined
import GoSem.ClaimMapViews
import Derived.JoinedTies
import Derived.KernelRfl
namespace Go.Proofs.Ytelpplijjglooaa
/- THE CELL 'sum', in the pinned program and in every row, IS THE sha256 OF THE DUMP (.gsa) THAT YtelpplijjglooaaProg.lean LOADS. Nothing in Lean hashes anything: it is a label: what it is worth is what the hold of that sum in a sandbox is worth. -/
noncomputable def Try.pinned : Pinned := { name := "ytelpplijjglooaa", sum := "c5d40f664239850632d176e706f7724dc2e835046acb4e2d2b3020430653ef8b", checked := Try.checked }
namespace Rows
def none {H : Type} : Left H := { results := [], args := [] }

/-- 'mortiselaw1.WordBins': WHATEVER THE INPUT: true; the input reads as it did. -/
def wordBinsSpec : ChangeSpec := { name := "wordBins", fn := fun _ => fun
  | [d1, d2, d3] => { results := [.lit (.bool true)], args := [d1, d2, d3] }
  | _ => none }
def wordBinsRow : OpenClaim := { program := "ytelpplijjglooaa", sum := "c5d40f664239850632d176e706f7724dc2e835046acb4e2d2b3020430653ef8b", func := "mortise/mortiselaw1.WordBins", spec := "wordBins", apart := false }
def WordBinsSaid : Prop := wordBinsRow.holds Try.pinned (OpenSpec.ofChange wordBinsSpec)

/-- ITS FALSE NEIGHBOUR: 'it returns false'. Refute it at one input. -/
def wordBinsWrong : ChangeSpec := { name := "wordBins", fn := fun _ => fun
  | [d1, d2, d3] => { results := [.lit (.bool false)], args := [d1, d2, d3] }
  | _ => none }
def WordBinsWrongFalsely : Prop := wordBinsRow.holds Try.pinned (OpenSpec.ofChange wordBinsWrong)

/-- 'mortiselaw1.WordDivides': WHATEVER THE INPUT: true; the input reads as it did. -/
def wordDividesSpec : ChangeSpec := { name := "wordDivides", fn := fun _ => fun
  | [d1, d2] => { results := [.lit (.bool true)], args := [d1, d2] }
  | _ => none }
def wordDividesRow : OpenClaim := { program := "ytelpplijjglooaa", sum := "c5d40f664239850632d176e706f7724dc2e835046acb4e2d2b3020430653ef8b", func := "mortise/mortiselaw1.WordDivides", spec := "wordDivides", apart := false }
def WordDividesSaid : Prop := wordDividesRow.holds Try.pinned (OpenSpec.ofChange wordDividesSpec)

/-- ITS FALSE NEIGHBOUR: 'it returns false'. Refute it at one input. -/
def wordDividesWrong : ChangeSpec := { name := "wordDivides", fn := fun _ => fun
  | [d1, d2] => { results := [.lit (.bool false)], args := [d1, d2] }
  | _ => none }
def WordDividesWrongFalsely : Prop := wordDividesRow.holds Try.pinned (OpenSpec.ofChange wordDividesWrong)

/-- 'mortiselaw1.WordOrders': WHATEVER THE INPUT: true; the input reads as it did. -/
def wordOrdersSpec : ChangeSpec := { name := "wordOrders", fn := fun _ => fun
  | [d1, d2] => { results := [.lit (.bool true)], args := [d1, d2] }
  | _ => none }
def wordOrdersRow : OpenClaim := { program := "ytelpplijjglooaa", sum := "c5d40f664239850632d176e706f7724dc2e835046acb4e2d2b3020430653ef8b", func := "mortise/mortiselaw1.WordOrders", spec := "wordOrders", apart := false }
def WordOrdersSaid : Prop := wordOrdersRow.holds Try.pinned (OpenSpec.ofChange wordOrdersSpec)

/-- ITS FALSE NEIGHBOUR: 'it returns false'. Refute it at one input. -/
def wordOrdersWrong : ChangeSpec := { name := "wordOrders", fn := fun _ => fun
  | [d1, d2] => { results := [.lit (.bool false)], args := [d1, d2] }
  | _ => none }
def WordOrdersWrongFalsely : Prop := wordOrdersRow.holds Try.pinned (OpenSpec.ofChange wordOrdersWrong)

/-- 'mortiselaw1.WordShifts': WHATEVER THE INPUT: true; the input reads as it did. -/
def wordShiftsSpec : ChangeSpec := { name := "wordShifts", fn := fun _ => fun
  | [d1, d2] => { results := [.lit (.bool true)], args := [d1, d2] }
  | _ => none }
def wordShiftsRow : OpenClaim := { program := "ytelpplijjglooaa", sum := "c5d40f664239850632d176e706f7724dc2e835046acb4e2d2b3020430653ef8b", func := "mortise/mortiselaw1.WordShifts", spec := "wordShifts", apart := false }
def WordShiftsSaid : Prop := wordShiftsRow.holds Try.pinned (OpenSpec.ofChange wordShiftsSpec)

/-- ITS FALSE NEIGHBOUR: 'it returns false'. Refute it at one input. -/
def wordShiftsWrong : ChangeSpec := { name := "wordShifts", fn := fun _ => fun
  | [d1, d2] => { results := [.lit (.bool false)], args := [d1, d2] }
  | _ => none }
def WordShiftsWrongFalsely : Prop := wordShiftsRow.holds Try.pinned (OpenSpec.ofChange wordShiftsWrong)

/-- 'mortiselaw1.WordUns': WHATEVER THE INPUT: true; the input reads as it did. -/
def wordUnsSpec : ChangeSpec := { name := "wordUns", fn := fun _ => fun
  | [d1, d2] => { results := [.lit (.bool true)], args := [d1, d2] }
  | _ => none }
def wordUnsRow : OpenClaim := { program := "ytelpplijjglooaa", sum := "c5d40f664239850632d176e706f7724dc2e835046acb4e2d2b3020430653ef8b", func := "mortise/mortiselaw1.WordUns", spec := "wordUns", apart := false }
def WordUnsSaid : Prop := wordUnsRow.holds Try.pinned (OpenSpec.ofChange wordUnsSpec)

/-- ITS FALSE NEIGHBOUR: 'it returns false'. Refute it at one input. -/
def wordUnsWrong : ChangeSpec := { name := "wordUns", fn := fun _ => fun
  | [d1, d2] => { results := [.lit (.bool false)], args := [d1, d2] }
  | _ => none }
def WordUnsWrongFalsely : Prop := wordUnsRow.holds Try.pinned (OpenSpec.ofChange wordUnsWrong)

/-- 'mortiselaw1.WordTwice': WHATEVER THE INPUT: true; the input reads as it did. -/
def wordTwiceSpec : ChangeSpec := { name := "wordTwice", fn := fun _ => fun
  | [d1, d2] => { results := [.lit (.bool true)], args := [d1, d2] }
  | _ => none }
def wordTwiceRow : OpenClaim := { program := "ytelpplijjglooaa", sum := "c5d40f664239850632d176e706f7724dc2e835046acb4e2d2b3020430653ef8b", func := "mortise/mortiselaw1.WordTwice", spec := "wordTwice", apart := false }
def WordTwiceSaid : Prop := wordTwiceRow.holds Try.pinned (OpenSpec.ofChange wordTwiceSpec)

/-- ITS FALSE NEIGHBOUR: 'it returns false'. Refute it at one input. -/
def wordTwiceWrong : ChangeSpec := { name := "wordTwice", fn := fun _ => fun
  | [d1, d2] => { results := [.lit (.bool false)], args := [d1, d2] }
  | _ => none }
def WordTwiceWrongFalsely : Prop := wordTwiceRow.holds Try.pinned (OpenSpec.ofChange wordTwiceWrong)

/- THE SECOND FORM. 'bulk': how many values and letters a reading holds, each counted each time it is reached (what is shared counts as often as it is met; a slice's spare places count too). A statement '..UptoSaid' is the law's where the arguments, and the package variables that the reading takes, are together of bulk at most 1048576: NARROWER than '..Said'. Prove '..Said' where nothing that the law and all that it calls make is longer than what came in: it says more and counts as full. Else prove '..UptoSaid'. A law counts once. -/
mutual
def uptoBulk {H : Type} : DataW H → Nat
  | .lit (.string bytes) => bytes.length + 1
  | .lit _ => 1
  | .nil => 1
  | .ptr d => uptoBulk d + 1
  | .slice elems spare => uptoBulkAll elems + uptoBulkAll spare + 1
  | .agg parts => uptoBulkAll parts + 1
  | .iface _ d => uptoBulk d + 1
  | .map entries => uptoBulkEntries entries + 1
  | .held _ => 1
def uptoBulkAll {H : Type} : List (DataW H) → Nat
  | [] => 0
  | d :: r => uptoBulk d + uptoBulkAll r
def uptoBulkEntries {H : Type} : List (Lit × DataW H) → Nat
  | [] => 0
  | x :: r => uptoBulkEntry x + uptoBulkEntries r
def uptoBulkEntry {H : Type} : Lit × DataW H → Nat
  | (.string bytes, d) => bytes.length + uptoBulk d + 1
  | (_, d) => uptoBulk d + 1
 end
def uptoSmall : (H : Type) → List (DataW H) → Bool := fun _ ds => decide (uptoBulkAll ds ≤ 1048576)
def OpenSpec.upto (s : _root_.Go.ChangeSpec) : _root_.Go.OpenSpec := { _root_.Go.OpenSpec.ofChange s with cond := some uptoSmall }

/-- 'mortiselaw1.WordBins', WHERE WHAT IT READS IS OF BULK AT MOST 1048576: true; the input reads as it did. -/
def wordBinsUptoRow : OpenClaim := { program := "ytelpplijjglooaa", sum := "c5d40f664239850632d176e706f7724dc2e835046acb4e2d2b3020430653ef8b", func := "mortise/mortiselaw1.WordBins", spec := "wordBins", apart := false, narrowed := true }
def WordBinsUptoSaid : Prop := wordBinsUptoRow.holds Try.pinned (OpenSpec.upto wordBinsSpec)

/-- 'mortiselaw1.WordDivides', WHERE WHAT IT READS IS OF BULK AT MOST 1048576: true; the input reads as it did. -/
def wordDividesUptoRow : OpenClaim := { program := "ytelpplijjglooaa", sum := "c5d40f664239850632d176e706f7724dc2e835046acb4e2d2b3020430653ef8b", func := "mortise/mortiselaw1.WordDivides", spec := "wordDivides", apart := false, narrowed := true }
def WordDividesUptoSaid : Prop := wordDividesUptoRow.holds Try.pinned (OpenSpec.upto wordDividesSpec)

/-- 'mortiselaw1.WordOrders', WHERE WHAT IT READS IS OF BULK AT MOST 1048576: true; the input reads as it did. -/
def wordOrdersUptoRow : OpenClaim := { program := "ytelpplijjglooaa", sum := "c5d40f664239850632d176e706f7724dc2e835046acb4e2d2b3020430653ef8b", func := "mortise/mortiselaw1.WordOrders", spec := "wordOrders", apart := false, narrowed := true }
def WordOrdersUptoSaid : Prop := wordOrdersUptoRow.holds Try.pinned (OpenSpec.upto wordOrdersSpec)

/-- 'mortiselaw1.WordShifts', WHERE WHAT IT READS IS OF BULK AT MOST 1048576: true; the input reads as it did. -/
def wordShiftsUptoRow : OpenClaim := { program := "ytelpplijjglooaa", sum := "c5d40f664239850632d176e706f7724dc2e835046acb4e2d2b3020430653ef8b", func := "mortise/mortiselaw1.WordShifts", spec := "wordShifts", apart := false, narrowed := true }
def WordShiftsUptoSaid : Prop := wordShiftsUptoRow.holds Try.pinned (OpenSpec.upto wordShiftsSpec)

/-- 'mortiselaw1.WordUns', WHERE WHAT IT READS IS OF BULK AT MOST 1048576: true; the input reads as it did. -/
def wordUnsUptoRow : OpenClaim := { program := "ytelpplijjglooaa", sum := "c5d40f664239850632d176e706f7724dc2e835046acb4e2d2b3020430653ef8b", func := "mortise/mortiselaw1.WordUns", spec := "wordUns", apart := false, narrowed := true }
def WordUnsUptoSaid : Prop := wordUnsUptoRow.holds Try.pinned (OpenSpec.upto wordUnsSpec)

/-- 'mortiselaw1.WordTwice', WHERE WHAT IT READS IS OF BULK AT MOST 1048576: true; the input reads as it did. -/
def wordTwiceUptoRow : OpenClaim := { program := "ytelpplijjglooaa", sum := "c5d40f664239850632d176e706f7724dc2e835046acb4e2d2b3020430653ef8b", func := "mortise/mortiselaw1.WordTwice", spec := "wordTwice", apart := false, narrowed := true }
def WordTwiceUptoSaid : Prop := wordTwiceUptoRow.holds Try.pinned (OpenSpec.upto wordTwiceSpec)

end Rows
end Go.Proofs.Ytelpplijjglooaa
