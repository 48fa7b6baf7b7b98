/-
  No cell of these rows narrows 'for every input' (looked for: loops, veiled, ifaces, maps, wideKeys, modest, calm, conditions, laid).
  DERIVED. THE GIVEN ROWS OF THIS SEAT. 5 by the template 'for every input the law returns true; each argument reads behind the call as it read before'; 0 by the template 'total and deterministic' (their statements: YtekojgilikoegaaTotals.lean).
  GIVEN WITH THE SEED: the statements are not yours to turn. If you find one false, say at which input.
  Laid BY PROGRAM, IN A SANDBOX (cutbox-rows.mjs): the forced cells as the released guide's own fill.sh prints them over the translation 318a6d559e123b84… (all of the seat's roots in one cut). By AI agents, Wed Nov 11 2026. No macro, syntax, notation, axiom, sorry.
-/
import Derived.Test.YtekojgilikoegaaChecked
import GoSem.Claim
import GoSem.ClaimJoined
import GoSem.ClaimMapViews
import Derived.JoinedTies
import Derived.KernelRfl
namespace Go.Proofs.Ytekojgilikoegaa
/- THE CELL 'sum', in the pinned program and in every row, IS THE sha256 OF THE DUMP (.gsa) THAT YtekojgilikoegaaProg.lean LOADS. Nothing in Lean hashes anything: it is a label: what it is worth is what the hold of that sum in a sandbox is worth. -/
noncomputable def Try.pinned : Pinned := { name := "ytekojgilikoegaa", sum := "318a6d559e123b84845dc1dff862bfe2501d5daa3a62f0996d3a204fec0468a1", checked := Try.checked }
namespace Rows
def none {H : Type} : Left H := { results := [], args := [] }

/-- 'codewrightlaw11.WordBinomials': WHATEVER THE INPUT: true; the input reads as it did. -/
def wordBinomialsSpec : ChangeSpec := { name := "wordBinomials", fn := fun _ => fun
  | [d1, d2] => { results := [.lit (.bool true)], args := [d1, d2] }
  | _ => none }
def wordBinomialsRow : OpenClaim := { program := "ytekojgilikoegaa", sum := "318a6d559e123b84845dc1dff862bfe2501d5daa3a62f0996d3a204fec0468a1", func := "codewright/codewrightlaw11.WordBinomials", spec := "wordBinomials", apart := false }
def WordBinomialsSaid : Prop := wordBinomialsRow.holds Try.pinned (OpenSpec.ofChange wordBinomialsSpec)

/-- ITS FALSE NEIGHBOUR: 'it returns false'. Refute it at one input. -/
def wordBinomialsWrong : ChangeSpec := { name := "wordBinomials", fn := fun _ => fun
  | [d1, d2] => { results := [.lit (.bool false)], args := [d1, d2] }
  | _ => none }
def WordBinomialsWrongFalsely : Prop := wordBinomialsRow.holds Try.pinned (OpenSpec.ofChange wordBinomialsWrong)

/-- 'codewrightlaw11.WordOrder': WHATEVER THE INPUT: true; the input reads as it did. -/
def wordOrderSpec : ChangeSpec := { name := "wordOrder", fn := fun _ => fun
  | [d1, d2, d3] => { results := [.lit (.bool true)], args := [d1, d2, d3] }
  | _ => none }
def wordOrderRow : OpenClaim := { program := "ytekojgilikoegaa", sum := "318a6d559e123b84845dc1dff862bfe2501d5daa3a62f0996d3a204fec0468a1", func := "codewright/codewrightlaw11.WordOrder", spec := "wordOrder", apart := false }
def WordOrderSaid : Prop := wordOrderRow.holds Try.pinned (OpenSpec.ofChange wordOrderSpec)

/-- ITS FALSE NEIGHBOUR: 'it returns false'. Refute it at one input. -/
def wordOrderWrong : ChangeSpec := { name := "wordOrder", fn := fun _ => fun
  | [d1, d2, d3] => { results := [.lit (.bool false)], args := [d1, d2, d3] }
  | _ => none }
def WordOrderWrongFalsely : Prop := wordOrderRow.holds Try.pinned (OpenSpec.ofChange wordOrderWrong)

/-- 'codewrightlaw11.WordRanks': WHATEVER THE INPUT: true; the input reads as it did. -/
def wordRanksSpec : ChangeSpec := { name := "wordRanks", fn := fun _ => fun
  | [d1, d2] => { results := [.lit (.bool true)], args := [d1, d2] }
  | _ => none }
def wordRanksRow : OpenClaim := { program := "ytekojgilikoegaa", sum := "318a6d559e123b84845dc1dff862bfe2501d5daa3a62f0996d3a204fec0468a1", func := "codewright/codewrightlaw11.WordRanks", spec := "wordRanks", apart := false }
def WordRanksSaid : Prop := wordRanksRow.holds Try.pinned (OpenSpec.ofChange wordRanksSpec)

/-- ITS FALSE NEIGHBOUR: 'it returns false'. Refute it at one input. -/
def wordRanksWrong : ChangeSpec := { name := "wordRanks", fn := fun _ => fun
  | [d1, d2] => { results := [.lit (.bool false)], args := [d1, d2] }
  | _ => none }
def WordRanksWrongFalsely : Prop := wordRanksRow.holds Try.pinned (OpenSpec.ofChange wordRanksWrong)

/-- 'codewrightlaw11.WordUnranks': WHATEVER THE INPUT: true; the input reads as it did. -/
def wordUnranksSpec : ChangeSpec := { name := "wordUnranks", fn := fun _ => fun
  | [d1, d2, d3] => { results := [.lit (.bool true)], args := [d1, d2, d3] }
  | _ => none }
def wordUnranksRow : OpenClaim := { program := "ytekojgilikoegaa", sum := "318a6d559e123b84845dc1dff862bfe2501d5daa3a62f0996d3a204fec0468a1", func := "codewright/codewrightlaw11.WordUnranks", spec := "wordUnranks", apart := false }
def WordUnranksSaid : Prop := wordUnranksRow.holds Try.pinned (OpenSpec.ofChange wordUnranksSpec)

/-- ITS FALSE NEIGHBOUR: 'it returns false'. Refute it at one input. -/
def wordUnranksWrong : ChangeSpec := { name := "wordUnranks", fn := fun _ => fun
  | [d1, d2, d3] => { results := [.lit (.bool false)], args := [d1, d2, d3] }
  | _ => none }
def WordUnranksWrongFalsely : Prop := wordUnranksRow.holds Try.pinned (OpenSpec.ofChange wordUnranksWrong)

/-- 'codewrightlaw11.WordSubsets': WHATEVER THE INPUT: true; the input reads as it did. -/
def wordSubsetsSpec : ChangeSpec := { name := "wordSubsets", fn := fun _ => fun
  | [d1, d2] => { results := [.lit (.bool true)], args := [d1, d2] }
  | _ => none }
def wordSubsetsRow : OpenClaim := { program := "ytekojgilikoegaa", sum := "318a6d559e123b84845dc1dff862bfe2501d5daa3a62f0996d3a204fec0468a1", func := "codewright/codewrightlaw11.WordSubsets", spec := "wordSubsets", apart := false }
def WordSubsetsSaid : Prop := wordSubsetsRow.holds Try.pinned (OpenSpec.ofChange wordSubsetsSpec)

/-- ITS FALSE NEIGHBOUR: 'it returns false'. Refute it at one input. -/
def wordSubsetsWrong : ChangeSpec := { name := "wordSubsets", fn := fun _ => fun
  | [d1, d2] => { results := [.lit (.bool false)], args := [d1, d2] }
  | _ => none }
def WordSubsetsWrongFalsely : Prop := wordSubsetsRow.holds Try.pinned (OpenSpec.ofChange wordSubsetsWrong)

/- THE SECOND FORM. 'bulk': how many values and letters a reading holds, each counted each time it is reached (what is shared counts as often as it is met; a slice's spare places count too). A statement '..UptoSaid' is the law's where the arguments, and the package variables that the reading takes, are together of bulk at most 1048576: NARROWER than '..Said'. Prove '..Said' where nothing that the law and all that it calls make is longer than what came in: it says more and counts as full. Else prove '..UptoSaid'. A law counts once. -/
mutual
def uptoBulk {H : Type} : DataW H → Nat
  | .lit (.string bytes) => bytes.length + 1
  | .lit _ => 1
  | .nil => 1
  | .ptr d => uptoBulk d + 1
  | .slice elems spare => uptoBulkAll elems + uptoBulkAll spare + 1
  | .agg parts => uptoBulkAll parts + 1
  | .iface _ d => uptoBulk d + 1
  | .map entries => uptoBulkEntries entries + 1
  | .held _ => 1
def uptoBulkAll {H : Type} : List (DataW H) → Nat
  | [] => 0
  | d :: r => uptoBulk d + uptoBulkAll r
def uptoBulkEntries {H : Type} : List (Lit × DataW H) → Nat
  | [] => 0
  | x :: r => uptoBulkEntry x + uptoBulkEntries r
def uptoBulkEntry {H : Type} : Lit × DataW H → Nat
  | (.string bytes, d) => bytes.length + uptoBulk d + 1
  | (_, d) => uptoBulk d + 1
 end
def uptoSmall : (H : Type) → List (DataW H) → Bool := fun _ ds => decide (uptoBulkAll ds ≤ 1048576)
def OpenSpec.upto (s : _root_.Go.ChangeSpec) : _root_.Go.OpenSpec := { _root_.Go.OpenSpec.ofChange s with cond := some uptoSmall }

/-- 'codewrightlaw11.WordBinomials', WHERE WHAT IT READS IS OF BULK AT MOST 1048576: true; the input reads as it did. -/
def wordBinomialsUptoRow : OpenClaim := { program := "ytekojgilikoegaa", sum := "318a6d559e123b84845dc1dff862bfe2501d5daa3a62f0996d3a204fec0468a1", func := "codewright/codewrightlaw11.WordBinomials", spec := "wordBinomials", apart := false, narrowed := true }
def WordBinomialsUptoSaid : Prop := wordBinomialsUptoRow.holds Try.pinned (OpenSpec.upto wordBinomialsSpec)

/-- 'codewrightlaw11.WordOrder', WHERE WHAT IT READS IS OF BULK AT MOST 1048576: true; the input reads as it did. -/
def wordOrderUptoRow : OpenClaim := { program := "ytekojgilikoegaa", sum := "318a6d559e123b84845dc1dff862bfe2501d5daa3a62f0996d3a204fec0468a1", func := "codewright/codewrightlaw11.WordOrder", spec := "wordOrder", apart := false, narrowed := true }
def WordOrderUptoSaid : Prop := wordOrderUptoRow.holds Try.pinned (OpenSpec.upto wordOrderSpec)

/-- 'codewrightlaw11.WordRanks', WHERE WHAT IT READS IS OF BULK AT MOST 1048576: true; the input reads as it did. -/
def wordRanksUptoRow : OpenClaim := { program := "ytekojgilikoegaa", sum := "318a6d559e123b84845dc1dff862bfe2501d5daa3a62f0996d3a204fec0468a1", func := "codewright/codewrightlaw11.WordRanks", spec := "wordRanks", apart := false, narrowed := true }
def WordRanksUptoSaid : Prop := wordRanksUptoRow.holds Try.pinned (OpenSpec.upto wordRanksSpec)

/-- 'codewrightlaw11.WordUnranks', WHERE WHAT IT READS IS OF BULK AT MOST 1048576: true; the input reads as it did. -/
def wordUnranksUptoRow : OpenClaim := { program := "ytekojgilikoegaa", sum := "318a6d559e123b84845dc1dff862bfe2501d5daa3a62f0996d3a204fec0468a1", func := "codewright/codewrightlaw11.WordUnranks", spec := "wordUnranks", apart := false, narrowed := true }
def WordUnranksUptoSaid : Prop := wordUnranksUptoRow.holds Try.pinned (OpenSpec.upto wordUnranksSpec)

/-- 'codewrightlaw11.WordSubsets', WHERE WHAT IT READS IS OF BULK AT MOST 1048576: true; the input reads as it did. -/
def wordSubsetsUptoRow : OpenClaim := { program := "ytekojgilikoegaa", sum := "318a6d559e123b84845dc1dff862bfe2501d5daa3a62f0996d3a204fec0468a1", func := "codewright/codewrightlaw11.WordSubsets", spec := "wordSubsets", apart := false, narrowed := true }
def WordSubsetsUptoSaid : Prop := wordSubsetsUptoRow.holds Try.pinned (OpenSpec.upto wordSubsetsSpec)

end Rows
end Go.Proofs.Ytekojgilikoegaa
