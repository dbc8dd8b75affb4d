/-
  No cell of these rows narrows 'for every input' (looked for: loops, veiled, ifaces, maps, wideKeys, modest, calm, conditions, laid).
  DERIVED. THE GIVEN ROWS OF THIS SEAT. 7 by the template 'for every input the law returns true; each argument reads behind the call as it read before'; 0 by the template 'total and deterministic' (their statements: YtnfehhblmoliaaaTotals.lean).
  GIVEN WITH THE SEED: the statements are not yours to turn. If you find one false, say at which input.
  Laid BY PROGRAM, IN A SANDBOX (cutbox-rows.mjs): the forced cells as the released guide's own fill.sh prints them over the translation 8fd6b89f103c02fe… (all of the seat's roots in one cut). By AI agents, Wed Nov 11 2026. No macro, syntax, notation, axiom, sorry.
-/
import Derived.Test.YtnfehhblmoliaaaChecked
import GoSem.Claim
import GoSem.ClaimJoined
import GoSem.ClaimMapViews
import Derived.JoinedTies
import Derived.KernelRfl
namespace Go.Proofs.Ytnfehhblmoliaaa
/- THE CELL 'sum', in the pinned program and in every row, IS THE sha256 OF THE DUMP (.gsa) THAT YtnfehhblmoliaaaProg.lean LOADS. Nothing in Lean hashes anything: it is a label: what it is worth is what the hold of that sum in a sandbox is worth. -/
noncomputable def Try.pinned : Pinned := { name := "ytnfehhblmoliaaa", sum := "8fd6b89f103c02fe82e736dfd7963a5699428aac0d41b300b497072a158b7e23", checked := Try.checked }
namespace Rows
def none {H : Type} : Left H := { results := [], args := [] }

/-- 'ligaturelaw01.NatCompares': WHATEVER THE INPUT: true; the input reads as it did. -/
def natComparesSpec : ChangeSpec := { name := "natCompares", fn := fun _ => fun
  | [d1, d2] => { results := [.lit (.bool true)], args := [d1, d2] }
  | _ => none }
def natComparesRow : OpenClaim := { program := "ytnfehhblmoliaaa", sum := "8fd6b89f103c02fe82e736dfd7963a5699428aac0d41b300b497072a158b7e23", func := "ligature/ligaturelaw01.NatCompares", spec := "natCompares", apart := false }
def NatComparesSaid : Prop := natComparesRow.holds Try.pinned (OpenSpec.ofChange natComparesSpec)

/-- ITS FALSE NEIGHBOUR: 'it returns false'. Refute it at one input. -/
def natComparesWrong : ChangeSpec := { name := "natCompares", fn := fun _ => fun
  | [d1, d2] => { results := [.lit (.bool false)], args := [d1, d2] }
  | _ => none }
def NatComparesWrongFalsely : Prop := natComparesRow.holds Try.pinned (OpenSpec.ofChange natComparesWrong)

/-- 'ligaturelaw01.NatSmalls': WHATEVER THE INPUT: true; the input reads as it did. -/
def natSmallsSpec : ChangeSpec := { name := "natSmalls", fn := fun _ => fun
  | [d1, d2] => { results := [.lit (.bool true)], args := [d1, d2] }
  | _ => none }
def natSmallsRow : OpenClaim := { program := "ytnfehhblmoliaaa", sum := "8fd6b89f103c02fe82e736dfd7963a5699428aac0d41b300b497072a158b7e23", func := "ligature/ligaturelaw01.NatSmalls", spec := "natSmalls", apart := false }
def NatSmallsSaid : Prop := natSmallsRow.holds Try.pinned (OpenSpec.ofChange natSmallsSpec)

/-- ITS FALSE NEIGHBOUR: 'it returns false'. Refute it at one input. -/
def natSmallsWrong : ChangeSpec := { name := "natSmalls", fn := fun _ => fun
  | [d1, d2] => { results := [.lit (.bool false)], args := [d1, d2] }
  | _ => none }
def NatSmallsWrongFalsely : Prop := natSmallsRow.holds Try.pinned (OpenSpec.ofChange natSmallsWrong)

/-- 'ligaturelaw01.NatSums': WHATEVER THE INPUT: true; the input reads as it did. -/
def natSumsSpec : ChangeSpec := { name := "natSums", fn := fun _ => fun
  | [d] => { results := [.lit (.bool true)], args := [d] }
  | _ => none }
def natSumsRow : OpenClaim := { program := "ytnfehhblmoliaaa", sum := "8fd6b89f103c02fe82e736dfd7963a5699428aac0d41b300b497072a158b7e23", func := "ligature/ligaturelaw01.NatSums", spec := "natSums", apart := false }
def NatSumsSaid : Prop := natSumsRow.holds Try.pinned (OpenSpec.ofChange natSumsSpec)

/-- ITS FALSE NEIGHBOUR: 'it returns false'. Refute it at one input. -/
def natSumsWrong : ChangeSpec := { name := "natSums", fn := fun _ => fun
  | [d] => { results := [.lit (.bool false)], args := [d] }
  | _ => none }
def NatSumsWrongFalsely : Prop := natSumsRow.holds Try.pinned (OpenSpec.ofChange natSumsWrong)

/-- 'ligaturelaw01.NatProducts': WHATEVER THE INPUT: true; the input reads as it did. -/
def natProductsSpec : ChangeSpec := { name := "natProducts", fn := fun _ => fun
  | [d1, d2, d3] => { results := [.lit (.bool true)], args := [d1, d2, d3] }
  | _ => none }
def natProductsRow : OpenClaim := { program := "ytnfehhblmoliaaa", sum := "8fd6b89f103c02fe82e736dfd7963a5699428aac0d41b300b497072a158b7e23", func := "ligature/ligaturelaw01.NatProducts", spec := "natProducts", apart := false }
def NatProductsSaid : Prop := natProductsRow.holds Try.pinned (OpenSpec.ofChange natProductsSpec)

/-- ITS FALSE NEIGHBOUR: 'it returns false'. Refute it at one input. -/
def natProductsWrong : ChangeSpec := { name := "natProducts", fn := fun _ => fun
  | [d1, d2, d3] => { results := [.lit (.bool false)], args := [d1, d2, d3] }
  | _ => none }
def NatProductsWrongFalsely : Prop := natProductsRow.holds Try.pinned (OpenSpec.ofChange natProductsWrong)

/-- 'ligaturelaw01.NatParses': WHATEVER THE INPUT: true; the input reads as it did. -/
def natParsesSpec : ChangeSpec := { name := "natParses", fn := fun _ => fun
  | [d] => { results := [.lit (.bool true)], args := [d] }
  | _ => none }
def natParsesRow : OpenClaim := { program := "ytnfehhblmoliaaa", sum := "8fd6b89f103c02fe82e736dfd7963a5699428aac0d41b300b497072a158b7e23", func := "ligature/ligaturelaw01.NatParses", spec := "natParses", apart := false }
def NatParsesSaid : Prop := natParsesRow.holds Try.pinned (OpenSpec.ofChange natParsesSpec)

/-- ITS FALSE NEIGHBOUR: 'it returns false'. Refute it at one input. -/
def natParsesWrong : ChangeSpec := { name := "natParses", fn := fun _ => fun
  | [d] => { results := [.lit (.bool false)], args := [d] }
  | _ => none }
def NatParsesWrongFalsely : Prop := natParsesRow.holds Try.pinned (OpenSpec.ofChange natParsesWrong)

/-- 'ligaturelaw01.NatPrints': WHATEVER THE INPUT: true; the input reads as it did. -/
def natPrintsSpec : ChangeSpec := { name := "natPrints", fn := fun _ => fun
  | [d] => { results := [.lit (.bool true)], args := [d] }
  | _ => none }
def natPrintsRow : OpenClaim := { program := "ytnfehhblmoliaaa", sum := "8fd6b89f103c02fe82e736dfd7963a5699428aac0d41b300b497072a158b7e23", func := "ligature/ligaturelaw01.NatPrints", spec := "natPrints", apart := false }
def NatPrintsSaid : Prop := natPrintsRow.holds Try.pinned (OpenSpec.ofChange natPrintsSpec)

/-- ITS FALSE NEIGHBOUR: 'it returns false'. Refute it at one input. -/
def natPrintsWrong : ChangeSpec := { name := "natPrints", fn := fun _ => fun
  | [d] => { results := [.lit (.bool false)], args := [d] }
  | _ => none }
def NatPrintsWrongFalsely : Prop := natPrintsRow.holds Try.pinned (OpenSpec.ofChange natPrintsWrong)

/-- 'ligaturelaw01.NatMultiplies': WHATEVER THE INPUT: true; the input reads as it did. -/
def natMultipliesSpec : ChangeSpec := { name := "natMultiplies", fn := fun _ => fun
  | [d1, d2, d3] => { results := [.lit (.bool true)], args := [d1, d2, d3] }
  | _ => none }
def natMultipliesRow : OpenClaim := { program := "ytnfehhblmoliaaa", sum := "8fd6b89f103c02fe82e736dfd7963a5699428aac0d41b300b497072a158b7e23", func := "ligature/ligaturelaw01.NatMultiplies", spec := "natMultiplies", apart := false }
def NatMultipliesSaid : Prop := natMultipliesRow.holds Try.pinned (OpenSpec.ofChange natMultipliesSpec)

/-- ITS FALSE NEIGHBOUR: 'it returns false'. Refute it at one input. -/
def natMultipliesWrong : ChangeSpec := { name := "natMultiplies", fn := fun _ => fun
  | [d1, d2, d3] => { results := [.lit (.bool false)], args := [d1, d2, d3] }
  | _ => none }
def NatMultipliesWrongFalsely : Prop := natMultipliesRow.holds Try.pinned (OpenSpec.ofChange natMultipliesWrong)

/- THE SECOND FORM. 'bulk': how many values and letters a reading holds, each counted each time it is reached (what is shared counts as often as it is met; a slice's spare places count too). A statement '..UptoSaid' is the law's where the arguments, and the package variables that the reading takes, are together of bulk at most 1048576: NARROWER than '..Said'. Prove '..Said' where nothing that the law and all that it calls make is longer than what came in: it says more and counts as full. Else prove '..UptoSaid'. A law counts once. -/
mutual
def uptoBulk {H : Type} : DataW H → Nat
  | .lit (.string bytes) => bytes.length + 1
  | .lit _ => 1
  | .nil => 1
  | .ptr d => uptoBulk d + 1
  | .slice elems spare => uptoBulkAll elems + uptoBulkAll spare + 1
  | .agg parts => uptoBulkAll parts + 1
  | .iface _ d => uptoBulk d + 1
  | .map entries => uptoBulkEntries entries + 1
  | .held _ => 1
def uptoBulkAll {H : Type} : List (DataW H) → Nat
  | [] => 0
  | d :: r => uptoBulk d + uptoBulkAll r
def uptoBulkEntries {H : Type} : List (Lit × DataW H) → Nat
  | [] => 0
  | x :: r => uptoBulkEntry x + uptoBulkEntries r
def uptoBulkEntry {H : Type} : Lit × DataW H → Nat
  | (.string bytes, d) => bytes.length + uptoBulk d + 1
  | (_, d) => uptoBulk d + 1
 end
def uptoSmall : (H : Type) → List (DataW H) → Bool := fun _ ds => decide (uptoBulkAll ds ≤ 1048576)
def OpenSpec.upto (s : _root_.Go.ChangeSpec) : _root_.Go.OpenSpec := { _root_.Go.OpenSpec.ofChange s with cond := some uptoSmall }

/-- 'ligaturelaw01.NatCompares', WHERE WHAT IT READS IS OF BULK AT MOST 1048576: true; the input reads as it did. -/
def natComparesUptoRow : OpenClaim := { program := "ytnfehhblmoliaaa", sum := "8fd6b89f103c02fe82e736dfd7963a5699428aac0d41b300b497072a158b7e23", func := "ligature/ligaturelaw01.NatCompares", spec := "natCompares", apart := false, narrowed := true }
def NatComparesUptoSaid : Prop := natComparesUptoRow.holds Try.pinned (OpenSpec.upto natComparesSpec)

/-- 'ligaturelaw01.NatSmalls', WHERE WHAT IT READS IS OF BULK AT MOST 1048576: true; the input reads as it did. -/
def natSmallsUptoRow : OpenClaim := { program := "ytnfehhblmoliaaa", sum := "8fd6b89f103c02fe82e736dfd7963a5699428aac0d41b300b497072a158b7e23", func := "ligature/ligaturelaw01.NatSmalls", spec := "natSmalls", apart := false, narrowed := true }
def NatSmallsUptoSaid : Prop := natSmallsUptoRow.holds Try.pinned (OpenSpec.upto natSmallsSpec)

/-- 'ligaturelaw01.NatSums', WHERE WHAT IT READS IS OF BULK AT MOST 1048576: true; the input reads as it did. -/
def natSumsUptoRow : OpenClaim := { program := "ytnfehhblmoliaaa", sum := "8fd6b89f103c02fe82e736dfd7963a5699428aac0d41b300b497072a158b7e23", func := "ligature/ligaturelaw01.NatSums", spec := "natSums", apart := false, narrowed := true }
def NatSumsUptoSaid : Prop := natSumsUptoRow.holds Try.pinned (OpenSpec.upto natSumsSpec)

/-- 'ligaturelaw01.NatProducts', WHERE WHAT IT READS IS OF BULK AT MOST 1048576: true; the input reads as it did. -/
def natProductsUptoRow : OpenClaim := { program := "ytnfehhblmoliaaa", sum := "8fd6b89f103c02fe82e736dfd7963a5699428aac0d41b300b497072a158b7e23", func := "ligature/ligaturelaw01.NatProducts", spec := "natProducts", apart := false, narrowed := true }
def NatProductsUptoSaid : Prop := natProductsUptoRow.holds Try.pinned (OpenSpec.upto natProductsSpec)

/-- 'ligaturelaw01.NatParses', WHERE WHAT IT READS IS OF BULK AT MOST 1048576: true; the input reads as it did. -/
def natParsesUptoRow : OpenClaim := { program := "ytnfehhblmoliaaa", sum := "8fd6b89f103c02fe82e736dfd7963a5699428aac0d41b300b497072a158b7e23", func := "ligature/ligaturelaw01.NatParses", spec := "natParses", apart := false, narrowed := true }
def NatParsesUptoSaid : Prop := natParsesUptoRow.holds Try.pinned (OpenSpec.upto natParsesSpec)

/-- 'ligaturelaw01.NatPrints', WHERE WHAT IT READS IS OF BULK AT MOST 1048576: true; the input reads as it did. -/
def natPrintsUptoRow : OpenClaim := { program := "ytnfehhblmoliaaa", sum := "8fd6b89f103c02fe82e736dfd7963a5699428aac0d41b300b497072a158b7e23", func := "ligature/ligaturelaw01.NatPrints", spec := "natPrints", apart := false, narrowed := true }
def NatPrintsUptoSaid : Prop := natPrintsUptoRow.holds Try.pinned (OpenSpec.upto natPrintsSpec)

/-- 'ligaturelaw01.NatMultiplies', WHERE WHAT IT READS IS OF BULK AT MOST 1048576: true; the input reads as it did. -/
def natMultipliesUptoRow : OpenClaim := { program := "ytnfehhblmoliaaa", sum := "8fd6b89f103c02fe82e736dfd7963a5699428aac0d41b300b497072a158b7e23", func := "ligature/ligaturelaw01.NatMultiplies", spec := "natMultiplies", apart := false, narrowed := true }
def NatMultipliesUptoSaid : Prop := natMultipliesUptoRow.holds Try.pinned (OpenSpec.upto natMultipliesSpec)

end Rows
end Go.Proofs.Ytnfehhblmoliaaa
