/-
  No cell of these rows narrows 'for every input' (looked for: loops, veiled, ifaces, maps, wideKeys, modest, calm, conditions, laid).
  DERIVED. THE GIVEN ROWS OF THIS SEAT. 8 by the template 'for every input the law returns true; each argument reads behind the call as it read before'; 0 by the template 'total and deterministic' (their statements: YtpkmcokkapfnmaaTotals.lean).
  GIVEN WITH THE SEED: the statements are not yours to turn. If you find one false, say at which input.
  Laid BY PROGRAM, IN A SANDBOX (cutbox-rows.mjs): the forced cells as the released guide's own fill.sh prints them over the translation 61111e27f3770fac… (all of the seat's roots in one cut). By AI agents, Wed Nov 11 2026. No macro, syntax, notation, axiom, sorry.
-/
import Derived.Test.YtpkmcokkapfnmaaChecked
import GoSem.Claim
import GoSem.ClaimJoined
import GoSem.ClaimMapViews
import Derived.JoinedTies
import Derived.KernelRfl
namespace Go.Proofs.Ytpkmcokkapfnmaa
/- THE CELL 'sum', in the pinned program and in every row, IS THE sha256 OF THE DUMP (.gsa) THAT YtpkmcokkapfnmaaProg.lean LOADS. Nothing in Lean hashes anything: it is a label: what it is worth is what the hold of that sum in a sandbox is worth. -/
noncomputable def Try.pinned : Pinned := { name := "ytpkmcokkapfnmaa", sum := "61111e27f3770fac64752b57ec0d9bb95760935dd9b68b63b9c18139374e6156", checked := Try.checked }
namespace Rows
def none {H : Type} : Left H := { results := [], args := [] }

/-- 'ligaturelaw05.ChainParts': WHATEVER THE INPUT: true; the input reads as it did. -/
def chainPartsSpec : ChangeSpec := { name := "chainParts", fn := fun _ => fun
  | [d1, d2, d3] => { results := [.lit (.bool true)], args := [d1, d2, d3] }
  | _ => none }
def chainPartsRow : OpenClaim := { program := "ytpkmcokkapfnmaa", sum := "61111e27f3770fac64752b57ec0d9bb95760935dd9b68b63b9c18139374e6156", func := "ligature/ligaturelaw05.ChainParts", spec := "chainParts", plainKeys := false, apart := false }
def ChainPartsSaid : Prop := chainPartsRow.holds Try.pinned (OpenSpec.ofChange chainPartsSpec)

/-- ITS FALSE NEIGHBOUR: 'it returns false'. Refute it at one input. -/
def chainPartsWrong : ChangeSpec := { name := "chainParts", fn := fun _ => fun
  | [d1, d2, d3] => { results := [.lit (.bool false)], args := [d1, d2, d3] }
  | _ => none }
def ChainPartsWrongFalsely : Prop := chainPartsRow.holds Try.pinned (OpenSpec.ofChange chainPartsWrong)

/-- 'ligaturelaw05.ChainEncodes': WHATEVER THE INPUT: true; the input reads as it did. -/
def chainEncodesSpec : ChangeSpec := { name := "chainEncodes", fn := fun _ => fun
  | [d1, d2, d3] => { results := [.lit (.bool true)], args := [d1, d2, d3] }
  | _ => none }
def chainEncodesRow : OpenClaim := { program := "ytpkmcokkapfnmaa", sum := "61111e27f3770fac64752b57ec0d9bb95760935dd9b68b63b9c18139374e6156", func := "ligature/ligaturelaw05.ChainEncodes", spec := "chainEncodes", plainKeys := false, apart := false }
def ChainEncodesSaid : Prop := chainEncodesRow.holds Try.pinned (OpenSpec.ofChange chainEncodesSpec)

/-- ITS FALSE NEIGHBOUR: 'it returns false'. Refute it at one input. -/
def chainEncodesWrong : ChangeSpec := { name := "chainEncodes", fn := fun _ => fun
  | [d1, d2, d3] => { results := [.lit (.bool false)], args := [d1, d2, d3] }
  | _ => none }
def ChainEncodesWrongFalsely : Prop := chainEncodesRow.holds Try.pinned (OpenSpec.ofChange chainEncodesWrong)

/-- 'ligaturelaw05.ChainBack': WHATEVER THE INPUT: true; the input reads as it did. -/
def chainBackSpec : ChangeSpec := { name := "chainBack", fn := fun _ => fun
  | [d1, d2] => { results := [.lit (.bool true)], args := [d1, d2] }
  | _ => none }
def chainBackRow : OpenClaim := { program := "ytpkmcokkapfnmaa", sum := "61111e27f3770fac64752b57ec0d9bb95760935dd9b68b63b9c18139374e6156", func := "ligature/ligaturelaw05.ChainBack", spec := "chainBack", plainKeys := false, apart := false }
def ChainBackSaid : Prop := chainBackRow.holds Try.pinned (OpenSpec.ofChange chainBackSpec)

/-- ITS FALSE NEIGHBOUR: 'it returns false'. Refute it at one input. -/
def chainBackWrong : ChangeSpec := { name := "chainBack", fn := fun _ => fun
  | [d1, d2] => { results := [.lit (.bool false)], args := [d1, d2] }
  | _ => none }
def ChainBackWrongFalsely : Prop := chainBackRow.holds Try.pinned (OpenSpec.ofChange chainBackWrong)

/-- 'ligaturelaw05.ChainNone': WHATEVER THE INPUT: true; the input reads as it did. -/
def chainNoneSpec : ChangeSpec := { name := "chainNone", fn := fun _ => fun
  | [d1, d2] => { results := [.lit (.bool true)], args := [d1, d2] }
  | _ => none }
def chainNoneRow : OpenClaim := { program := "ytpkmcokkapfnmaa", sum := "61111e27f3770fac64752b57ec0d9bb95760935dd9b68b63b9c18139374e6156", func := "ligature/ligaturelaw05.ChainNone", spec := "chainNone", plainKeys := false, apart := false }
def ChainNoneSaid : Prop := chainNoneRow.holds Try.pinned (OpenSpec.ofChange chainNoneSpec)

/-- ITS FALSE NEIGHBOUR: 'it returns false'. Refute it at one input. -/
def chainNoneWrong : ChangeSpec := { name := "chainNone", fn := fun _ => fun
  | [d1, d2] => { results := [.lit (.bool false)], args := [d1, d2] }
  | _ => none }
def ChainNoneWrongFalsely : Prop := chainNoneRow.holds Try.pinned (OpenSpec.ofChange chainNoneWrong)

/-- 'ligaturelaw07.GrowLoads': WHATEVER THE INPUT: true; the input reads as it did. -/
def growLoadsSpec : ChangeSpec := { name := "growLoads", fn := fun _ => fun
  | [d] => { results := [.lit (.bool true)], args := [d] }
  | _ => none }
def growLoadsRow : OpenClaim := { program := "ytpkmcokkapfnmaa", sum := "61111e27f3770fac64752b57ec0d9bb95760935dd9b68b63b9c18139374e6156", func := "ligature/ligaturelaw07.GrowLoads", spec := "growLoads", plainKeys := false, apart := false }
def GrowLoadsSaid : Prop := growLoadsRow.holds Try.pinned (OpenSpec.ofChange growLoadsSpec)

/-- ITS FALSE NEIGHBOUR: 'it returns false'. Refute it at one input. -/
def growLoadsWrong : ChangeSpec := { name := "growLoads", fn := fun _ => fun
  | [d] => { results := [.lit (.bool false)], args := [d] }
  | _ => none }
def GrowLoadsWrongFalsely : Prop := growLoadsRow.holds Try.pinned (OpenSpec.ofChange growLoadsWrong)

/-- 'ligaturelaw07.GrowImports': WHATEVER THE INPUT: true; the input reads as it did. -/
def growImportsSpec : ChangeSpec := { name := "growImports", fn := fun _ => fun
  | [d] => { results := [.lit (.bool true)], args := [d] }
  | _ => none }
def growImportsRow : OpenClaim := { program := "ytpkmcokkapfnmaa", sum := "61111e27f3770fac64752b57ec0d9bb95760935dd9b68b63b9c18139374e6156", func := "ligature/ligaturelaw07.GrowImports", spec := "growImports", plainKeys := false, apart := false }
def GrowImportsSaid : Prop := growImportsRow.holds Try.pinned (OpenSpec.ofChange growImportsSpec)

/-- ITS FALSE NEIGHBOUR: 'it returns false'. Refute it at one input. -/
def growImportsWrong : ChangeSpec := { name := "growImports", fn := fun _ => fun
  | [d] => { results := [.lit (.bool false)], args := [d] }
  | _ => none }
def GrowImportsWrongFalsely : Prop := growImportsRow.holds Try.pinned (OpenSpec.ofChange growImportsWrong)

/-- 'ligaturelaw07.GrowPlain': WHATEVER THE INPUT: true; the input reads as it did. -/
def growPlainSpec : ChangeSpec := { name := "growPlain", fn := fun _ => fun
  | [d] => { results := [.lit (.bool true)], args := [d] }
  | _ => none }
def growPlainRow : OpenClaim := { program := "ytpkmcokkapfnmaa", sum := "61111e27f3770fac64752b57ec0d9bb95760935dd9b68b63b9c18139374e6156", func := "ligature/ligaturelaw07.GrowPlain", spec := "growPlain", plainKeys := false, apart := false }
def GrowPlainSaid : Prop := growPlainRow.holds Try.pinned (OpenSpec.ofChange growPlainSpec)

/-- ITS FALSE NEIGHBOUR: 'it returns false'. Refute it at one input. -/
def growPlainWrong : ChangeSpec := { name := "growPlain", fn := fun _ => fun
  | [d] => { results := [.lit (.bool false)], args := [d] }
  | _ => none }
def GrowPlainWrongFalsely : Prop := growPlainRow.holds Try.pinned (OpenSpec.ofChange growPlainWrong)

/-- 'ligaturelaw07.GrowNone': WHATEVER THE INPUT: true; the input reads as it did. -/
def growNoneSpec : ChangeSpec := { name := "growNone", fn := fun _ => fun
  | [d] => { results := [.lit (.bool true)], args := [d] }
  | _ => none }
def growNoneRow : OpenClaim := { program := "ytpkmcokkapfnmaa", sum := "61111e27f3770fac64752b57ec0d9bb95760935dd9b68b63b9c18139374e6156", func := "ligature/ligaturelaw07.GrowNone", spec := "growNone", plainKeys := false, apart := false }
def GrowNoneSaid : Prop := growNoneRow.holds Try.pinned (OpenSpec.ofChange growNoneSpec)

/-- ITS FALSE NEIGHBOUR: 'it returns false'. Refute it at one input. -/
def growNoneWrong : ChangeSpec := { name := "growNone", fn := fun _ => fun
  | [d] => { results := [.lit (.bool false)], args := [d] }
  | _ => none }
def GrowNoneWrongFalsely : Prop := growNoneRow.holds Try.pinned (OpenSpec.ofChange growNoneWrong)

/- THE SECOND FORM. 'bulk': how many values and letters a reading holds, each counted each time it is reached (what is shared counts as often as it is met; a slice's spare places count too). A statement '..UptoSaid' is the law's where the arguments, and the package variables that the reading takes, are together of bulk at most 1048576: NARROWER than '..Said'. Prove '..Said' where nothing that the law and all that it calls make is longer than what came in: it says more and counts as full. Else prove '..UptoSaid'. A law counts once. -/
mutual
def uptoBulk {H : Type} : DataW H → Nat
  | .lit (.string bytes) => bytes.length + 1
  | .lit _ => 1
  | .nil => 1
  | .ptr d => uptoBulk d + 1
  | .slice elems spare => uptoBulkAll elems + uptoBulkAll spare + 1
  | .agg parts => uptoBulkAll parts + 1
  | .iface _ d => uptoBulk d + 1
  | .map entries => uptoBulkEntries entries + 1
  | .held _ => 1
def uptoBulkAll {H : Type} : List (DataW H) → Nat
  | [] => 0
  | d :: r => uptoBulk d + uptoBulkAll r
def uptoBulkEntries {H : Type} : List (Lit × DataW H) → Nat
  | [] => 0
  | x :: r => uptoBulkEntry x + uptoBulkEntries r
def uptoBulkEntry {H : Type} : Lit × DataW H → Nat
  | (.string bytes, d) => bytes.length + uptoBulk d + 1
  | (_, d) => uptoBulk d + 1
 end
def uptoSmall : (H : Type) → List (DataW H) → Bool := fun _ ds => decide (uptoBulkAll ds ≤ 1048576)
def OpenSpec.upto (s : _root_.Go.ChangeSpec) : _root_.Go.OpenSpec := { _root_.Go.OpenSpec.ofChange s with cond := some uptoSmall }

/-- 'ligaturelaw05.ChainParts', WHERE WHAT IT READS IS OF BULK AT MOST 1048576: true; the input reads as it did. -/
def chainPartsUptoRow : OpenClaim := { program := "ytpkmcokkapfnmaa", sum := "61111e27f3770fac64752b57ec0d9bb95760935dd9b68b63b9c18139374e6156", func := "ligature/ligaturelaw05.ChainParts", spec := "chainParts", plainKeys := false, apart := false, narrowed := true }
def ChainPartsUptoSaid : Prop := chainPartsUptoRow.holds Try.pinned (OpenSpec.upto chainPartsSpec)

/-- 'ligaturelaw05.ChainEncodes', WHERE WHAT IT READS IS OF BULK AT MOST 1048576: true; the input reads as it did. -/
def chainEncodesUptoRow : OpenClaim := { program := "ytpkmcokkapfnmaa", sum := "61111e27f3770fac64752b57ec0d9bb95760935dd9b68b63b9c18139374e6156", func := "ligature/ligaturelaw05.ChainEncodes", spec := "chainEncodes", plainKeys := false, apart := false, narrowed := true }
def ChainEncodesUptoSaid : Prop := chainEncodesUptoRow.holds Try.pinned (OpenSpec.upto chainEncodesSpec)

/-- 'ligaturelaw05.ChainBack', WHERE WHAT IT READS IS OF BULK AT MOST 1048576: true; the input reads as it did. -/
def chainBackUptoRow : OpenClaim := { program := "ytpkmcokkapfnmaa", sum := "61111e27f3770fac64752b57ec0d9bb95760935dd9b68b63b9c18139374e6156", func := "ligature/ligaturelaw05.ChainBack", spec := "chainBack", plainKeys := false, apart := false, narrowed := true }
def ChainBackUptoSaid : Prop := chainBackUptoRow.holds Try.pinned (OpenSpec.upto chainBackSpec)

/-- 'ligaturelaw05.ChainNone', WHERE WHAT IT READS IS OF BULK AT MOST 1048576: true; the input reads as it did. -/
def chainNoneUptoRow : OpenClaim := { program := "ytpkmcokkapfnmaa", sum := "61111e27f3770fac64752b57ec0d9bb95760935dd9b68b63b9c18139374e6156", func := "ligature/ligaturelaw05.ChainNone", spec := "chainNone", plainKeys := false, apart := false, narrowed := true }
def ChainNoneUptoSaid : Prop := chainNoneUptoRow.holds Try.pinned (OpenSpec.upto chainNoneSpec)

/-- 'ligaturelaw07.GrowLoads', WHERE WHAT IT READS IS OF BULK AT MOST 1048576: true; the input reads as it did. -/
def growLoadsUptoRow : OpenClaim := { program := "ytpkmcokkapfnmaa", sum := "61111e27f3770fac64752b57ec0d9bb95760935dd9b68b63b9c18139374e6156", func := "ligature/ligaturelaw07.GrowLoads", spec := "growLoads", plainKeys := false, apart := false, narrowed := true }
def GrowLoadsUptoSaid : Prop := growLoadsUptoRow.holds Try.pinned (OpenSpec.upto growLoadsSpec)

/-- 'ligaturelaw07.GrowImports', WHERE WHAT IT READS IS OF BULK AT MOST 1048576: true; the input reads as it did. -/
def growImportsUptoRow : OpenClaim := { program := "ytpkmcokkapfnmaa", sum := "61111e27f3770fac64752b57ec0d9bb95760935dd9b68b63b9c18139374e6156", func := "ligature/ligaturelaw07.GrowImports", spec := "growImports", plainKeys := false, apart := false, narrowed := true }
def GrowImportsUptoSaid : Prop := growImportsUptoRow.holds Try.pinned (OpenSpec.upto growImportsSpec)

/-- 'ligaturelaw07.GrowPlain', WHERE WHAT IT READS IS OF BULK AT MOST 1048576: true; the input reads as it did. -/
def growPlainUptoRow : OpenClaim := { program := "ytpkmcokkapfnmaa", sum := "61111e27f3770fac64752b57ec0d9bb95760935dd9b68b63b9c18139374e6156", func := "ligature/ligaturelaw07.GrowPlain", spec := "growPlain", plainKeys := false, apart := false, narrowed := true }
def GrowPlainUptoSaid : Prop := growPlainUptoRow.holds Try.pinned (OpenSpec.upto growPlainSpec)

/-- 'ligaturelaw07.GrowNone', WHERE WHAT IT READS IS OF BULK AT MOST 1048576: true; the input reads as it did. -/
def growNoneUptoRow : OpenClaim := { program := "ytpkmcokkapfnmaa", sum := "61111e27f3770fac64752b57ec0d9bb95760935dd9b68b63b9c18139374e6156", func := "ligature/ligaturelaw07.GrowNone", spec := "growNone", plainKeys := false, apart := false, narrowed := true }
def GrowNoneUptoSaid : Prop := growNoneUptoRow.holds Try.pinned (OpenSpec.upto growNoneSpec)

end Rows
end Go.Proofs.Ytpkmcokkapfnmaa
