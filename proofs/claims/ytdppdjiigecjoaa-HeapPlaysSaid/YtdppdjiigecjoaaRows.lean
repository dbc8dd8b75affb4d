/-
  No cell of these rows narrows 'for every input' (looked for: loops, veiled, ifaces, maps, wideKeys, modest, calm, conditions, laid).
  DERIVED. THE GIVEN ROWS OF THIS SEAT. 11 by the template 'for every input the law returns true; each argument reads behind the call as it read before'; 0 by the template 'total and deterministic' (their statements: YtdppdjiigecjoaaTotals.lean).
  GIVEN WITH THE SEED: the statements are not yours to turn. If you find one false, say at which input.
  Laid BY PROGRAM, IN A SANDBOX (cutbox-rows.mjs): the forced cells as the released guide's own fill.sh prints them over the translation 19386a52c9f3ecee… (all of the seat's roots in one cut). By AI agents, Wed Nov 11 2026. No macro, syntax, notation, axiom, sorry.
-/
import Derived.Test.YtdppdjiigecjoaaChecked
import GoSem.Claim
import GoSem.ClaimJoined
import GoSem.ClaimMapViews
import Derived.JoinedTies
import Derived.KernelRfl
namespace Go.Proofs.Ytdppdjiigecjoaa
/- THE CELL 'sum', in the pinned program and in every row, IS THE sha256 OF THE DUMP (.gsa) THAT YtdppdjiigecjoaaProg.lean LOADS. Nothing in Lean hashes anything: it is a label: what it is worth is what the hold of that sum in a sandbox is worth. -/
noncomputable def Try.pinned : Pinned := { name := "ytdppdjiigecjoaa", sum := "19386a52c9f3ecee500302851e56d854f7bf8ca29acd03b8a90a5f226308929f", checked := Try.checked }
namespace Rows
def none {H : Type} : Left H := { results := [], args := [] }

/-- 'ligaturelaw08.BoundPieces': WHATEVER THE INPUT: true; the input reads as it did. -/
def boundPiecesSpec : ChangeSpec := { name := "boundPieces", fn := fun _ => fun
  | [d1, d2, d3, d4] => { results := [.lit (.bool true)], args := [d1, d2, d3, d4] }
  | _ => none }
def boundPiecesRow : OpenClaim := { program := "ytdppdjiigecjoaa", sum := "19386a52c9f3ecee500302851e56d854f7bf8ca29acd03b8a90a5f226308929f", func := "ligature/ligaturelaw08.BoundPieces", spec := "boundPieces", plainKeys := false, apart := false }
def BoundPiecesSaid : Prop := boundPiecesRow.holds Try.pinned (OpenSpec.ofChange boundPiecesSpec)

/-- ITS FALSE NEIGHBOUR: 'it returns false'. Refute it at one input. -/
def boundPiecesWrong : ChangeSpec := { name := "boundPieces", fn := fun _ => fun
  | [d1, d2, d3, d4] => { results := [.lit (.bool false)], args := [d1, d2, d3, d4] }
  | _ => none }
def BoundPiecesWrongFalsely : Prop := boundPiecesRow.holds Try.pinned (OpenSpec.ofChange boundPiecesWrong)

/-- 'ligaturelaw08.BoundParts': WHATEVER THE INPUT: true; the input reads as it did. -/
def boundPartsSpec : ChangeSpec := { name := "boundParts", fn := fun _ => fun
  | [d1, d2, d3, d4] => { results := [.lit (.bool true)], args := [d1, d2, d3, d4] }
  | _ => none }
def boundPartsRow : OpenClaim := { program := "ytdppdjiigecjoaa", sum := "19386a52c9f3ecee500302851e56d854f7bf8ca29acd03b8a90a5f226308929f", func := "ligature/ligaturelaw08.BoundParts", spec := "boundParts", plainKeys := false, apart := false }
def BoundPartsSaid : Prop := boundPartsRow.holds Try.pinned (OpenSpec.ofChange boundPartsSpec)

/-- ITS FALSE NEIGHBOUR: 'it returns false'. Refute it at one input. -/
def boundPartsWrong : ChangeSpec := { name := "boundParts", fn := fun _ => fun
  | [d1, d2, d3, d4] => { results := [.lit (.bool false)], args := [d1, d2, d3, d4] }
  | _ => none }
def BoundPartsWrongFalsely : Prop := boundPartsRow.holds Try.pinned (OpenSpec.ofChange boundPartsWrong)

/-- 'ligaturelaw08.BoundTables': WHATEVER THE INPUT: true; the input reads as it did. -/
def boundTablesSpec : ChangeSpec := { name := "boundTables", fn := fun _ => fun
  | [d1, d2, d3, d4] => { results := [.lit (.bool true)], args := [d1, d2, d3, d4] }
  | _ => none }
def boundTablesRow : OpenClaim := { program := "ytdppdjiigecjoaa", sum := "19386a52c9f3ecee500302851e56d854f7bf8ca29acd03b8a90a5f226308929f", func := "ligature/ligaturelaw08.BoundTables", spec := "boundTables", plainKeys := false, apart := false }
def BoundTablesSaid : Prop := boundTablesRow.holds Try.pinned (OpenSpec.ofChange boundTablesSpec)

/-- ITS FALSE NEIGHBOUR: 'it returns false'. Refute it at one input. -/
def boundTablesWrong : ChangeSpec := { name := "boundTables", fn := fun _ => fun
  | [d1, d2, d3, d4] => { results := [.lit (.bool false)], args := [d1, d2, d3, d4] }
  | _ => none }
def BoundTablesWrongFalsely : Prop := boundTablesRow.holds Try.pinned (OpenSpec.ofChange boundTablesWrong)

/-- 'ligaturelaw08.BoundNone': WHATEVER THE INPUT: true; the input reads as it did. -/
def boundNoneSpec : ChangeSpec := { name := "boundNone", fn := fun _ => fun
  | [d1, d2, d3] => { results := [.lit (.bool true)], args := [d1, d2, d3] }
  | _ => none }
def boundNoneRow : OpenClaim := { program := "ytdppdjiigecjoaa", sum := "19386a52c9f3ecee500302851e56d854f7bf8ca29acd03b8a90a5f226308929f", func := "ligature/ligaturelaw08.BoundNone", spec := "boundNone", plainKeys := false, apart := false }
def BoundNoneSaid : Prop := boundNoneRow.holds Try.pinned (OpenSpec.ofChange boundNoneSpec)

/-- ITS FALSE NEIGHBOUR: 'it returns false'. Refute it at one input. -/
def boundNoneWrong : ChangeSpec := { name := "boundNone", fn := fun _ => fun
  | [d1, d2, d3] => { results := [.lit (.bool false)], args := [d1, d2, d3] }
  | _ => none }
def BoundNoneWrongFalsely : Prop := boundNoneRow.holds Try.pinned (OpenSpec.ofChange boundNoneWrong)

/-- 'ligaturelaw04.TokenMakes': WHATEVER THE INPUT: true; the input reads as it did. -/
def tokenMakesSpec : ChangeSpec := { name := "tokenMakes", fn := fun _ => fun
  | [d] => { results := [.lit (.bool true)], args := [d] }
  | _ => none }
def tokenMakesRow : OpenClaim := { program := "ytdppdjiigecjoaa", sum := "19386a52c9f3ecee500302851e56d854f7bf8ca29acd03b8a90a5f226308929f", func := "ligature/ligaturelaw04.TokenMakes", spec := "tokenMakes", plainKeys := false, apart := false }
def TokenMakesSaid : Prop := tokenMakesRow.holds Try.pinned (OpenSpec.ofChange tokenMakesSpec)

/-- ITS FALSE NEIGHBOUR: 'it returns false'. Refute it at one input. -/
def tokenMakesWrong : ChangeSpec := { name := "tokenMakes", fn := fun _ => fun
  | [d] => { results := [.lit (.bool false)], args := [d] }
  | _ => none }
def TokenMakesWrongFalsely : Prop := tokenMakesRow.holds Try.pinned (OpenSpec.ofChange tokenMakesWrong)

/-- 'ligaturelaw03.HeapPlays': WHATEVER THE INPUT: true; the input reads as it did. -/
def heapPlaysSpec : ChangeSpec := { name := "heapPlays", fn := fun _ => fun
  | [d] => { results := [.lit (.bool true)], args := [d] }
  | _ => none }
def heapPlaysRow : OpenClaim := { program := "ytdppdjiigecjoaa", sum := "19386a52c9f3ecee500302851e56d854f7bf8ca29acd03b8a90a5f226308929f", func := "ligature/ligaturelaw03.HeapPlays", spec := "heapPlays", plainKeys := false, apart := false }
def HeapPlaysSaid : Prop := heapPlaysRow.holds Try.pinned (OpenSpec.ofChange heapPlaysSpec)

/-- ITS FALSE NEIGHBOUR: 'it returns false'. Refute it at one input. -/
def heapPlaysWrong : ChangeSpec := { name := "heapPlays", fn := fun _ => fun
  | [d] => { results := [.lit (.bool false)], args := [d] }
  | _ => none }
def HeapPlaysWrongFalsely : Prop := heapPlaysRow.holds Try.pinned (OpenSpec.ofChange heapPlaysWrong)

/-- 'ligaturelaw03.HeapSorts': WHATEVER THE INPUT: true; the input reads as it did. -/
def heapSortsSpec : ChangeSpec := { name := "heapSorts", fn := fun _ => fun
  | [d] => { results := [.lit (.bool true)], args := [d] }
  | _ => none }
def heapSortsRow : OpenClaim := { program := "ytdppdjiigecjoaa", sum := "19386a52c9f3ecee500302851e56d854f7bf8ca29acd03b8a90a5f226308929f", func := "ligature/ligaturelaw03.HeapSorts", spec := "heapSorts", plainKeys := false, apart := false }
def HeapSortsSaid : Prop := heapSortsRow.holds Try.pinned (OpenSpec.ofChange heapSortsSpec)

/-- ITS FALSE NEIGHBOUR: 'it returns false'. Refute it at one input. -/
def heapSortsWrong : ChangeSpec := { name := "heapSorts", fn := fun _ => fun
  | [d] => { results := [.lit (.bool false)], args := [d] }
  | _ => none }
def HeapSortsWrongFalsely : Prop := heapSortsRow.holds Try.pinned (OpenSpec.ofChange heapSortsWrong)

/-- 'ligaturelaw03.HeapNone': WHATEVER THE INPUT: true; the input reads as it did. -/
def heapNoneSpec : ChangeSpec := { name := "heapNone", fn := fun _ => fun
  | [d] => { results := [.lit (.bool true)], args := [d] }
  | _ => none }
def heapNoneRow : OpenClaim := { program := "ytdppdjiigecjoaa", sum := "19386a52c9f3ecee500302851e56d854f7bf8ca29acd03b8a90a5f226308929f", func := "ligature/ligaturelaw03.HeapNone", spec := "heapNone", plainKeys := false, apart := false }
def HeapNoneSaid : Prop := heapNoneRow.holds Try.pinned (OpenSpec.ofChange heapNoneSpec)

/-- ITS FALSE NEIGHBOUR: 'it returns false'. Refute it at one input. -/
def heapNoneWrong : ChangeSpec := { name := "heapNone", fn := fun _ => fun
  | [d] => { results := [.lit (.bool false)], args := [d] }
  | _ => none }
def HeapNoneWrongFalsely : Prop := heapNoneRow.holds Try.pinned (OpenSpec.ofChange heapNoneWrong)

/-- 'ligaturelaw04.TokenNews': WHATEVER THE INPUT: true; the input reads as it did. -/
def tokenNewsSpec : ChangeSpec := { name := "tokenNews", fn := fun _ => fun
  | [d] => { results := [.lit (.bool true)], args := [d] }
  | _ => none }
def tokenNewsRow : OpenClaim := { program := "ytdppdjiigecjoaa", sum := "19386a52c9f3ecee500302851e56d854f7bf8ca29acd03b8a90a5f226308929f", func := "ligature/ligaturelaw04.TokenNews", spec := "tokenNews", plainKeys := false, apart := false }
def TokenNewsSaid : Prop := tokenNewsRow.holds Try.pinned (OpenSpec.ofChange tokenNewsSpec)

/-- ITS FALSE NEIGHBOUR: 'it returns false'. Refute it at one input. -/
def tokenNewsWrong : ChangeSpec := { name := "tokenNews", fn := fun _ => fun
  | [d] => { results := [.lit (.bool false)], args := [d] }
  | _ => none }
def TokenNewsWrongFalsely : Prop := tokenNewsRow.holds Try.pinned (OpenSpec.ofChange tokenNewsWrong)

/-- 'ligaturelaw04.TokenAdds': WHATEVER THE INPUT: true; the input reads as it did. -/
def tokenAddsSpec : ChangeSpec := { name := "tokenAdds", fn := fun _ => fun
  | [d1, d2, d3, d4] => { results := [.lit (.bool true)], args := [d1, d2, d3, d4] }
  | _ => none }
def tokenAddsRow : OpenClaim := { program := "ytdppdjiigecjoaa", sum := "19386a52c9f3ecee500302851e56d854f7bf8ca29acd03b8a90a5f226308929f", func := "ligature/ligaturelaw04.TokenAdds", spec := "tokenAdds", plainKeys := false, apart := false }
def TokenAddsSaid : Prop := tokenAddsRow.holds Try.pinned (OpenSpec.ofChange tokenAddsSpec)

/-- ITS FALSE NEIGHBOUR: 'it returns false'. Refute it at one input. -/
def tokenAddsWrong : ChangeSpec := { name := "tokenAdds", fn := fun _ => fun
  | [d1, d2, d3, d4] => { results := [.lit (.bool false)], args := [d1, d2, d3, d4] }
  | _ => none }
def TokenAddsWrongFalsely : Prop := tokenAddsRow.holds Try.pinned (OpenSpec.ofChange tokenAddsWrong)

/-- 'ligaturelaw04.TokenNone': WHATEVER THE INPUT: true; the input reads as it did. -/
def tokenNoneSpec : ChangeSpec := { name := "tokenNone", fn := fun _ => fun
  | [d1, d2] => { results := [.lit (.bool true)], args := [d1, d2] }
  | _ => none }
def tokenNoneRow : OpenClaim := { program := "ytdppdjiigecjoaa", sum := "19386a52c9f3ecee500302851e56d854f7bf8ca29acd03b8a90a5f226308929f", func := "ligature/ligaturelaw04.TokenNone", spec := "tokenNone", plainKeys := false, apart := false }
def TokenNoneSaid : Prop := tokenNoneRow.holds Try.pinned (OpenSpec.ofChange tokenNoneSpec)

/-- ITS FALSE NEIGHBOUR: 'it returns false'. Refute it at one input. -/
def tokenNoneWrong : ChangeSpec := { name := "tokenNone", fn := fun _ => fun
  | [d1, d2] => { results := [.lit (.bool false)], args := [d1, d2] }
  | _ => none }
def TokenNoneWrongFalsely : Prop := tokenNoneRow.holds Try.pinned (OpenSpec.ofChange tokenNoneWrong)

/- THE SECOND FORM. 'bulk': how many values and letters a reading holds, each counted each time it is reached (what is shared counts as often as it is met; a slice's spare places count too). A statement '..UptoSaid' is the law's where the arguments, and the package variables that the reading takes, are together of bulk at most 1048576: NARROWER than '..Said'. Prove '..Said' where nothing that the law and all that it calls make is longer than what came in: it says more and counts as full. Else prove '..UptoSaid'. A law counts once. -/
mutual
def uptoBulk {H : Type} : DataW H → Nat
  | .lit (.string bytes) => bytes.length + 1
  | .lit _ => 1
  | .nil => 1
  | .ptr d => uptoBulk d + 1
  | .slice elems spare => uptoBulkAll elems + uptoBulkAll spare + 1
  | .agg parts => uptoBulkAll parts + 1
  | .iface _ d => uptoBulk d + 1
  | .map entries => uptoBulkEntries entries + 1
  | .held _ => 1
def uptoBulkAll {H : Type} : List (DataW H) → Nat
  | [] => 0
  | d :: r => uptoBulk d + uptoBulkAll r
def uptoBulkEntries {H : Type} : List (Lit × DataW H) → Nat
  | [] => 0
  | x :: r => uptoBulkEntry x + uptoBulkEntries r
def uptoBulkEntry {H : Type} : Lit × DataW H → Nat
  | (.string bytes, d) => bytes.length + uptoBulk d + 1
  | (_, d) => uptoBulk d + 1
 end
def uptoSmall : (H : Type) → List (DataW H) → Bool := fun _ ds => decide (uptoBulkAll ds ≤ 1048576)
def OpenSpec.upto (s : _root_.Go.ChangeSpec) : _root_.Go.OpenSpec := { _root_.Go.OpenSpec.ofChange s with cond := some uptoSmall }

/-- 'ligaturelaw08.BoundPieces', WHERE WHAT IT READS IS OF BULK AT MOST 1048576: true; the input reads as it did. -/
def boundPiecesUptoRow : OpenClaim := { program := "ytdppdjiigecjoaa", sum := "19386a52c9f3ecee500302851e56d854f7bf8ca29acd03b8a90a5f226308929f", func := "ligature/ligaturelaw08.BoundPieces", spec := "boundPieces", plainKeys := false, apart := false, narrowed := true }
def BoundPiecesUptoSaid : Prop := boundPiecesUptoRow.holds Try.pinned (OpenSpec.upto boundPiecesSpec)

/-- 'ligaturelaw08.BoundParts', WHERE WHAT IT READS IS OF BULK AT MOST 1048576: true; the input reads as it did. -/
def boundPartsUptoRow : OpenClaim := { program := "ytdppdjiigecjoaa", sum := "19386a52c9f3ecee500302851e56d854f7bf8ca29acd03b8a90a5f226308929f", func := "ligature/ligaturelaw08.BoundParts", spec := "boundParts", plainKeys := false, apart := false, narrowed := true }
def BoundPartsUptoSaid : Prop := boundPartsUptoRow.holds Try.pinned (OpenSpec.upto boundPartsSpec)

/-- 'ligaturelaw08.BoundTables', WHERE WHAT IT READS IS OF BULK AT MOST 1048576: true; the input reads as it did. -/
def boundTablesUptoRow : OpenClaim := { program := "ytdppdjiigecjoaa", sum := "19386a52c9f3ecee500302851e56d854f7bf8ca29acd03b8a90a5f226308929f", func := "ligature/ligaturelaw08.BoundTables", spec := "boundTables", plainKeys := false, apart := false, narrowed := true }
def BoundTablesUptoSaid : Prop := boundTablesUptoRow.holds Try.pinned (OpenSpec.upto boundTablesSpec)

/-- 'ligaturelaw08.BoundNone', WHERE WHAT IT READS IS OF BULK AT MOST 1048576: true; the input reads as it did. -/
def boundNoneUptoRow : OpenClaim := { program := "ytdppdjiigecjoaa", sum := "19386a52c9f3ecee500302851e56d854f7bf8ca29acd03b8a90a5f226308929f", func := "ligature/ligaturelaw08.BoundNone", spec := "boundNone", plainKeys := false, apart := false, narrowed := true }
def BoundNoneUptoSaid : Prop := boundNoneUptoRow.holds Try.pinned (OpenSpec.upto boundNoneSpec)

/-- 'ligaturelaw04.TokenMakes', WHERE WHAT IT READS IS OF BULK AT MOST 1048576: true; the input reads as it did. -/
def tokenMakesUptoRow : OpenClaim := { program := "ytdppdjiigecjoaa", sum := "19386a52c9f3ecee500302851e56d854f7bf8ca29acd03b8a90a5f226308929f", func := "ligature/ligaturelaw04.TokenMakes", spec := "tokenMakes", plainKeys := false, apart := false, narrowed := true }
def TokenMakesUptoSaid : Prop := tokenMakesUptoRow.holds Try.pinned (OpenSpec.upto tokenMakesSpec)

/-- 'ligaturelaw03.HeapPlays', WHERE WHAT IT READS IS OF BULK AT MOST 1048576: true; the input reads as it did. -/
def heapPlaysUptoRow : OpenClaim := { program := "ytdppdjiigecjoaa", sum := "19386a52c9f3ecee500302851e56d854f7bf8ca29acd03b8a90a5f226308929f", func := "ligature/ligaturelaw03.HeapPlays", spec := "heapPlays", plainKeys := false, apart := false, narrowed := true }
def HeapPlaysUptoSaid : Prop := heapPlaysUptoRow.holds Try.pinned (OpenSpec.upto heapPlaysSpec)

/-- 'ligaturelaw03.HeapSorts', WHERE WHAT IT READS IS OF BULK AT MOST 1048576: true; the input reads as it did. -/
def heapSortsUptoRow : OpenClaim := { program := "ytdppdjiigecjoaa", sum := "19386a52c9f3ecee500302851e56d854f7bf8ca29acd03b8a90a5f226308929f", func := "ligature/ligaturelaw03.HeapSorts", spec := "heapSorts", plainKeys := false, apart := false, narrowed := true }
def HeapSortsUptoSaid : Prop := heapSortsUptoRow.holds Try.pinned (OpenSpec.upto heapSortsSpec)

/-- 'ligaturelaw03.HeapNone', WHERE WHAT IT READS IS OF BULK AT MOST 1048576: true; the input reads as it did. -/
def heapNoneUptoRow : OpenClaim := { program := "ytdppdjiigecjoaa", sum := "19386a52c9f3ecee500302851e56d854f7bf8ca29acd03b8a90a5f226308929f", func := "ligature/ligaturelaw03.HeapNone", spec := "heapNone", plainKeys := false, apart := false, narrowed := true }
def HeapNoneUptoSaid : Prop := heapNoneUptoRow.holds Try.pinned (OpenSpec.upto heapNoneSpec)

/-- 'ligaturelaw04.TokenNews', WHERE WHAT IT READS IS OF BULK AT MOST 1048576: true; the input reads as it did. -/
def tokenNewsUptoRow : OpenClaim := { program := "ytdppdjiigecjoaa", sum := "19386a52c9f3ecee500302851e56d854f7bf8ca29acd03b8a90a5f226308929f", func := "ligature/ligaturelaw04.TokenNews", spec := "tokenNews", plainKeys := false, apart := false, narrowed := true }
def TokenNewsUptoSaid : Prop := tokenNewsUptoRow.holds Try.pinned (OpenSpec.upto tokenNewsSpec)

/-- 'ligaturelaw04.TokenAdds', WHERE WHAT IT READS IS OF BULK AT MOST 1048576: true; the input reads as it did. -/
def tokenAddsUptoRow : OpenClaim := { program := "ytdppdjiigecjoaa", sum := "19386a52c9f3ecee500302851e56d854f7bf8ca29acd03b8a90a5f226308929f", func := "ligature/ligaturelaw04.TokenAdds", spec := "tokenAdds", plainKeys := false, apart := false, narrowed := true }
def TokenAddsUptoSaid : Prop := tokenAddsUptoRow.holds Try.pinned (OpenSpec.upto tokenAddsSpec)

/-- 'ligaturelaw04.TokenNone', WHERE WHAT IT READS IS OF BULK AT MOST 1048576: true; the input reads as it did. -/
def tokenNoneUptoRow : OpenClaim := { program := "ytdppdjiigecjoaa", sum := "19386a52c9f3ecee500302851e56d854f7bf8ca29acd03b8a90a5f226308929f", func := "ligature/ligaturelaw04.TokenNone", spec := "tokenNone", plainKeys := false, apart := false, narrowed := true }
def TokenNoneUptoSaid : Prop := tokenNoneUptoRow.holds Try.pinned (OpenSpec.upto tokenNoneSpec)

end Rows
end Go.Proofs.Ytdppdjiigecjoaa
