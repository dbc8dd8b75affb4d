/-
  No cell of these rows narrows 'for every input' (looked for: loops, veiled, ifaces, maps, wideKeys, modest, calm, conditions, laid).
  DERIVED. THE GIVEN ROWS OF THIS SEAT. 13 by the template 'for every input the law returns true; each argument reads behind the call as it read before'; 0 by the template 'total and deterministic' (their statements: YtkkcekgbnloegaaGreatTotals.lean).
  GIVEN WITH THE SEED: the statements are not yours to turn. If you find one false, say at which input.
  Laid BY PROGRAM, IN A SANDBOX (cutbox-rows.mjs): the forced cells as the released guide's own fill.sh prints them over the translation 7c46319d163b39f6… (all of the seat's roots in one cut). By AI agents, Wed Nov 11 2026. No macro, syntax, notation, axiom, sorry.
-/
import Derived.Test.YtkkcekgbnloegaaGreatChecked
import GoSem.Claim
import GoSem.ClaimJoined
import GoSem.ClaimMapViews
import Derived.JoinedTies
import Derived.KernelRfl
namespace Go.Proofs.YtkkcekgbnloegaaGreat
/- THE CELL 'sum', in the pinned program and in every row, IS THE sha256 OF THE DUMP (.gsa) THAT YtkkcekgbnloegaaGreatProg.lean LOADS. Nothing in Lean hashes anything: it is a label: what it is worth is what the hold of that sum in a sandbox is worth. -/
noncomputable def Tryz.pinned : Pinned := { name := "ytkkcekgbnloegaagreat", sum := "7c46319d163b39f69ebadb9c693d9935e49747fb387967b58db5094da6b4c42c", checked := Tryz.checked }
namespace Rows
def none {H : Type} : Left H := { results := [], args := [] }

/-- 'ligaturelaw23.ListFirst': WHATEVER THE INPUT: true; the input reads as it did. -/
def listFirstSpec : ChangeSpec := { name := "listFirst", fn := fun _ => fun
  | [d1, d2, d3] => { results := [.lit (.bool true)], args := [d1, d2, d3] }
  | _ => none }
def listFirstRow : OpenClaim := { program := "ytkkcekgbnloegaagreat", sum := "7c46319d163b39f69ebadb9c693d9935e49747fb387967b58db5094da6b4c42c", func := "ligature/ligaturelaw23.ListFirst", spec := "listFirst", unfollowed := true, recurses := true, plainKeys := false, apart := false }
def ListFirstSaid : Prop := listFirstRow.holds Tryz.pinned (OpenSpec.ofChange listFirstSpec)

/-- ITS FALSE NEIGHBOUR: 'it returns false'. Refute it at one input. -/
def listFirstWrong : ChangeSpec := { name := "listFirst", fn := fun _ => fun
  | [d1, d2, d3] => { results := [.lit (.bool false)], args := [d1, d2, d3] }
  | _ => none }
def ListFirstWrongFalsely : Prop := listFirstRow.holds Tryz.pinned (OpenSpec.ofChange listFirstWrong)

/-- 'ligaturelaw23.ListAll': WHATEVER THE INPUT: true; the input reads as it did. -/
def listAllSpec : ChangeSpec := { name := "listAll", fn := fun _ => fun
  | [d1, d2, d3] => { results := [.lit (.bool true)], args := [d1, d2, d3] }
  | _ => none }
def listAllRow : OpenClaim := { program := "ytkkcekgbnloegaagreat", sum := "7c46319d163b39f69ebadb9c693d9935e49747fb387967b58db5094da6b4c42c", func := "ligature/ligaturelaw23.ListAll", spec := "listAll", unfollowed := true, recurses := true, plainKeys := false, apart := false }
def ListAllSaid : Prop := listAllRow.holds Tryz.pinned (OpenSpec.ofChange listAllSpec)

/-- ITS FALSE NEIGHBOUR: 'it returns false'. Refute it at one input. -/
def listAllWrong : ChangeSpec := { name := "listAll", fn := fun _ => fun
  | [d1, d2, d3] => { results := [.lit (.bool false)], args := [d1, d2, d3] }
  | _ => none }
def ListAllWrongFalsely : Prop := listAllRow.holds Tryz.pinned (OpenSpec.ofChange listAllWrong)

/-- 'ligaturelaw21.CountLists': WHATEVER THE INPUT: true; the input reads as it did. -/
def countListsSpec : ChangeSpec := { name := "countLists", fn := fun _ => fun
  | [d1, d2] => { results := [.lit (.bool true)], args := [d1, d2] }
  | _ => none }
def countListsRow : OpenClaim := { program := "ytkkcekgbnloegaagreat", sum := "7c46319d163b39f69ebadb9c693d9935e49747fb387967b58db5094da6b4c42c", func := "ligature/ligaturelaw21.CountLists", spec := "countLists", inPlace := ["sync/atomic.LoadUint32", "(*internal/sync.Mutex).Lock", "internal/race.Disable", "sync/atomic.CompareAndSwapInt32", "internal/race.Enable", "internal/race.Acquire", "(*internal/sync.Mutex).lockSlow", "internal/sync.runtime_canSpin", "internal/sync.runtime_doSpin", "internal/sync.throw", "internal/sync.runtime_nanotime", "internal/sync.runtime_SemacquireMutex", "sync/atomic.AddInt32", "(*internal/sync.Mutex).Unlock", "internal/race.ReleaseMerge", "(*internal/sync.Mutex).unlockSlow", "internal/sync.fatal", "internal/sync.runtime_Semrelease", "sync/atomic.StoreUint32"], unfollowed := true, recurses := true, plainKeys := false, apart := false }
def CountListsSaid : Prop := countListsRow.holds Tryz.pinned (OpenSpec.ofChange countListsSpec)

/-- ITS FALSE NEIGHBOUR: 'it returns false'. Refute it at one input. -/
def countListsWrong : ChangeSpec := { name := "countLists", fn := fun _ => fun
  | [d1, d2] => { results := [.lit (.bool false)], args := [d1, d2] }
  | _ => none }
def CountListsWrongFalsely : Prop := countListsRow.holds Tryz.pinned (OpenSpec.ofChange countListsWrong)

/-- 'ligaturelaw21.CountNone': WHATEVER THE INPUT: true; the input reads as it did. -/
def countNoneSpec : ChangeSpec := { name := "countNone", fn := fun _ => fun
  | [d1, d2] => { results := [.lit (.bool true)], args := [d1, d2] }
  | _ => none }
def countNoneRow : OpenClaim := { program := "ytkkcekgbnloegaagreat", sum := "7c46319d163b39f69ebadb9c693d9935e49747fb387967b58db5094da6b4c42c", func := "ligature/ligaturelaw21.CountNone", spec := "countNone", inPlace := ["sync/atomic.LoadUint32", "(*internal/sync.Mutex).Lock", "internal/race.Disable", "sync/atomic.CompareAndSwapInt32", "internal/race.Enable", "internal/race.Acquire", "(*internal/sync.Mutex).lockSlow", "internal/sync.runtime_canSpin", "internal/sync.runtime_doSpin", "internal/sync.throw", "internal/sync.runtime_nanotime", "internal/sync.runtime_SemacquireMutex", "sync/atomic.AddInt32", "(*internal/sync.Mutex).Unlock", "internal/race.ReleaseMerge", "(*internal/sync.Mutex).unlockSlow", "internal/sync.fatal", "internal/sync.runtime_Semrelease", "sync/atomic.StoreUint32"], unfollowed := true, recurses := true, plainKeys := false, apart := false }
def CountNoneSaid : Prop := countNoneRow.holds Tryz.pinned (OpenSpec.ofChange countNoneSpec)

/-- ITS FALSE NEIGHBOUR: 'it returns false'. Refute it at one input. -/
def countNoneWrong : ChangeSpec := { name := "countNone", fn := fun _ => fun
  | [d1, d2] => { results := [.lit (.bool false)], args := [d1, d2] }
  | _ => none }
def CountNoneWrongFalsely : Prop := countNoneRow.holds Tryz.pinned (OpenSpec.ofChange countNoneWrong)

/-- 'ligaturelaw21.CountSums': WHATEVER THE INPUT: true; the input reads as it did. -/
def countSumsSpec : ChangeSpec := { name := "countSums", fn := fun _ => fun
  | [d1, d2, d3] => { results := [.lit (.bool true)], args := [d1, d2, d3] }
  | _ => none }
def countSumsRow : OpenClaim := { program := "ytkkcekgbnloegaagreat", sum := "7c46319d163b39f69ebadb9c693d9935e49747fb387967b58db5094da6b4c42c", func := "ligature/ligaturelaw21.CountSums", spec := "countSums", inPlace := ["sync/atomic.LoadUint32", "(*internal/sync.Mutex).Lock", "internal/race.Disable", "sync/atomic.CompareAndSwapInt32", "internal/race.Enable", "internal/race.Acquire", "(*internal/sync.Mutex).lockSlow", "internal/sync.runtime_canSpin", "internal/sync.runtime_doSpin", "internal/sync.throw", "internal/sync.runtime_nanotime", "internal/sync.runtime_SemacquireMutex", "sync/atomic.AddInt32", "(*internal/sync.Mutex).Unlock", "internal/race.ReleaseMerge", "(*internal/sync.Mutex).unlockSlow", "internal/sync.fatal", "internal/sync.runtime_Semrelease", "sync/atomic.StoreUint32"], unfollowed := true, recurses := true, plainKeys := false, apart := false }
def CountSumsSaid : Prop := countSumsRow.holds Tryz.pinned (OpenSpec.ofChange countSumsSpec)

/-- ITS FALSE NEIGHBOUR: 'it returns false'. Refute it at one input. -/
def countSumsWrong : ChangeSpec := { name := "countSums", fn := fun _ => fun
  | [d1, d2, d3] => { results := [.lit (.bool false)], args := [d1, d2, d3] }
  | _ => none }
def CountSumsWrongFalsely : Prop := countSumsRow.holds Tryz.pinned (OpenSpec.ofChange countSumsWrong)

/-- 'ligaturelaw21.CountTells': WHATEVER THE INPUT: true; the input reads as it did. -/
def countTellsSpec : ChangeSpec := { name := "countTells", fn := fun _ => fun
  | [d1, d2, d3, d4] => { results := [.lit (.bool true)], args := [d1, d2, d3, d4] }
  | _ => none }
def countTellsRow : OpenClaim := { program := "ytkkcekgbnloegaagreat", sum := "7c46319d163b39f69ebadb9c693d9935e49747fb387967b58db5094da6b4c42c", func := "ligature/ligaturelaw21.CountTells", spec := "countTells", inPlace := ["sync/atomic.LoadUint32", "(*internal/sync.Mutex).Lock", "internal/race.Disable", "sync/atomic.CompareAndSwapInt32", "internal/race.Enable", "internal/race.Acquire", "(*internal/sync.Mutex).lockSlow", "internal/sync.runtime_canSpin", "internal/sync.runtime_doSpin", "internal/sync.throw", "internal/sync.runtime_nanotime", "internal/sync.runtime_SemacquireMutex", "sync/atomic.AddInt32", "(*internal/sync.Mutex).Unlock", "internal/race.ReleaseMerge", "(*internal/sync.Mutex).unlockSlow", "internal/sync.fatal", "internal/sync.runtime_Semrelease", "sync/atomic.StoreUint32"], unfollowed := true, recurses := true, plainKeys := false, apart := false }
def CountTellsSaid : Prop := countTellsRow.holds Tryz.pinned (OpenSpec.ofChange countTellsSpec)

/-- ITS FALSE NEIGHBOUR: 'it returns false'. Refute it at one input. -/
def countTellsWrong : ChangeSpec := { name := "countTells", fn := fun _ => fun
  | [d1, d2, d3, d4] => { results := [.lit (.bool false)], args := [d1, d2, d3, d4] }
  | _ => none }
def CountTellsWrongFalsely : Prop := countTellsRow.holds Tryz.pinned (OpenSpec.ofChange countTellsWrong)

/-- 'ligaturelaw23.ListFewest': WHATEVER THE INPUT: true; the input reads as it did. -/
def listFewestSpec : ChangeSpec := { name := "listFewest", fn := fun _ => fun
  | [d1, d2] => { results := [.lit (.bool true)], args := [d1, d2] }
  | _ => none }
def listFewestRow : OpenClaim := { program := "ytkkcekgbnloegaagreat", sum := "7c46319d163b39f69ebadb9c693d9935e49747fb387967b58db5094da6b4c42c", func := "ligature/ligaturelaw23.ListFewest", spec := "listFewest", inPlace := ["sync/atomic.LoadUint32", "(*internal/sync.Mutex).Lock", "internal/race.Disable", "sync/atomic.CompareAndSwapInt32", "internal/race.Enable", "internal/race.Acquire", "(*internal/sync.Mutex).lockSlow", "internal/sync.runtime_canSpin", "internal/sync.runtime_doSpin", "internal/sync.throw", "internal/sync.runtime_nanotime", "internal/sync.runtime_SemacquireMutex", "sync/atomic.AddInt32", "(*internal/sync.Mutex).Unlock", "internal/race.ReleaseMerge", "(*internal/sync.Mutex).unlockSlow", "internal/sync.fatal", "internal/sync.runtime_Semrelease", "sync/atomic.StoreUint32"], unfollowed := true, recurses := true, plainKeys := false, apart := false }
def ListFewestSaid : Prop := listFewestRow.holds Tryz.pinned (OpenSpec.ofChange listFewestSpec)

/-- ITS FALSE NEIGHBOUR: 'it returns false'. Refute it at one input. -/
def listFewestWrong : ChangeSpec := { name := "listFewest", fn := fun _ => fun
  | [d1, d2] => { results := [.lit (.bool false)], args := [d1, d2] }
  | _ => none }
def ListFewestWrongFalsely : Prop := listFewestRow.holds Tryz.pinned (OpenSpec.ofChange listFewestWrong)

/-- 'ligaturelaw22.PlaceBack': WHATEVER THE INPUT: true; the input reads as it did. -/
def placeBackSpec : ChangeSpec := { name := "placeBack", fn := fun _ => fun
  | [d1, d2, d3, d4] => { results := [.lit (.bool true)], args := [d1, d2, d3, d4] }
  | _ => none }
def placeBackRow : OpenClaim := { program := "ytkkcekgbnloegaagreat", sum := "7c46319d163b39f69ebadb9c693d9935e49747fb387967b58db5094da6b4c42c", func := "ligature/ligaturelaw22.PlaceBack", spec := "placeBack", inPlace := ["sync/atomic.LoadUint32", "(*internal/sync.Mutex).Lock", "internal/race.Disable", "sync/atomic.CompareAndSwapInt32", "internal/race.Enable", "internal/race.Acquire", "(*internal/sync.Mutex).lockSlow", "internal/sync.runtime_canSpin", "internal/sync.runtime_doSpin", "internal/sync.throw", "internal/sync.runtime_nanotime", "internal/sync.runtime_SemacquireMutex", "sync/atomic.AddInt32", "(*internal/sync.Mutex).Unlock", "internal/race.ReleaseMerge", "(*internal/sync.Mutex).unlockSlow", "internal/sync.fatal", "internal/sync.runtime_Semrelease", "sync/atomic.StoreUint32"], unfollowed := true, recurses := true, plainKeys := false, apart := false }
def PlaceBackSaid : Prop := placeBackRow.holds Tryz.pinned (OpenSpec.ofChange placeBackSpec)

/-- ITS FALSE NEIGHBOUR: 'it returns false'. Refute it at one input. -/
def placeBackWrong : ChangeSpec := { name := "placeBack", fn := fun _ => fun
  | [d1, d2, d3, d4] => { results := [.lit (.bool false)], args := [d1, d2, d3, d4] }
  | _ => none }
def PlaceBackWrongFalsely : Prop := placeBackRow.holds Tryz.pinned (OpenSpec.ofChange placeBackWrong)

/-- 'ligaturelaw22.PlaceEnds': WHATEVER THE INPUT: true; the input reads as it did. -/
def placeEndsSpec : ChangeSpec := { name := "placeEnds", fn := fun _ => fun
  | [d1, d2] => { results := [.lit (.bool true)], args := [d1, d2] }
  | _ => none }
def placeEndsRow : OpenClaim := { program := "ytkkcekgbnloegaagreat", sum := "7c46319d163b39f69ebadb9c693d9935e49747fb387967b58db5094da6b4c42c", func := "ligature/ligaturelaw22.PlaceEnds", spec := "placeEnds", inPlace := ["sync/atomic.LoadUint32", "(*internal/sync.Mutex).Lock", "internal/race.Disable", "sync/atomic.CompareAndSwapInt32", "internal/race.Enable", "internal/race.Acquire", "(*internal/sync.Mutex).lockSlow", "internal/sync.runtime_canSpin", "internal/sync.runtime_doSpin", "internal/sync.throw", "internal/sync.runtime_nanotime", "internal/sync.runtime_SemacquireMutex", "sync/atomic.AddInt32", "(*internal/sync.Mutex).Unlock", "internal/race.ReleaseMerge", "(*internal/sync.Mutex).unlockSlow", "internal/sync.fatal", "internal/sync.runtime_Semrelease", "sync/atomic.StoreUint32"], unfollowed := true, recurses := true, plainKeys := false, apart := false }
def PlaceEndsSaid : Prop := placeEndsRow.holds Tryz.pinned (OpenSpec.ofChange placeEndsSpec)

/-- ITS FALSE NEIGHBOUR: 'it returns false'. Refute it at one input. -/
def placeEndsWrong : ChangeSpec := { name := "placeEnds", fn := fun _ => fun
  | [d1, d2] => { results := [.lit (.bool false)], args := [d1, d2] }
  | _ => none }
def PlaceEndsWrongFalsely : Prop := placeEndsRow.holds Tryz.pinned (OpenSpec.ofChange placeEndsWrong)

/-- 'ligaturelaw22.PlaceLists': WHATEVER THE INPUT: true; the input reads as it did. -/
def placeListsSpec : ChangeSpec := { name := "placeLists", fn := fun _ => fun
  | [d1, d2] => { results := [.lit (.bool true)], args := [d1, d2] }
  | _ => none }
def placeListsRow : OpenClaim := { program := "ytkkcekgbnloegaagreat", sum := "7c46319d163b39f69ebadb9c693d9935e49747fb387967b58db5094da6b4c42c", func := "ligature/ligaturelaw22.PlaceLists", spec := "placeLists", inPlace := ["sync/atomic.LoadUint32", "(*internal/sync.Mutex).Lock", "internal/race.Disable", "sync/atomic.CompareAndSwapInt32", "internal/race.Enable", "internal/race.Acquire", "(*internal/sync.Mutex).lockSlow", "internal/sync.runtime_canSpin", "internal/sync.runtime_doSpin", "internal/sync.throw", "internal/sync.runtime_nanotime", "internal/sync.runtime_SemacquireMutex", "sync/atomic.AddInt32", "(*internal/sync.Mutex).Unlock", "internal/race.ReleaseMerge", "(*internal/sync.Mutex).unlockSlow", "internal/sync.fatal", "internal/sync.runtime_Semrelease", "sync/atomic.StoreUint32"], unfollowed := true, recurses := true, plainKeys := false, apart := false }
def PlaceListsSaid : Prop := placeListsRow.holds Tryz.pinned (OpenSpec.ofChange placeListsSpec)

/-- ITS FALSE NEIGHBOUR: 'it returns false'. Refute it at one input. -/
def placeListsWrong : ChangeSpec := { name := "placeLists", fn := fun _ => fun
  | [d1, d2] => { results := [.lit (.bool false)], args := [d1, d2] }
  | _ => none }
def PlaceListsWrongFalsely : Prop := placeListsRow.holds Tryz.pinned (OpenSpec.ofChange placeListsWrong)

/-- 'ligaturelaw23.ListBehind': WHATEVER THE INPUT: true; the input reads as it did. -/
def listBehindSpec : ChangeSpec := { name := "listBehind", fn := fun _ => fun
  | [d1, d2, d3, d4] => { results := [.lit (.bool true)], args := [d1, d2, d3, d4] }
  | _ => none }
def listBehindRow : OpenClaim := { program := "ytkkcekgbnloegaagreat", sum := "7c46319d163b39f69ebadb9c693d9935e49747fb387967b58db5094da6b4c42c", func := "ligature/ligaturelaw23.ListBehind", spec := "listBehind", inPlace := ["sync/atomic.LoadUint32", "(*internal/sync.Mutex).Lock", "internal/race.Disable", "sync/atomic.CompareAndSwapInt32", "internal/race.Enable", "internal/race.Acquire", "(*internal/sync.Mutex).lockSlow", "internal/sync.runtime_canSpin", "internal/sync.runtime_doSpin", "internal/sync.throw", "internal/sync.runtime_nanotime", "internal/sync.runtime_SemacquireMutex", "sync/atomic.AddInt32", "(*internal/sync.Mutex).Unlock", "internal/race.ReleaseMerge", "(*internal/sync.Mutex).unlockSlow", "internal/sync.fatal", "internal/sync.runtime_Semrelease", "sync/atomic.StoreUint32"], unfollowed := true, recurses := true, plainKeys := false, apart := false }
def ListBehindSaid : Prop := listBehindRow.holds Tryz.pinned (OpenSpec.ofChange listBehindSpec)

/-- ITS FALSE NEIGHBOUR: 'it returns false'. Refute it at one input. -/
def listBehindWrong : ChangeSpec := { name := "listBehind", fn := fun _ => fun
  | [d1, d2, d3, d4] => { results := [.lit (.bool false)], args := [d1, d2, d3, d4] }
  | _ => none }
def ListBehindWrongFalsely : Prop := listBehindRow.holds Tryz.pinned (OpenSpec.ofChange listBehindWrong)

/-- 'ligaturelaw22.PlaceRanks': WHATEVER THE INPUT: true; the input reads as it did. -/
def placeRanksSpec : ChangeSpec := { name := "placeRanks", fn := fun _ => fun
  | [d1, d2, d3] => { results := [.lit (.bool true)], args := [d1, d2, d3] }
  | _ => none }
def placeRanksRow : OpenClaim := { program := "ytkkcekgbnloegaagreat", sum := "7c46319d163b39f69ebadb9c693d9935e49747fb387967b58db5094da6b4c42c", func := "ligature/ligaturelaw22.PlaceRanks", spec := "placeRanks", inPlace := ["sync/atomic.LoadUint32", "(*internal/sync.Mutex).Lock", "internal/race.Disable", "sync/atomic.CompareAndSwapInt32", "internal/race.Enable", "internal/race.Acquire", "(*internal/sync.Mutex).lockSlow", "internal/sync.runtime_canSpin", "internal/sync.runtime_doSpin", "internal/sync.throw", "internal/sync.runtime_nanotime", "internal/sync.runtime_SemacquireMutex", "sync/atomic.AddInt32", "(*internal/sync.Mutex).Unlock", "internal/race.ReleaseMerge", "(*internal/sync.Mutex).unlockSlow", "internal/sync.fatal", "internal/sync.runtime_Semrelease", "sync/atomic.StoreUint32"], unfollowed := true, recurses := true, plainKeys := false, apart := false }
def PlaceRanksSaid : Prop := placeRanksRow.holds Tryz.pinned (OpenSpec.ofChange placeRanksSpec)

/-- ITS FALSE NEIGHBOUR: 'it returns false'. Refute it at one input. -/
def placeRanksWrong : ChangeSpec := { name := "placeRanks", fn := fun _ => fun
  | [d1, d2, d3] => { results := [.lit (.bool false)], args := [d1, d2, d3] }
  | _ => none }
def PlaceRanksWrongFalsely : Prop := placeRanksRow.holds Tryz.pinned (OpenSpec.ofChange placeRanksWrong)

/-- 'ligaturelaw22.PlaceNone': WHATEVER THE INPUT: true; the input reads as it did. -/
def placeNoneSpec : ChangeSpec := { name := "placeNone", fn := fun _ => fun
  | [d1, d2] => { results := [.lit (.bool true)], args := [d1, d2] }
  | _ => none }
def placeNoneRow : OpenClaim := { program := "ytkkcekgbnloegaagreat", sum := "7c46319d163b39f69ebadb9c693d9935e49747fb387967b58db5094da6b4c42c", func := "ligature/ligaturelaw22.PlaceNone", spec := "placeNone", inPlace := ["sync/atomic.LoadUint32", "(*internal/sync.Mutex).Lock", "internal/race.Disable", "sync/atomic.CompareAndSwapInt32", "internal/race.Enable", "internal/race.Acquire", "(*internal/sync.Mutex).lockSlow", "internal/sync.runtime_canSpin", "internal/sync.runtime_doSpin", "internal/sync.throw", "internal/sync.runtime_nanotime", "internal/sync.runtime_SemacquireMutex", "sync/atomic.AddInt32", "(*internal/sync.Mutex).Unlock", "internal/race.ReleaseMerge", "(*internal/sync.Mutex).unlockSlow", "internal/sync.fatal", "internal/sync.runtime_Semrelease", "sync/atomic.StoreUint32"], unfollowed := true, recurses := true, plainKeys := false, apart := false }
def PlaceNoneSaid : Prop := placeNoneRow.holds Tryz.pinned (OpenSpec.ofChange placeNoneSpec)

/-- ITS FALSE NEIGHBOUR: 'it returns false'. Refute it at one input. -/
def placeNoneWrong : ChangeSpec := { name := "placeNone", fn := fun _ => fun
  | [d1, d2] => { results := [.lit (.bool false)], args := [d1, d2] }
  | _ => none }
def PlaceNoneWrongFalsely : Prop := placeNoneRow.holds Tryz.pinned (OpenSpec.ofChange placeNoneWrong)

/- THE SECOND FORM. 'bulk': how many values and letters a reading holds, each counted each time it is reached (what is shared counts as often as it is met; a slice's spare places count too). A statement '..UptoSaid' is the law's where the arguments, and the package variables that the reading takes, are together of bulk at most 1048576: NARROWER than '..Said'. Prove '..Said' where nothing that the law and all that it calls make is longer than what came in: it says more and counts as full. Else prove '..UptoSaid'. A law counts once. -/
mutual
def uptoBulk {H : Type} : DataW H → Nat
  | .lit (.string bytes) => bytes.length + 1
  | .lit _ => 1
  | .nil => 1
  | .ptr d => uptoBulk d + 1
  | .slice elems spare => uptoBulkAll elems + uptoBulkAll spare + 1
  | .agg parts => uptoBulkAll parts + 1
  | .iface _ d => uptoBulk d + 1
  | .map entries => uptoBulkEntries entries + 1
  | .held _ => 1
def uptoBulkAll {H : Type} : List (DataW H) → Nat
  | [] => 0
  | d :: r => uptoBulk d + uptoBulkAll r
def uptoBulkEntries {H : Type} : List (Lit × DataW H) → Nat
  | [] => 0
  | x :: r => uptoBulkEntry x + uptoBulkEntries r
def uptoBulkEntry {H : Type} : Lit × DataW H → Nat
  | (.string bytes, d) => bytes.length + uptoBulk d + 1
  | (_, d) => uptoBulk d + 1
 end
def uptoSmall : (H : Type) → List (DataW H) → Bool := fun _ ds => decide (uptoBulkAll ds ≤ 1048576)
def OpenSpec.upto (s : _root_.Go.ChangeSpec) : _root_.Go.OpenSpec := { _root_.Go.OpenSpec.ofChange s with cond := some uptoSmall }

/-- 'ligaturelaw23.ListFirst', WHERE WHAT IT READS IS OF BULK AT MOST 1048576: true; the input reads as it did. -/
def listFirstUptoRow : OpenClaim := { program := "ytkkcekgbnloegaagreat", sum := "7c46319d163b39f69ebadb9c693d9935e49747fb387967b58db5094da6b4c42c", func := "ligature/ligaturelaw23.ListFirst", spec := "listFirst", unfollowed := true, recurses := true, plainKeys := false, apart := false, narrowed := true }
def ListFirstUptoSaid : Prop := listFirstUptoRow.holds Tryz.pinned (OpenSpec.upto listFirstSpec)

/-- 'ligaturelaw23.ListAll', WHERE WHAT IT READS IS OF BULK AT MOST 1048576: true; the input reads as it did. -/
def listAllUptoRow : OpenClaim := { program := "ytkkcekgbnloegaagreat", sum := "7c46319d163b39f69ebadb9c693d9935e49747fb387967b58db5094da6b4c42c", func := "ligature/ligaturelaw23.ListAll", spec := "listAll", unfollowed := true, recurses := true, plainKeys := false, apart := false, narrowed := true }
def ListAllUptoSaid : Prop := listAllUptoRow.holds Tryz.pinned (OpenSpec.upto listAllSpec)

/-- 'ligaturelaw21.CountLists', WHERE WHAT IT READS IS OF BULK AT MOST 1048576: true; the input reads as it did. -/
def countListsUptoRow : OpenClaim := { program := "ytkkcekgbnloegaagreat", sum := "7c46319d163b39f69ebadb9c693d9935e49747fb387967b58db5094da6b4c42c", func := "ligature/ligaturelaw21.CountLists", spec := "countLists", inPlace := ["sync/atomic.LoadUint32", "(*internal/sync.Mutex).Lock", "internal/race.Disable", "sync/atomic.CompareAndSwapInt32", "internal/race.Enable", "internal/race.Acquire", "(*internal/sync.Mutex).lockSlow", "internal/sync.runtime_canSpin", "internal/sync.runtime_doSpin", "internal/sync.throw", "internal/sync.runtime_nanotime", "internal/sync.runtime_SemacquireMutex", "sync/atomic.AddInt32", "(*internal/sync.Mutex).Unlock", "internal/race.ReleaseMerge", "(*internal/sync.Mutex).unlockSlow", "internal/sync.fatal", "internal/sync.runtime_Semrelease", "sync/atomic.StoreUint32"], unfollowed := true, recurses := true, plainKeys := false, apart := false, narrowed := true }
def CountListsUptoSaid : Prop := countListsUptoRow.holds Tryz.pinned (OpenSpec.upto countListsSpec)

/-- 'ligaturelaw21.CountNone', WHERE WHAT IT READS IS OF BULK AT MOST 1048576: true; the input reads as it did. -/
def countNoneUptoRow : OpenClaim := { program := "ytkkcekgbnloegaagreat", sum := "7c46319d163b39f69ebadb9c693d9935e49747fb387967b58db5094da6b4c42c", func := "ligature/ligaturelaw21.CountNone", spec := "countNone", inPlace := ["sync/atomic.LoadUint32", "(*internal/sync.Mutex).Lock", "internal/race.Disable", "sync/atomic.CompareAndSwapInt32", "internal/race.Enable", "internal/race.Acquire", "(*internal/sync.Mutex).lockSlow", "internal/sync.runtime_canSpin", "internal/sync.runtime_doSpin", "internal/sync.throw", "internal/sync.runtime_nanotime", "internal/sync.runtime_SemacquireMutex", "sync/atomic.AddInt32", "(*internal/sync.Mutex).Unlock", "internal/race.ReleaseMerge", "(*internal/sync.Mutex).unlockSlow", "internal/sync.fatal", "internal/sync.runtime_Semrelease", "sync/atomic.StoreUint32"], unfollowed := true, recurses := true, plainKeys := false, apart := false, narrowed := true }
def CountNoneUptoSaid : Prop := countNoneUptoRow.holds Tryz.pinned (OpenSpec.upto countNoneSpec)

/-- 'ligaturelaw21.CountSums', WHERE WHAT IT READS IS OF BULK AT MOST 1048576: true; the input reads as it did. -/
def countSumsUptoRow : OpenClaim := { program := "ytkkcekgbnloegaagreat", sum := "7c46319d163b39f69ebadb9c693d9935e49747fb387967b58db5094da6b4c42c", func := "ligature/ligaturelaw21.CountSums", spec := "countSums", inPlace := ["sync/atomic.LoadUint32", "(*internal/sync.Mutex).Lock", "internal/race.Disable", "sync/atomic.CompareAndSwapInt32", "internal/race.Enable", "internal/race.Acquire", "(*internal/sync.Mutex).lockSlow", "internal/sync.runtime_canSpin", "internal/sync.runtime_doSpin", "internal/sync.throw", "internal/sync.runtime_nanotime", "internal/sync.runtime_SemacquireMutex", "sync/atomic.AddInt32", "(*internal/sync.Mutex).Unlock", "internal/race.ReleaseMerge", "(*internal/sync.Mutex).unlockSlow", "internal/sync.fatal", "internal/sync.runtime_Semrelease", "sync/atomic.StoreUint32"], unfollowed := true, recurses := true, plainKeys := false, apart := false, narrowed := true }
def CountSumsUptoSaid : Prop := countSumsUptoRow.holds Tryz.pinned (OpenSpec.upto countSumsSpec)

/-- 'ligaturelaw21.CountTells', WHERE WHAT IT READS IS OF BULK AT MOST 1048576: true; the input reads as it did. -/
def countTellsUptoRow : OpenClaim := { program := "ytkkcekgbnloegaagreat", sum := "7c46319d163b39f69ebadb9c693d9935e49747fb387967b58db5094da6b4c42c", func := "ligature/ligaturelaw21.CountTells", spec := "countTells", inPlace := ["sync/atomic.LoadUint32", "(*internal/sync.Mutex).Lock", "internal/race.Disable", "sync/atomic.CompareAndSwapInt32", "internal/race.Enable", "internal/race.Acquire", "(*internal/sync.Mutex).lockSlow", "internal/sync.runtime_canSpin", "internal/sync.runtime_doSpin", "internal/sync.throw", "internal/sync.runtime_nanotime", "internal/sync.runtime_SemacquireMutex", "sync/atomic.AddInt32", "(*internal/sync.Mutex).Unlock", "internal/race.ReleaseMerge", "(*internal/sync.Mutex).unlockSlow", "internal/sync.fatal", "internal/sync.runtime_Semrelease", "sync/atomic.StoreUint32"], unfollowed := true, recurses := true, plainKeys := false, apart := false, narrowed := true }
def CountTellsUptoSaid : Prop := countTellsUptoRow.holds Tryz.pinned (OpenSpec.upto countTellsSpec)

/-- 'ligaturelaw23.ListFewest', WHERE WHAT IT READS IS OF BULK AT MOST 1048576: true; the input reads as it did. -/
def listFewestUptoRow : OpenClaim := { program := "ytkkcekgbnloegaagreat", sum := "7c46319d163b39f69ebadb9c693d9935e49747fb387967b58db5094da6b4c42c", func := "ligature/ligaturelaw23.ListFewest", spec := "listFewest", inPlace := ["sync/atomic.LoadUint32", "(*internal/sync.Mutex).Lock", "internal/race.Disable", "sync/atomic.CompareAndSwapInt32", "internal/race.Enable", "internal/race.Acquire", "(*internal/sync.Mutex).lockSlow", "internal/sync.runtime_canSpin", "internal/sync.runtime_doSpin", "internal/sync.throw", "internal/sync.runtime_nanotime", "internal/sync.runtime_SemacquireMutex", "sync/atomic.AddInt32", "(*internal/sync.Mutex).Unlock", "internal/race.ReleaseMerge", "(*internal/sync.Mutex).unlockSlow", "internal/sync.fatal", "internal/sync.runtime_Semrelease", "sync/atomic.StoreUint32"], unfollowed := true, recurses := true, plainKeys := false, apart := false, narrowed := true }
def ListFewestUptoSaid : Prop := listFewestUptoRow.holds Tryz.pinned (OpenSpec.upto listFewestSpec)

/-- 'ligaturelaw22.PlaceBack', WHERE WHAT IT READS IS OF BULK AT MOST 1048576: true; the input reads as it did. -/
def placeBackUptoRow : OpenClaim := { program := "ytkkcekgbnloegaagreat", sum := "7c46319d163b39f69ebadb9c693d9935e49747fb387967b58db5094da6b4c42c", func := "ligature/ligaturelaw22.PlaceBack", spec := "placeBack", inPlace := ["sync/atomic.LoadUint32", "(*internal/sync.Mutex).Lock", "internal/race.Disable", "sync/atomic.CompareAndSwapInt32", "internal/race.Enable", "internal/race.Acquire", "(*internal/sync.Mutex).lockSlow", "internal/sync.runtime_canSpin", "internal/sync.runtime_doSpin", "internal/sync.throw", "internal/sync.runtime_nanotime", "internal/sync.runtime_SemacquireMutex", "sync/atomic.AddInt32", "(*internal/sync.Mutex).Unlock", "internal/race.ReleaseMerge", "(*internal/sync.Mutex).unlockSlow", "internal/sync.fatal", "internal/sync.runtime_Semrelease", "sync/atomic.StoreUint32"], unfollowed := true, recurses := true, plainKeys := false, apart := false, narrowed := true }
def PlaceBackUptoSaid : Prop := placeBackUptoRow.holds Tryz.pinned (OpenSpec.upto placeBackSpec)

/-- 'ligaturelaw22.PlaceEnds', WHERE WHAT IT READS IS OF BULK AT MOST 1048576: true; the input reads as it did. -/
def placeEndsUptoRow : OpenClaim := { program := "ytkkcekgbnloegaagreat", sum := "7c46319d163b39f69ebadb9c693d9935e49747fb387967b58db5094da6b4c42c", func := "ligature/ligaturelaw22.PlaceEnds", spec := "placeEnds", inPlace := ["sync/atomic.LoadUint32", "(*internal/sync.Mutex).Lock", "internal/race.Disable", "sync/atomic.CompareAndSwapInt32", "internal/race.Enable", "internal/race.Acquire", "(*internal/sync.Mutex).lockSlow", "internal/sync.runtime_canSpin", "internal/sync.runtime_doSpin", "internal/sync.throw", "internal/sync.runtime_nanotime", "internal/sync.runtime_SemacquireMutex", "sync/atomic.AddInt32", "(*internal/sync.Mutex).Unlock", "internal/race.ReleaseMerge", "(*internal/sync.Mutex).unlockSlow", "internal/sync.fatal", "internal/sync.runtime_Semrelease", "sync/atomic.StoreUint32"], unfollowed := true, recurses := true, plainKeys := false, apart := false, narrowed := true }
def PlaceEndsUptoSaid : Prop := placeEndsUptoRow.holds Tryz.pinned (OpenSpec.upto placeEndsSpec)

/-- 'ligaturelaw22.PlaceLists', WHERE WHAT IT READS IS OF BULK AT MOST 1048576: true; the input reads as it did. -/
def placeListsUptoRow : OpenClaim := { program := "ytkkcekgbnloegaagreat", sum := "7c46319d163b39f69ebadb9c693d9935e49747fb387967b58db5094da6b4c42c", func := "ligature/ligaturelaw22.PlaceLists", spec := "placeLists", inPlace := ["sync/atomic.LoadUint32", "(*internal/sync.Mutex).Lock", "internal/race.Disable", "sync/atomic.CompareAndSwapInt32", "internal/race.Enable", "internal/race.Acquire", "(*internal/sync.Mutex).lockSlow", "internal/sync.runtime_canSpin", "internal/sync.runtime_doSpin", "internal/sync.throw", "internal/sync.runtime_nanotime", "internal/sync.runtime_SemacquireMutex", "sync/atomic.AddInt32", "(*internal/sync.Mutex).Unlock", "internal/race.ReleaseMerge", "(*internal/sync.Mutex).unlockSlow", "internal/sync.fatal", "internal/sync.runtime_Semrelease", "sync/atomic.StoreUint32"], unfollowed := true, recurses := true, plainKeys := false, apart := false, narrowed := true }
def PlaceListsUptoSaid : Prop := placeListsUptoRow.holds Tryz.pinned (OpenSpec.upto placeListsSpec)

/-- 'ligaturelaw23.ListBehind', WHERE WHAT IT READS IS OF BULK AT MOST 1048576: true; the input reads as it did. -/
def listBehindUptoRow : OpenClaim := { program := "ytkkcekgbnloegaagreat", sum := "7c46319d163b39f69ebadb9c693d9935e49747fb387967b58db5094da6b4c42c", func := "ligature/ligaturelaw23.ListBehind", spec := "listBehind", inPlace := ["sync/atomic.LoadUint32", "(*internal/sync.Mutex).Lock", "internal/race.Disable", "sync/atomic.CompareAndSwapInt32", "internal/race.Enable", "internal/race.Acquire", "(*internal/sync.Mutex).lockSlow", "internal/sync.runtime_canSpin", "internal/sync.runtime_doSpin", "internal/sync.throw", "internal/sync.runtime_nanotime", "internal/sync.runtime_SemacquireMutex", "sync/atomic.AddInt32", "(*internal/sync.Mutex).Unlock", "internal/race.ReleaseMerge", "(*internal/sync.Mutex).unlockSlow", "internal/sync.fatal", "internal/sync.runtime_Semrelease", "sync/atomic.StoreUint32"], unfollowed := true, recurses := true, plainKeys := false, apart := false, narrowed := true }
def ListBehindUptoSaid : Prop := listBehindUptoRow.holds Tryz.pinned (OpenSpec.upto listBehindSpec)

/-- 'ligaturelaw22.PlaceRanks', WHERE WHAT IT READS IS OF BULK AT MOST 1048576: true; the input reads as it did. -/
def placeRanksUptoRow : OpenClaim := { program := "ytkkcekgbnloegaagreat", sum := "7c46319d163b39f69ebadb9c693d9935e49747fb387967b58db5094da6b4c42c", func := "ligature/ligaturelaw22.PlaceRanks", spec := "placeRanks", inPlace := ["sync/atomic.LoadUint32", "(*internal/sync.Mutex).Lock", "internal/race.Disable", "sync/atomic.CompareAndSwapInt32", "internal/race.Enable", "internal/race.Acquire", "(*internal/sync.Mutex).lockSlow", "internal/sync.runtime_canSpin", "internal/sync.runtime_doSpin", "internal/sync.throw", "internal/sync.runtime_nanotime", "internal/sync.runtime_SemacquireMutex", "sync/atomic.AddInt32", "(*internal/sync.Mutex).Unlock", "internal/race.ReleaseMerge", "(*internal/sync.Mutex).unlockSlow", "internal/sync.fatal", "internal/sync.runtime_Semrelease", "sync/atomic.StoreUint32"], unfollowed := true, recurses := true, plainKeys := false, apart := false, narrowed := true }
def PlaceRanksUptoSaid : Prop := placeRanksUptoRow.holds Tryz.pinned (OpenSpec.upto placeRanksSpec)

/-- 'ligaturelaw22.PlaceNone', WHERE WHAT IT READS IS OF BULK AT MOST 1048576: true; the input reads as it did. -/
def placeNoneUptoRow : OpenClaim := { program := "ytkkcekgbnloegaagreat", sum := "7c46319d163b39f69ebadb9c693d9935e49747fb387967b58db5094da6b4c42c", func := "ligature/ligaturelaw22.PlaceNone", spec := "placeNone", inPlace := ["sync/atomic.LoadUint32", "(*internal/sync.Mutex).Lock", "internal/race.Disable", "sync/atomic.CompareAndSwapInt32", "internal/race.Enable", "internal/race.Acquire", "(*internal/sync.Mutex).lockSlow", "internal/sync.runtime_canSpin", "internal/sync.runtime_doSpin", "internal/sync.throw", "internal/sync.runtime_nanotime", "internal/sync.runtime_SemacquireMutex", "sync/atomic.AddInt32", "(*internal/sync.Mutex).Unlock", "internal/race.ReleaseMerge", "(*internal/sync.Mutex).unlockSlow", "internal/sync.fatal", "internal/sync.runtime_Semrelease", "sync/atomic.StoreUint32"], unfollowed := true, recurses := true, plainKeys := false, apart := false, narrowed := true }
def PlaceNoneUptoSaid : Prop := placeNoneUptoRow.holds Tryz.pinned (OpenSpec.upto placeNoneSpec)

end Rows
end Go.Proofs.YtkkcekgbnloegaaGreat
