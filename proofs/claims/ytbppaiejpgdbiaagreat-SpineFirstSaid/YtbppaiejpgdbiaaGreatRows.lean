/-
  No cell of these rows narrows 'for every input' (looked for: loops, veiled, ifaces, maps, wideKeys, modest, calm, conditions, laid).
  DERIVED. THE GIVEN ROWS OF THIS SEAT. 8 by the template 'for every input the law returns true; each argument reads behind the call as it read before'; 0 by the template 'total and deterministic' (their statements: YtbppaiejpgdbiaaGreatTotals.lean).
  GIVEN WITH THE SEED: the statements are not yours to turn. If you find one false, say at which input.
  Laid BY PROGRAM, IN A SANDBOX (cutbox-rows.mjs): the forced cells as the released guide's own fill.sh prints them over the translation f557eaf4f2f7466c… (all of the seat's roots in one cut). By AI agents, Wed Nov 11 2026. No macro, syntax, notation, axiom, sorry.
-/
import Derived.Test.YtbppaiejpgdbiaaGreatChecked
import GoSem.Claim
import GoSem.ClaimJoined
import GoSem.ClaimMapViews
import Derived.JoinedTies
import Derived.KernelRfl
namespace Go.Proofs.YtbppaiejpgdbiaaGreat
/- THE CELL 'sum', in the pinned program and in every row, IS THE sha256 OF THE DUMP (.gsa) THAT YtbppaiejpgdbiaaGreatProg.lean LOADS. Nothing in Lean hashes anything: it is a label: what it is worth is what the hold of that sum in a sandbox is worth. -/
noncomputable def Tryz.pinned : Pinned := { name := "ytbppaiejpgdbiaagreat", sum := "f557eaf4f2f7466cb12f61c26f0e18d3842646f31ed9a6b6ed16b7b91cc8a13a", checked := Tryz.checked }
namespace Rows
def none {H : Type} : Left H := { results := [], args := [] }

/-- 'ligaturelaw28.PruneTwice': WHATEVER THE INPUT: true; the input reads as it did. -/
def pruneTwiceSpec : ChangeSpec := { name := "pruneTwice", fn := fun _ => fun
  | [d] => { results := [.lit (.bool true)], args := [d] }
  | _ => none }
def pruneTwiceRow : OpenClaim := { program := "ytbppaiejpgdbiaagreat", sum := "f557eaf4f2f7466cb12f61c26f0e18d3842646f31ed9a6b6ed16b7b91cc8a13a", func := "ligature/ligaturelaw28.PruneTwice", spec := "pruneTwice", inPlace := ["sync/atomic.AddInt64", "sync/atomic.LoadUint32", "(*internal/sync.Mutex).Lock", "internal/race.Disable", "sync/atomic.CompareAndSwapInt32", "internal/race.Enable", "internal/race.Acquire", "(*internal/sync.Mutex).lockSlow", "internal/sync.runtime_canSpin", "internal/sync.runtime_doSpin", "internal/sync.throw", "internal/sync.runtime_nanotime", "internal/sync.runtime_SemacquireMutex", "sync/atomic.AddInt32", "(*internal/sync.Mutex).Unlock", "internal/race.ReleaseMerge", "(*internal/sync.Mutex).unlockSlow", "internal/sync.fatal", "internal/sync.runtime_Semrelease", "sync/atomic.StoreUint32"], unfollowed := true, recurses := true, plainKeys := false, apart := false }
def PruneTwiceSaid : Prop := pruneTwiceRow.holds Tryz.pinned (OpenSpec.ofChange pruneTwiceSpec)

/-- ITS FALSE NEIGHBOUR: 'it returns false'. Refute it at one input. -/
def pruneTwiceWrong : ChangeSpec := { name := "pruneTwice", fn := fun _ => fun
  | [d] => { results := [.lit (.bool false)], args := [d] }
  | _ => none }
def PruneTwiceWrongFalsely : Prop := pruneTwiceRow.holds Tryz.pinned (OpenSpec.ofChange pruneTwiceWrong)

/-- 'ligaturelaw14.SpineValid': WHATEVER THE INPUT: true; the input reads as it did. -/
def spineValidSpec : ChangeSpec := { name := "spineValid", fn := fun _ => fun
  | [d1, d2] => { results := [.lit (.bool true)], args := [d1, d2] }
  | _ => none }
def spineValidRow : OpenClaim := { program := "ytbppaiejpgdbiaagreat", sum := "f557eaf4f2f7466cb12f61c26f0e18d3842646f31ed9a6b6ed16b7b91cc8a13a", func := "ligature/ligaturelaw14.SpineValid", spec := "spineValid", inPlace := ["sync/atomic.AddInt64", "sync/atomic.LoadUint32", "(*internal/sync.Mutex).Lock", "internal/race.Disable", "sync/atomic.CompareAndSwapInt32", "internal/race.Enable", "internal/race.Acquire", "(*internal/sync.Mutex).lockSlow", "internal/sync.runtime_canSpin", "internal/sync.runtime_doSpin", "internal/sync.throw", "internal/sync.runtime_nanotime", "internal/sync.runtime_SemacquireMutex", "sync/atomic.AddInt32", "(*internal/sync.Mutex).Unlock", "internal/race.ReleaseMerge", "(*internal/sync.Mutex).unlockSlow", "internal/sync.fatal", "internal/sync.runtime_Semrelease", "sync/atomic.StoreUint32"], unfollowed := true, recurses := true, plainKeys := false, apart := false }
def SpineValidSaid : Prop := spineValidRow.holds Tryz.pinned (OpenSpec.ofChange spineValidSpec)

/-- ITS FALSE NEIGHBOUR: 'it returns false'. Refute it at one input. -/
def spineValidWrong : ChangeSpec := { name := "spineValid", fn := fun _ => fun
  | [d1, d2] => { results := [.lit (.bool false)], args := [d1, d2] }
  | _ => none }
def SpineValidWrongFalsely : Prop := spineValidRow.holds Tryz.pinned (OpenSpec.ofChange spineValidWrong)

/-- 'ligaturelaw14.SpineAlone': WHATEVER THE INPUT: true; the input reads as it did. -/
def spineAloneSpec : ChangeSpec := { name := "spineAlone", fn := fun _ => fun
  | [d] => { results := [.lit (.bool true)], args := [d] }
  | _ => none }
def spineAloneRow : OpenClaim := { program := "ytbppaiejpgdbiaagreat", sum := "f557eaf4f2f7466cb12f61c26f0e18d3842646f31ed9a6b6ed16b7b91cc8a13a", func := "ligature/ligaturelaw14.SpineAlone", spec := "spineAlone", inPlace := ["sync/atomic.AddInt64", "sync/atomic.LoadUint32", "(*internal/sync.Mutex).Lock", "internal/race.Disable", "sync/atomic.CompareAndSwapInt32", "internal/race.Enable", "internal/race.Acquire", "(*internal/sync.Mutex).lockSlow", "internal/sync.runtime_canSpin", "internal/sync.runtime_doSpin", "internal/sync.throw", "internal/sync.runtime_nanotime", "internal/sync.runtime_SemacquireMutex", "sync/atomic.AddInt32", "(*internal/sync.Mutex).Unlock", "internal/race.ReleaseMerge", "(*internal/sync.Mutex).unlockSlow", "internal/sync.fatal", "internal/sync.runtime_Semrelease", "sync/atomic.StoreUint32"], unfollowed := true, recurses := true, plainKeys := false, apart := false }
def SpineAloneSaid : Prop := spineAloneRow.holds Tryz.pinned (OpenSpec.ofChange spineAloneSpec)

/-- ITS FALSE NEIGHBOUR: 'it returns false'. Refute it at one input. -/
def spineAloneWrong : ChangeSpec := { name := "spineAlone", fn := fun _ => fun
  | [d] => { results := [.lit (.bool false)], args := [d] }
  | _ => none }
def SpineAloneWrongFalsely : Prop := spineAloneRow.holds Tryz.pinned (OpenSpec.ofChange spineAloneWrong)

/-- 'ligaturelaw14.SpineFirst': WHATEVER THE INPUT: true; the input reads as it did. -/
def spineFirstSpec : ChangeSpec := { name := "spineFirst", fn := fun _ => fun
  | [d1, d2] => { results := [.lit (.bool true)], args := [d1, d2] }
  | _ => none }
def spineFirstRow : OpenClaim := { program := "ytbppaiejpgdbiaagreat", sum := "f557eaf4f2f7466cb12f61c26f0e18d3842646f31ed9a6b6ed16b7b91cc8a13a", func := "ligature/ligaturelaw14.SpineFirst", spec := "spineFirst", inPlace := ["sync/atomic.AddInt64", "sync/atomic.LoadUint32", "(*internal/sync.Mutex).Lock", "internal/race.Disable", "sync/atomic.CompareAndSwapInt32", "internal/race.Enable", "internal/race.Acquire", "(*internal/sync.Mutex).lockSlow", "internal/sync.runtime_canSpin", "internal/sync.runtime_doSpin", "internal/sync.throw", "internal/sync.runtime_nanotime", "internal/sync.runtime_SemacquireMutex", "sync/atomic.AddInt32", "(*internal/sync.Mutex).Unlock", "internal/race.ReleaseMerge", "(*internal/sync.Mutex).unlockSlow", "internal/sync.fatal", "internal/sync.runtime_Semrelease", "sync/atomic.StoreUint32"], unfollowed := true, recurses := true, plainKeys := false, apart := false }
def SpineFirstSaid : Prop := spineFirstRow.holds Tryz.pinned (OpenSpec.ofChange spineFirstSpec)

/-- ITS FALSE NEIGHBOUR: 'it returns false'. Refute it at one input. -/
def spineFirstWrong : ChangeSpec := { name := "spineFirst", fn := fun _ => fun
  | [d1, d2] => { results := [.lit (.bool false)], args := [d1, d2] }
  | _ => none }
def SpineFirstWrongFalsely : Prop := spineFirstRow.holds Tryz.pinned (OpenSpec.ofChange spineFirstWrong)

/-- 'ligaturelaw28.PruneNone': WHATEVER THE INPUT: true; the input reads as it did. -/
def pruneNoneSpec : ChangeSpec := { name := "pruneNone", fn := fun _ => fun
  | [d] => { results := [.lit (.bool true)], args := [d] }
  | _ => none }
def pruneNoneRow : OpenClaim := { program := "ytbppaiejpgdbiaagreat", sum := "f557eaf4f2f7466cb12f61c26f0e18d3842646f31ed9a6b6ed16b7b91cc8a13a", func := "ligature/ligaturelaw28.PruneNone", spec := "pruneNone", inPlace := ["sync/atomic.AddInt64", "sync/atomic.LoadUint32", "(*internal/sync.Mutex).Lock", "internal/race.Disable", "sync/atomic.CompareAndSwapInt32", "internal/race.Enable", "internal/race.Acquire", "(*internal/sync.Mutex).lockSlow", "internal/sync.runtime_canSpin", "internal/sync.runtime_doSpin", "internal/sync.throw", "internal/sync.runtime_nanotime", "internal/sync.runtime_SemacquireMutex", "sync/atomic.AddInt32", "(*internal/sync.Mutex).Unlock", "internal/race.ReleaseMerge", "(*internal/sync.Mutex).unlockSlow", "internal/sync.fatal", "internal/sync.runtime_Semrelease", "sync/atomic.StoreUint32"], unfollowed := true, recurses := true, plainKeys := false, apart := false }
def PruneNoneSaid : Prop := pruneNoneRow.holds Tryz.pinned (OpenSpec.ofChange pruneNoneSpec)

/-- ITS FALSE NEIGHBOUR: 'it returns false'. Refute it at one input. -/
def pruneNoneWrong : ChangeSpec := { name := "pruneNone", fn := fun _ => fun
  | [d] => { results := [.lit (.bool false)], args := [d] }
  | _ => none }
def PruneNoneWrongFalsely : Prop := pruneNoneRow.holds Tryz.pinned (OpenSpec.ofChange pruneNoneWrong)

/-- 'ligaturelaw14.SpineWalks': WHATEVER THE INPUT: true; the input reads as it did. -/
def spineWalksSpec : ChangeSpec := { name := "spineWalks", fn := fun _ => fun
  | [d1, d2, d3, d4, d5] => { results := [.lit (.bool true)], args := [d1, d2, d3, d4, d5] }
  | _ => none }
def spineWalksRow : OpenClaim := { program := "ytbppaiejpgdbiaagreat", sum := "f557eaf4f2f7466cb12f61c26f0e18d3842646f31ed9a6b6ed16b7b91cc8a13a", func := "ligature/ligaturelaw14.SpineWalks", spec := "spineWalks", inPlace := ["sync/atomic.AddInt64", "sync/atomic.LoadUint32", "(*internal/sync.Mutex).Lock", "internal/race.Disable", "sync/atomic.CompareAndSwapInt32", "internal/race.Enable", "internal/race.Acquire", "(*internal/sync.Mutex).lockSlow", "internal/sync.runtime_canSpin", "internal/sync.runtime_doSpin", "internal/sync.throw", "internal/sync.runtime_nanotime", "internal/sync.runtime_SemacquireMutex", "sync/atomic.AddInt32", "(*internal/sync.Mutex).Unlock", "internal/race.ReleaseMerge", "(*internal/sync.Mutex).unlockSlow", "internal/sync.fatal", "internal/sync.runtime_Semrelease", "sync/atomic.StoreUint32"], unfollowed := true, recurses := true, plainKeys := false, apart := false }
def SpineWalksSaid : Prop := spineWalksRow.holds Tryz.pinned (OpenSpec.ofChange spineWalksSpec)

/-- ITS FALSE NEIGHBOUR: 'it returns false'. Refute it at one input. -/
def spineWalksWrong : ChangeSpec := { name := "spineWalks", fn := fun _ => fun
  | [d1, d2, d3, d4, d5] => { results := [.lit (.bool false)], args := [d1, d2, d3, d4, d5] }
  | _ => none }
def SpineWalksWrongFalsely : Prop := spineWalksRow.holds Tryz.pinned (OpenSpec.ofChange spineWalksWrong)

/-- 'ligaturelaw14.SpineNone': WHATEVER THE INPUT: true; the input reads as it did. -/
def spineNoneSpec : ChangeSpec := { name := "spineNone", fn := fun _ => fun
  | [d1, d2, d3] => { results := [.lit (.bool true)], args := [d1, d2, d3] }
  | _ => none }
def spineNoneRow : OpenClaim := { program := "ytbppaiejpgdbiaagreat", sum := "f557eaf4f2f7466cb12f61c26f0e18d3842646f31ed9a6b6ed16b7b91cc8a13a", func := "ligature/ligaturelaw14.SpineNone", spec := "spineNone", inPlace := ["sync/atomic.AddInt64", "sync/atomic.LoadUint32", "(*internal/sync.Mutex).Lock", "internal/race.Disable", "sync/atomic.CompareAndSwapInt32", "internal/race.Enable", "internal/race.Acquire", "(*internal/sync.Mutex).lockSlow", "internal/sync.runtime_canSpin", "internal/sync.runtime_doSpin", "internal/sync.throw", "internal/sync.runtime_nanotime", "internal/sync.runtime_SemacquireMutex", "sync/atomic.AddInt32", "(*internal/sync.Mutex).Unlock", "internal/race.ReleaseMerge", "(*internal/sync.Mutex).unlockSlow", "internal/sync.fatal", "internal/sync.runtime_Semrelease", "sync/atomic.StoreUint32"], unfollowed := true, recurses := true, plainKeys := false, apart := false }
def SpineNoneSaid : Prop := spineNoneRow.holds Tryz.pinned (OpenSpec.ofChange spineNoneSpec)

/-- ITS FALSE NEIGHBOUR: 'it returns false'. Refute it at one input. -/
def spineNoneWrong : ChangeSpec := { name := "spineNone", fn := fun _ => fun
  | [d1, d2, d3] => { results := [.lit (.bool false)], args := [d1, d2, d3] }
  | _ => none }
def SpineNoneWrongFalsely : Prop := spineNoneRow.holds Tryz.pinned (OpenSpec.ofChange spineNoneWrong)

/-- 'ligaturelaw28.PruneMakes': WHATEVER THE INPUT: true; the input reads as it did. -/
def pruneMakesSpec : ChangeSpec := { name := "pruneMakes", fn := fun _ => fun
  | [d1, d2] => { results := [.lit (.bool true)], args := [d1, d2] }
  | _ => none }
def pruneMakesRow : OpenClaim := { program := "ytbppaiejpgdbiaagreat", sum := "f557eaf4f2f7466cb12f61c26f0e18d3842646f31ed9a6b6ed16b7b91cc8a13a", func := "ligature/ligaturelaw28.PruneMakes", spec := "pruneMakes", inPlace := ["sync/atomic.AddInt64", "sync/atomic.LoadUint32", "(*internal/sync.Mutex).Lock", "internal/race.Disable", "sync/atomic.CompareAndSwapInt32", "internal/race.Enable", "internal/race.Acquire", "(*internal/sync.Mutex).lockSlow", "internal/sync.runtime_canSpin", "internal/sync.runtime_doSpin", "internal/sync.throw", "internal/sync.runtime_nanotime", "internal/sync.runtime_SemacquireMutex", "sync/atomic.AddInt32", "(*internal/sync.Mutex).Unlock", "internal/race.ReleaseMerge", "(*internal/sync.Mutex).unlockSlow", "internal/sync.fatal", "internal/sync.runtime_Semrelease", "sync/atomic.StoreUint32"], unfollowed := true, recurses := true, plainKeys := false, apart := false }
def PruneMakesSaid : Prop := pruneMakesRow.holds Tryz.pinned (OpenSpec.ofChange pruneMakesSpec)

/-- ITS FALSE NEIGHBOUR: 'it returns false'. Refute it at one input. -/
def pruneMakesWrong : ChangeSpec := { name := "pruneMakes", fn := fun _ => fun
  | [d1, d2] => { results := [.lit (.bool false)], args := [d1, d2] }
  | _ => none }
def PruneMakesWrongFalsely : Prop := pruneMakesRow.holds Tryz.pinned (OpenSpec.ofChange pruneMakesWrong)

/- THE SECOND FORM. 'bulk': how many values and letters a reading holds, each counted each time it is reached (what is shared counts as often as it is met; a slice's spare places count too). A statement '..UptoSaid' is the law's where the arguments, and the package variables that the reading takes, are together of bulk at most 1048576: NARROWER than '..Said'. Prove '..Said' where nothing that the law and all that it calls make is longer than what came in: it says more and counts as full. Else prove '..UptoSaid'. A law counts once. -/
mutual
def uptoBulk {H : Type} : DataW H → Nat
  | .lit (.string bytes) => bytes.length + 1
  | .lit _ => 1
  | .nil => 1
  | .ptr d => uptoBulk d + 1
  | .slice elems spare => uptoBulkAll elems + uptoBulkAll spare + 1
  | .agg parts => uptoBulkAll parts + 1
  | .iface _ d => uptoBulk d + 1
  | .map entries => uptoBulkEntries entries + 1
  | .held _ => 1
def uptoBulkAll {H : Type} : List (DataW H) → Nat
  | [] => 0
  | d :: r => uptoBulk d + uptoBulkAll r
def uptoBulkEntries {H : Type} : List (Lit × DataW H) → Nat
  | [] => 0
  | x :: r => uptoBulkEntry x + uptoBulkEntries r
def uptoBulkEntry {H : Type} : Lit × DataW H → Nat
  | (.string bytes, d) => bytes.length + uptoBulk d + 1
  | (_, d) => uptoBulk d + 1
 end
def uptoSmall : (H : Type) → List (DataW H) → Bool := fun _ ds => decide (uptoBulkAll ds ≤ 1048576)
def OpenSpec.upto (s : _root_.Go.ChangeSpec) : _root_.Go.OpenSpec := { _root_.Go.OpenSpec.ofChange s with cond := some uptoSmall }

/-- 'ligaturelaw28.PruneTwice', WHERE WHAT IT READS IS OF BULK AT MOST 1048576: true; the input reads as it did. -/
def pruneTwiceUptoRow : OpenClaim := { program := "ytbppaiejpgdbiaagreat", sum := "f557eaf4f2f7466cb12f61c26f0e18d3842646f31ed9a6b6ed16b7b91cc8a13a", func := "ligature/ligaturelaw28.PruneTwice", spec := "pruneTwice", inPlace := ["sync/atomic.AddInt64", "sync/atomic.LoadUint32", "(*internal/sync.Mutex).Lock", "internal/race.Disable", "sync/atomic.CompareAndSwapInt32", "internal/race.Enable", "internal/race.Acquire", "(*internal/sync.Mutex).lockSlow", "internal/sync.runtime_canSpin", "internal/sync.runtime_doSpin", "internal/sync.throw", "internal/sync.runtime_nanotime", "internal/sync.runtime_SemacquireMutex", "sync/atomic.AddInt32", "(*internal/sync.Mutex).Unlock", "internal/race.ReleaseMerge", "(*internal/sync.Mutex).unlockSlow", "internal/sync.fatal", "internal/sync.runtime_Semrelease", "sync/atomic.StoreUint32"], unfollowed := true, recurses := true, plainKeys := false, apart := false, narrowed := true }
def PruneTwiceUptoSaid : Prop := pruneTwiceUptoRow.holds Tryz.pinned (OpenSpec.upto pruneTwiceSpec)

/-- 'ligaturelaw14.SpineValid', WHERE WHAT IT READS IS OF BULK AT MOST 1048576: true; the input reads as it did. -/
def spineValidUptoRow : OpenClaim := { program := "ytbppaiejpgdbiaagreat", sum := "f557eaf4f2f7466cb12f61c26f0e18d3842646f31ed9a6b6ed16b7b91cc8a13a", func := "ligature/ligaturelaw14.SpineValid", spec := "spineValid", inPlace := ["sync/atomic.AddInt64", "sync/atomic.LoadUint32", "(*internal/sync.Mutex).Lock", "internal/race.Disable", "sync/atomic.CompareAndSwapInt32", "internal/race.Enable", "internal/race.Acquire", "(*internal/sync.Mutex).lockSlow", "internal/sync.runtime_canSpin", "internal/sync.runtime_doSpin", "internal/sync.throw", "internal/sync.runtime_nanotime", "internal/sync.runtime_SemacquireMutex", "sync/atomic.AddInt32", "(*internal/sync.Mutex).Unlock", "internal/race.ReleaseMerge", "(*internal/sync.Mutex).unlockSlow", "internal/sync.fatal", "internal/sync.runtime_Semrelease", "sync/atomic.StoreUint32"], unfollowed := true, recurses := true, plainKeys := false, apart := false, narrowed := true }
def SpineValidUptoSaid : Prop := spineValidUptoRow.holds Tryz.pinned (OpenSpec.upto spineValidSpec)

/-- 'ligaturelaw14.SpineAlone', WHERE WHAT IT READS IS OF BULK AT MOST 1048576: true; the input reads as it did. -/
def spineAloneUptoRow : OpenClaim := { program := "ytbppaiejpgdbiaagreat", sum := "f557eaf4f2f7466cb12f61c26f0e18d3842646f31ed9a6b6ed16b7b91cc8a13a", func := "ligature/ligaturelaw14.SpineAlone", spec := "spineAlone", inPlace := ["sync/atomic.AddInt64", "sync/atomic.LoadUint32", "(*internal/sync.Mutex).Lock", "internal/race.Disable", "sync/atomic.CompareAndSwapInt32", "internal/race.Enable", "internal/race.Acquire", "(*internal/sync.Mutex).lockSlow", "internal/sync.runtime_canSpin", "internal/sync.runtime_doSpin", "internal/sync.throw", "internal/sync.runtime_nanotime", "internal/sync.runtime_SemacquireMutex", "sync/atomic.AddInt32", "(*internal/sync.Mutex).Unlock", "internal/race.ReleaseMerge", "(*internal/sync.Mutex).unlockSlow", "internal/sync.fatal", "internal/sync.runtime_Semrelease", "sync/atomic.StoreUint32"], unfollowed := true, recurses := true, plainKeys := false, apart := false, narrowed := true }
def SpineAloneUptoSaid : Prop := spineAloneUptoRow.holds Tryz.pinned (OpenSpec.upto spineAloneSpec)

/-- 'ligaturelaw14.SpineFirst', WHERE WHAT IT READS IS OF BULK AT MOST 1048576: true; the input reads as it did. -/
def spineFirstUptoRow : OpenClaim := { program := "ytbppaiejpgdbiaagreat", sum := "f557eaf4f2f7466cb12f61c26f0e18d3842646f31ed9a6b6ed16b7b91cc8a13a", func := "ligature/ligaturelaw14.SpineFirst", spec := "spineFirst", inPlace := ["sync/atomic.AddInt64", "sync/atomic.LoadUint32", "(*internal/sync.Mutex).Lock", "internal/race.Disable", "sync/atomic.CompareAndSwapInt32", "internal/race.Enable", "internal/race.Acquire", "(*internal/sync.Mutex).lockSlow", "internal/sync.runtime_canSpin", "internal/sync.runtime_doSpin", "internal/sync.throw", "internal/sync.runtime_nanotime", "internal/sync.runtime_SemacquireMutex", "sync/atomic.AddInt32", "(*internal/sync.Mutex).Unlock", "internal/race.ReleaseMerge", "(*internal/sync.Mutex).unlockSlow", "internal/sync.fatal", "internal/sync.runtime_Semrelease", "sync/atomic.StoreUint32"], unfollowed := true, recurses := true, plainKeys := false, apart := false, narrowed := true }
def SpineFirstUptoSaid : Prop := spineFirstUptoRow.holds Tryz.pinned (OpenSpec.upto spineFirstSpec)

/-- 'ligaturelaw28.PruneNone', WHERE WHAT IT READS IS OF BULK AT MOST 1048576: true; the input reads as it did. -/
def pruneNoneUptoRow : OpenClaim := { program := "ytbppaiejpgdbiaagreat", sum := "f557eaf4f2f7466cb12f61c26f0e18d3842646f31ed9a6b6ed16b7b91cc8a13a", func := "ligature/ligaturelaw28.PruneNone", spec := "pruneNone", inPlace := ["sync/atomic.AddInt64", "sync/atomic.LoadUint32", "(*internal/sync.Mutex).Lock", "internal/race.Disable", "sync/atomic.CompareAndSwapInt32", "internal/race.Enable", "internal/race.Acquire", "(*internal/sync.Mutex).lockSlow", "internal/sync.runtime_canSpin", "internal/sync.runtime_doSpin", "internal/sync.throw", "internal/sync.runtime_nanotime", "internal/sync.runtime_SemacquireMutex", "sync/atomic.AddInt32", "(*internal/sync.Mutex).Unlock", "internal/race.ReleaseMerge", "(*internal/sync.Mutex).unlockSlow", "internal/sync.fatal", "internal/sync.runtime_Semrelease", "sync/atomic.StoreUint32"], unfollowed := true, recurses := true, plainKeys := false, apart := false, narrowed := true }
def PruneNoneUptoSaid : Prop := pruneNoneUptoRow.holds Tryz.pinned (OpenSpec.upto pruneNoneSpec)

/-- 'ligaturelaw14.SpineWalks', WHERE WHAT IT READS IS OF BULK AT MOST 1048576: true; the input reads as it did. -/
def spineWalksUptoRow : OpenClaim := { program := "ytbppaiejpgdbiaagreat", sum := "f557eaf4f2f7466cb12f61c26f0e18d3842646f31ed9a6b6ed16b7b91cc8a13a", func := "ligature/ligaturelaw14.SpineWalks", spec := "spineWalks", inPlace := ["sync/atomic.AddInt64", "sync/atomic.LoadUint32", "(*internal/sync.Mutex).Lock", "internal/race.Disable", "sync/atomic.CompareAndSwapInt32", "internal/race.Enable", "internal/race.Acquire", "(*internal/sync.Mutex).lockSlow", "internal/sync.runtime_canSpin", "internal/sync.runtime_doSpin", "internal/sync.throw", "internal/sync.runtime_nanotime", "internal/sync.runtime_SemacquireMutex", "sync/atomic.AddInt32", "(*internal/sync.Mutex).Unlock", "internal/race.ReleaseMerge", "(*internal/sync.Mutex).unlockSlow", "internal/sync.fatal", "internal/sync.runtime_Semrelease", "sync/atomic.StoreUint32"], unfollowed := true, recurses := true, plainKeys := false, apart := false, narrowed := true }
def SpineWalksUptoSaid : Prop := spineWalksUptoRow.holds Tryz.pinned (OpenSpec.upto spineWalksSpec)

/-- 'ligaturelaw14.SpineNone', WHERE WHAT IT READS IS OF BULK AT MOST 1048576: true; the input reads as it did. -/
def spineNoneUptoRow : OpenClaim := { program := "ytbppaiejpgdbiaagreat", sum := "f557eaf4f2f7466cb12f61c26f0e18d3842646f31ed9a6b6ed16b7b91cc8a13a", func := "ligature/ligaturelaw14.SpineNone", spec := "spineNone", inPlace := ["sync/atomic.AddInt64", "sync/atomic.LoadUint32", "(*internal/sync.Mutex).Lock", "internal/race.Disable", "sync/atomic.CompareAndSwapInt32", "internal/race.Enable", "internal/race.Acquire", "(*internal/sync.Mutex).lockSlow", "internal/sync.runtime_canSpin", "internal/sync.runtime_doSpin", "internal/sync.throw", "internal/sync.runtime_nanotime", "internal/sync.runtime_SemacquireMutex", "sync/atomic.AddInt32", "(*internal/sync.Mutex).Unlock", "internal/race.ReleaseMerge", "(*internal/sync.Mutex).unlockSlow", "internal/sync.fatal", "internal/sync.runtime_Semrelease", "sync/atomic.StoreUint32"], unfollowed := true, recurses := true, plainKeys := false, apart := false, narrowed := true }
def SpineNoneUptoSaid : Prop := spineNoneUptoRow.holds Tryz.pinned (OpenSpec.upto spineNoneSpec)

/-- 'ligaturelaw28.PruneMakes', WHERE WHAT IT READS IS OF BULK AT MOST 1048576: true; the input reads as it did. -/
def pruneMakesUptoRow : OpenClaim := { program := "ytbppaiejpgdbiaagreat", sum := "f557eaf4f2f7466cb12f61c26f0e18d3842646f31ed9a6b6ed16b7b91cc8a13a", func := "ligature/ligaturelaw28.PruneMakes", spec := "pruneMakes", inPlace := ["sync/atomic.AddInt64", "sync/atomic.LoadUint32", "(*internal/sync.Mutex).Lock", "internal/race.Disable", "sync/atomic.CompareAndSwapInt32", "internal/race.Enable", "internal/race.Acquire", "(*internal/sync.Mutex).lockSlow", "internal/sync.runtime_canSpin", "internal/sync.runtime_doSpin", "internal/sync.throw", "internal/sync.runtime_nanotime", "internal/sync.runtime_SemacquireMutex", "sync/atomic.AddInt32", "(*internal/sync.Mutex).Unlock", "internal/race.ReleaseMerge", "(*internal/sync.Mutex).unlockSlow", "internal/sync.fatal", "internal/sync.runtime_Semrelease", "sync/atomic.StoreUint32"], unfollowed := true, recurses := true, plainKeys := false, apart := false, narrowed := true }
def PruneMakesUptoSaid : Prop := pruneMakesUptoRow.holds Tryz.pinned (OpenSpec.upto pruneMakesSpec)

end Rows
end Go.Proofs.YtbppaiejpgdbiaaGreat
