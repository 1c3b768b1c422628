/-
  No cell of these rows narrows 'for every input' (looked for: loops, veiled, ifaces, maps, wideKeys, modest, calm, conditions, laid).
  DERIVED. THE GIVEN ROWS OF THIS SEAT. 18 by the template 'for every input the law returns true; each argument reads behind the call as it read before'; 0 by the template 'total and deterministic' (their statements: YtljfomgcoodjkaaTotals.lean).
  GIVEN WITH THE SEED: the statements are not yours to turn. If you find one false, say at which input.
  Laid BY PROGRAM, IN A SANDBOX (cutbox-rows.mjs): the forced cells as the released guide's own fill.sh prints them over the translation f8418cc784d91e7f… (all of the seat's roots in one cut). By AI agents, Wed Nov 11 2026. No macro, syntax, notation, axiom, sorry.
-/
import Derived.Test.YtljfomgcoodjkaaChecked
import GoSem.Claim
import GoSem.ClaimJoined
import GoSem.ClaimMapViews
import Derived.JoinedTies
import Derived.KernelRfl
namespace Go.Proofs.Ytljfomgcoodjkaa
/- THE CELL 'sum', in the pinned program and in every row, IS THE sha256 OF THE DUMP (.gsa) THAT YtljfomgcoodjkaaProg.lean LOADS. Nothing in Lean hashes anything: it is a label: what it is worth is what the hold of that sum in a sandbox is worth. -/
noncomputable def Try.pinned : Pinned := { name := "ytljfomgcoodjkaa", sum := "f8418cc784d91e7f3e7db5e68f4f7f84800e3142a92174bf7ad191e49db9cadd", checked := Try.checked }
namespace Rows
def none {H : Type} : Left H := { results := [], args := [] }

/-- 'lunettelaw02.SumDivides': WHATEVER THE INPUT: true; the input reads as it did. -/
def sumDividesSpec : ChangeSpec := { name := "sumDivides", fn := fun _ => fun
  | [d1, d2] => { results := [.lit (.bool true)], args := [d1, d2] }
  | _ => none }
def sumDividesRow : OpenClaim := { program := "ytljfomgcoodjkaa", sum := "f8418cc784d91e7f3e7db5e68f4f7f84800e3142a92174bf7ad191e49db9cadd", func := "lunette/lunettelaw02.SumDivides", spec := "sumDivides", inPlace := ["sync/atomic.LoadUint32", "(*internal/sync.Mutex).Lock", "internal/race.Disable", "sync/atomic.CompareAndSwapInt32", "internal/race.Enable", "internal/race.Acquire", "(*internal/sync.Mutex).lockSlow", "internal/sync.runtime_canSpin", "internal/sync.runtime_doSpin", "internal/sync.throw", "internal/sync.runtime_nanotime", "internal/sync.runtime_SemacquireMutex", "sync/atomic.AddInt32", "(*internal/sync.Mutex).Unlock", "internal/race.ReleaseMerge", "(*internal/sync.Mutex).unlockSlow", "internal/sync.fatal", "internal/sync.runtime_Semrelease", "sync/atomic.StoreUint32", "sync/atomic.AddInt64", "sync/atomic.LoadInt64"], unfollowed := true, recurses := true, apart := false }
def SumDividesSaid : Prop := sumDividesRow.holds Try.pinned (OpenSpec.ofChange sumDividesSpec)

/-- ITS FALSE NEIGHBOUR: 'it returns false'. Refute it at one input. -/
def sumDividesWrong : ChangeSpec := { name := "sumDivides", fn := fun _ => fun
  | [d1, d2] => { results := [.lit (.bool false)], args := [d1, d2] }
  | _ => none }
def SumDividesWrongFalsely : Prop := sumDividesRow.holds Try.pinned (OpenSpec.ofChange sumDividesWrong)

/-- 'lunettelaw02.SumParts': WHATEVER THE INPUT: true; the input reads as it did. -/
def sumPartsSpec : ChangeSpec := { name := "sumParts", fn := fun _ => fun
  | [d] => { results := [.lit (.bool true)], args := [d] }
  | _ => none }
def sumPartsRow : OpenClaim := { program := "ytljfomgcoodjkaa", sum := "f8418cc784d91e7f3e7db5e68f4f7f84800e3142a92174bf7ad191e49db9cadd", func := "lunette/lunettelaw02.SumParts", spec := "sumParts", inPlace := ["sync/atomic.LoadUint32", "(*internal/sync.Mutex).Lock", "internal/race.Disable", "sync/atomic.CompareAndSwapInt32", "internal/race.Enable", "internal/race.Acquire", "(*internal/sync.Mutex).lockSlow", "internal/sync.runtime_canSpin", "internal/sync.runtime_doSpin", "internal/sync.throw", "internal/sync.runtime_nanotime", "internal/sync.runtime_SemacquireMutex", "sync/atomic.AddInt32", "(*internal/sync.Mutex).Unlock", "internal/race.ReleaseMerge", "(*internal/sync.Mutex).unlockSlow", "internal/sync.fatal", "internal/sync.runtime_Semrelease", "sync/atomic.StoreUint32", "sync/atomic.AddInt64", "sync/atomic.LoadInt64"], unfollowed := true, recurses := true, apart := false }
def SumPartsSaid : Prop := sumPartsRow.holds Try.pinned (OpenSpec.ofChange sumPartsSpec)

/-- ITS FALSE NEIGHBOUR: 'it returns false'. Refute it at one input. -/
def sumPartsWrong : ChangeSpec := { name := "sumParts", fn := fun _ => fun
  | [d] => { results := [.lit (.bool false)], args := [d] }
  | _ => none }
def SumPartsWrongFalsely : Prop := sumPartsRow.holds Try.pinned (OpenSpec.ofChange sumPartsWrong)

/-- 'lunettelaw02.SumDiffers': WHATEVER THE INPUT: true; the input reads as it did. -/
def sumDiffersSpec : ChangeSpec := { name := "sumDiffers", fn := fun _ => fun
  | [d1, d2, d3] => { results := [.lit (.bool true)], args := [d1, d2, d3] }
  | _ => none }
def sumDiffersRow : OpenClaim := { program := "ytljfomgcoodjkaa", sum := "f8418cc784d91e7f3e7db5e68f4f7f84800e3142a92174bf7ad191e49db9cadd", func := "lunette/lunettelaw02.SumDiffers", spec := "sumDiffers", inPlace := ["sync/atomic.LoadUint32", "(*internal/sync.Mutex).Lock", "internal/race.Disable", "sync/atomic.CompareAndSwapInt32", "internal/race.Enable", "internal/race.Acquire", "(*internal/sync.Mutex).lockSlow", "internal/sync.runtime_canSpin", "internal/sync.runtime_doSpin", "internal/sync.throw", "internal/sync.runtime_nanotime", "internal/sync.runtime_SemacquireMutex", "sync/atomic.AddInt32", "(*internal/sync.Mutex).Unlock", "internal/race.ReleaseMerge", "(*internal/sync.Mutex).unlockSlow", "internal/sync.fatal", "internal/sync.runtime_Semrelease", "sync/atomic.StoreUint32", "sync/atomic.AddInt64", "sync/atomic.LoadInt64"], unfollowed := true, recurses := true, apart := false }
def SumDiffersSaid : Prop := sumDiffersRow.holds Try.pinned (OpenSpec.ofChange sumDiffersSpec)

/-- ITS FALSE NEIGHBOUR: 'it returns false'. Refute it at one input. -/
def sumDiffersWrong : ChangeSpec := { name := "sumDiffers", fn := fun _ => fun
  | [d1, d2, d3] => { results := [.lit (.bool false)], args := [d1, d2, d3] }
  | _ => none }
def SumDiffersWrongFalsely : Prop := sumDiffersRow.holds Try.pinned (OpenSpec.ofChange sumDiffersWrong)

/-- 'lunettelaw02.SumXor': WHATEVER THE INPUT: true; the input reads as it did. -/
def sumXorSpec : ChangeSpec := { name := "sumXor", fn := fun _ => fun
  | [d1, d2] => { results := [.lit (.bool true)], args := [d1, d2] }
  | _ => none }
def sumXorRow : OpenClaim := { program := "ytljfomgcoodjkaa", sum := "f8418cc784d91e7f3e7db5e68f4f7f84800e3142a92174bf7ad191e49db9cadd", func := "lunette/lunettelaw02.SumXor", spec := "sumXor", inPlace := ["sync/atomic.LoadUint32", "(*internal/sync.Mutex).Lock", "internal/race.Disable", "sync/atomic.CompareAndSwapInt32", "internal/race.Enable", "internal/race.Acquire", "(*internal/sync.Mutex).lockSlow", "internal/sync.runtime_canSpin", "internal/sync.runtime_doSpin", "internal/sync.throw", "internal/sync.runtime_nanotime", "internal/sync.runtime_SemacquireMutex", "sync/atomic.AddInt32", "(*internal/sync.Mutex).Unlock", "internal/race.ReleaseMerge", "(*internal/sync.Mutex).unlockSlow", "internal/sync.fatal", "internal/sync.runtime_Semrelease", "sync/atomic.StoreUint32", "sync/atomic.AddInt64", "sync/atomic.LoadInt64"], unfollowed := true, recurses := true, apart := false }
def SumXorSaid : Prop := sumXorRow.holds Try.pinned (OpenSpec.ofChange sumXorSpec)

/-- ITS FALSE NEIGHBOUR: 'it returns false'. Refute it at one input. -/
def sumXorWrong : ChangeSpec := { name := "sumXor", fn := fun _ => fun
  | [d1, d2] => { results := [.lit (.bool false)], args := [d1, d2] }
  | _ => none }
def SumXorWrongFalsely : Prop := sumXorRow.holds Try.pinned (OpenSpec.ofChange sumXorWrong)

/-- 'lunettelaw07.SuperTorn': WHATEVER THE INPUT: true; the input reads as it did. -/
def superTornSpec : ChangeSpec := { name := "superTorn", fn := fun _ => fun
  | [d1, d2, d3, d4] => { results := [.lit (.bool true)], args := [d1, d2, d3, d4] }
  | _ => none }
def superTornRow : OpenClaim := { program := "ytljfomgcoodjkaa", sum := "f8418cc784d91e7f3e7db5e68f4f7f84800e3142a92174bf7ad191e49db9cadd", func := "lunette/lunettelaw07.SuperTorn", spec := "superTorn", inPlace := ["sync/atomic.LoadUint32", "(*internal/sync.Mutex).Lock", "internal/race.Disable", "sync/atomic.CompareAndSwapInt32", "internal/race.Enable", "internal/race.Acquire", "(*internal/sync.Mutex).lockSlow", "internal/sync.runtime_canSpin", "internal/sync.runtime_doSpin", "internal/sync.throw", "internal/sync.runtime_nanotime", "internal/sync.runtime_SemacquireMutex", "sync/atomic.AddInt32", "(*internal/sync.Mutex).Unlock", "internal/race.ReleaseMerge", "(*internal/sync.Mutex).unlockSlow", "internal/sync.fatal", "internal/sync.runtime_Semrelease", "sync/atomic.StoreUint32", "sync/atomic.AddInt64"], unfollowed := true, recurses := true, apart := false }
def SuperTornSaid : Prop := superTornRow.holds Try.pinned (OpenSpec.ofChange superTornSpec)

/-- ITS FALSE NEIGHBOUR: 'it returns false'. Refute it at one input. -/
def superTornWrong : ChangeSpec := { name := "superTorn", fn := fun _ => fun
  | [d1, d2, d3, d4] => { results := [.lit (.bool false)], args := [d1, d2, d3, d4] }
  | _ => none }
def SuperTornWrongFalsely : Prop := superTornRow.holds Try.pinned (OpenSpec.ofChange superTornWrong)

/-- 'lunettelaw02.SumAlone': WHATEVER THE INPUT: true; the input reads as it did. -/
def sumAloneSpec : ChangeSpec := { name := "sumAlone", fn := fun _ => fun
  | [d1, d2] => { results := [.lit (.bool true)], args := [d1, d2] }
  | _ => none }
def sumAloneRow : OpenClaim := { program := "ytljfomgcoodjkaa", sum := "f8418cc784d91e7f3e7db5e68f4f7f84800e3142a92174bf7ad191e49db9cadd", func := "lunette/lunettelaw02.SumAlone", spec := "sumAlone", inPlace := ["sync/atomic.LoadUint32", "(*internal/sync.Mutex).Lock", "internal/race.Disable", "sync/atomic.CompareAndSwapInt32", "internal/race.Enable", "internal/race.Acquire", "(*internal/sync.Mutex).lockSlow", "internal/sync.runtime_canSpin", "internal/sync.runtime_doSpin", "internal/sync.throw", "internal/sync.runtime_nanotime", "internal/sync.runtime_SemacquireMutex", "sync/atomic.AddInt32", "(*internal/sync.Mutex).Unlock", "internal/race.ReleaseMerge", "(*internal/sync.Mutex).unlockSlow", "internal/sync.fatal", "internal/sync.runtime_Semrelease", "sync/atomic.StoreUint32", "sync/atomic.AddInt64", "sync/atomic.LoadInt64"], unfollowed := true, recurses := true, apart := false }
def SumAloneSaid : Prop := sumAloneRow.holds Try.pinned (OpenSpec.ofChange sumAloneSpec)

/-- ITS FALSE NEIGHBOUR: 'it returns false'. Refute it at one input. -/
def sumAloneWrong : ChangeSpec := { name := "sumAlone", fn := fun _ => fun
  | [d1, d2] => { results := [.lit (.bool false)], args := [d1, d2] }
  | _ => none }
def SumAloneWrongFalsely : Prop := sumAloneRow.holds Try.pinned (OpenSpec.ofChange sumAloneWrong)

/-- 'lunettelaw07.SuperTurns': WHATEVER THE INPUT: true; the input reads as it did. -/
def superTurnsSpec : ChangeSpec := { name := "superTurns", fn := fun _ => fun
  | [d] => { results := [.lit (.bool true)], args := [d] }
  | _ => none }
def superTurnsRow : OpenClaim := { program := "ytljfomgcoodjkaa", sum := "f8418cc784d91e7f3e7db5e68f4f7f84800e3142a92174bf7ad191e49db9cadd", func := "lunette/lunettelaw07.SuperTurns", spec := "superTurns", inPlace := ["sync/atomic.LoadUint32", "(*internal/sync.Mutex).Lock", "internal/race.Disable", "sync/atomic.CompareAndSwapInt32", "internal/race.Enable", "internal/race.Acquire", "(*internal/sync.Mutex).lockSlow", "internal/sync.runtime_canSpin", "internal/sync.runtime_doSpin", "internal/sync.throw", "internal/sync.runtime_nanotime", "internal/sync.runtime_SemacquireMutex", "sync/atomic.AddInt32", "(*internal/sync.Mutex).Unlock", "internal/race.ReleaseMerge", "(*internal/sync.Mutex).unlockSlow", "internal/sync.fatal", "internal/sync.runtime_Semrelease", "sync/atomic.StoreUint32", "sync/atomic.AddInt64"], unfollowed := true, recurses := true, apart := false }
def SuperTurnsSaid : Prop := superTurnsRow.holds Try.pinned (OpenSpec.ofChange superTurnsSpec)

/-- ITS FALSE NEIGHBOUR: 'it returns false'. Refute it at one input. -/
def superTurnsWrong : ChangeSpec := { name := "superTurns", fn := fun _ => fun
  | [d] => { results := [.lit (.bool false)], args := [d] }
  | _ => none }
def SuperTurnsWrongFalsely : Prop := superTurnsRow.holds Try.pinned (OpenSpec.ofChange superTurnsWrong)

/-- 'lunettelaw02.SumSplit': WHATEVER THE INPUT: true; the input reads as it did. -/
def sumSplitSpec : ChangeSpec := { name := "sumSplit", fn := fun _ => fun
  | [d1, d2] => { results := [.lit (.bool true)], args := [d1, d2] }
  | _ => none }
def sumSplitRow : OpenClaim := { program := "ytljfomgcoodjkaa", sum := "f8418cc784d91e7f3e7db5e68f4f7f84800e3142a92174bf7ad191e49db9cadd", func := "lunette/lunettelaw02.SumSplit", spec := "sumSplit", inPlace := ["sync/atomic.LoadUint32", "(*internal/sync.Mutex).Lock", "internal/race.Disable", "sync/atomic.CompareAndSwapInt32", "internal/race.Enable", "internal/race.Acquire", "(*internal/sync.Mutex).lockSlow", "internal/sync.runtime_canSpin", "internal/sync.runtime_doSpin", "internal/sync.throw", "internal/sync.runtime_nanotime", "internal/sync.runtime_SemacquireMutex", "sync/atomic.AddInt32", "(*internal/sync.Mutex).Unlock", "internal/race.ReleaseMerge", "(*internal/sync.Mutex).unlockSlow", "internal/sync.fatal", "internal/sync.runtime_Semrelease", "sync/atomic.StoreUint32", "sync/atomic.AddInt64", "sync/atomic.LoadInt64"], unfollowed := true, recurses := true, apart := false }
def SumSplitSaid : Prop := sumSplitRow.holds Try.pinned (OpenSpec.ofChange sumSplitSpec)

/-- ITS FALSE NEIGHBOUR: 'it returns false'. Refute it at one input. -/
def sumSplitWrong : ChangeSpec := { name := "sumSplit", fn := fun _ => fun
  | [d1, d2] => { results := [.lit (.bool false)], args := [d1, d2] }
  | _ => none }
def SumSplitWrongFalsely : Prop := sumSplitRow.holds Try.pinned (OpenSpec.ofChange sumSplitWrong)

/-- 'lunettelaw04.PagePuts': WHATEVER THE INPUT: true; the input reads as it did. -/
def pagePutsSpec : ChangeSpec := { name := "pagePuts", fn := fun _ => fun
  | [d] => { results := [.lit (.bool true)], args := [d] }
  | _ => none }
def pagePutsRow : OpenClaim := { program := "ytljfomgcoodjkaa", sum := "f8418cc784d91e7f3e7db5e68f4f7f84800e3142a92174bf7ad191e49db9cadd", func := "lunette/lunettelaw04.PagePuts", spec := "pagePuts", inPlace := ["sync/atomic.LoadUint32", "(*internal/sync.Mutex).Lock", "internal/race.Disable", "sync/atomic.CompareAndSwapInt32", "internal/race.Enable", "internal/race.Acquire", "(*internal/sync.Mutex).lockSlow", "internal/sync.runtime_canSpin", "internal/sync.runtime_doSpin", "internal/sync.throw", "internal/sync.runtime_nanotime", "internal/sync.runtime_SemacquireMutex", "sync/atomic.AddInt32", "(*internal/sync.Mutex).Unlock", "internal/race.ReleaseMerge", "(*internal/sync.Mutex).unlockSlow", "internal/sync.fatal", "internal/sync.runtime_Semrelease", "sync/atomic.StoreUint32", "sync/atomic.AddInt64"], unfollowed := true, recurses := true, apart := false }
def PagePutsSaid : Prop := pagePutsRow.holds Try.pinned (OpenSpec.ofChange pagePutsSpec)

/-- ITS FALSE NEIGHBOUR: 'it returns false'. Refute it at one input. -/
def pagePutsWrong : ChangeSpec := { name := "pagePuts", fn := fun _ => fun
  | [d] => { results := [.lit (.bool false)], args := [d] }
  | _ => none }
def PagePutsWrongFalsely : Prop := pagePutsRow.holds Try.pinned (OpenSpec.ofChange pagePutsWrong)

/-- 'lunettelaw04.PageGets': WHATEVER THE INPUT: true; the input reads as it did. -/
def pageGetsSpec : ChangeSpec := { name := "pageGets", fn := fun _ => fun
  | [d1, d2] => { results := [.lit (.bool true)], args := [d1, d2] }
  | _ => none }
def pageGetsRow : OpenClaim := { program := "ytljfomgcoodjkaa", sum := "f8418cc784d91e7f3e7db5e68f4f7f84800e3142a92174bf7ad191e49db9cadd", func := "lunette/lunettelaw04.PageGets", spec := "pageGets", inPlace := ["sync/atomic.LoadUint32", "(*internal/sync.Mutex).Lock", "internal/race.Disable", "sync/atomic.CompareAndSwapInt32", "internal/race.Enable", "internal/race.Acquire", "(*internal/sync.Mutex).lockSlow", "internal/sync.runtime_canSpin", "internal/sync.runtime_doSpin", "internal/sync.throw", "internal/sync.runtime_nanotime", "internal/sync.runtime_SemacquireMutex", "sync/atomic.AddInt32", "(*internal/sync.Mutex).Unlock", "internal/race.ReleaseMerge", "(*internal/sync.Mutex).unlockSlow", "internal/sync.fatal", "internal/sync.runtime_Semrelease", "sync/atomic.StoreUint32", "sync/atomic.AddInt64"], unfollowed := true, recurses := true, apart := false }
def PageGetsSaid : Prop := pageGetsRow.holds Try.pinned (OpenSpec.ofChange pageGetsSpec)

/-- ITS FALSE NEIGHBOUR: 'it returns false'. Refute it at one input. -/
def pageGetsWrong : ChangeSpec := { name := "pageGets", fn := fun _ => fun
  | [d1, d2] => { results := [.lit (.bool false)], args := [d1, d2] }
  | _ => none }
def PageGetsWrongFalsely : Prop := pageGetsRow.holds Try.pinned (OpenSpec.ofChange pageGetsWrong)

/-- 'lunettelaw04.PageTurned': WHATEVER THE INPUT: true; the input reads as it did. -/
def pageTurnedSpec : ChangeSpec := { name := "pageTurned", fn := fun _ => fun
  | [d1, d2, d3] => { results := [.lit (.bool true)], args := [d1, d2, d3] }
  | _ => none }
def pageTurnedRow : OpenClaim := { program := "ytljfomgcoodjkaa", sum := "f8418cc784d91e7f3e7db5e68f4f7f84800e3142a92174bf7ad191e49db9cadd", func := "lunette/lunettelaw04.PageTurned", spec := "pageTurned", inPlace := ["sync/atomic.LoadUint32", "(*internal/sync.Mutex).Lock", "internal/race.Disable", "sync/atomic.CompareAndSwapInt32", "internal/race.Enable", "internal/race.Acquire", "(*internal/sync.Mutex).lockSlow", "internal/sync.runtime_canSpin", "internal/sync.runtime_doSpin", "internal/sync.throw", "internal/sync.runtime_nanotime", "internal/sync.runtime_SemacquireMutex", "sync/atomic.AddInt32", "(*internal/sync.Mutex).Unlock", "internal/race.ReleaseMerge", "(*internal/sync.Mutex).unlockSlow", "internal/sync.fatal", "internal/sync.runtime_Semrelease", "sync/atomic.StoreUint32", "sync/atomic.AddInt64"], unfollowed := true, recurses := true, apart := false }
def PageTurnedSaid : Prop := pageTurnedRow.holds Try.pinned (OpenSpec.ofChange pageTurnedSpec)

/-- ITS FALSE NEIGHBOUR: 'it returns false'. Refute it at one input. -/
def pageTurnedWrong : ChangeSpec := { name := "pageTurned", fn := fun _ => fun
  | [d1, d2, d3] => { results := [.lit (.bool false)], args := [d1, d2, d3] }
  | _ => none }
def PageTurnedWrongFalsely : Prop := pageTurnedRow.holds Try.pinned (OpenSpec.ofChange pageTurnedWrong)

/-- 'lunettelaw04.PageSame': WHATEVER THE INPUT: true; the input reads as it did. -/
def pageSameSpec : ChangeSpec := { name := "pageSame", fn := fun _ => fun
  | [d1, d2] => { results := [.lit (.bool true)], args := [d1, d2] }
  | _ => none }
def pageSameRow : OpenClaim := { program := "ytljfomgcoodjkaa", sum := "f8418cc784d91e7f3e7db5e68f4f7f84800e3142a92174bf7ad191e49db9cadd", func := "lunette/lunettelaw04.PageSame", spec := "pageSame", inPlace := ["sync/atomic.LoadUint32", "(*internal/sync.Mutex).Lock", "internal/race.Disable", "sync/atomic.CompareAndSwapInt32", "internal/race.Enable", "internal/race.Acquire", "(*internal/sync.Mutex).lockSlow", "internal/sync.runtime_canSpin", "internal/sync.runtime_doSpin", "internal/sync.throw", "internal/sync.runtime_nanotime", "internal/sync.runtime_SemacquireMutex", "sync/atomic.AddInt32", "(*internal/sync.Mutex).Unlock", "internal/race.ReleaseMerge", "(*internal/sync.Mutex).unlockSlow", "internal/sync.fatal", "internal/sync.runtime_Semrelease", "sync/atomic.StoreUint32", "sync/atomic.AddInt64"], unfollowed := true, recurses := true, apart := false }
def PageSameSaid : Prop := pageSameRow.holds Try.pinned (OpenSpec.ofChange pageSameSpec)

/-- ITS FALSE NEIGHBOUR: 'it returns false'. Refute it at one input. -/
def pageSameWrong : ChangeSpec := { name := "pageSame", fn := fun _ => fun
  | [d1, d2] => { results := [.lit (.bool false)], args := [d1, d2] }
  | _ => none }
def PageSameWrongFalsely : Prop := pageSameRow.holds Try.pinned (OpenSpec.ofChange pageSameWrong)

/-- 'lunettelaw04.PageRooms': WHATEVER THE INPUT: true; the input reads as it did. -/
def pageRoomsSpec : ChangeSpec := { name := "pageRooms", fn := fun _ => fun
  | [d1, d2] => { results := [.lit (.bool true)], args := [d1, d2] }
  | _ => none }
def pageRoomsRow : OpenClaim := { program := "ytljfomgcoodjkaa", sum := "f8418cc784d91e7f3e7db5e68f4f7f84800e3142a92174bf7ad191e49db9cadd", func := "lunette/lunettelaw04.PageRooms", spec := "pageRooms", inPlace := ["sync/atomic.LoadUint32", "(*internal/sync.Mutex).Lock", "internal/race.Disable", "sync/atomic.CompareAndSwapInt32", "internal/race.Enable", "internal/race.Acquire", "(*internal/sync.Mutex).lockSlow", "internal/sync.runtime_canSpin", "internal/sync.runtime_doSpin", "internal/sync.throw", "internal/sync.runtime_nanotime", "internal/sync.runtime_SemacquireMutex", "sync/atomic.AddInt32", "(*internal/sync.Mutex).Unlock", "internal/race.ReleaseMerge", "(*internal/sync.Mutex).unlockSlow", "internal/sync.fatal", "internal/sync.runtime_Semrelease", "sync/atomic.StoreUint32", "sync/atomic.AddInt64"], unfollowed := true, recurses := true, apart := false }
def PageRoomsSaid : Prop := pageRoomsRow.holds Try.pinned (OpenSpec.ofChange pageRoomsSpec)

/-- ITS FALSE NEIGHBOUR: 'it returns false'. Refute it at one input. -/
def pageRoomsWrong : ChangeSpec := { name := "pageRooms", fn := fun _ => fun
  | [d1, d2] => { results := [.lit (.bool false)], args := [d1, d2] }
  | _ => none }
def PageRoomsWrongFalsely : Prop := pageRoomsRow.holds Try.pinned (OpenSpec.ofChange pageRoomsWrong)

/-- 'lunettelaw04.PageApart': WHATEVER THE INPUT: true; the input reads as it did. -/
def pageApartSpec : ChangeSpec := { name := "pageApart", fn := fun _ => fun
  | [d1, d2] => { results := [.lit (.bool true)], args := [d1, d2] }
  | _ => none }
def pageApartRow : OpenClaim := { program := "ytljfomgcoodjkaa", sum := "f8418cc784d91e7f3e7db5e68f4f7f84800e3142a92174bf7ad191e49db9cadd", func := "lunette/lunettelaw04.PageApart", spec := "pageApart", inPlace := ["sync/atomic.LoadUint32", "(*internal/sync.Mutex).Lock", "internal/race.Disable", "sync/atomic.CompareAndSwapInt32", "internal/race.Enable", "internal/race.Acquire", "(*internal/sync.Mutex).lockSlow", "internal/sync.runtime_canSpin", "internal/sync.runtime_doSpin", "internal/sync.throw", "internal/sync.runtime_nanotime", "internal/sync.runtime_SemacquireMutex", "sync/atomic.AddInt32", "(*internal/sync.Mutex).Unlock", "internal/race.ReleaseMerge", "(*internal/sync.Mutex).unlockSlow", "internal/sync.fatal", "internal/sync.runtime_Semrelease", "sync/atomic.StoreUint32", "sync/atomic.AddInt64"], unfollowed := true, recurses := true, apart := false }
def PageApartSaid : Prop := pageApartRow.holds Try.pinned (OpenSpec.ofChange pageApartSpec)

/-- ITS FALSE NEIGHBOUR: 'it returns false'. Refute it at one input. -/
def pageApartWrong : ChangeSpec := { name := "pageApart", fn := fun _ => fun
  | [d1, d2] => { results := [.lit (.bool false)], args := [d1, d2] }
  | _ => none }
def PageApartWrongFalsely : Prop := pageApartRow.holds Try.pinned (OpenSpec.ofChange pageApartWrong)

/-- 'lunettelaw04.PageMost': WHATEVER THE INPUT: true; the input reads as it did. -/
def pageMostSpec : ChangeSpec := { name := "pageMost", fn := fun _ => fun
  | [d] => { results := [.lit (.bool true)], args := [d] }
  | _ => none }
def pageMostRow : OpenClaim := { program := "ytljfomgcoodjkaa", sum := "f8418cc784d91e7f3e7db5e68f4f7f84800e3142a92174bf7ad191e49db9cadd", func := "lunette/lunettelaw04.PageMost", spec := "pageMost", inPlace := ["sync/atomic.LoadUint32", "(*internal/sync.Mutex).Lock", "internal/race.Disable", "sync/atomic.CompareAndSwapInt32", "internal/race.Enable", "internal/race.Acquire", "(*internal/sync.Mutex).lockSlow", "internal/sync.runtime_canSpin", "internal/sync.runtime_doSpin", "internal/sync.throw", "internal/sync.runtime_nanotime", "internal/sync.runtime_SemacquireMutex", "sync/atomic.AddInt32", "(*internal/sync.Mutex).Unlock", "internal/race.ReleaseMerge", "(*internal/sync.Mutex).unlockSlow", "internal/sync.fatal", "internal/sync.runtime_Semrelease", "sync/atomic.StoreUint32", "sync/atomic.AddInt64"], unfollowed := true, recurses := true, apart := false }
def PageMostSaid : Prop := pageMostRow.holds Try.pinned (OpenSpec.ofChange pageMostSpec)

/-- ITS FALSE NEIGHBOUR: 'it returns false'. Refute it at one input. -/
def pageMostWrong : ChangeSpec := { name := "pageMost", fn := fun _ => fun
  | [d] => { results := [.lit (.bool false)], args := [d] }
  | _ => none }
def PageMostWrongFalsely : Prop := pageMostRow.holds Try.pinned (OpenSpec.ofChange pageMostWrong)

/-- 'lunettelaw07.SuperPuts': WHATEVER THE INPUT: true; the input reads as it did. -/
def superPutsSpec : ChangeSpec := { name := "superPuts", fn := fun _ => fun
  | [d] => { results := [.lit (.bool true)], args := [d] }
  | _ => none }
def superPutsRow : OpenClaim := { program := "ytljfomgcoodjkaa", sum := "f8418cc784d91e7f3e7db5e68f4f7f84800e3142a92174bf7ad191e49db9cadd", func := "lunette/lunettelaw07.SuperPuts", spec := "superPuts", inPlace := ["sync/atomic.LoadUint32", "(*internal/sync.Mutex).Lock", "internal/race.Disable", "sync/atomic.CompareAndSwapInt32", "internal/race.Enable", "internal/race.Acquire", "(*internal/sync.Mutex).lockSlow", "internal/sync.runtime_canSpin", "internal/sync.runtime_doSpin", "internal/sync.throw", "internal/sync.runtime_nanotime", "internal/sync.runtime_SemacquireMutex", "sync/atomic.AddInt32", "(*internal/sync.Mutex).Unlock", "internal/race.ReleaseMerge", "(*internal/sync.Mutex).unlockSlow", "internal/sync.fatal", "internal/sync.runtime_Semrelease", "sync/atomic.StoreUint32", "sync/atomic.AddInt64"], unfollowed := true, recurses := true, apart := false }
def SuperPutsSaid : Prop := superPutsRow.holds Try.pinned (OpenSpec.ofChange superPutsSpec)

/-- ITS FALSE NEIGHBOUR: 'it returns false'. Refute it at one input. -/
def superPutsWrong : ChangeSpec := { name := "superPuts", fn := fun _ => fun
  | [d] => { results := [.lit (.bool false)], args := [d] }
  | _ => none }
def SuperPutsWrongFalsely : Prop := superPutsRow.holds Try.pinned (OpenSpec.ofChange superPutsWrong)

/-- 'lunettelaw07.SuperGets': WHATEVER THE INPUT: true; the input reads as it did. -/
def superGetsSpec : ChangeSpec := { name := "superGets", fn := fun _ => fun
  | [d1, d2] => { results := [.lit (.bool true)], args := [d1, d2] }
  | _ => none }
def superGetsRow : OpenClaim := { program := "ytljfomgcoodjkaa", sum := "f8418cc784d91e7f3e7db5e68f4f7f84800e3142a92174bf7ad191e49db9cadd", func := "lunette/lunettelaw07.SuperGets", spec := "superGets", inPlace := ["sync/atomic.LoadUint32", "(*internal/sync.Mutex).Lock", "internal/race.Disable", "sync/atomic.CompareAndSwapInt32", "internal/race.Enable", "internal/race.Acquire", "(*internal/sync.Mutex).lockSlow", "internal/sync.runtime_canSpin", "internal/sync.runtime_doSpin", "internal/sync.throw", "internal/sync.runtime_nanotime", "internal/sync.runtime_SemacquireMutex", "sync/atomic.AddInt32", "(*internal/sync.Mutex).Unlock", "internal/race.ReleaseMerge", "(*internal/sync.Mutex).unlockSlow", "internal/sync.fatal", "internal/sync.runtime_Semrelease", "sync/atomic.StoreUint32", "sync/atomic.AddInt64"], unfollowed := true, recurses := true, apart := false }
def SuperGetsSaid : Prop := superGetsRow.holds Try.pinned (OpenSpec.ofChange superGetsSpec)

/-- ITS FALSE NEIGHBOUR: 'it returns false'. Refute it at one input. -/
def superGetsWrong : ChangeSpec := { name := "superGets", fn := fun _ => fun
  | [d1, d2] => { results := [.lit (.bool false)], args := [d1, d2] }
  | _ => none }
def SuperGetsWrongFalsely : Prop := superGetsRow.holds Try.pinned (OpenSpec.ofChange superGetsWrong)

/-- 'lunettelaw07.SuperPicks': WHATEVER THE INPUT: true; the input reads as it did. -/
def superPicksSpec : ChangeSpec := { name := "superPicks", fn := fun _ => fun
  | [d1, d2, d3] => { results := [.lit (.bool true)], args := [d1, d2, d3] }
  | _ => none }
def superPicksRow : OpenClaim := { program := "ytljfomgcoodjkaa", sum := "f8418cc784d91e7f3e7db5e68f4f7f84800e3142a92174bf7ad191e49db9cadd", func := "lunette/lunettelaw07.SuperPicks", spec := "superPicks", inPlace := ["sync/atomic.LoadUint32", "(*internal/sync.Mutex).Lock", "internal/race.Disable", "sync/atomic.CompareAndSwapInt32", "internal/race.Enable", "internal/race.Acquire", "(*internal/sync.Mutex).lockSlow", "internal/sync.runtime_canSpin", "internal/sync.runtime_doSpin", "internal/sync.throw", "internal/sync.runtime_nanotime", "internal/sync.runtime_SemacquireMutex", "sync/atomic.AddInt32", "(*internal/sync.Mutex).Unlock", "internal/race.ReleaseMerge", "(*internal/sync.Mutex).unlockSlow", "internal/sync.fatal", "internal/sync.runtime_Semrelease", "sync/atomic.StoreUint32", "sync/atomic.AddInt64"], unfollowed := true, recurses := true, apart := false }
def SuperPicksSaid : Prop := superPicksRow.holds Try.pinned (OpenSpec.ofChange superPicksSpec)

/-- ITS FALSE NEIGHBOUR: 'it returns false'. Refute it at one input. -/
def superPicksWrong : ChangeSpec := { name := "superPicks", fn := fun _ => fun
  | [d1, d2, d3] => { results := [.lit (.bool false)], args := [d1, d2, d3] }
  | _ => none }
def SuperPicksWrongFalsely : Prop := superPicksRow.holds Try.pinned (OpenSpec.ofChange superPicksWrong)

/- THE SECOND FORM. 'bulk': how many values and letters a reading holds, each counted each time it is reached (what is shared counts as often as it is met; a slice's spare places count too). A statement '..UptoSaid' is the law's where the arguments, and the package variables that the reading takes, are together of bulk at most 1048576: NARROWER than '..Said'. Prove '..Said' where nothing that the law and all that it calls make is longer than what came in: it says more and counts as full. Else prove '..UptoSaid'. A law counts once. -/
mutual
def uptoBulk {H : Type} : DataW H → Nat
  | .lit (.string bytes) => bytes.length + 1
  | .lit _ => 1
  | .nil => 1
  | .ptr d => uptoBulk d + 1
  | .slice elems spare => uptoBulkAll elems + uptoBulkAll spare + 1
  | .agg parts => uptoBulkAll parts + 1
  | .iface _ d => uptoBulk d + 1
  | .map entries => uptoBulkEntries entries + 1
  | .held _ => 1
def uptoBulkAll {H : Type} : List (DataW H) → Nat
  | [] => 0
  | d :: r => uptoBulk d + uptoBulkAll r
def uptoBulkEntries {H : Type} : List (Lit × DataW H) → Nat
  | [] => 0
  | x :: r => uptoBulkEntry x + uptoBulkEntries r
def uptoBulkEntry {H : Type} : Lit × DataW H → Nat
  | (.string bytes, d) => bytes.length + uptoBulk d + 1
  | (_, d) => uptoBulk d + 1
 end
def uptoSmall : (H : Type) → List (DataW H) → Bool := fun _ ds => decide (uptoBulkAll ds ≤ 1048576)
def OpenSpec.upto (s : _root_.Go.ChangeSpec) : _root_.Go.OpenSpec := { _root_.Go.OpenSpec.ofChange s with cond := some uptoSmall }

/-- 'lunettelaw02.SumDivides', WHERE WHAT IT READS IS OF BULK AT MOST 1048576: true; the input reads as it did. -/
def sumDividesUptoRow : OpenClaim := { program := "ytljfomgcoodjkaa", sum := "f8418cc784d91e7f3e7db5e68f4f7f84800e3142a92174bf7ad191e49db9cadd", func := "lunette/lunettelaw02.SumDivides", spec := "sumDivides", inPlace := ["sync/atomic.LoadUint32", "(*internal/sync.Mutex).Lock", "internal/race.Disable", "sync/atomic.CompareAndSwapInt32", "internal/race.Enable", "internal/race.Acquire", "(*internal/sync.Mutex).lockSlow", "internal/sync.runtime_canSpin", "internal/sync.runtime_doSpin", "internal/sync.throw", "internal/sync.runtime_nanotime", "internal/sync.runtime_SemacquireMutex", "sync/atomic.AddInt32", "(*internal/sync.Mutex).Unlock", "internal/race.ReleaseMerge", "(*internal/sync.Mutex).unlockSlow", "internal/sync.fatal", "internal/sync.runtime_Semrelease", "sync/atomic.StoreUint32", "sync/atomic.AddInt64", "sync/atomic.LoadInt64"], unfollowed := true, recurses := true, apart := false, narrowed := true }
def SumDividesUptoSaid : Prop := sumDividesUptoRow.holds Try.pinned (OpenSpec.upto sumDividesSpec)

/-- 'lunettelaw02.SumParts', WHERE WHAT IT READS IS OF BULK AT MOST 1048576: true; the input reads as it did. -/
def sumPartsUptoRow : OpenClaim := { program := "ytljfomgcoodjkaa", sum := "f8418cc784d91e7f3e7db5e68f4f7f84800e3142a92174bf7ad191e49db9cadd", func := "lunette/lunettelaw02.SumParts", spec := "sumParts", inPlace := ["sync/atomic.LoadUint32", "(*internal/sync.Mutex).Lock", "internal/race.Disable", "sync/atomic.CompareAndSwapInt32", "internal/race.Enable", "internal/race.Acquire", "(*internal/sync.Mutex).lockSlow", "internal/sync.runtime_canSpin", "internal/sync.runtime_doSpin", "internal/sync.throw", "internal/sync.runtime_nanotime", "internal/sync.runtime_SemacquireMutex", "sync/atomic.AddInt32", "(*internal/sync.Mutex).Unlock", "internal/race.ReleaseMerge", "(*internal/sync.Mutex).unlockSlow", "internal/sync.fatal", "internal/sync.runtime_Semrelease", "sync/atomic.StoreUint32", "sync/atomic.AddInt64", "sync/atomic.LoadInt64"], unfollowed := true, recurses := true, apart := false, narrowed := true }
def SumPartsUptoSaid : Prop := sumPartsUptoRow.holds Try.pinned (OpenSpec.upto sumPartsSpec)

/-- 'lunettelaw02.SumDiffers', WHERE WHAT IT READS IS OF BULK AT MOST 1048576: true; the input reads as it did. -/
def sumDiffersUptoRow : OpenClaim := { program := "ytljfomgcoodjkaa", sum := "f8418cc784d91e7f3e7db5e68f4f7f84800e3142a92174bf7ad191e49db9cadd", func := "lunette/lunettelaw02.SumDiffers", spec := "sumDiffers", inPlace := ["sync/atomic.LoadUint32", "(*internal/sync.Mutex).Lock", "internal/race.Disable", "sync/atomic.CompareAndSwapInt32", "internal/race.Enable", "internal/race.Acquire", "(*internal/sync.Mutex).lockSlow", "internal/sync.runtime_canSpin", "internal/sync.runtime_doSpin", "internal/sync.throw", "internal/sync.runtime_nanotime", "internal/sync.runtime_SemacquireMutex", "sync/atomic.AddInt32", "(*internal/sync.Mutex).Unlock", "internal/race.ReleaseMerge", "(*internal/sync.Mutex).unlockSlow", "internal/sync.fatal", "internal/sync.runtime_Semrelease", "sync/atomic.StoreUint32", "sync/atomic.AddInt64", "sync/atomic.LoadInt64"], unfollowed := true, recurses := true, apart := false, narrowed := true }
def SumDiffersUptoSaid : Prop := sumDiffersUptoRow.holds Try.pinned (OpenSpec.upto sumDiffersSpec)

/-- 'lunettelaw02.SumXor', WHERE WHAT IT READS IS OF BULK AT MOST 1048576: true; the input reads as it did. -/
def sumXorUptoRow : OpenClaim := { program := "ytljfomgcoodjkaa", sum := "f8418cc784d91e7f3e7db5e68f4f7f84800e3142a92174bf7ad191e49db9cadd", func := "lunette/lunettelaw02.SumXor", spec := "sumXor", inPlace := ["sync/atomic.LoadUint32", "(*internal/sync.Mutex).Lock", "internal/race.Disable", "sync/atomic.CompareAndSwapInt32", "internal/race.Enable", "internal/race.Acquire", "(*internal/sync.Mutex).lockSlow", "internal/sync.runtime_canSpin", "internal/sync.runtime_doSpin", "internal/sync.throw", "internal/sync.runtime_nanotime", "internal/sync.runtime_SemacquireMutex", "sync/atomic.AddInt32", "(*internal/sync.Mutex).Unlock", "internal/race.ReleaseMerge", "(*internal/sync.Mutex).unlockSlow", "internal/sync.fatal", "internal/sync.runtime_Semrelease", "sync/atomic.StoreUint32", "sync/atomic.AddInt64", "sync/atomic.LoadInt64"], unfollowed := true, recurses := true, apart := false, narrowed := true }
def SumXorUptoSaid : Prop := sumXorUptoRow.holds Try.pinned (OpenSpec.upto sumXorSpec)

/-- 'lunettelaw07.SuperTorn', WHERE WHAT IT READS IS OF BULK AT MOST 1048576: true; the input reads as it did. -/
def superTornUptoRow : OpenClaim := { program := "ytljfomgcoodjkaa", sum := "f8418cc784d91e7f3e7db5e68f4f7f84800e3142a92174bf7ad191e49db9cadd", func := "lunette/lunettelaw07.SuperTorn", spec := "superTorn", inPlace := ["sync/atomic.LoadUint32", "(*internal/sync.Mutex).Lock", "internal/race.Disable", "sync/atomic.CompareAndSwapInt32", "internal/race.Enable", "internal/race.Acquire", "(*internal/sync.Mutex).lockSlow", "internal/sync.runtime_canSpin", "internal/sync.runtime_doSpin", "internal/sync.throw", "internal/sync.runtime_nanotime", "internal/sync.runtime_SemacquireMutex", "sync/atomic.AddInt32", "(*internal/sync.Mutex).Unlock", "internal/race.ReleaseMerge", "(*internal/sync.Mutex).unlockSlow", "internal/sync.fatal", "internal/sync.runtime_Semrelease", "sync/atomic.StoreUint32", "sync/atomic.AddInt64"], unfollowed := true, recurses := true, apart := false, narrowed := true }
def SuperTornUptoSaid : Prop := superTornUptoRow.holds Try.pinned (OpenSpec.upto superTornSpec)

/-- 'lunettelaw02.SumAlone', WHERE WHAT IT READS IS OF BULK AT MOST 1048576: true; the input reads as it did. -/
def sumAloneUptoRow : OpenClaim := { program := "ytljfomgcoodjkaa", sum := "f8418cc784d91e7f3e7db5e68f4f7f84800e3142a92174bf7ad191e49db9cadd", func := "lunette/lunettelaw02.SumAlone", spec := "sumAlone", inPlace := ["sync/atomic.LoadUint32", "(*internal/sync.Mutex).Lock", "internal/race.Disable", "sync/atomic.CompareAndSwapInt32", "internal/race.Enable", "internal/race.Acquire", "(*internal/sync.Mutex).lockSlow", "internal/sync.runtime_canSpin", "internal/sync.runtime_doSpin", "internal/sync.throw", "internal/sync.runtime_nanotime", "internal/sync.runtime_SemacquireMutex", "sync/atomic.AddInt32", "(*internal/sync.Mutex).Unlock", "internal/race.ReleaseMerge", "(*internal/sync.Mutex).unlockSlow", "internal/sync.fatal", "internal/sync.runtime_Semrelease", "sync/atomic.StoreUint32", "sync/atomic.AddInt64", "sync/atomic.LoadInt64"], unfollowed := true, recurses := true, apart := false, narrowed := true }
def SumAloneUptoSaid : Prop := sumAloneUptoRow.holds Try.pinned (OpenSpec.upto sumAloneSpec)

/-- 'lunettelaw07.SuperTurns', WHERE WHAT IT READS IS OF BULK AT MOST 1048576: true; the input reads as it did. -/
def superTurnsUptoRow : OpenClaim := { program := "ytljfomgcoodjkaa", sum := "f8418cc784d91e7f3e7db5e68f4f7f84800e3142a92174bf7ad191e49db9cadd", func := "lunette/lunettelaw07.SuperTurns", spec := "superTurns", inPlace := ["sync/atomic.LoadUint32", "(*internal/sync.Mutex).Lock", "internal/race.Disable", "sync/atomic.CompareAndSwapInt32", "internal/race.Enable", "internal/race.Acquire", "(*internal/sync.Mutex).lockSlow", "internal/sync.runtime_canSpin", "internal/sync.runtime_doSpin", "internal/sync.throw", "internal/sync.runtime_nanotime", "internal/sync.runtime_SemacquireMutex", "sync/atomic.AddInt32", "(*internal/sync.Mutex).Unlock", "internal/race.ReleaseMerge", "(*internal/sync.Mutex).unlockSlow", "internal/sync.fatal", "internal/sync.runtime_Semrelease", "sync/atomic.StoreUint32", "sync/atomic.AddInt64"], unfollowed := true, recurses := true, apart := false, narrowed := true }
def SuperTurnsUptoSaid : Prop := superTurnsUptoRow.holds Try.pinned (OpenSpec.upto superTurnsSpec)

/-- 'lunettelaw02.SumSplit', WHERE WHAT IT READS IS OF BULK AT MOST 1048576: true; the input reads as it did. -/
def sumSplitUptoRow : OpenClaim := { program := "ytljfomgcoodjkaa", sum := "f8418cc784d91e7f3e7db5e68f4f7f84800e3142a92174bf7ad191e49db9cadd", func := "lunette/lunettelaw02.SumSplit", spec := "sumSplit", inPlace := ["sync/atomic.LoadUint32", "(*internal/sync.Mutex).Lock", "internal/race.Disable", "sync/atomic.CompareAndSwapInt32", "internal/race.Enable", "internal/race.Acquire", "(*internal/sync.Mutex).lockSlow", "internal/sync.runtime_canSpin", "internal/sync.runtime_doSpin", "internal/sync.throw", "internal/sync.runtime_nanotime", "internal/sync.runtime_SemacquireMutex", "sync/atomic.AddInt32", "(*internal/sync.Mutex).Unlock", "internal/race.ReleaseMerge", "(*internal/sync.Mutex).unlockSlow", "internal/sync.fatal", "internal/sync.runtime_Semrelease", "sync/atomic.StoreUint32", "sync/atomic.AddInt64", "sync/atomic.LoadInt64"], unfollowed := true, recurses := true, apart := false, narrowed := true }
def SumSplitUptoSaid : Prop := sumSplitUptoRow.holds Try.pinned (OpenSpec.upto sumSplitSpec)

/-- 'lunettelaw04.PagePuts', WHERE WHAT IT READS IS OF BULK AT MOST 1048576: true; the input reads as it did. -/
def pagePutsUptoRow : OpenClaim := { program := "ytljfomgcoodjkaa", sum := "f8418cc784d91e7f3e7db5e68f4f7f84800e3142a92174bf7ad191e49db9cadd", func := "lunette/lunettelaw04.PagePuts", spec := "pagePuts", inPlace := ["sync/atomic.LoadUint32", "(*internal/sync.Mutex).Lock", "internal/race.Disable", "sync/atomic.CompareAndSwapInt32", "internal/race.Enable", "internal/race.Acquire", "(*internal/sync.Mutex).lockSlow", "internal/sync.runtime_canSpin", "internal/sync.runtime_doSpin", "internal/sync.throw", "internal/sync.runtime_nanotime", "internal/sync.runtime_SemacquireMutex", "sync/atomic.AddInt32", "(*internal/sync.Mutex).Unlock", "internal/race.ReleaseMerge", "(*internal/sync.Mutex).unlockSlow", "internal/sync.fatal", "internal/sync.runtime_Semrelease", "sync/atomic.StoreUint32", "sync/atomic.AddInt64"], unfollowed := true, recurses := true, apart := false, narrowed := true }
def PagePutsUptoSaid : Prop := pagePutsUptoRow.holds Try.pinned (OpenSpec.upto pagePutsSpec)

/-- 'lunettelaw04.PageGets', WHERE WHAT IT READS IS OF BULK AT MOST 1048576: true; the input reads as it did. -/
def pageGetsUptoRow : OpenClaim := { program := "ytljfomgcoodjkaa", sum := "f8418cc784d91e7f3e7db5e68f4f7f84800e3142a92174bf7ad191e49db9cadd", func := "lunette/lunettelaw04.PageGets", spec := "pageGets", inPlace := ["sync/atomic.LoadUint32", "(*internal/sync.Mutex).Lock", "internal/race.Disable", "sync/atomic.CompareAndSwapInt32", "internal/race.Enable", "internal/race.Acquire", "(*internal/sync.Mutex).lockSlow", "internal/sync.runtime_canSpin", "internal/sync.runtime_doSpin", "internal/sync.throw", "internal/sync.runtime_nanotime", "internal/sync.runtime_SemacquireMutex", "sync/atomic.AddInt32", "(*internal/sync.Mutex).Unlock", "internal/race.ReleaseMerge", "(*internal/sync.Mutex).unlockSlow", "internal/sync.fatal", "internal/sync.runtime_Semrelease", "sync/atomic.StoreUint32", "sync/atomic.AddInt64"], unfollowed := true, recurses := true, apart := false, narrowed := true }
def PageGetsUptoSaid : Prop := pageGetsUptoRow.holds Try.pinned (OpenSpec.upto pageGetsSpec)

/-- 'lunettelaw04.PageTurned', WHERE WHAT IT READS IS OF BULK AT MOST 1048576: true; the input reads as it did. -/
def pageTurnedUptoRow : OpenClaim := { program := "ytljfomgcoodjkaa", sum := "f8418cc784d91e7f3e7db5e68f4f7f84800e3142a92174bf7ad191e49db9cadd", func := "lunette/lunettelaw04.PageTurned", spec := "pageTurned", inPlace := ["sync/atomic.LoadUint32", "(*internal/sync.Mutex).Lock", "internal/race.Disable", "sync/atomic.CompareAndSwapInt32", "internal/race.Enable", "internal/race.Acquire", "(*internal/sync.Mutex).lockSlow", "internal/sync.runtime_canSpin", "internal/sync.runtime_doSpin", "internal/sync.throw", "internal/sync.runtime_nanotime", "internal/sync.runtime_SemacquireMutex", "sync/atomic.AddInt32", "(*internal/sync.Mutex).Unlock", "internal/race.ReleaseMerge", "(*internal/sync.Mutex).unlockSlow", "internal/sync.fatal", "internal/sync.runtime_Semrelease", "sync/atomic.StoreUint32", "sync/atomic.AddInt64"], unfollowed := true, recurses := true, apart := false, narrowed := true }
def PageTurnedUptoSaid : Prop := pageTurnedUptoRow.holds Try.pinned (OpenSpec.upto pageTurnedSpec)

/-- 'lunettelaw04.PageSame', WHERE WHAT IT READS IS OF BULK AT MOST 1048576: true; the input reads as it did. -/
def pageSameUptoRow : OpenClaim := { program := "ytljfomgcoodjkaa", sum := "f8418cc784d91e7f3e7db5e68f4f7f84800e3142a92174bf7ad191e49db9cadd", func := "lunette/lunettelaw04.PageSame", spec := "pageSame", inPlace := ["sync/atomic.LoadUint32", "(*internal/sync.Mutex).Lock", "internal/race.Disable", "sync/atomic.CompareAndSwapInt32", "internal/race.Enable", "internal/race.Acquire", "(*internal/sync.Mutex).lockSlow", "internal/sync.runtime_canSpin", "internal/sync.runtime_doSpin", "internal/sync.throw", "internal/sync.runtime_nanotime", "internal/sync.runtime_SemacquireMutex", "sync/atomic.AddInt32", "(*internal/sync.Mutex).Unlock", "internal/race.ReleaseMerge", "(*internal/sync.Mutex).unlockSlow", "internal/sync.fatal", "internal/sync.runtime_Semrelease", "sync/atomic.StoreUint32", "sync/atomic.AddInt64"], unfollowed := true, recurses := true, apart := false, narrowed := true }
def PageSameUptoSaid : Prop := pageSameUptoRow.holds Try.pinned (OpenSpec.upto pageSameSpec)

/-- 'lunettelaw04.PageRooms', WHERE WHAT IT READS IS OF BULK AT MOST 1048576: true; the input reads as it did. -/
def pageRoomsUptoRow : OpenClaim := { program := "ytljfomgcoodjkaa", sum := "f8418cc784d91e7f3e7db5e68f4f7f84800e3142a92174bf7ad191e49db9cadd", func := "lunette/lunettelaw04.PageRooms", spec := "pageRooms", inPlace := ["sync/atomic.LoadUint32", "(*internal/sync.Mutex).Lock", "internal/race.Disable", "sync/atomic.CompareAndSwapInt32", "internal/race.Enable", "internal/race.Acquire", "(*internal/sync.Mutex).lockSlow", "internal/sync.runtime_canSpin", "internal/sync.runtime_doSpin", "internal/sync.throw", "internal/sync.runtime_nanotime", "internal/sync.runtime_SemacquireMutex", "sync/atomic.AddInt32", "(*internal/sync.Mutex).Unlock", "internal/race.ReleaseMerge", "(*internal/sync.Mutex).unlockSlow", "internal/sync.fatal", "internal/sync.runtime_Semrelease", "sync/atomic.StoreUint32", "sync/atomic.AddInt64"], unfollowed := true, recurses := true, apart := false, narrowed := true }
def PageRoomsUptoSaid : Prop := pageRoomsUptoRow.holds Try.pinned (OpenSpec.upto pageRoomsSpec)

/-- 'lunettelaw04.PageApart', WHERE WHAT IT READS IS OF BULK AT MOST 1048576: true; the input reads as it did. -/
def pageApartUptoRow : OpenClaim := { program := "ytljfomgcoodjkaa", sum := "f8418cc784d91e7f3e7db5e68f4f7f84800e3142a92174bf7ad191e49db9cadd", func := "lunette/lunettelaw04.PageApart", spec := "pageApart", inPlace := ["sync/atomic.LoadUint32", "(*internal/sync.Mutex).Lock", "internal/race.Disable", "sync/atomic.CompareAndSwapInt32", "internal/race.Enable", "internal/race.Acquire", "(*internal/sync.Mutex).lockSlow", "internal/sync.runtime_canSpin", "internal/sync.runtime_doSpin", "internal/sync.throw", "internal/sync.runtime_nanotime", "internal/sync.runtime_SemacquireMutex", "sync/atomic.AddInt32", "(*internal/sync.Mutex).Unlock", "internal/race.ReleaseMerge", "(*internal/sync.Mutex).unlockSlow", "internal/sync.fatal", "internal/sync.runtime_Semrelease", "sync/atomic.StoreUint32", "sync/atomic.AddInt64"], unfollowed := true, recurses := true, apart := false, narrowed := true }
def PageApartUptoSaid : Prop := pageApartUptoRow.holds Try.pinned (OpenSpec.upto pageApartSpec)

/-- 'lunettelaw04.PageMost', WHERE WHAT IT READS IS OF BULK AT MOST 1048576: true; the input reads as it did. -/
def pageMostUptoRow : OpenClaim := { program := "ytljfomgcoodjkaa", sum := "f8418cc784d91e7f3e7db5e68f4f7f84800e3142a92174bf7ad191e49db9cadd", func := "lunette/lunettelaw04.PageMost", spec := "pageMost", inPlace := ["sync/atomic.LoadUint32", "(*internal/sync.Mutex).Lock", "internal/race.Disable", "sync/atomic.CompareAndSwapInt32", "internal/race.Enable", "internal/race.Acquire", "(*internal/sync.Mutex).lockSlow", "internal/sync.runtime_canSpin", "internal/sync.runtime_doSpin", "internal/sync.throw", "internal/sync.runtime_nanotime", "internal/sync.runtime_SemacquireMutex", "sync/atomic.AddInt32", "(*internal/sync.Mutex).Unlock", "internal/race.ReleaseMerge", "(*internal/sync.Mutex).unlockSlow", "internal/sync.fatal", "internal/sync.runtime_Semrelease", "sync/atomic.StoreUint32", "sync/atomic.AddInt64"], unfollowed := true, recurses := true, apart := false, narrowed := true }
def PageMostUptoSaid : Prop := pageMostUptoRow.holds Try.pinned (OpenSpec.upto pageMostSpec)

/-- 'lunettelaw07.SuperPuts', WHERE WHAT IT READS IS OF BULK AT MOST 1048576: true; the input reads as it did. -/
def superPutsUptoRow : OpenClaim := { program := "ytljfomgcoodjkaa", sum := "f8418cc784d91e7f3e7db5e68f4f7f84800e3142a92174bf7ad191e49db9cadd", func := "lunette/lunettelaw07.SuperPuts", spec := "superPuts", inPlace := ["sync/atomic.LoadUint32", "(*internal/sync.Mutex).Lock", "internal/race.Disable", "sync/atomic.CompareAndSwapInt32", "internal/race.Enable", "internal/race.Acquire", "(*internal/sync.Mutex).lockSlow", "internal/sync.runtime_canSpin", "internal/sync.runtime_doSpin", "internal/sync.throw", "internal/sync.runtime_nanotime", "internal/sync.runtime_SemacquireMutex", "sync/atomic.AddInt32", "(*internal/sync.Mutex).Unlock", "internal/race.ReleaseMerge", "(*internal/sync.Mutex).unlockSlow", "internal/sync.fatal", "internal/sync.runtime_Semrelease", "sync/atomic.StoreUint32", "sync/atomic.AddInt64"], unfollowed := true, recurses := true, apart := false, narrowed := true }
def SuperPutsUptoSaid : Prop := superPutsUptoRow.holds Try.pinned (OpenSpec.upto superPutsSpec)

/-- 'lunettelaw07.SuperGets', WHERE WHAT IT READS IS OF BULK AT MOST 1048576: true; the input reads as it did. -/
def superGetsUptoRow : OpenClaim := { program := "ytljfomgcoodjkaa", sum := "f8418cc784d91e7f3e7db5e68f4f7f84800e3142a92174bf7ad191e49db9cadd", func := "lunette/lunettelaw07.SuperGets", spec := "superGets", inPlace := ["sync/atomic.LoadUint32", "(*internal/sync.Mutex).Lock", "internal/race.Disable", "sync/atomic.CompareAndSwapInt32", "internal/race.Enable", "internal/race.Acquire", "(*internal/sync.Mutex).lockSlow", "internal/sync.runtime_canSpin", "internal/sync.runtime_doSpin", "internal/sync.throw", "internal/sync.runtime_nanotime", "internal/sync.runtime_SemacquireMutex", "sync/atomic.AddInt32", "(*internal/sync.Mutex).Unlock", "internal/race.ReleaseMerge", "(*internal/sync.Mutex).unlockSlow", "internal/sync.fatal", "internal/sync.runtime_Semrelease", "sync/atomic.StoreUint32", "sync/atomic.AddInt64"], unfollowed := true, recurses := true, apart := false, narrowed := true }
def SuperGetsUptoSaid : Prop := superGetsUptoRow.holds Try.pinned (OpenSpec.upto superGetsSpec)

/-- 'lunettelaw07.SuperPicks', WHERE WHAT IT READS IS OF BULK AT MOST 1048576: true; the input reads as it did. -/
def superPicksUptoRow : OpenClaim := { program := "ytljfomgcoodjkaa", sum := "f8418cc784d91e7f3e7db5e68f4f7f84800e3142a92174bf7ad191e49db9cadd", func := "lunette/lunettelaw07.SuperPicks", spec := "superPicks", inPlace := ["sync/atomic.LoadUint32", "(*internal/sync.Mutex).Lock", "internal/race.Disable", "sync/atomic.CompareAndSwapInt32", "internal/race.Enable", "internal/race.Acquire", "(*internal/sync.Mutex).lockSlow", "internal/sync.runtime_canSpin", "internal/sync.runtime_doSpin", "internal/sync.throw", "internal/sync.runtime_nanotime", "internal/sync.runtime_SemacquireMutex", "sync/atomic.AddInt32", "(*internal/sync.Mutex).Unlock", "internal/race.ReleaseMerge", "(*internal/sync.Mutex).unlockSlow", "internal/sync.fatal", "internal/sync.runtime_Semrelease", "sync/atomic.StoreUint32", "sync/atomic.AddInt64"], unfollowed := true, recurses := true, apart := false, narrowed := true }
def SuperPicksUptoSaid : Prop := superPicksUptoRow.holds Try.pinned (OpenSpec.upto superPicksSpec)

end Rows
end Go.Proofs.Ytljfomgcoodjkaa
