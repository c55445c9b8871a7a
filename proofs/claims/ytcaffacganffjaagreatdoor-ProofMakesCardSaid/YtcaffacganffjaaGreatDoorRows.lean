/-
  NARROWER THAN 'FOR EVERY INPUT', by the rows' own cells (each row's printed sentence says how): ProofMakes: laid · DirectoryApplies: laid · DirectoryOnce: laid · DirectoryApart: laid · DirectoryLooks: laid · DirectoryStays: laid · SignerSigns: laid · SignerAgain: laid.
  DERIVED. THE GIVEN ROWS OF THIS SEAT. 8 by the template 'for every input the law returns true; each argument reads behind the call as it read before'; 0 by the template 'total and deterministic' (their statements: YtcaffacganffjaaGreatDoorTotals.lean).
  GIVEN WITH THE SEED: the statements are not yours to turn. If you find one false, say at which input.
  Laid BY PROGRAM, IN A SANDBOX (cutbox-rows.mjs): the forced cells as the released guide's own fill.sh prints them over the translation 7b17baf26ea24fdd… (all of the seat's roots in one cut). By AI agents, Wed Nov 11 2026. No macro, syntax, notation, axiom, sorry.
-/
import Derived.Test.YtcaffacganffjaaGreatDoorChecked
import GoSem.Claim
import GoSem.ClaimJoined
import GoSem.ClaimMapViews
import Derived.JoinedTies
import Derived.KernelRfl
namespace Go.Proofs.YtcaffacganffjaaGreatDoor
/- THE CELL 'sum', in the pinned program and in every row, IS THE sha256 OF THE DUMP (.gsa) THAT YtcaffacganffjaaGreatDoorProg.lean LOADS. Nothing in Lean hashes anything: it is a label: what it is worth is what the hold of that sum in a sandbox is worth. -/
noncomputable def Tryz.pinned : Pinned := { name := "ytcaffacganffjaagreatdoor", sum := "7b17baf26ea24fdd901a7448b2f59bb7fb767ee5a27dd92900abe3e0c721b957", checked := Tryz.checked }
namespace Rows
def none {H : Type} : Left H := { results := [], args := [] }

/- WHAT THE LISTED PACKAGE-LEVEL VARIABLES READ AS WHEN THE CALL BEGINS. Each datum BY PROGRAM (the guide's laid-datum.mjs) off the statement by which the dump's own 'gosem.cut.vars' lays the variable. In a bare row this is a premise. The card (YtcaffacganffjaaGreatDoorCards.lean) ties it to the program's text. -/
def laid_tabellion_sha_keys {H : Type} : DataW H := .agg [.lit (.int .u32 1116352408), .lit (.int .u32 1899447441), .lit (.int .u32 3049323471), .lit (.int .u32 3921009573), .lit (.int .u32 961987163), .lit (.int .u32 1508970993), .lit (.int .u32 2453635748), .lit (.int .u32 2870763221), .lit (.int .u32 3624381080), .lit (.int .u32 310598401), .lit (.int .u32 607225278), .lit (.int .u32 1426881987), .lit (.int .u32 1925078388), .lit (.int .u32 2162078206), .lit (.int .u32 2614888103), .lit (.int .u32 3248222580), .lit (.int .u32 3835390401), .lit (.int .u32 4022224774), .lit (.int .u32 264347078), .lit (.int .u32 604807628), .lit (.int .u32 770255983), .lit (.int .u32 1249150122), .lit (.int .u32 1555081692), .lit (.int .u32 1996064986), .lit (.int .u32 2554220882), .lit (.int .u32 2821834349), .lit (.int .u32 2952996808), .lit (.int .u32 3210313671), .lit (.int .u32 3336571891), .lit (.int .u32 3584528711), .lit (.int .u32 113926993), .lit (.int .u32 338241895), .lit (.int .u32 666307205), .lit (.int .u32 773529912), .lit (.int .u32 1294757372), .lit (.int .u32 1396182291), .lit (.int .u32 1695183700), .lit (.int .u32 1986661051), .lit (.int .u32 2177026350), .lit (.int .u32 2456956037), .lit (.int .u32 2730485921), .lit (.int .u32 2820302411), .lit (.int .u32 3259730800), .lit (.int .u32 3345764771), .lit (.int .u32 3516065817), .lit (.int .u32 3600352804), .lit (.int .u32 4094571909), .lit (.int .u32 275423344), .lit (.int .u32 430227734), .lit (.int .u32 506948616), .lit (.int .u32 659060556), .lit (.int .u32 883997877), .lit (.int .u32 958139571), .lit (.int .u32 1322822218), .lit (.int .u32 1537002063), .lit (.int .u32 1747873779), .lit (.int .u32 1955562222), .lit (.int .u32 2024104815), .lit (.int .u32 2227730452), .lit (.int .u32 2361852424), .lit (.int .u32 2428436474), .lit (.int .u32 2756734187), .lit (.int .u32 3204031479), .lit (.int .u32 3329325298)]
def laid_tabellion_tabellionref02_key {H : Type} : DataW H := .agg [.lit (.int .u32 1116352408), .lit (.int .u32 1899447441), .lit (.int .u32 3049323471), .lit (.int .u32 3921009573), .lit (.int .u32 961987163), .lit (.int .u32 1508970993), .lit (.int .u32 2453635748), .lit (.int .u32 2870763221), .lit (.int .u32 3624381080), .lit (.int .u32 310598401), .lit (.int .u32 607225278), .lit (.int .u32 1426881987), .lit (.int .u32 1925078388), .lit (.int .u32 2162078206), .lit (.int .u32 2614888103), .lit (.int .u32 3248222580), .lit (.int .u32 3835390401), .lit (.int .u32 4022224774), .lit (.int .u32 264347078), .lit (.int .u32 604807628), .lit (.int .u32 770255983), .lit (.int .u32 1249150122), .lit (.int .u32 1555081692), .lit (.int .u32 1996064986), .lit (.int .u32 2554220882), .lit (.int .u32 2821834349), .lit (.int .u32 2952996808), .lit (.int .u32 3210313671), .lit (.int .u32 3336571891), .lit (.int .u32 3584528711), .lit (.int .u32 113926993), .lit (.int .u32 338241895), .lit (.int .u32 666307205), .lit (.int .u32 773529912), .lit (.int .u32 1294757372), .lit (.int .u32 1396182291), .lit (.int .u32 1695183700), .lit (.int .u32 1986661051), .lit (.int .u32 2177026350), .lit (.int .u32 2456956037), .lit (.int .u32 2730485921), .lit (.int .u32 2820302411), .lit (.int .u32 3259730800), .lit (.int .u32 3345764771), .lit (.int .u32 3516065817), .lit (.int .u32 3600352804), .lit (.int .u32 4094571909), .lit (.int .u32 275423344), .lit (.int .u32 430227734), .lit (.int .u32 506948616), .lit (.int .u32 659060556), .lit (.int .u32 883997877), .lit (.int .u32 958139571), .lit (.int .u32 1322822218), .lit (.int .u32 1537002063), .lit (.int .u32 1747873779), .lit (.int .u32 1955562222), .lit (.int .u32 2024104815), .lit (.int .u32 2227730452), .lit (.int .u32 2361852424), .lit (.int .u32 2428436474), .lit (.int .u32 2756734187), .lit (.int .u32 3204031479), .lit (.int .u32 3329325298)]

/-- 'tabellionlaw06.ProofMakes': WHATEVER THE INPUT: true; the input reads as it did. -/
def proofMakesSpec : ChangeSpec := { name := "proofMakes", fn := fun _ => fun
  | [d1, d2, d3] => { results := [.lit (.bool true)], args := [d1, d2, d3] }
  | _ => none }
def proofMakesRow : OpenClaim := { program := "ytcaffacganffjaagreatdoor", sum := "7b17baf26ea24fdd901a7448b2f59bb7fb767ee5a27dd92900abe3e0c721b957", func := "tabellion/tabellionlaw06.ProofMakes", spec := "proofMakes", inPlace := ["sync/atomic.LoadUint32", "(*internal/sync.Mutex).Lock", "internal/race.Disable", "sync/atomic.CompareAndSwapInt32", "internal/race.Enable", "internal/race.Acquire", "(*internal/sync.Mutex).lockSlow", "internal/sync.runtime_canSpin", "internal/sync.runtime_doSpin", "internal/sync.throw", "internal/sync.runtime_nanotime", "internal/sync.runtime_SemacquireMutex", "sync/atomic.AddInt32", "(*internal/sync.Mutex).Unlock", "internal/race.ReleaseMerge", "(*internal/sync.Mutex).unlockSlow", "internal/sync.fatal", "internal/sync.runtime_Semrelease", "sync/atomic.StoreUint32"], unfollowed := true, recurses := true, named := ["tabellion/sha.keys", "tabellion/tabellionref02.key"], apart := false, laid := [("tabellion/sha.keys", laid_tabellion_sha_keys), ("tabellion/tabellionref02.key", laid_tabellion_tabellionref02_key)] }
def ProofMakesSaid : Prop := proofMakesRow.holds Tryz.pinned (OpenSpec.ofChange proofMakesSpec)

/-- ITS FALSE NEIGHBOUR: 'it returns false'. Refute it at one input. -/
def proofMakesWrong : ChangeSpec := { name := "proofMakes", fn := fun _ => fun
  | [d1, d2, d3] => { results := [.lit (.bool false)], args := [d1, d2, d3] }
  | _ => none }
def ProofMakesWrongFalsely : Prop := proofMakesRow.holds Tryz.pinned (OpenSpec.ofChange proofMakesWrong)

/-- 'tabellionlaw10.DirectoryApplies': WHATEVER THE INPUT: true; the input reads as it did. -/
def directoryAppliesSpec : ChangeSpec := { name := "directoryApplies", fn := fun _ => fun
  | [d1, d2] => { results := [.lit (.bool true)], args := [d1, d2] }
  | _ => none }
def directoryAppliesRow : OpenClaim := { program := "ytcaffacganffjaagreatdoor", sum := "7b17baf26ea24fdd901a7448b2f59bb7fb767ee5a27dd92900abe3e0c721b957", func := "tabellion/tabellionlaw10.DirectoryApplies", spec := "directoryApplies", inPlace := ["sync/atomic.LoadUint32", "(*internal/sync.Mutex).Lock", "internal/race.Disable", "sync/atomic.CompareAndSwapInt32", "internal/race.Enable", "internal/race.Acquire", "(*internal/sync.Mutex).lockSlow", "internal/sync.runtime_canSpin", "internal/sync.runtime_doSpin", "internal/sync.throw", "internal/sync.runtime_nanotime", "internal/sync.runtime_SemacquireMutex", "sync/atomic.AddInt32", "(*internal/sync.Mutex).Unlock", "internal/race.ReleaseMerge", "(*internal/sync.Mutex).unlockSlow", "internal/sync.fatal", "internal/sync.runtime_Semrelease", "sync/atomic.StoreUint32", "slices.overlaps[tabellion/api.Session]", "internal/bytealg.abigen_runtime_cmpstring", "slices.overlaps[tabellion/api.User]"], unfollowed := true, recurses := true, named := ["tabellion/sha.keys", "tabellion/tabellionref02.key"], apart := false, laid := [("tabellion/sha.keys", laid_tabellion_sha_keys), ("tabellion/tabellionref02.key", laid_tabellion_tabellionref02_key)] }
def DirectoryAppliesSaid : Prop := directoryAppliesRow.holds Tryz.pinned (OpenSpec.ofChange directoryAppliesSpec)

/-- ITS FALSE NEIGHBOUR: 'it returns false'. Refute it at one input. -/
def directoryAppliesWrong : ChangeSpec := { name := "directoryApplies", fn := fun _ => fun
  | [d1, d2] => { results := [.lit (.bool false)], args := [d1, d2] }
  | _ => none }
def DirectoryAppliesWrongFalsely : Prop := directoryAppliesRow.holds Tryz.pinned (OpenSpec.ofChange directoryAppliesWrong)

/-- 'tabellionlaw10.DirectoryOnce': WHATEVER THE INPUT: true; the input reads as it did. -/
def directoryOnceSpec : ChangeSpec := { name := "directoryOnce", fn := fun _ => fun
  | [d1, d2, d3, d4] => { results := [.lit (.bool true)], args := [d1, d2, d3, d4] }
  | _ => none }
def directoryOnceRow : OpenClaim := { program := "ytcaffacganffjaagreatdoor", sum := "7b17baf26ea24fdd901a7448b2f59bb7fb767ee5a27dd92900abe3e0c721b957", func := "tabellion/tabellionlaw10.DirectoryOnce", spec := "directoryOnce", inPlace := ["sync/atomic.LoadUint32", "(*internal/sync.Mutex).Lock", "internal/race.Disable", "sync/atomic.CompareAndSwapInt32", "internal/race.Enable", "internal/race.Acquire", "(*internal/sync.Mutex).lockSlow", "internal/sync.runtime_canSpin", "internal/sync.runtime_doSpin", "internal/sync.throw", "internal/sync.runtime_nanotime", "internal/sync.runtime_SemacquireMutex", "sync/atomic.AddInt32", "(*internal/sync.Mutex).Unlock", "internal/race.ReleaseMerge", "(*internal/sync.Mutex).unlockSlow", "internal/sync.fatal", "internal/sync.runtime_Semrelease", "sync/atomic.StoreUint32", "slices.overlaps[tabellion/api.Session]", "internal/bytealg.abigen_runtime_cmpstring", "slices.overlaps[tabellion/api.User]"], unfollowed := true, recurses := true, named := ["tabellion/sha.keys"], apart := false, laid := [("tabellion/sha.keys", laid_tabellion_sha_keys)] }
def DirectoryOnceSaid : Prop := directoryOnceRow.holds Tryz.pinned (OpenSpec.ofChange directoryOnceSpec)

/-- ITS FALSE NEIGHBOUR: 'it returns false'. Refute it at one input. -/
def directoryOnceWrong : ChangeSpec := { name := "directoryOnce", fn := fun _ => fun
  | [d1, d2, d3, d4] => { results := [.lit (.bool false)], args := [d1, d2, d3, d4] }
  | _ => none }
def DirectoryOnceWrongFalsely : Prop := directoryOnceRow.holds Tryz.pinned (OpenSpec.ofChange directoryOnceWrong)

/-- 'tabellionlaw10.DirectoryApart': WHATEVER THE INPUT: true; the input reads as it did. -/
def directoryApartSpec : ChangeSpec := { name := "directoryApart", fn := fun _ => fun
  | [d1, d2, d3] => { results := [.lit (.bool true)], args := [d1, d2, d3] }
  | _ => none }
def directoryApartRow : OpenClaim := { program := "ytcaffacganffjaagreatdoor", sum := "7b17baf26ea24fdd901a7448b2f59bb7fb767ee5a27dd92900abe3e0c721b957", func := "tabellion/tabellionlaw10.DirectoryApart", spec := "directoryApart", inPlace := ["sync/atomic.LoadUint32", "(*internal/sync.Mutex).Lock", "internal/race.Disable", "sync/atomic.CompareAndSwapInt32", "internal/race.Enable", "internal/race.Acquire", "(*internal/sync.Mutex).lockSlow", "internal/sync.runtime_canSpin", "internal/sync.runtime_doSpin", "internal/sync.throw", "internal/sync.runtime_nanotime", "internal/sync.runtime_SemacquireMutex", "sync/atomic.AddInt32", "(*internal/sync.Mutex).Unlock", "internal/race.ReleaseMerge", "(*internal/sync.Mutex).unlockSlow", "internal/sync.fatal", "internal/sync.runtime_Semrelease", "sync/atomic.StoreUint32", "slices.overlaps[tabellion/api.Session]", "internal/bytealg.abigen_runtime_cmpstring", "slices.overlaps[tabellion/api.User]"], unfollowed := true, recurses := true, named := ["tabellion/sha.keys"], apart := false, laid := [("tabellion/sha.keys", laid_tabellion_sha_keys)] }
def DirectoryApartSaid : Prop := directoryApartRow.holds Tryz.pinned (OpenSpec.ofChange directoryApartSpec)

/-- ITS FALSE NEIGHBOUR: 'it returns false'. Refute it at one input. -/
def directoryApartWrong : ChangeSpec := { name := "directoryApart", fn := fun _ => fun
  | [d1, d2, d3] => { results := [.lit (.bool false)], args := [d1, d2, d3] }
  | _ => none }
def DirectoryApartWrongFalsely : Prop := directoryApartRow.holds Tryz.pinned (OpenSpec.ofChange directoryApartWrong)

/-- 'tabellionlaw10.DirectoryLooks': WHATEVER THE INPUT: true; the input reads as it did. -/
def directoryLooksSpec : ChangeSpec := { name := "directoryLooks", fn := fun _ => fun
  | [d1, d2, d3] => { results := [.lit (.bool true)], args := [d1, d2, d3] }
  | _ => none }
def directoryLooksRow : OpenClaim := { program := "ytcaffacganffjaagreatdoor", sum := "7b17baf26ea24fdd901a7448b2f59bb7fb767ee5a27dd92900abe3e0c721b957", func := "tabellion/tabellionlaw10.DirectoryLooks", spec := "directoryLooks", inPlace := ["sync/atomic.LoadUint32", "(*internal/sync.Mutex).Lock", "internal/race.Disable", "sync/atomic.CompareAndSwapInt32", "internal/race.Enable", "internal/race.Acquire", "(*internal/sync.Mutex).lockSlow", "internal/sync.runtime_canSpin", "internal/sync.runtime_doSpin", "internal/sync.throw", "internal/sync.runtime_nanotime", "internal/sync.runtime_SemacquireMutex", "sync/atomic.AddInt32", "(*internal/sync.Mutex).Unlock", "internal/race.ReleaseMerge", "(*internal/sync.Mutex).unlockSlow", "internal/sync.fatal", "internal/sync.runtime_Semrelease", "sync/atomic.StoreUint32", "internal/bytealg.abigen_runtime_cmpstring", "slices.overlaps[tabellion/api.Session]", "slices.overlaps[tabellion/api.User]"], unfollowed := true, recurses := true, named := ["tabellion/sha.keys", "tabellion/tabellionref02.key"], apart := false, laid := [("tabellion/sha.keys", laid_tabellion_sha_keys), ("tabellion/tabellionref02.key", laid_tabellion_tabellionref02_key)] }
def DirectoryLooksSaid : Prop := directoryLooksRow.holds Tryz.pinned (OpenSpec.ofChange directoryLooksSpec)

/-- ITS FALSE NEIGHBOUR: 'it returns false'. Refute it at one input. -/
def directoryLooksWrong : ChangeSpec := { name := "directoryLooks", fn := fun _ => fun
  | [d1, d2, d3] => { results := [.lit (.bool false)], args := [d1, d2, d3] }
  | _ => none }
def DirectoryLooksWrongFalsely : Prop := directoryLooksRow.holds Tryz.pinned (OpenSpec.ofChange directoryLooksWrong)

/-- 'tabellionlaw10.DirectoryStays': WHATEVER THE INPUT: true; the input reads as it did. -/
def directoryStaysSpec : ChangeSpec := { name := "directoryStays", fn := fun _ => fun
  | [d1, d2, d3, d4] => { results := [.lit (.bool true)], args := [d1, d2, d3, d4] }
  | _ => none }
def directoryStaysRow : OpenClaim := { program := "ytcaffacganffjaagreatdoor", sum := "7b17baf26ea24fdd901a7448b2f59bb7fb767ee5a27dd92900abe3e0c721b957", func := "tabellion/tabellionlaw10.DirectoryStays", spec := "directoryStays", inPlace := ["sync/atomic.LoadUint32", "(*internal/sync.Mutex).Lock", "internal/race.Disable", "sync/atomic.CompareAndSwapInt32", "internal/race.Enable", "internal/race.Acquire", "(*internal/sync.Mutex).lockSlow", "internal/sync.runtime_canSpin", "internal/sync.runtime_doSpin", "internal/sync.throw", "internal/sync.runtime_nanotime", "internal/sync.runtime_SemacquireMutex", "sync/atomic.AddInt32", "(*internal/sync.Mutex).Unlock", "internal/race.ReleaseMerge", "(*internal/sync.Mutex).unlockSlow", "internal/sync.fatal", "internal/sync.runtime_Semrelease", "sync/atomic.StoreUint32", "internal/bytealg.abigen_runtime_cmpstring", "slices.overlaps[tabellion/api.Session]", "slices.overlaps[tabellion/api.User]"], unfollowed := true, recurses := true, named := ["tabellion/sha.keys"], apart := false, laid := [("tabellion/sha.keys", laid_tabellion_sha_keys)] }
def DirectoryStaysSaid : Prop := directoryStaysRow.holds Tryz.pinned (OpenSpec.ofChange directoryStaysSpec)

/-- ITS FALSE NEIGHBOUR: 'it returns false'. Refute it at one input. -/
def directoryStaysWrong : ChangeSpec := { name := "directoryStays", fn := fun _ => fun
  | [d1, d2, d3, d4] => { results := [.lit (.bool false)], args := [d1, d2, d3, d4] }
  | _ => none }
def DirectoryStaysWrongFalsely : Prop := directoryStaysRow.holds Tryz.pinned (OpenSpec.ofChange directoryStaysWrong)

/-- 'tabellionlaw19.SignerSigns': WHATEVER THE INPUT: true; the input reads as it did. -/
def signerSignsSpec : ChangeSpec := { name := "signerSigns", fn := fun _ => fun
  | [d1, d2, d3, d4] => { results := [.lit (.bool true)], args := [d1, d2, d3, d4] }
  | _ => none }
def signerSignsRow : OpenClaim := { program := "ytcaffacganffjaagreatdoor", sum := "7b17baf26ea24fdd901a7448b2f59bb7fb767ee5a27dd92900abe3e0c721b957", func := "tabellion/tabellionlaw19.SignerSigns", spec := "signerSigns", inPlace := ["sync/atomic.LoadUint32", "(*internal/sync.Mutex).Lock", "internal/race.Disable", "sync/atomic.CompareAndSwapInt32", "internal/race.Enable", "internal/race.Acquire", "(*internal/sync.Mutex).lockSlow", "internal/sync.runtime_canSpin", "internal/sync.runtime_doSpin", "internal/sync.throw", "internal/sync.runtime_nanotime", "internal/sync.runtime_SemacquireMutex", "sync/atomic.AddInt32", "(*internal/sync.Mutex).Unlock", "internal/race.ReleaseMerge", "(*internal/sync.Mutex).unlockSlow", "internal/sync.fatal", "internal/sync.runtime_Semrelease", "sync/atomic.StoreUint32", "slices.overlaps[tabellion/api.Session]", "internal/bytealg.abigen_runtime_cmpstring", "slices.overlaps[tabellion/api.User]"], unfollowed := true, recurses := true, named := ["tabellion/sha.keys", "tabellion/tabellionref02.key"], apart := false, laid := [("tabellion/sha.keys", laid_tabellion_sha_keys), ("tabellion/tabellionref02.key", laid_tabellion_tabellionref02_key)] }
def SignerSignsSaid : Prop := signerSignsRow.holds Tryz.pinned (OpenSpec.ofChange signerSignsSpec)

/-- ITS FALSE NEIGHBOUR: 'it returns false'. Refute it at one input. -/
def signerSignsWrong : ChangeSpec := { name := "signerSigns", fn := fun _ => fun
  | [d1, d2, d3, d4] => { results := [.lit (.bool false)], args := [d1, d2, d3, d4] }
  | _ => none }
def SignerSignsWrongFalsely : Prop := signerSignsRow.holds Tryz.pinned (OpenSpec.ofChange signerSignsWrong)

/-- 'tabellionlaw19.SignerAgain': WHATEVER THE INPUT: true; the input reads as it did. -/
def signerAgainSpec : ChangeSpec := { name := "signerAgain", fn := fun _ => fun
  | [d1, d2, d3, d4, d5] => { results := [.lit (.bool true)], args := [d1, d2, d3, d4, d5] }
  | _ => none }
def signerAgainRow : OpenClaim := { program := "ytcaffacganffjaagreatdoor", sum := "7b17baf26ea24fdd901a7448b2f59bb7fb767ee5a27dd92900abe3e0c721b957", func := "tabellion/tabellionlaw19.SignerAgain", spec := "signerAgain", inPlace := ["sync/atomic.LoadUint32", "(*internal/sync.Mutex).Lock", "internal/race.Disable", "sync/atomic.CompareAndSwapInt32", "internal/race.Enable", "internal/race.Acquire", "(*internal/sync.Mutex).lockSlow", "internal/sync.runtime_canSpin", "internal/sync.runtime_doSpin", "internal/sync.throw", "internal/sync.runtime_nanotime", "internal/sync.runtime_SemacquireMutex", "sync/atomic.AddInt32", "(*internal/sync.Mutex).Unlock", "internal/race.ReleaseMerge", "(*internal/sync.Mutex).unlockSlow", "internal/sync.fatal", "internal/sync.runtime_Semrelease", "sync/atomic.StoreUint32", "slices.overlaps[tabellion/api.Session]", "internal/bytealg.abigen_runtime_cmpstring", "slices.overlaps[tabellion/api.User]"], unfollowed := true, recurses := true, named := ["tabellion/sha.keys"], apart := false, laid := [("tabellion/sha.keys", laid_tabellion_sha_keys)] }
def SignerAgainSaid : Prop := signerAgainRow.holds Tryz.pinned (OpenSpec.ofChange signerAgainSpec)

/-- ITS FALSE NEIGHBOUR: 'it returns false'. Refute it at one input. -/
def signerAgainWrong : ChangeSpec := { name := "signerAgain", fn := fun _ => fun
  | [d1, d2, d3, d4, d5] => { results := [.lit (.bool false)], args := [d1, d2, d3, d4, d5] }
  | _ => none }
def SignerAgainWrongFalsely : Prop := signerAgainRow.holds Tryz.pinned (OpenSpec.ofChange signerAgainWrong)

/- THE SECOND FORM. 'bulk': how many values and letters a reading holds, each counted each time it is reached (what is shared counts as often as it is met; a slice's spare places count too). A statement '..UptoSaid' is the law's where the arguments, and the package variables that the reading takes, are together of bulk at most 1048576: NARROWER than '..Said'. Prove '..Said' where nothing that the law and all that it calls make is longer than what came in: it says more and counts as full. Else prove '..UptoSaid'. A law counts once. -/
mutual
def uptoBulk {H : Type} : DataW H → Nat
  | .lit (.string bytes) => bytes.length + 1
  | .lit _ => 1
  | .nil => 1
  | .ptr d => uptoBulk d + 1
  | .slice elems spare => uptoBulkAll elems + uptoBulkAll spare + 1
  | .agg parts => uptoBulkAll parts + 1
  | .iface _ d => uptoBulk d + 1
  | .map entries => uptoBulkEntries entries + 1
  | .held _ => 1
def uptoBulkAll {H : Type} : List (DataW H) → Nat
  | [] => 0
  | d :: r => uptoBulk d + uptoBulkAll r
def uptoBulkEntries {H : Type} : List (Lit × DataW H) → Nat
  | [] => 0
  | x :: r => uptoBulkEntry x + uptoBulkEntries r
def uptoBulkEntry {H : Type} : Lit × DataW H → Nat
  | (.string bytes, d) => bytes.length + uptoBulk d + 1
  | (_, d) => uptoBulk d + 1
 end
def uptoSmall : (H : Type) → List (DataW H) → Bool := fun _ ds => decide (uptoBulkAll ds ≤ 1048576)
def OpenSpec.upto (s : _root_.Go.ChangeSpec) : _root_.Go.OpenSpec := { _root_.Go.OpenSpec.ofChange s with cond := some uptoSmall }

/-- 'tabellionlaw06.ProofMakes', WHERE WHAT IT READS IS OF BULK AT MOST 1048576: true; the input reads as it did. -/
def proofMakesUptoRow : OpenClaim := { program := "ytcaffacganffjaagreatdoor", sum := "7b17baf26ea24fdd901a7448b2f59bb7fb767ee5a27dd92900abe3e0c721b957", func := "tabellion/tabellionlaw06.ProofMakes", spec := "proofMakes", inPlace := ["sync/atomic.LoadUint32", "(*internal/sync.Mutex).Lock", "internal/race.Disable", "sync/atomic.CompareAndSwapInt32", "internal/race.Enable", "internal/race.Acquire", "(*internal/sync.Mutex).lockSlow", "internal/sync.runtime_canSpin", "internal/sync.runtime_doSpin", "internal/sync.throw", "internal/sync.runtime_nanotime", "internal/sync.runtime_SemacquireMutex", "sync/atomic.AddInt32", "(*internal/sync.Mutex).Unlock", "internal/race.ReleaseMerge", "(*internal/sync.Mutex).unlockSlow", "internal/sync.fatal", "internal/sync.runtime_Semrelease", "sync/atomic.StoreUint32"], unfollowed := true, recurses := true, named := ["tabellion/sha.keys", "tabellion/tabellionref02.key"], apart := false, laid := [("tabellion/sha.keys", laid_tabellion_sha_keys), ("tabellion/tabellionref02.key", laid_tabellion_tabellionref02_key)], narrowed := true }
def ProofMakesUptoSaid : Prop := proofMakesUptoRow.holds Tryz.pinned (OpenSpec.upto proofMakesSpec)

/-- 'tabellionlaw10.DirectoryApplies', WHERE WHAT IT READS IS OF BULK AT MOST 1048576: true; the input reads as it did. -/
def directoryAppliesUptoRow : OpenClaim := { program := "ytcaffacganffjaagreatdoor", sum := "7b17baf26ea24fdd901a7448b2f59bb7fb767ee5a27dd92900abe3e0c721b957", func := "tabellion/tabellionlaw10.DirectoryApplies", spec := "directoryApplies", inPlace := ["sync/atomic.LoadUint32", "(*internal/sync.Mutex).Lock", "internal/race.Disable", "sync/atomic.CompareAndSwapInt32", "internal/race.Enable", "internal/race.Acquire", "(*internal/sync.Mutex).lockSlow", "internal/sync.runtime_canSpin", "internal/sync.runtime_doSpin", "internal/sync.throw", "internal/sync.runtime_nanotime", "internal/sync.runtime_SemacquireMutex", "sync/atomic.AddInt32", "(*internal/sync.Mutex).Unlock", "internal/race.ReleaseMerge", "(*internal/sync.Mutex).unlockSlow", "internal/sync.fatal", "internal/sync.runtime_Semrelease", "sync/atomic.StoreUint32", "slices.overlaps[tabellion/api.Session]", "internal/bytealg.abigen_runtime_cmpstring", "slices.overlaps[tabellion/api.User]"], unfollowed := true, recurses := true, named := ["tabellion/sha.keys", "tabellion/tabellionref02.key"], apart := false, laid := [("tabellion/sha.keys", laid_tabellion_sha_keys), ("tabellion/tabellionref02.key", laid_tabellion_tabellionref02_key)], narrowed := true }
def DirectoryAppliesUptoSaid : Prop := directoryAppliesUptoRow.holds Tryz.pinned (OpenSpec.upto directoryAppliesSpec)

/-- 'tabellionlaw10.DirectoryOnce', WHERE WHAT IT READS IS OF BULK AT MOST 1048576: true; the input reads as it did. -/
def directoryOnceUptoRow : OpenClaim := { program := "ytcaffacganffjaagreatdoor", sum := "7b17baf26ea24fdd901a7448b2f59bb7fb767ee5a27dd92900abe3e0c721b957", func := "tabellion/tabellionlaw10.DirectoryOnce", spec := "directoryOnce", inPlace := ["sync/atomic.LoadUint32", "(*internal/sync.Mutex).Lock", "internal/race.Disable", "sync/atomic.CompareAndSwapInt32", "internal/race.Enable", "internal/race.Acquire", "(*internal/sync.Mutex).lockSlow", "internal/sync.runtime_canSpin", "internal/sync.runtime_doSpin", "internal/sync.throw", "internal/sync.runtime_nanotime", "internal/sync.runtime_SemacquireMutex", "sync/atomic.AddInt32", "(*internal/sync.Mutex).Unlock", "internal/race.ReleaseMerge", "(*internal/sync.Mutex).unlockSlow", "internal/sync.fatal", "internal/sync.runtime_Semrelease", "sync/atomic.StoreUint32", "slices.overlaps[tabellion/api.Session]", "internal/bytealg.abigen_runtime_cmpstring", "slices.overlaps[tabellion/api.User]"], unfollowed := true, recurses := true, named := ["tabellion/sha.keys"], apart := false, laid := [("tabellion/sha.keys", laid_tabellion_sha_keys)], narrowed := true }
def DirectoryOnceUptoSaid : Prop := directoryOnceUptoRow.holds Tryz.pinned (OpenSpec.upto directoryOnceSpec)

/-- 'tabellionlaw10.DirectoryApart', WHERE WHAT IT READS IS OF BULK AT MOST 1048576: true; the input reads as it did. -/
def directoryApartUptoRow : OpenClaim := { program := "ytcaffacganffjaagreatdoor", sum := "7b17baf26ea24fdd901a7448b2f59bb7fb767ee5a27dd92900abe3e0c721b957", func := "tabellion/tabellionlaw10.DirectoryApart", spec := "directoryApart", inPlace := ["sync/atomic.LoadUint32", "(*internal/sync.Mutex).Lock", "internal/race.Disable", "sync/atomic.CompareAndSwapInt32", "internal/race.Enable", "internal/race.Acquire", "(*internal/sync.Mutex).lockSlow", "internal/sync.runtime_canSpin", "internal/sync.runtime_doSpin", "internal/sync.throw", "internal/sync.runtime_nanotime", "internal/sync.runtime_SemacquireMutex", "sync/atomic.AddInt32", "(*internal/sync.Mutex).Unlock", "internal/race.ReleaseMerge", "(*internal/sync.Mutex).unlockSlow", "internal/sync.fatal", "internal/sync.runtime_Semrelease", "sync/atomic.StoreUint32", "slices.overlaps[tabellion/api.Session]", "internal/bytealg.abigen_runtime_cmpstring", "slices.overlaps[tabellion/api.User]"], unfollowed := true, recurses := true, named := ["tabellion/sha.keys"], apart := false, laid := [("tabellion/sha.keys", laid_tabellion_sha_keys)], narrowed := true }
def DirectoryApartUptoSaid : Prop := directoryApartUptoRow.holds Tryz.pinned (OpenSpec.upto directoryApartSpec)

/-- 'tabellionlaw10.DirectoryLooks', WHERE WHAT IT READS IS OF BULK AT MOST 1048576: true; the input reads as it did. -/
def directoryLooksUptoRow : OpenClaim := { program := "ytcaffacganffjaagreatdoor", sum := "7b17baf26ea24fdd901a7448b2f59bb7fb767ee5a27dd92900abe3e0c721b957", func := "tabellion/tabellionlaw10.DirectoryLooks", spec := "directoryLooks", inPlace := ["sync/atomic.LoadUint32", "(*internal/sync.Mutex).Lock", "internal/race.Disable", "sync/atomic.CompareAndSwapInt32", "internal/race.Enable", "internal/race.Acquire", "(*internal/sync.Mutex).lockSlow", "internal/sync.runtime_canSpin", "internal/sync.runtime_doSpin", "internal/sync.throw", "internal/sync.runtime_nanotime", "internal/sync.runtime_SemacquireMutex", "sync/atomic.AddInt32", "(*internal/sync.Mutex).Unlock", "internal/race.ReleaseMerge", "(*internal/sync.Mutex).unlockSlow", "internal/sync.fatal", "internal/sync.runtime_Semrelease", "sync/atomic.StoreUint32", "internal/bytealg.abigen_runtime_cmpstring", "slices.overlaps[tabellion/api.Session]", "slices.overlaps[tabellion/api.User]"], unfollowed := true, recurses := true, named := ["tabellion/sha.keys", "tabellion/tabellionref02.key"], apart := false, laid := [("tabellion/sha.keys", laid_tabellion_sha_keys), ("tabellion/tabellionref02.key", laid_tabellion_tabellionref02_key)], narrowed := true }
def DirectoryLooksUptoSaid : Prop := directoryLooksUptoRow.holds Tryz.pinned (OpenSpec.upto directoryLooksSpec)

/-- 'tabellionlaw10.DirectoryStays', WHERE WHAT IT READS IS OF BULK AT MOST 1048576: true; the input reads as it did. -/
def directoryStaysUptoRow : OpenClaim := { program := "ytcaffacganffjaagreatdoor", sum := "7b17baf26ea24fdd901a7448b2f59bb7fb767ee5a27dd92900abe3e0c721b957", func := "tabellion/tabellionlaw10.DirectoryStays", spec := "directoryStays", inPlace := ["sync/atomic.LoadUint32", "(*internal/sync.Mutex).Lock", "internal/race.Disable", "sync/atomic.CompareAndSwapInt32", "internal/race.Enable", "internal/race.Acquire", "(*internal/sync.Mutex).lockSlow", "internal/sync.runtime_canSpin", "internal/sync.runtime_doSpin", "internal/sync.throw", "internal/sync.runtime_nanotime", "internal/sync.runtime_SemacquireMutex", "sync/atomic.AddInt32", "(*internal/sync.Mutex).Unlock", "internal/race.ReleaseMerge", "(*internal/sync.Mutex).unlockSlow", "internal/sync.fatal", "internal/sync.runtime_Semrelease", "sync/atomic.StoreUint32", "internal/bytealg.abigen_runtime_cmpstring", "slices.overlaps[tabellion/api.Session]", "slices.overlaps[tabellion/api.User]"], unfollowed := true, recurses := true, named := ["tabellion/sha.keys"], apart := false, laid := [("tabellion/sha.keys", laid_tabellion_sha_keys)], narrowed := true }
def DirectoryStaysUptoSaid : Prop := directoryStaysUptoRow.holds Tryz.pinned (OpenSpec.upto directoryStaysSpec)

/-- 'tabellionlaw19.SignerSigns', WHERE WHAT IT READS IS OF BULK AT MOST 1048576: true; the input reads as it did. -/
def signerSignsUptoRow : OpenClaim := { program := "ytcaffacganffjaagreatdoor", sum := "7b17baf26ea24fdd901a7448b2f59bb7fb767ee5a27dd92900abe3e0c721b957", func := "tabellion/tabellionlaw19.SignerSigns", spec := "signerSigns", inPlace := ["sync/atomic.LoadUint32", "(*internal/sync.Mutex).Lock", "internal/race.Disable", "sync/atomic.CompareAndSwapInt32", "internal/race.Enable", "internal/race.Acquire", "(*internal/sync.Mutex).lockSlow", "internal/sync.runtime_canSpin", "internal/sync.runtime_doSpin", "internal/sync.throw", "internal/sync.runtime_nanotime", "internal/sync.runtime_SemacquireMutex", "sync/atomic.AddInt32", "(*internal/sync.Mutex).Unlock", "internal/race.ReleaseMerge", "(*internal/sync.Mutex).unlockSlow", "internal/sync.fatal", "internal/sync.runtime_Semrelease", "sync/atomic.StoreUint32", "slices.overlaps[tabellion/api.Session]", "internal/bytealg.abigen_runtime_cmpstring", "slices.overlaps[tabellion/api.User]"], unfollowed := true, recurses := true, named := ["tabellion/sha.keys", "tabellion/tabellionref02.key"], apart := false, laid := [("tabellion/sha.keys", laid_tabellion_sha_keys), ("tabellion/tabellionref02.key", laid_tabellion_tabellionref02_key)], narrowed := true }
def SignerSignsUptoSaid : Prop := signerSignsUptoRow.holds Tryz.pinned (OpenSpec.upto signerSignsSpec)

/-- 'tabellionlaw19.SignerAgain', WHERE WHAT IT READS IS OF BULK AT MOST 1048576: true; the input reads as it did. -/
def signerAgainUptoRow : OpenClaim := { program := "ytcaffacganffjaagreatdoor", sum := "7b17baf26ea24fdd901a7448b2f59bb7fb767ee5a27dd92900abe3e0c721b957", func := "tabellion/tabellionlaw19.SignerAgain", spec := "signerAgain", inPlace := ["sync/atomic.LoadUint32", "(*internal/sync.Mutex).Lock", "internal/race.Disable", "sync/atomic.CompareAndSwapInt32", "internal/race.Enable", "internal/race.Acquire", "(*internal/sync.Mutex).lockSlow", "internal/sync.runtime_canSpin", "internal/sync.runtime_doSpin", "internal/sync.throw", "internal/sync.runtime_nanotime", "internal/sync.runtime_SemacquireMutex", "sync/atomic.AddInt32", "(*internal/sync.Mutex).Unlock", "internal/race.ReleaseMerge", "(*internal/sync.Mutex).unlockSlow", "internal/sync.fatal", "internal/sync.runtime_Semrelease", "sync/atomic.StoreUint32", "slices.overlaps[tabellion/api.Session]", "internal/bytealg.abigen_runtime_cmpstring", "slices.overlaps[tabellion/api.User]"], unfollowed := true, recurses := true, named := ["tabellion/sha.keys"], apart := false, laid := [("tabellion/sha.keys", laid_tabellion_sha_keys)], narrowed := true }
def SignerAgainUptoSaid : Prop := signerAgainUptoRow.holds Tryz.pinned (OpenSpec.upto signerAgainSpec)

end Rows
end Go.Proofs.YtcaffacganffjaaGreatDoor
