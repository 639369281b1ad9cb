/-
  No cell of these rows narrows 'for every input' (looked for: loops, veiled, ifaces, maps, wideKeys, modest, calm, conditions, laid).
  DERIVED. THE GIVEN ROWS OF THIS SEAT. 18 by the template 'for every input the law returns true; each argument reads behind the call as it read before'; 0 by the template 'total and deterministic' (their statements: YtgpifbdjcoiilaaTotals.lean).
  GIVEN WITH THE SEED: the statements are not yours to turn. If you find one false, say at which input.
  Laid BY PROGRAM, IN A SANDBOX (cutbox-rows.mjs): the forced cells as the released guide's own fill.sh prints them over the translation cba14bf4037571fd… (all of the seat's roots in one cut). By AI agents, Wed Nov 11 2026. No macro, syntax, notation, axiom, sorry.
-/
import Derived.Test.YtgpifbdjcoiilaaChecked
import GoSem.Claim
import GoSem.ClaimJoined
import GoSem.ClaimMapViews
import Derived.JoinedTies
import Derived.KernelRfl
namespace Go.Proofs.Ytgpifbdjcoiilaa
/- THE CELL 'sum', in the pinned program and in every row, IS THE sha256 OF THE DUMP (.gsa) THAT YtgpifbdjcoiilaaProg.lean LOADS. Nothing in Lean hashes anything: it is a label: what it is worth is what the hold of that sum in a sandbox is worth. -/
noncomputable def Try.pinned : Pinned := { name := "ytgpifbdjcoiilaa", sum := "cba14bf4037571fd49d66ad5b067bb9233b9c5a226907a8922b5e249f2ae45de", checked := Try.checked }
namespace Rows
def none {H : Type} : Left H := { results := [], args := [] }

/-- 'clepsydralaw02.VlqBack': WHATEVER THE INPUT: true; the input reads as it did. -/
def vlqBackSpec : ChangeSpec := { name := "vlqBack", fn := fun _ => fun
  | [d1, d2, d3, d4] => { results := [.lit (.bool true)], args := [d1, d2, d3, d4] }
  | _ => none }
def vlqBackRow : OpenClaim := { program := "ytgpifbdjcoiilaa", sum := "cba14bf4037571fd49d66ad5b067bb9233b9c5a226907a8922b5e249f2ae45de", func := "clepsydra/clepsydralaw02.VlqBack", spec := "vlqBack", inPlace := ["internal/abi.NoEscape"], unfollowed := true, recurses := true, apart := false }
def VlqBackSaid : Prop := vlqBackRow.holds Try.pinned (OpenSpec.ofChange vlqBackSpec)

/-- ITS FALSE NEIGHBOUR: 'it returns false'. Refute it at one input. -/
def vlqBackWrong : ChangeSpec := { name := "vlqBack", fn := fun _ => fun
  | [d1, d2, d3, d4] => { results := [.lit (.bool false)], args := [d1, d2, d3, d4] }
  | _ => none }
def VlqBackWrongFalsely : Prop := vlqBackRow.holds Try.pinned (OpenSpec.ofChange vlqBackWrong)

/-- 'clepsydralaw02.VlqCuts': WHATEVER THE INPUT: true; the input reads as it did. -/
def vlqCutsSpec : ChangeSpec := { name := "vlqCuts", fn := fun _ => fun
  | [d1, d2] => { results := [.lit (.bool true)], args := [d1, d2] }
  | _ => none }
def vlqCutsRow : OpenClaim := { program := "ytgpifbdjcoiilaa", sum := "cba14bf4037571fd49d66ad5b067bb9233b9c5a226907a8922b5e249f2ae45de", func := "clepsydra/clepsydralaw02.VlqCuts", spec := "vlqCuts", inPlace := ["internal/abi.NoEscape"], unfollowed := true, recurses := true, apart := false }
def VlqCutsSaid : Prop := vlqCutsRow.holds Try.pinned (OpenSpec.ofChange vlqCutsSpec)

/-- ITS FALSE NEIGHBOUR: 'it returns false'. Refute it at one input. -/
def vlqCutsWrong : ChangeSpec := { name := "vlqCuts", fn := fun _ => fun
  | [d1, d2] => { results := [.lit (.bool false)], args := [d1, d2] }
  | _ => none }
def VlqCutsWrongFalsely : Prop := vlqCutsRow.holds Try.pinned (OpenSpec.ofChange vlqCutsWrong)

/-- 'clepsydralaw02.VlqOnce': WHATEVER THE INPUT: true; the input reads as it did. -/
def vlqOnceSpec : ChangeSpec := { name := "vlqOnce", fn := fun _ => fun
  | [d1, d2] => { results := [.lit (.bool true)], args := [d1, d2] }
  | _ => none }
def vlqOnceRow : OpenClaim := { program := "ytgpifbdjcoiilaa", sum := "cba14bf4037571fd49d66ad5b067bb9233b9c5a226907a8922b5e249f2ae45de", func := "clepsydra/clepsydralaw02.VlqOnce", spec := "vlqOnce", inPlace := ["internal/abi.NoEscape"], unfollowed := true, recurses := true, apart := false }
def VlqOnceSaid : Prop := vlqOnceRow.holds Try.pinned (OpenSpec.ofChange vlqOnceSpec)

/-- ITS FALSE NEIGHBOUR: 'it returns false'. Refute it at one input. -/
def vlqOnceWrong : ChangeSpec := { name := "vlqOnce", fn := fun _ => fun
  | [d1, d2] => { results := [.lit (.bool false)], args := [d1, d2] }
  | _ => none }
def VlqOnceWrongFalsely : Prop := vlqOnceRow.holds Try.pinned (OpenSpec.ofChange vlqOnceWrong)

/-- 'clepsydralaw02.VlqOrder': WHATEVER THE INPUT: true; the input reads as it did. -/
def vlqOrderSpec : ChangeSpec := { name := "vlqOrder", fn := fun _ => fun
  | [d1, d2] => { results := [.lit (.bool true)], args := [d1, d2] }
  | _ => none }
def vlqOrderRow : OpenClaim := { program := "ytgpifbdjcoiilaa", sum := "cba14bf4037571fd49d66ad5b067bb9233b9c5a226907a8922b5e249f2ae45de", func := "clepsydra/clepsydralaw02.VlqOrder", spec := "vlqOrder", inPlace := ["internal/abi.NoEscape"], unfollowed := true, recurses := true, apart := false }
def VlqOrderSaid : Prop := vlqOrderRow.holds Try.pinned (OpenSpec.ofChange vlqOrderSpec)

/-- ITS FALSE NEIGHBOUR: 'it returns false'. Refute it at one input. -/
def vlqOrderWrong : ChangeSpec := { name := "vlqOrder", fn := fun _ => fun
  | [d1, d2] => { results := [.lit (.bool false)], args := [d1, d2] }
  | _ => none }
def VlqOrderWrongFalsely : Prop := vlqOrderRow.holds Try.pinned (OpenSpec.ofChange vlqOrderWrong)

/-- 'clepsydralaw02.VlqReads': WHATEVER THE INPUT: true; the input reads as it did. -/
def vlqReadsSpec : ChangeSpec := { name := "vlqReads", fn := fun _ => fun
  | [d1, d2] => { results := [.lit (.bool true)], args := [d1, d2] }
  | _ => none }
def vlqReadsRow : OpenClaim := { program := "ytgpifbdjcoiilaa", sum := "cba14bf4037571fd49d66ad5b067bb9233b9c5a226907a8922b5e249f2ae45de", func := "clepsydra/clepsydralaw02.VlqReads", spec := "vlqReads", inPlace := ["internal/abi.NoEscape"], unfollowed := true, recurses := true, apart := false }
def VlqReadsSaid : Prop := vlqReadsRow.holds Try.pinned (OpenSpec.ofChange vlqReadsSpec)

/-- ITS FALSE NEIGHBOUR: 'it returns false'. Refute it at one input. -/
def vlqReadsWrong : ChangeSpec := { name := "vlqReads", fn := fun _ => fun
  | [d1, d2] => { results := [.lit (.bool false)], args := [d1, d2] }
  | _ => none }
def VlqReadsWrongFalsely : Prop := vlqReadsRow.holds Try.pinned (OpenSpec.ofChange vlqReadsWrong)

/-- 'clepsydralaw02.VlqWrites': WHATEVER THE INPUT: true; the input reads as it did. -/
def vlqWritesSpec : ChangeSpec := { name := "vlqWrites", fn := fun _ => fun
  | [d1, d2] => { results := [.lit (.bool true)], args := [d1, d2] }
  | _ => none }
def vlqWritesRow : OpenClaim := { program := "ytgpifbdjcoiilaa", sum := "cba14bf4037571fd49d66ad5b067bb9233b9c5a226907a8922b5e249f2ae45de", func := "clepsydra/clepsydralaw02.VlqWrites", spec := "vlqWrites", inPlace := ["internal/abi.NoEscape"], unfollowed := true, recurses := true, apart := false }
def VlqWritesSaid : Prop := vlqWritesRow.holds Try.pinned (OpenSpec.ofChange vlqWritesSpec)

/-- ITS FALSE NEIGHBOUR: 'it returns false'. Refute it at one input. -/
def vlqWritesWrong : ChangeSpec := { name := "vlqWrites", fn := fun _ => fun
  | [d1, d2] => { results := [.lit (.bool false)], args := [d1, d2] }
  | _ => none }
def VlqWritesWrongFalsely : Prop := vlqWritesRow.holds Try.pinned (OpenSpec.ofChange vlqWritesWrong)

/-- 'clepsydralaw03.SealBack': WHATEVER THE INPUT: true; the input reads as it did. -/
def sealBackSpec : ChangeSpec := { name := "sealBack", fn := fun _ => fun
  | [d] => { results := [.lit (.bool true)], args := [d] }
  | _ => none }
def sealBackRow : OpenClaim := { program := "ytgpifbdjcoiilaa", sum := "cba14bf4037571fd49d66ad5b067bb9233b9c5a226907a8922b5e249f2ae45de", func := "clepsydra/clepsydralaw03.SealBack", spec := "sealBack", inPlace := ["internal/abi.NoEscape"], unfollowed := true, recurses := true, apart := false }
def SealBackSaid : Prop := sealBackRow.holds Try.pinned (OpenSpec.ofChange sealBackSpec)

/-- ITS FALSE NEIGHBOUR: 'it returns false'. Refute it at one input. -/
def sealBackWrong : ChangeSpec := { name := "sealBack", fn := fun _ => fun
  | [d] => { results := [.lit (.bool false)], args := [d] }
  | _ => none }
def SealBackWrongFalsely : Prop := sealBackRow.holds Try.pinned (OpenSpec.ofChange sealBackWrong)

/-- 'clepsydralaw03.SealOnce': WHATEVER THE INPUT: true; the input reads as it did. -/
def sealOnceSpec : ChangeSpec := { name := "sealOnce", fn := fun _ => fun
  | [d] => { results := [.lit (.bool true)], args := [d] }
  | _ => none }
def sealOnceRow : OpenClaim := { program := "ytgpifbdjcoiilaa", sum := "cba14bf4037571fd49d66ad5b067bb9233b9c5a226907a8922b5e249f2ae45de", func := "clepsydra/clepsydralaw03.SealOnce", spec := "sealOnce", inPlace := ["internal/abi.NoEscape"], unfollowed := true, recurses := true, apart := false }
def SealOnceSaid : Prop := sealOnceRow.holds Try.pinned (OpenSpec.ofChange sealOnceSpec)

/-- ITS FALSE NEIGHBOUR: 'it returns false'. Refute it at one input. -/
def sealOnceWrong : ChangeSpec := { name := "sealOnce", fn := fun _ => fun
  | [d] => { results := [.lit (.bool false)], args := [d] }
  | _ => none }
def SealOnceWrongFalsely : Prop := sealOnceRow.holds Try.pinned (OpenSpec.ofChange sealOnceWrong)

/-- 'clepsydralaw03.SealReads': WHATEVER THE INPUT: true; the input reads as it did. -/
def sealReadsSpec : ChangeSpec := { name := "sealReads", fn := fun _ => fun
  | [d1, d2] => { results := [.lit (.bool true)], args := [d1, d2] }
  | _ => none }
def sealReadsRow : OpenClaim := { program := "ytgpifbdjcoiilaa", sum := "cba14bf4037571fd49d66ad5b067bb9233b9c5a226907a8922b5e249f2ae45de", func := "clepsydra/clepsydralaw03.SealReads", spec := "sealReads", apart := false }
def SealReadsSaid : Prop := sealReadsRow.holds Try.pinned (OpenSpec.ofChange sealReadsSpec)

/-- ITS FALSE NEIGHBOUR: 'it returns false'. Refute it at one input. -/
def sealReadsWrong : ChangeSpec := { name := "sealReads", fn := fun _ => fun
  | [d1, d2] => { results := [.lit (.bool false)], args := [d1, d2] }
  | _ => none }
def SealReadsWrongFalsely : Prop := sealReadsRow.holds Try.pinned (OpenSpec.ofChange sealReadsWrong)

/-- 'clepsydralaw03.SealRows': WHATEVER THE INPUT: true; the input reads as it did. -/
def sealRowsSpec : ChangeSpec := { name := "sealRows", fn := fun _ => fun
  | [d] => { results := [.lit (.bool true)], args := [d] }
  | _ => none }
def sealRowsRow : OpenClaim := { program := "ytgpifbdjcoiilaa", sum := "cba14bf4037571fd49d66ad5b067bb9233b9c5a226907a8922b5e249f2ae45de", func := "clepsydra/clepsydralaw03.SealRows", spec := "sealRows", apart := false }
def SealRowsSaid : Prop := sealRowsRow.holds Try.pinned (OpenSpec.ofChange sealRowsSpec)

/-- ITS FALSE NEIGHBOUR: 'it returns false'. Refute it at one input. -/
def sealRowsWrong : ChangeSpec := { name := "sealRows", fn := fun _ => fun
  | [d] => { results := [.lit (.bool false)], args := [d] }
  | _ => none }
def SealRowsWrongFalsely : Prop := sealRowsRow.holds Try.pinned (OpenSpec.ofChange sealRowsWrong)

/-- 'clepsydralaw03.SealSums': WHATEVER THE INPUT: true; the input reads as it did. -/
def sealSumsSpec : ChangeSpec := { name := "sealSums", fn := fun _ => fun
  | [d] => { results := [.lit (.bool true)], args := [d] }
  | _ => none }
def sealSumsRow : OpenClaim := { program := "ytgpifbdjcoiilaa", sum := "cba14bf4037571fd49d66ad5b067bb9233b9c5a226907a8922b5e249f2ae45de", func := "clepsydra/clepsydralaw03.SealSums", spec := "sealSums", inPlace := ["internal/abi.NoEscape"], unfollowed := true, recurses := true, apart := false }
def SealSumsSaid : Prop := sealSumsRow.holds Try.pinned (OpenSpec.ofChange sealSumsSpec)

/-- ITS FALSE NEIGHBOUR: 'it returns false'. Refute it at one input. -/
def sealSumsWrong : ChangeSpec := { name := "sealSums", fn := fun _ => fun
  | [d] => { results := [.lit (.bool false)], args := [d] }
  | _ => none }
def SealSumsWrongFalsely : Prop := sealSumsRow.holds Try.pinned (OpenSpec.ofChange sealSumsWrong)

/-- 'clepsydralaw03.SealTorn': WHATEVER THE INPUT: true; the input reads as it did. -/
def sealTornSpec : ChangeSpec := { name := "sealTorn", fn := fun _ => fun
  | [d1, d2, d3, d4] => { results := [.lit (.bool true)], args := [d1, d2, d3, d4] }
  | _ => none }
def sealTornRow : OpenClaim := { program := "ytgpifbdjcoiilaa", sum := "cba14bf4037571fd49d66ad5b067bb9233b9c5a226907a8922b5e249f2ae45de", func := "clepsydra/clepsydralaw03.SealTorn", spec := "sealTorn", inPlace := ["internal/abi.NoEscape"], unfollowed := true, recurses := true, apart := false }
def SealTornSaid : Prop := sealTornRow.holds Try.pinned (OpenSpec.ofChange sealTornSpec)

/-- ITS FALSE NEIGHBOUR: 'it returns false'. Refute it at one input. -/
def sealTornWrong : ChangeSpec := { name := "sealTorn", fn := fun _ => fun
  | [d1, d2, d3, d4] => { results := [.lit (.bool false)], args := [d1, d2, d3, d4] }
  | _ => none }
def SealTornWrongFalsely : Prop := sealTornRow.holds Try.pinned (OpenSpec.ofChange sealTornWrong)

/-- 'clepsydralaw04.ItemBack': WHATEVER THE INPUT: true; the input reads as it did. -/
def itemBackSpec : ChangeSpec := { name := "itemBack", fn := fun _ => fun
  | [d] => { results := [.lit (.bool true)], args := [d] }
  | _ => none }
def itemBackRow : OpenClaim := { program := "ytgpifbdjcoiilaa", sum := "cba14bf4037571fd49d66ad5b067bb9233b9c5a226907a8922b5e249f2ae45de", func := "clepsydra/clepsydralaw04.ItemBack", spec := "itemBack", inPlace := ["internal/abi.NoEscape"], unfollowed := true, recurses := true, apart := false }
def ItemBackSaid : Prop := itemBackRow.holds Try.pinned (OpenSpec.ofChange itemBackSpec)

/-- ITS FALSE NEIGHBOUR: 'it returns false'. Refute it at one input. -/
def itemBackWrong : ChangeSpec := { name := "itemBack", fn := fun _ => fun
  | [d] => { results := [.lit (.bool false)], args := [d] }
  | _ => none }
def ItemBackWrongFalsely : Prop := itemBackRow.holds Try.pinned (OpenSpec.ofChange itemBackWrong)

/-- 'clepsydralaw04.ItemMore': WHATEVER THE INPUT: true; the input reads as it did. -/
def itemMoreSpec : ChangeSpec := { name := "itemMore", fn := fun _ => fun
  | [d1, d2] => { results := [.lit (.bool true)], args := [d1, d2] }
  | _ => none }
def itemMoreRow : OpenClaim := { program := "ytgpifbdjcoiilaa", sum := "cba14bf4037571fd49d66ad5b067bb9233b9c5a226907a8922b5e249f2ae45de", func := "clepsydra/clepsydralaw04.ItemMore", spec := "itemMore", inPlace := ["internal/abi.NoEscape"], unfollowed := true, recurses := true, apart := false }
def ItemMoreSaid : Prop := itemMoreRow.holds Try.pinned (OpenSpec.ofChange itemMoreSpec)

/-- ITS FALSE NEIGHBOUR: 'it returns false'. Refute it at one input. -/
def itemMoreWrong : ChangeSpec := { name := "itemMore", fn := fun _ => fun
  | [d1, d2] => { results := [.lit (.bool false)], args := [d1, d2] }
  | _ => none }
def ItemMoreWrongFalsely : Prop := itemMoreRow.holds Try.pinned (OpenSpec.ofChange itemMoreWrong)

/-- 'clepsydralaw04.ItemOnce': WHATEVER THE INPUT: true; the input reads as it did. -/
def itemOnceSpec : ChangeSpec := { name := "itemOnce", fn := fun _ => fun
  | [d] => { results := [.lit (.bool true)], args := [d] }
  | _ => none }
def itemOnceRow : OpenClaim := { program := "ytgpifbdjcoiilaa", sum := "cba14bf4037571fd49d66ad5b067bb9233b9c5a226907a8922b5e249f2ae45de", func := "clepsydra/clepsydralaw04.ItemOnce", spec := "itemOnce", inPlace := ["internal/abi.NoEscape"], unfollowed := true, recurses := true, apart := false }
def ItemOnceSaid : Prop := itemOnceRow.holds Try.pinned (OpenSpec.ofChange itemOnceSpec)

/-- ITS FALSE NEIGHBOUR: 'it returns false'. Refute it at one input. -/
def itemOnceWrong : ChangeSpec := { name := "itemOnce", fn := fun _ => fun
  | [d] => { results := [.lit (.bool false)], args := [d] }
  | _ => none }
def ItemOnceWrongFalsely : Prop := itemOnceRow.holds Try.pinned (OpenSpec.ofChange itemOnceWrong)

/-- 'clepsydralaw04.ItemReads': WHATEVER THE INPUT: true; the input reads as it did. -/
def itemReadsSpec : ChangeSpec := { name := "itemReads", fn := fun _ => fun
  | [d] => { results := [.lit (.bool true)], args := [d] }
  | _ => none }
def itemReadsRow : OpenClaim := { program := "ytgpifbdjcoiilaa", sum := "cba14bf4037571fd49d66ad5b067bb9233b9c5a226907a8922b5e249f2ae45de", func := "clepsydra/clepsydralaw04.ItemReads", spec := "itemReads", unfollowed := true, recurses := true, apart := false }
def ItemReadsSaid : Prop := itemReadsRow.holds Try.pinned (OpenSpec.ofChange itemReadsSpec)

/-- ITS FALSE NEIGHBOUR: 'it returns false'. Refute it at one input. -/
def itemReadsWrong : ChangeSpec := { name := "itemReads", fn := fun _ => fun
  | [d] => { results := [.lit (.bool false)], args := [d] }
  | _ => none }
def ItemReadsWrongFalsely : Prop := itemReadsRow.holds Try.pinned (OpenSpec.ofChange itemReadsWrong)

/-- 'clepsydralaw04.ItemRights': WHATEVER THE INPUT: true; the input reads as it did. -/
def itemRightsSpec : ChangeSpec := { name := "itemRights", fn := fun _ => fun
  | [d1, d2] => { results := [.lit (.bool true)], args := [d1, d2] }
  | _ => none }
def itemRightsRow : OpenClaim := { program := "ytgpifbdjcoiilaa", sum := "cba14bf4037571fd49d66ad5b067bb9233b9c5a226907a8922b5e249f2ae45de", func := "clepsydra/clepsydralaw04.ItemRights", spec := "itemRights", apart := false }
def ItemRightsSaid : Prop := itemRightsRow.holds Try.pinned (OpenSpec.ofChange itemRightsSpec)

/-- ITS FALSE NEIGHBOUR: 'it returns false'. Refute it at one input. -/
def itemRightsWrong : ChangeSpec := { name := "itemRights", fn := fun _ => fun
  | [d1, d2] => { results := [.lit (.bool false)], args := [d1, d2] }
  | _ => none }
def ItemRightsWrongFalsely : Prop := itemRightsRow.holds Try.pinned (OpenSpec.ofChange itemRightsWrong)

/-- 'clepsydralaw04.ItemWrites': WHATEVER THE INPUT: true; the input reads as it did. -/
def itemWritesSpec : ChangeSpec := { name := "itemWrites", fn := fun _ => fun
  | [d] => { results := [.lit (.bool true)], args := [d] }
  | _ => none }
def itemWritesRow : OpenClaim := { program := "ytgpifbdjcoiilaa", sum := "cba14bf4037571fd49d66ad5b067bb9233b9c5a226907a8922b5e249f2ae45de", func := "clepsydra/clepsydralaw04.ItemWrites", spec := "itemWrites", inPlace := ["internal/abi.NoEscape"], unfollowed := true, recurses := true, apart := false }
def ItemWritesSaid : Prop := itemWritesRow.holds Try.pinned (OpenSpec.ofChange itemWritesSpec)

/-- ITS FALSE NEIGHBOUR: 'it returns false'. Refute it at one input. -/
def itemWritesWrong : ChangeSpec := { name := "itemWrites", fn := fun _ => fun
  | [d] => { results := [.lit (.bool false)], args := [d] }
  | _ => none }
def ItemWritesWrongFalsely : Prop := itemWritesRow.holds Try.pinned (OpenSpec.ofChange itemWritesWrong)

/- THE SECOND FORM. 'bulk': how many values and letters a reading holds, each counted each time it is reached (what is shared counts as often as it is met; a slice's spare places count too). A statement '..UptoSaid' is the law's where the arguments, and the package variables that the reading takes, are together of bulk at most 1048576: NARROWER than '..Said'. Prove '..Said' where nothing that the law and all that it calls make is longer than what came in: it says more and counts as full. Else prove '..UptoSaid'. A law counts once. -/
mutual
def uptoBulk {H : Type} : DataW H → Nat
  | .lit (.string bytes) => bytes.length + 1
  | .lit _ => 1
  | .nil => 1
  | .ptr d => uptoBulk d + 1
  | .slice elems spare => uptoBulkAll elems + uptoBulkAll spare + 1
  | .agg parts => uptoBulkAll parts + 1
  | .iface _ d => uptoBulk d + 1
  | .map entries => uptoBulkEntries entries + 1
  | .held _ => 1
def uptoBulkAll {H : Type} : List (DataW H) → Nat
  | [] => 0
  | d :: r => uptoBulk d + uptoBulkAll r
def uptoBulkEntries {H : Type} : List (Lit × DataW H) → Nat
  | [] => 0
  | x :: r => uptoBulkEntry x + uptoBulkEntries r
def uptoBulkEntry {H : Type} : Lit × DataW H → Nat
  | (.string bytes, d) => bytes.length + uptoBulk d + 1
  | (_, d) => uptoBulk d + 1
 end
def uptoSmall : (H : Type) → List (DataW H) → Bool := fun _ ds => decide (uptoBulkAll ds ≤ 1048576)
def OpenSpec.upto (s : _root_.Go.ChangeSpec) : _root_.Go.OpenSpec := { _root_.Go.OpenSpec.ofChange s with cond := some uptoSmall }

/-- 'clepsydralaw02.VlqBack', WHERE WHAT IT READS IS OF BULK AT MOST 1048576: true; the input reads as it did. -/
def vlqBackUptoRow : OpenClaim := { program := "ytgpifbdjcoiilaa", sum := "cba14bf4037571fd49d66ad5b067bb9233b9c5a226907a8922b5e249f2ae45de", func := "clepsydra/clepsydralaw02.VlqBack", spec := "vlqBack", inPlace := ["internal/abi.NoEscape"], unfollowed := true, recurses := true, apart := false, narrowed := true }
def VlqBackUptoSaid : Prop := vlqBackUptoRow.holds Try.pinned (OpenSpec.upto vlqBackSpec)

/-- 'clepsydralaw02.VlqCuts', WHERE WHAT IT READS IS OF BULK AT MOST 1048576: true; the input reads as it did. -/
def vlqCutsUptoRow : OpenClaim := { program := "ytgpifbdjcoiilaa", sum := "cba14bf4037571fd49d66ad5b067bb9233b9c5a226907a8922b5e249f2ae45de", func := "clepsydra/clepsydralaw02.VlqCuts", spec := "vlqCuts", inPlace := ["internal/abi.NoEscape"], unfollowed := true, recurses := true, apart := false, narrowed := true }
def VlqCutsUptoSaid : Prop := vlqCutsUptoRow.holds Try.pinned (OpenSpec.upto vlqCutsSpec)

/-- 'clepsydralaw02.VlqOnce', WHERE WHAT IT READS IS OF BULK AT MOST 1048576: true; the input reads as it did. -/
def vlqOnceUptoRow : OpenClaim := { program := "ytgpifbdjcoiilaa", sum := "cba14bf4037571fd49d66ad5b067bb9233b9c5a226907a8922b5e249f2ae45de", func := "clepsydra/clepsydralaw02.VlqOnce", spec := "vlqOnce", inPlace := ["internal/abi.NoEscape"], unfollowed := true, recurses := true, apart := false, narrowed := true }
def VlqOnceUptoSaid : Prop := vlqOnceUptoRow.holds Try.pinned (OpenSpec.upto vlqOnceSpec)

/-- 'clepsydralaw02.VlqOrder', WHERE WHAT IT READS IS OF BULK AT MOST 1048576: true; the input reads as it did. -/
def vlqOrderUptoRow : OpenClaim := { program := "ytgpifbdjcoiilaa", sum := "cba14bf4037571fd49d66ad5b067bb9233b9c5a226907a8922b5e249f2ae45de", func := "clepsydra/clepsydralaw02.VlqOrder", spec := "vlqOrder", inPlace := ["internal/abi.NoEscape"], unfollowed := true, recurses := true, apart := false, narrowed := true }
def VlqOrderUptoSaid : Prop := vlqOrderUptoRow.holds Try.pinned (OpenSpec.upto vlqOrderSpec)

/-- 'clepsydralaw02.VlqReads', WHERE WHAT IT READS IS OF BULK AT MOST 1048576: true; the input reads as it did. -/
def vlqReadsUptoRow : OpenClaim := { program := "ytgpifbdjcoiilaa", sum := "cba14bf4037571fd49d66ad5b067bb9233b9c5a226907a8922b5e249f2ae45de", func := "clepsydra/clepsydralaw02.VlqReads", spec := "vlqReads", inPlace := ["internal/abi.NoEscape"], unfollowed := true, recurses := true, apart := false, narrowed := true }
def VlqReadsUptoSaid : Prop := vlqReadsUptoRow.holds Try.pinned (OpenSpec.upto vlqReadsSpec)

/-- 'clepsydralaw02.VlqWrites', WHERE WHAT IT READS IS OF BULK AT MOST 1048576: true; the input reads as it did. -/
def vlqWritesUptoRow : OpenClaim := { program := "ytgpifbdjcoiilaa", sum := "cba14bf4037571fd49d66ad5b067bb9233b9c5a226907a8922b5e249f2ae45de", func := "clepsydra/clepsydralaw02.VlqWrites", spec := "vlqWrites", inPlace := ["internal/abi.NoEscape"], unfollowed := true, recurses := true, apart := false, narrowed := true }
def VlqWritesUptoSaid : Prop := vlqWritesUptoRow.holds Try.pinned (OpenSpec.upto vlqWritesSpec)

/-- 'clepsydralaw03.SealBack', WHERE WHAT IT READS IS OF BULK AT MOST 1048576: true; the input reads as it did. -/
def sealBackUptoRow : OpenClaim := { program := "ytgpifbdjcoiilaa", sum := "cba14bf4037571fd49d66ad5b067bb9233b9c5a226907a8922b5e249f2ae45de", func := "clepsydra/clepsydralaw03.SealBack", spec := "sealBack", inPlace := ["internal/abi.NoEscape"], unfollowed := true, recurses := true, apart := false, narrowed := true }
def SealBackUptoSaid : Prop := sealBackUptoRow.holds Try.pinned (OpenSpec.upto sealBackSpec)

/-- 'clepsydralaw03.SealOnce', WHERE WHAT IT READS IS OF BULK AT MOST 1048576: true; the input reads as it did. -/
def sealOnceUptoRow : OpenClaim := { program := "ytgpifbdjcoiilaa", sum := "cba14bf4037571fd49d66ad5b067bb9233b9c5a226907a8922b5e249f2ae45de", func := "clepsydra/clepsydralaw03.SealOnce", spec := "sealOnce", inPlace := ["internal/abi.NoEscape"], unfollowed := true, recurses := true, apart := false, narrowed := true }
def SealOnceUptoSaid : Prop := sealOnceUptoRow.holds Try.pinned (OpenSpec.upto sealOnceSpec)

/-- 'clepsydralaw03.SealReads', WHERE WHAT IT READS IS OF BULK AT MOST 1048576: true; the input reads as it did. -/
def sealReadsUptoRow : OpenClaim := { program := "ytgpifbdjcoiilaa", sum := "cba14bf4037571fd49d66ad5b067bb9233b9c5a226907a8922b5e249f2ae45de", func := "clepsydra/clepsydralaw03.SealReads", spec := "sealReads", apart := false, narrowed := true }
def SealReadsUptoSaid : Prop := sealReadsUptoRow.holds Try.pinned (OpenSpec.upto sealReadsSpec)

/-- 'clepsydralaw03.SealRows', WHERE WHAT IT READS IS OF BULK AT MOST 1048576: true; the input reads as it did. -/
def sealRowsUptoRow : OpenClaim := { program := "ytgpifbdjcoiilaa", sum := "cba14bf4037571fd49d66ad5b067bb9233b9c5a226907a8922b5e249f2ae45de", func := "clepsydra/clepsydralaw03.SealRows", spec := "sealRows", apart := false, narrowed := true }
def SealRowsUptoSaid : Prop := sealRowsUptoRow.holds Try.pinned (OpenSpec.upto sealRowsSpec)

/-- 'clepsydralaw03.SealSums', WHERE WHAT IT READS IS OF BULK AT MOST 1048576: true; the input reads as it did. -/
def sealSumsUptoRow : OpenClaim := { program := "ytgpifbdjcoiilaa", sum := "cba14bf4037571fd49d66ad5b067bb9233b9c5a226907a8922b5e249f2ae45de", func := "clepsydra/clepsydralaw03.SealSums", spec := "sealSums", inPlace := ["internal/abi.NoEscape"], unfollowed := true, recurses := true, apart := false, narrowed := true }
def SealSumsUptoSaid : Prop := sealSumsUptoRow.holds Try.pinned (OpenSpec.upto sealSumsSpec)

/-- 'clepsydralaw03.SealTorn', WHERE WHAT IT READS IS OF BULK AT MOST 1048576: true; the input reads as it did. -/
def sealTornUptoRow : OpenClaim := { program := "ytgpifbdjcoiilaa", sum := "cba14bf4037571fd49d66ad5b067bb9233b9c5a226907a8922b5e249f2ae45de", func := "clepsydra/clepsydralaw03.SealTorn", spec := "sealTorn", inPlace := ["internal/abi.NoEscape"], unfollowed := true, recurses := true, apart := false, narrowed := true }
def SealTornUptoSaid : Prop := sealTornUptoRow.holds Try.pinned (OpenSpec.upto sealTornSpec)

/-- 'clepsydralaw04.ItemBack', WHERE WHAT IT READS IS OF BULK AT MOST 1048576: true; the input reads as it did. -/
def itemBackUptoRow : OpenClaim := { program := "ytgpifbdjcoiilaa", sum := "cba14bf4037571fd49d66ad5b067bb9233b9c5a226907a8922b5e249f2ae45de", func := "clepsydra/clepsydralaw04.ItemBack", spec := "itemBack", inPlace := ["internal/abi.NoEscape"], unfollowed := true, recurses := true, apart := false, narrowed := true }
def ItemBackUptoSaid : Prop := itemBackUptoRow.holds Try.pinned (OpenSpec.upto itemBackSpec)

/-- 'clepsydralaw04.ItemMore', WHERE WHAT IT READS IS OF BULK AT MOST 1048576: true; the input reads as it did. -/
def itemMoreUptoRow : OpenClaim := { program := "ytgpifbdjcoiilaa", sum := "cba14bf4037571fd49d66ad5b067bb9233b9c5a226907a8922b5e249f2ae45de", func := "clepsydra/clepsydralaw04.ItemMore", spec := "itemMore", inPlace := ["internal/abi.NoEscape"], unfollowed := true, recurses := true, apart := false, narrowed := true }
def ItemMoreUptoSaid : Prop := itemMoreUptoRow.holds Try.pinned (OpenSpec.upto itemMoreSpec)

/-- 'clepsydralaw04.ItemOnce', WHERE WHAT IT READS IS OF BULK AT MOST 1048576: true; the input reads as it did. -/
def itemOnceUptoRow : OpenClaim := { program := "ytgpifbdjcoiilaa", sum := "cba14bf4037571fd49d66ad5b067bb9233b9c5a226907a8922b5e249f2ae45de", func := "clepsydra/clepsydralaw04.ItemOnce", spec := "itemOnce", inPlace := ["internal/abi.NoEscape"], unfollowed := true, recurses := true, apart := false, narrowed := true }
def ItemOnceUptoSaid : Prop := itemOnceUptoRow.holds Try.pinned (OpenSpec.upto itemOnceSpec)

/-- 'clepsydralaw04.ItemReads', WHERE WHAT IT READS IS OF BULK AT MOST 1048576: true; the input reads as it did. -/
def itemReadsUptoRow : OpenClaim := { program := "ytgpifbdjcoiilaa", sum := "cba14bf4037571fd49d66ad5b067bb9233b9c5a226907a8922b5e249f2ae45de", func := "clepsydra/clepsydralaw04.ItemReads", spec := "itemReads", unfollowed := true, recurses := true, apart := false, narrowed := true }
def ItemReadsUptoSaid : Prop := itemReadsUptoRow.holds Try.pinned (OpenSpec.upto itemReadsSpec)

/-- 'clepsydralaw04.ItemRights', WHERE WHAT IT READS IS OF BULK AT MOST 1048576: true; the input reads as it did. -/
def itemRightsUptoRow : OpenClaim := { program := "ytgpifbdjcoiilaa", sum := "cba14bf4037571fd49d66ad5b067bb9233b9c5a226907a8922b5e249f2ae45de", func := "clepsydra/clepsydralaw04.ItemRights", spec := "itemRights", apart := false, narrowed := true }
def ItemRightsUptoSaid : Prop := itemRightsUptoRow.holds Try.pinned (OpenSpec.upto itemRightsSpec)

/-- 'clepsydralaw04.ItemWrites', WHERE WHAT IT READS IS OF BULK AT MOST 1048576: true; the input reads as it did. -/
def itemWritesUptoRow : OpenClaim := { program := "ytgpifbdjcoiilaa", sum := "cba14bf4037571fd49d66ad5b067bb9233b9c5a226907a8922b5e249f2ae45de", func := "clepsydra/clepsydralaw04.ItemWrites", spec := "itemWrites", inPlace := ["internal/abi.NoEscape"], unfollowed := true, recurses := true, apart := false, narrowed := true }
def ItemWritesUptoSaid : Prop := itemWritesUptoRow.holds Try.pinned (OpenSpec.upto itemWritesSpec)

end Rows
end Go.Proofs.Ytgpifbdjcoiilaa
