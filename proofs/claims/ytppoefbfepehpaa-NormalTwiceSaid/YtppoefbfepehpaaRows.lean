/-
  NARROWER THAN 'FOR EVERY INPUT', by the rows' own cells (each row's printed sentence says how): NormalTells: loops · NormalSays: loops · NormalKeys: loops · NormalTwice: loops.
  DERIVED. THE GIVEN ROWS OF THIS SEAT. 7 by the template 'for every input the law returns true; each argument reads behind the call as it read before'; 0 by the template 'total and deterministic' (their statements: YtppoefbfepehpaaTotals.lean).
  GIVEN WITH THE SEED: the statements are not yours to turn. If you find one false, say at which input.
  Laid BY PROGRAM, IN A SANDBOX (cutbox-rows.mjs): the forced cells as the released guide's own fill.sh prints them over the translation aa9136436f6dab42… (all of the seat's roots in one cut). By AI agents, Wed Nov 11 2026. No macro, syntax, notation, axiom, sorry.
-/
import Derived.Test.YtppoefbfepehpaaChecked
import GoSem.Claim
import GoSem.ClaimJoined
import GoSem.ClaimMapViews
import Derived.JoinedTies
import Derived.KernelRfl
namespace Go.Proofs.Ytppoefbfepehpaa
/- THE CELL 'sum', in the pinned program and in every row, IS THE sha256 OF THE DUMP (.gsa) THAT YtppoefbfepehpaaProg.lean LOADS. Nothing in Lean hashes anything: it is a label: what it is worth is what the hold of that sum in a sandbox is worth. -/
noncomputable def Try.pinned : Pinned := { name := "ytppoefbfepehpaa", sum := "aa9136436f6dab42cc12c99e0af9349b5a306e5b7be95cbc5787a4e5b0711a2c", checked := Try.checked }
namespace Rows
def none {H : Type} : Left H := { results := [], args := [] }

/-- 'ratlinelaw04.NormalTells': WHATEVER THE INPUT: true; the input reads as it did. -/
def normalTellsSpec : ChangeSpec := { name := "normalTells", fn := fun _ => fun
  | [d1, d2] => { results := [.lit (.bool true)], args := [d1, d2] }
  | _ => none }
def normalTellsRow : OpenClaim := { program := "ytppoefbfepehpaa", sum := "aa9136436f6dab42cc12c99e0af9349b5a306e5b7be95cbc5787a4e5b0711a2c", func := "ratline/ratlinelaw04.NormalTells", spec := "normalTells", unfollowed := true, recurses := true, loops := true, apart := false }
def NormalTellsSaid : Prop := normalTellsRow.holds Try.pinned (OpenSpec.ofChange normalTellsSpec)

/-- ITS FALSE NEIGHBOUR: 'it returns false'. Refute it at one input. -/
def normalTellsWrong : ChangeSpec := { name := "normalTells", fn := fun _ => fun
  | [d1, d2] => { results := [.lit (.bool false)], args := [d1, d2] }
  | _ => none }
def NormalTellsWrongFalsely : Prop := normalTellsRow.holds Try.pinned (OpenSpec.ofChange normalTellsWrong)

/-- 'ratlinelaw04.NormalSpans': WHATEVER THE INPUT: true; the input reads as it did. -/
def normalSpansSpec : ChangeSpec := { name := "normalSpans", fn := fun _ => fun
  | [d1, d2, d3] => { results := [.lit (.bool true)], args := [d1, d2, d3] }
  | _ => none }
def normalSpansRow : OpenClaim := { program := "ytppoefbfepehpaa", sum := "aa9136436f6dab42cc12c99e0af9349b5a306e5b7be95cbc5787a4e5b0711a2c", func := "ratline/ratlinelaw04.NormalSpans", spec := "normalSpans", unfollowed := true, recurses := true, apart := false }
def NormalSpansSaid : Prop := normalSpansRow.holds Try.pinned (OpenSpec.ofChange normalSpansSpec)

/-- ITS FALSE NEIGHBOUR: 'it returns false'. Refute it at one input. -/
def normalSpansWrong : ChangeSpec := { name := "normalSpans", fn := fun _ => fun
  | [d1, d2, d3] => { results := [.lit (.bool false)], args := [d1, d2, d3] }
  | _ => none }
def NormalSpansWrongFalsely : Prop := normalSpansRow.holds Try.pinned (OpenSpec.ofChange normalSpansWrong)

/-- 'ratlinelaw04.NormalSays': WHATEVER THE INPUT: true; the input reads as it did. -/
def normalSaysSpec : ChangeSpec := { name := "normalSays", fn := fun _ => fun
  | [d1, d2, d3] => { results := [.lit (.bool true)], args := [d1, d2, d3] }
  | _ => none }
def normalSaysRow : OpenClaim := { program := "ytppoefbfepehpaa", sum := "aa9136436f6dab42cc12c99e0af9349b5a306e5b7be95cbc5787a4e5b0711a2c", func := "ratline/ratlinelaw04.NormalSays", spec := "normalSays", unfollowed := true, recurses := true, loops := true, apart := false }
def NormalSaysSaid : Prop := normalSaysRow.holds Try.pinned (OpenSpec.ofChange normalSaysSpec)

/-- ITS FALSE NEIGHBOUR: 'it returns false'. Refute it at one input. -/
def normalSaysWrong : ChangeSpec := { name := "normalSays", fn := fun _ => fun
  | [d1, d2, d3] => { results := [.lit (.bool false)], args := [d1, d2, d3] }
  | _ => none }
def NormalSaysWrongFalsely : Prop := normalSaysRow.holds Try.pinned (OpenSpec.ofChange normalSaysWrong)

/-- 'ratlinelaw04.NormalKeys': WHATEVER THE INPUT: true; the input reads as it did. -/
def normalKeysSpec : ChangeSpec := { name := "normalKeys", fn := fun _ => fun
  | [d1, d2, d3] => { results := [.lit (.bool true)], args := [d1, d2, d3] }
  | _ => none }
def normalKeysRow : OpenClaim := { program := "ytppoefbfepehpaa", sum := "aa9136436f6dab42cc12c99e0af9349b5a306e5b7be95cbc5787a4e5b0711a2c", func := "ratline/ratlinelaw04.NormalKeys", spec := "normalKeys", unfollowed := true, recurses := true, loops := true, apart := false }
def NormalKeysSaid : Prop := normalKeysRow.holds Try.pinned (OpenSpec.ofChange normalKeysSpec)

/-- ITS FALSE NEIGHBOUR: 'it returns false'. Refute it at one input. -/
def normalKeysWrong : ChangeSpec := { name := "normalKeys", fn := fun _ => fun
  | [d1, d2, d3] => { results := [.lit (.bool false)], args := [d1, d2, d3] }
  | _ => none }
def NormalKeysWrongFalsely : Prop := normalKeysRow.holds Try.pinned (OpenSpec.ofChange normalKeysWrong)

/-- 'ratlinelaw04.NormalMeets': WHATEVER THE INPUT: true; the input reads as it did. -/
def normalMeetsSpec : ChangeSpec := { name := "normalMeets", fn := fun _ => fun
  | [d1, d2, d3] => { results := [.lit (.bool true)], args := [d1, d2, d3] }
  | _ => none }
def normalMeetsRow : OpenClaim := { program := "ytppoefbfepehpaa", sum := "aa9136436f6dab42cc12c99e0af9349b5a306e5b7be95cbc5787a4e5b0711a2c", func := "ratline/ratlinelaw04.NormalMeets", spec := "normalMeets", unfollowed := true, recurses := true, apart := false }
def NormalMeetsSaid : Prop := normalMeetsRow.holds Try.pinned (OpenSpec.ofChange normalMeetsSpec)

/-- ITS FALSE NEIGHBOUR: 'it returns false'. Refute it at one input. -/
def normalMeetsWrong : ChangeSpec := { name := "normalMeets", fn := fun _ => fun
  | [d1, d2, d3] => { results := [.lit (.bool false)], args := [d1, d2, d3] }
  | _ => none }
def NormalMeetsWrongFalsely : Prop := normalMeetsRow.holds Try.pinned (OpenSpec.ofChange normalMeetsWrong)

/-- 'ratlinelaw04.NormalTwice': WHATEVER THE INPUT: true; the input reads as it did. -/
def normalTwiceSpec : ChangeSpec := { name := "normalTwice", fn := fun _ => fun
  | [d1, d2] => { results := [.lit (.bool true)], args := [d1, d2] }
  | _ => none }
def normalTwiceRow : OpenClaim := { program := "ytppoefbfepehpaa", sum := "aa9136436f6dab42cc12c99e0af9349b5a306e5b7be95cbc5787a4e5b0711a2c", func := "ratline/ratlinelaw04.NormalTwice", spec := "normalTwice", unfollowed := true, recurses := true, loops := true, apart := false }
def NormalTwiceSaid : Prop := normalTwiceRow.holds Try.pinned (OpenSpec.ofChange normalTwiceSpec)

/-- ITS FALSE NEIGHBOUR: 'it returns false'. Refute it at one input. -/
def normalTwiceWrong : ChangeSpec := { name := "normalTwice", fn := fun _ => fun
  | [d1, d2] => { results := [.lit (.bool false)], args := [d1, d2] }
  | _ => none }
def NormalTwiceWrongFalsely : Prop := normalTwiceRow.holds Try.pinned (OpenSpec.ofChange normalTwiceWrong)

/-- 'ratlinelaw04.NormalSelf': WHATEVER THE INPUT: true; the input reads as it did. -/
def normalSelfSpec : ChangeSpec := { name := "normalSelf", fn := fun _ => fun
  | [d1, d2] => { results := [.lit (.bool true)], args := [d1, d2] }
  | _ => none }
def normalSelfRow : OpenClaim := { program := "ytppoefbfepehpaa", sum := "aa9136436f6dab42cc12c99e0af9349b5a306e5b7be95cbc5787a4e5b0711a2c", func := "ratline/ratlinelaw04.NormalSelf", spec := "normalSelf", unfollowed := true, recurses := true, apart := false }
def NormalSelfSaid : Prop := normalSelfRow.holds Try.pinned (OpenSpec.ofChange normalSelfSpec)

/-- ITS FALSE NEIGHBOUR: 'it returns false'. Refute it at one input. -/
def normalSelfWrong : ChangeSpec := { name := "normalSelf", fn := fun _ => fun
  | [d1, d2] => { results := [.lit (.bool false)], args := [d1, d2] }
  | _ => none }
def NormalSelfWrongFalsely : Prop := normalSelfRow.holds Try.pinned (OpenSpec.ofChange normalSelfWrong)

/- THE SECOND FORM. 'bulk': how many values and letters a reading holds, each counted each time it is reached (what is shared counts as often as it is met; a slice's spare places count too). A statement '..UptoSaid' is the law's where the arguments, and the package variables that the reading takes, are together of bulk at most 1048576: NARROWER than '..Said'. Prove '..Said' where nothing that the law and all that it calls make is longer than what came in: it says more and counts as full. Else prove '..UptoSaid'. A law counts once. -/
mutual
def uptoBulk {H : Type} : DataW H → Nat
  | .lit (.string bytes) => bytes.length + 1
  | .lit _ => 1
  | .nil => 1
  | .ptr d => uptoBulk d + 1
  | .slice elems spare => uptoBulkAll elems + uptoBulkAll spare + 1
  | .agg parts => uptoBulkAll parts + 1
  | .iface _ d => uptoBulk d + 1
  | .map entries => uptoBulkEntries entries + 1
  | .held _ => 1
def uptoBulkAll {H : Type} : List (DataW H) → Nat
  | [] => 0
  | d :: r => uptoBulk d + uptoBulkAll r
def uptoBulkEntries {H : Type} : List (Lit × DataW H) → Nat
  | [] => 0
  | x :: r => uptoBulkEntry x + uptoBulkEntries r
def uptoBulkEntry {H : Type} : Lit × DataW H → Nat
  | (.string bytes, d) => bytes.length + uptoBulk d + 1
  | (_, d) => uptoBulk d + 1
 end
def uptoSmall : (H : Type) → List (DataW H) → Bool := fun _ ds => decide (uptoBulkAll ds ≤ 1048576)
def OpenSpec.upto (s : _root_.Go.ChangeSpec) : _root_.Go.OpenSpec := { _root_.Go.OpenSpec.ofChange s with cond := some uptoSmall }

/-- 'ratlinelaw04.NormalTells', WHERE WHAT IT READS IS OF BULK AT MOST 1048576: true; the input reads as it did. -/
def normalTellsUptoRow : OpenClaim := { program := "ytppoefbfepehpaa", sum := "aa9136436f6dab42cc12c99e0af9349b5a306e5b7be95cbc5787a4e5b0711a2c", func := "ratline/ratlinelaw04.NormalTells", spec := "normalTells", unfollowed := true, recurses := true, loops := true, apart := false, narrowed := true }
def NormalTellsUptoSaid : Prop := normalTellsUptoRow.holds Try.pinned (OpenSpec.upto normalTellsSpec)

/-- 'ratlinelaw04.NormalSpans', WHERE WHAT IT READS IS OF BULK AT MOST 1048576: true; the input reads as it did. -/
def normalSpansUptoRow : OpenClaim := { program := "ytppoefbfepehpaa", sum := "aa9136436f6dab42cc12c99e0af9349b5a306e5b7be95cbc5787a4e5b0711a2c", func := "ratline/ratlinelaw04.NormalSpans", spec := "normalSpans", unfollowed := true, recurses := true, apart := false, narrowed := true }
def NormalSpansUptoSaid : Prop := normalSpansUptoRow.holds Try.pinned (OpenSpec.upto normalSpansSpec)

/-- 'ratlinelaw04.NormalSays', WHERE WHAT IT READS IS OF BULK AT MOST 1048576: true; the input reads as it did. -/
def normalSaysUptoRow : OpenClaim := { program := "ytppoefbfepehpaa", sum := "aa9136436f6dab42cc12c99e0af9349b5a306e5b7be95cbc5787a4e5b0711a2c", func := "ratline/ratlinelaw04.NormalSays", spec := "normalSays", unfollowed := true, recurses := true, loops := true, apart := false, narrowed := true }
def NormalSaysUptoSaid : Prop := normalSaysUptoRow.holds Try.pinned (OpenSpec.upto normalSaysSpec)

/-- 'ratlinelaw04.NormalKeys', WHERE WHAT IT READS IS OF BULK AT MOST 1048576: true; the input reads as it did. -/
def normalKeysUptoRow : OpenClaim := { program := "ytppoefbfepehpaa", sum := "aa9136436f6dab42cc12c99e0af9349b5a306e5b7be95cbc5787a4e5b0711a2c", func := "ratline/ratlinelaw04.NormalKeys", spec := "normalKeys", unfollowed := true, recurses := true, loops := true, apart := false, narrowed := true }
def NormalKeysUptoSaid : Prop := normalKeysUptoRow.holds Try.pinned (OpenSpec.upto normalKeysSpec)

/-- 'ratlinelaw04.NormalMeets', WHERE WHAT IT READS IS OF BULK AT MOST 1048576: true; the input reads as it did. -/
def normalMeetsUptoRow : OpenClaim := { program := "ytppoefbfepehpaa", sum := "aa9136436f6dab42cc12c99e0af9349b5a306e5b7be95cbc5787a4e5b0711a2c", func := "ratline/ratlinelaw04.NormalMeets", spec := "normalMeets", unfollowed := true, recurses := true, apart := false, narrowed := true }
def NormalMeetsUptoSaid : Prop := normalMeetsUptoRow.holds Try.pinned (OpenSpec.upto normalMeetsSpec)

/-- 'ratlinelaw04.NormalTwice', WHERE WHAT IT READS IS OF BULK AT MOST 1048576: true; the input reads as it did. -/
def normalTwiceUptoRow : OpenClaim := { program := "ytppoefbfepehpaa", sum := "aa9136436f6dab42cc12c99e0af9349b5a306e5b7be95cbc5787a4e5b0711a2c", func := "ratline/ratlinelaw04.NormalTwice", spec := "normalTwice", unfollowed := true, recurses := true, loops := true, apart := false, narrowed := true }
def NormalTwiceUptoSaid : Prop := normalTwiceUptoRow.holds Try.pinned (OpenSpec.upto normalTwiceSpec)

/-- 'ratlinelaw04.NormalSelf', WHERE WHAT IT READS IS OF BULK AT MOST 1048576: true; the input reads as it did. -/
def normalSelfUptoRow : OpenClaim := { program := "ytppoefbfepehpaa", sum := "aa9136436f6dab42cc12c99e0af9349b5a306e5b7be95cbc5787a4e5b0711a2c", func := "ratline/ratlinelaw04.NormalSelf", spec := "normalSelf", unfollowed := true, recurses := true, apart := false, narrowed := true }
def NormalSelfUptoSaid : Prop := normalSelfUptoRow.holds Try.pinned (OpenSpec.upto normalSelfSpec)

end Rows
end Go.Proofs.Ytppoefbfepehpaa
