/-
  No cell of these rows narrows 'for every input' (looked for: loops, veiled, ifaces, maps, wideKeys, modest, calm, conditions, laid).
  DERIVED. THE GIVEN ROWS OF THIS SEAT. 6 by the template 'for every input the law returns true; each argument reads behind the call as it read before'; 0 by the template 'total and deterministic' (their statements: YtcmokhpnooldgaaTotals.lean).
  GIVEN WITH THE SEED: the statements are not yours to turn. If you find one false, say at which input.
  Laid BY PROGRAM, IN A SANDBOX (cutbox-rows.mjs): the forced cells as the released guide's own fill.sh prints them over the translation d422b8ea58101cf7… (all of the seat's roots in one cut). By AI agents, Wed Nov 11 2026. No macro, syntax, notation, axiom, sorry.
-/
import Derived.Test.YtcmokhpnooldgaaChecked
import GoSem.Claim
import GoSem.ClaimJoined
import GoSem.ClaimMapViews
import Derived.JoinedTies
import Derived.KernelRfl
namespace Go.Proofs.Ytcmokhpnooldgaa
/- THE CELL 'sum', in the pinned program and in every row, IS THE sha256 OF THE DUMP (.gsa) THAT YtcmokhpnooldgaaProg.lean LOADS. Nothing in Lean hashes anything: it is a label: what it is worth is what the hold of that sum in a sandbox is worth. -/
noncomputable def Try.pinned : Pinned := { name := "ytcmokhpnooldgaa", sum := "d422b8ea58101cf7c8b81909b4aef2bdef981c3bae77229a6529c85422651269", checked := Try.checked }
namespace Rows
def none {H : Type} : Left H := { results := [], args := [] }

/-- 'causeylaw18.LeastTree': WHATEVER THE INPUT: true; the input reads as it did. -/
def leastTreeSpec : ChangeSpec := { name := "leastTree", fn := fun _ => fun
  | [d] => { results := [.lit (.bool true)], args := [d] }
  | _ => none }
def leastTreeRow : OpenClaim := { program := "ytcmokhpnooldgaa", sum := "d422b8ea58101cf7c8b81909b4aef2bdef981c3bae77229a6529c85422651269", func := "causey/causeylaw18.LeastTree", spec := "leastTree", unfollowed := true, recurses := true, plainKeys := false, apart := false }
def LeastTreeSaid : Prop := leastTreeRow.holds Try.pinned (OpenSpec.ofChange leastTreeSpec)

/-- ITS FALSE NEIGHBOUR: 'it returns false'. Refute it at one input. -/
def leastTreeWrong : ChangeSpec := { name := "leastTree", fn := fun _ => fun
  | [d] => { results := [.lit (.bool false)], args := [d] }
  | _ => none }
def LeastTreeWrongFalsely : Prop := leastTreeRow.holds Try.pinned (OpenSpec.ofChange leastTreeWrong)

/-- 'causeylaw18.LeastPlays': WHATEVER THE INPUT: true; the input reads as it did. -/
def leastPlaysSpec : ChangeSpec := { name := "leastPlays", fn := fun _ => fun
  | [d1, d2, d3] => { results := [.lit (.bool true)], args := [d1, d2, d3] }
  | _ => none }
def leastPlaysRow : OpenClaim := { program := "ytcmokhpnooldgaa", sum := "d422b8ea58101cf7c8b81909b4aef2bdef981c3bae77229a6529c85422651269", func := "causey/causeylaw18.LeastPlays", spec := "leastPlays", unfollowed := true, recurses := true, plainKeys := false, apart := false }
def LeastPlaysSaid : Prop := leastPlaysRow.holds Try.pinned (OpenSpec.ofChange leastPlaysSpec)

/-- ITS FALSE NEIGHBOUR: 'it returns false'. Refute it at one input. -/
def leastPlaysWrong : ChangeSpec := { name := "leastPlays", fn := fun _ => fun
  | [d1, d2, d3] => { results := [.lit (.bool false)], args := [d1, d2, d3] }
  | _ => none }
def LeastPlaysWrongFalsely : Prop := leastPlaysRow.holds Try.pinned (OpenSpec.ofChange leastPlaysWrong)

/-- 'causeylaw18.LeastNear': WHATEVER THE INPUT: true; the input reads as it did. -/
def leastNearSpec : ChangeSpec := { name := "leastNear", fn := fun _ => fun
  | [d] => { results := [.lit (.bool true)], args := [d] }
  | _ => none }
def leastNearRow : OpenClaim := { program := "ytcmokhpnooldgaa", sum := "d422b8ea58101cf7c8b81909b4aef2bdef981c3bae77229a6529c85422651269", func := "causey/causeylaw18.LeastNear", spec := "leastNear", unfollowed := true, recurses := true, plainKeys := false, apart := false }
def LeastNearSaid : Prop := leastNearRow.holds Try.pinned (OpenSpec.ofChange leastNearSpec)

/-- ITS FALSE NEIGHBOUR: 'it returns false'. Refute it at one input. -/
def leastNearWrong : ChangeSpec := { name := "leastNear", fn := fun _ => fun
  | [d] => { results := [.lit (.bool false)], args := [d] }
  | _ => none }
def LeastNearWrongFalsely : Prop := leastNearRow.holds Try.pinned (OpenSpec.ofChange leastNearWrong)

/-- 'causeylaw18.LeastAlone': WHATEVER THE INPUT: true; the input reads as it did. -/
def leastAloneSpec : ChangeSpec := { name := "leastAlone", fn := fun _ => fun
  | [d] => { results := [.lit (.bool true)], args := [d] }
  | _ => none }
def leastAloneRow : OpenClaim := { program := "ytcmokhpnooldgaa", sum := "d422b8ea58101cf7c8b81909b4aef2bdef981c3bae77229a6529c85422651269", func := "causey/causeylaw18.LeastAlone", spec := "leastAlone", unfollowed := true, recurses := true, plainKeys := false, apart := false }
def LeastAloneSaid : Prop := leastAloneRow.holds Try.pinned (OpenSpec.ofChange leastAloneSpec)

/-- ITS FALSE NEIGHBOUR: 'it returns false'. Refute it at one input. -/
def leastAloneWrong : ChangeSpec := { name := "leastAlone", fn := fun _ => fun
  | [d] => { results := [.lit (.bool false)], args := [d] }
  | _ => none }
def LeastAloneWrongFalsely : Prop := leastAloneRow.holds Try.pinned (OpenSpec.ofChange leastAloneWrong)

/-- 'causeylaw18.LeastTurned': WHATEVER THE INPUT: true; the input reads as it did. -/
def leastTurnedSpec : ChangeSpec := { name := "leastTurned", fn := fun _ => fun
  | [d1, d2] => { results := [.lit (.bool true)], args := [d1, d2] }
  | _ => none }
def leastTurnedRow : OpenClaim := { program := "ytcmokhpnooldgaa", sum := "d422b8ea58101cf7c8b81909b4aef2bdef981c3bae77229a6529c85422651269", func := "causey/causeylaw18.LeastTurned", spec := "leastTurned", unfollowed := true, recurses := true, plainKeys := false, apart := false }
def LeastTurnedSaid : Prop := leastTurnedRow.holds Try.pinned (OpenSpec.ofChange leastTurnedSpec)

/-- ITS FALSE NEIGHBOUR: 'it returns false'. Refute it at one input. -/
def leastTurnedWrong : ChangeSpec := { name := "leastTurned", fn := fun _ => fun
  | [d1, d2] => { results := [.lit (.bool false)], args := [d1, d2] }
  | _ => none }
def LeastTurnedWrongFalsely : Prop := leastTurnedRow.holds Try.pinned (OpenSpec.ofChange leastTurnedWrong)

/-- 'causeylaw18.LeastSpans': WHATEVER THE INPUT: true; the input reads as it did. -/
def leastSpansSpec : ChangeSpec := { name := "leastSpans", fn := fun _ => fun
  | [d1, d2, d3] => { results := [.lit (.bool true)], args := [d1, d2, d3] }
  | _ => none }
def leastSpansRow : OpenClaim := { program := "ytcmokhpnooldgaa", sum := "d422b8ea58101cf7c8b81909b4aef2bdef981c3bae77229a6529c85422651269", func := "causey/causeylaw18.LeastSpans", spec := "leastSpans", unfollowed := true, recurses := true, plainKeys := false, apart := false }
def LeastSpansSaid : Prop := leastSpansRow.holds Try.pinned (OpenSpec.ofChange leastSpansSpec)

/-- ITS FALSE NEIGHBOUR: 'it returns false'. Refute it at one input. -/
def leastSpansWrong : ChangeSpec := { name := "leastSpans", fn := fun _ => fun
  | [d1, d2, d3] => { results := [.lit (.bool false)], args := [d1, d2, d3] }
  | _ => none }
def LeastSpansWrongFalsely : Prop := leastSpansRow.holds Try.pinned (OpenSpec.ofChange leastSpansWrong)

/- THE SECOND FORM. 'bulk': how many values and letters a reading holds, each counted each time it is reached (what is shared counts as often as it is met; a slice's spare places count too). A statement '..UptoSaid' is the law's where the arguments, and the package variables that the reading takes, are together of bulk at most 1048576: NARROWER than '..Said'. Prove '..Said' where nothing that the law and all that it calls make is longer than what came in: it says more and counts as full. Else prove '..UptoSaid'. A law counts once. -/
mutual
def uptoBulk {H : Type} : DataW H → Nat
  | .lit (.string bytes) => bytes.length + 1
  | .lit _ => 1
  | .nil => 1
  | .ptr d => uptoBulk d + 1
  | .slice elems spare => uptoBulkAll elems + uptoBulkAll spare + 1
  | .agg parts => uptoBulkAll parts + 1
  | .iface _ d => uptoBulk d + 1
  | .map entries => uptoBulkEntries entries + 1
  | .held _ => 1
def uptoBulkAll {H : Type} : List (DataW H) → Nat
  | [] => 0
  | d :: r => uptoBulk d + uptoBulkAll r
def uptoBulkEntries {H : Type} : List (Lit × DataW H) → Nat
  | [] => 0
  | x :: r => uptoBulkEntry x + uptoBulkEntries r
def uptoBulkEntry {H : Type} : Lit × DataW H → Nat
  | (.string bytes, d) => bytes.length + uptoBulk d + 1
  | (_, d) => uptoBulk d + 1
 end
def uptoSmall : (H : Type) → List (DataW H) → Bool := fun _ ds => decide (uptoBulkAll ds ≤ 1048576)
def OpenSpec.upto (s : _root_.Go.ChangeSpec) : _root_.Go.OpenSpec := { _root_.Go.OpenSpec.ofChange s with cond := some uptoSmall }

/-- 'causeylaw18.LeastTree', WHERE WHAT IT READS IS OF BULK AT MOST 1048576: true; the input reads as it did. -/
def leastTreeUptoRow : OpenClaim := { program := "ytcmokhpnooldgaa", sum := "d422b8ea58101cf7c8b81909b4aef2bdef981c3bae77229a6529c85422651269", func := "causey/causeylaw18.LeastTree", spec := "leastTree", unfollowed := true, recurses := true, plainKeys := false, apart := false, narrowed := true }
def LeastTreeUptoSaid : Prop := leastTreeUptoRow.holds Try.pinned (OpenSpec.upto leastTreeSpec)

/-- 'causeylaw18.LeastPlays', WHERE WHAT IT READS IS OF BULK AT MOST 1048576: true; the input reads as it did. -/
def leastPlaysUptoRow : OpenClaim := { program := "ytcmokhpnooldgaa", sum := "d422b8ea58101cf7c8b81909b4aef2bdef981c3bae77229a6529c85422651269", func := "causey/causeylaw18.LeastPlays", spec := "leastPlays", unfollowed := true, recurses := true, plainKeys := false, apart := false, narrowed := true }
def LeastPlaysUptoSaid : Prop := leastPlaysUptoRow.holds Try.pinned (OpenSpec.upto leastPlaysSpec)

/-- 'causeylaw18.LeastNear', WHERE WHAT IT READS IS OF BULK AT MOST 1048576: true; the input reads as it did. -/
def leastNearUptoRow : OpenClaim := { program := "ytcmokhpnooldgaa", sum := "d422b8ea58101cf7c8b81909b4aef2bdef981c3bae77229a6529c85422651269", func := "causey/causeylaw18.LeastNear", spec := "leastNear", unfollowed := true, recurses := true, plainKeys := false, apart := false, narrowed := true }
def LeastNearUptoSaid : Prop := leastNearUptoRow.holds Try.pinned (OpenSpec.upto leastNearSpec)

/-- 'causeylaw18.LeastAlone', WHERE WHAT IT READS IS OF BULK AT MOST 1048576: true; the input reads as it did. -/
def leastAloneUptoRow : OpenClaim := { program := "ytcmokhpnooldgaa", sum := "d422b8ea58101cf7c8b81909b4aef2bdef981c3bae77229a6529c85422651269", func := "causey/causeylaw18.LeastAlone", spec := "leastAlone", unfollowed := true, recurses := true, plainKeys := false, apart := false, narrowed := true }
def LeastAloneUptoSaid : Prop := leastAloneUptoRow.holds Try.pinned (OpenSpec.upto leastAloneSpec)

/-- 'causeylaw18.LeastTurned', WHERE WHAT IT READS IS OF BULK AT MOST 1048576: true; the input reads as it did. -/
def leastTurnedUptoRow : OpenClaim := { program := "ytcmokhpnooldgaa", sum := "d422b8ea58101cf7c8b81909b4aef2bdef981c3bae77229a6529c85422651269", func := "causey/causeylaw18.LeastTurned", spec := "leastTurned", unfollowed := true, recurses := true, plainKeys := false, apart := false, narrowed := true }
def LeastTurnedUptoSaid : Prop := leastTurnedUptoRow.holds Try.pinned (OpenSpec.upto leastTurnedSpec)

/-- 'causeylaw18.LeastSpans', WHERE WHAT IT READS IS OF BULK AT MOST 1048576: true; the input reads as it did. -/
def leastSpansUptoRow : OpenClaim := { program := "ytcmokhpnooldgaa", sum := "d422b8ea58101cf7c8b81909b4aef2bdef981c3bae77229a6529c85422651269", func := "causey/causeylaw18.LeastSpans", spec := "leastSpans", unfollowed := true, recurses := true, plainKeys := false, apart := false, narrowed := true }
def LeastSpansUptoSaid : Prop := leastSpansUptoRow.holds Try.pinned (OpenSpec.upto leastSpansSpec)

end Rows
end Go.Proofs.Ytcmokhpnooldgaa
