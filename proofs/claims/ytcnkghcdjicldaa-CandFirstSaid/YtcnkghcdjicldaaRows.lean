/-
  NARROWER THAN 'FOR EVERY INPUT', by the rows' own cells (each row's printed sentence says how): CandOf: loops · CandAll: loops · CandSound: loops · CandFirst: loops.
  DERIVED. THE GIVEN ROWS OF THIS SEAT. 4 by the template 'for every input the law returns true; each argument reads behind the call as it read before'; 0 by the template 'total and deterministic' (their statements: YtcnkghcdjicldaaTotals.lean).
  GIVEN WITH THE SEED: the statements are not yours to turn. If you find one false, say at which input.
  Laid BY PROGRAM, IN A SANDBOX (cutbox-rows.mjs): the forced cells as the released guide's own fill.sh prints them over the translation 5e8f653f3cee3c68… (all of the seat's roots in one cut). By AI agents, Wed Nov 11 2026. No macro, syntax, notation, axiom, sorry.
-/
import Derived.Test.YtcnkghcdjicldaaChecked
import GoSem.Claim
import GoSem.ClaimJoined
import GoSem.ClaimMapViews
import Derived.JoinedTies
import Derived.KernelRfl
namespace Go.Proofs.Ytcnkghcdjicldaa
/- THE CELL 'sum', in the pinned program and in every row, IS THE sha256 OF THE DUMP (.gsa) THAT YtcnkghcdjicldaaProg.lean LOADS. Nothing in Lean hashes anything: it is a label: what it is worth is what the hold of that sum in a sandbox is worth. -/
noncomputable def Try.pinned : Pinned := { name := "ytcnkghcdjicldaa", sum := "5e8f653f3cee3c68a7fa3664eae9f58842cbba72625a8e66bad74a1181cf9d8b", checked := Try.checked }
namespace Rows
def none {H : Type} : Left H := { results := [], args := [] }

/-- 'dowserlaw20.CandOf': WHATEVER THE INPUT: true; the input reads as it did. -/
def candOfSpec : ChangeSpec := { name := "candOf", fn := fun _ => fun
  | [d] => { results := [.lit (.bool true)], args := [d] }
  | _ => none }
def candOfRow : OpenClaim := { program := "ytcnkghcdjicldaa", sum := "5e8f653f3cee3c68a7fa3664eae9f58842cbba72625a8e66bad74a1181cf9d8b", func := "dowser/dowserlaw20.CandOf", spec := "candOf", unfollowed := true, recurses := true, loops := true, apart := false }
def CandOfSaid : Prop := candOfRow.holds Try.pinned (OpenSpec.ofChange candOfSpec)

/-- ITS FALSE NEIGHBOUR: 'it returns false'. Refute it at one input. -/
def candOfWrong : ChangeSpec := { name := "candOf", fn := fun _ => fun
  | [d] => { results := [.lit (.bool false)], args := [d] }
  | _ => none }
def CandOfWrongFalsely : Prop := candOfRow.holds Try.pinned (OpenSpec.ofChange candOfWrong)

/-- 'dowserlaw20.CandAll': WHATEVER THE INPUT: true; the input reads as it did. -/
def candAllSpec : ChangeSpec := { name := "candAll", fn := fun _ => fun
  | [d1, d2] => { results := [.lit (.bool true)], args := [d1, d2] }
  | _ => none }
def candAllRow : OpenClaim := { program := "ytcnkghcdjicldaa", sum := "5e8f653f3cee3c68a7fa3664eae9f58842cbba72625a8e66bad74a1181cf9d8b", func := "dowser/dowserlaw20.CandAll", spec := "candAll", unfollowed := true, recurses := true, loops := true, apart := false }
def CandAllSaid : Prop := candAllRow.holds Try.pinned (OpenSpec.ofChange candAllSpec)

/-- ITS FALSE NEIGHBOUR: 'it returns false'. Refute it at one input. -/
def candAllWrong : ChangeSpec := { name := "candAll", fn := fun _ => fun
  | [d1, d2] => { results := [.lit (.bool false)], args := [d1, d2] }
  | _ => none }
def CandAllWrongFalsely : Prop := candAllRow.holds Try.pinned (OpenSpec.ofChange candAllWrong)

/-- 'dowserlaw20.CandSound': WHATEVER THE INPUT: true; the input reads as it did. -/
def candSoundSpec : ChangeSpec := { name := "candSound", fn := fun _ => fun
  | [d1, d2] => { results := [.lit (.bool true)], args := [d1, d2] }
  | _ => none }
def candSoundRow : OpenClaim := { program := "ytcnkghcdjicldaa", sum := "5e8f653f3cee3c68a7fa3664eae9f58842cbba72625a8e66bad74a1181cf9d8b", func := "dowser/dowserlaw20.CandSound", spec := "candSound", unfollowed := true, recurses := true, loops := true, apart := false }
def CandSoundSaid : Prop := candSoundRow.holds Try.pinned (OpenSpec.ofChange candSoundSpec)

/-- ITS FALSE NEIGHBOUR: 'it returns false'. Refute it at one input. -/
def candSoundWrong : ChangeSpec := { name := "candSound", fn := fun _ => fun
  | [d1, d2] => { results := [.lit (.bool false)], args := [d1, d2] }
  | _ => none }
def CandSoundWrongFalsely : Prop := candSoundRow.holds Try.pinned (OpenSpec.ofChange candSoundWrong)

/-- 'dowserlaw20.CandFirst': WHATEVER THE INPUT: true; the input reads as it did. -/
def candFirstSpec : ChangeSpec := { name := "candFirst", fn := fun _ => fun
  | [d1, d2] => { results := [.lit (.bool true)], args := [d1, d2] }
  | _ => none }
def candFirstRow : OpenClaim := { program := "ytcnkghcdjicldaa", sum := "5e8f653f3cee3c68a7fa3664eae9f58842cbba72625a8e66bad74a1181cf9d8b", func := "dowser/dowserlaw20.CandFirst", spec := "candFirst", unfollowed := true, recurses := true, loops := true, apart := false }
def CandFirstSaid : Prop := candFirstRow.holds Try.pinned (OpenSpec.ofChange candFirstSpec)

/-- ITS FALSE NEIGHBOUR: 'it returns false'. Refute it at one input. -/
def candFirstWrong : ChangeSpec := { name := "candFirst", fn := fun _ => fun
  | [d1, d2] => { results := [.lit (.bool false)], args := [d1, d2] }
  | _ => none }
def CandFirstWrongFalsely : Prop := candFirstRow.holds Try.pinned (OpenSpec.ofChange candFirstWrong)

/- THE SECOND FORM. 'bulk': how many values and letters a reading holds, each counted each time it is reached (what is shared counts as often as it is met; a slice's spare places count too). A statement '..UptoSaid' is the law's where the arguments, and the package variables that the reading takes, are together of bulk at most 1048576: NARROWER than '..Said'. Prove '..Said' where nothing that the law and all that it calls make is longer than what came in: it says more and counts as full. Else prove '..UptoSaid'. A law counts once. -/
mutual
def uptoBulk {H : Type} : DataW H → Nat
  | .lit (.string bytes) => bytes.length + 1
  | .lit _ => 1
  | .nil => 1
  | .ptr d => uptoBulk d + 1
  | .slice elems spare => uptoBulkAll elems + uptoBulkAll spare + 1
  | .agg parts => uptoBulkAll parts + 1
  | .iface _ d => uptoBulk d + 1
  | .map entries => uptoBulkEntries entries + 1
  | .held _ => 1
def uptoBulkAll {H : Type} : List (DataW H) → Nat
  | [] => 0
  | d :: r => uptoBulk d + uptoBulkAll r
def uptoBulkEntries {H : Type} : List (Lit × DataW H) → Nat
  | [] => 0
  | x :: r => uptoBulkEntry x + uptoBulkEntries r
def uptoBulkEntry {H : Type} : Lit × DataW H → Nat
  | (.string bytes, d) => bytes.length + uptoBulk d + 1
  | (_, d) => uptoBulk d + 1
 end
def uptoSmall : (H : Type) → List (DataW H) → Bool := fun _ ds => decide (uptoBulkAll ds ≤ 1048576)
def OpenSpec.upto (s : _root_.Go.ChangeSpec) : _root_.Go.OpenSpec := { _root_.Go.OpenSpec.ofChange s with cond := some uptoSmall }

/-- 'dowserlaw20.CandOf', WHERE WHAT IT READS IS OF BULK AT MOST 1048576: true; the input reads as it did. -/
def candOfUptoRow : OpenClaim := { program := "ytcnkghcdjicldaa", sum := "5e8f653f3cee3c68a7fa3664eae9f58842cbba72625a8e66bad74a1181cf9d8b", func := "dowser/dowserlaw20.CandOf", spec := "candOf", unfollowed := true, recurses := true, loops := true, apart := false, narrowed := true }
def CandOfUptoSaid : Prop := candOfUptoRow.holds Try.pinned (OpenSpec.upto candOfSpec)

/-- 'dowserlaw20.CandAll', WHERE WHAT IT READS IS OF BULK AT MOST 1048576: true; the input reads as it did. -/
def candAllUptoRow : OpenClaim := { program := "ytcnkghcdjicldaa", sum := "5e8f653f3cee3c68a7fa3664eae9f58842cbba72625a8e66bad74a1181cf9d8b", func := "dowser/dowserlaw20.CandAll", spec := "candAll", unfollowed := true, recurses := true, loops := true, apart := false, narrowed := true }
def CandAllUptoSaid : Prop := candAllUptoRow.holds Try.pinned (OpenSpec.upto candAllSpec)

/-- 'dowserlaw20.CandSound', WHERE WHAT IT READS IS OF BULK AT MOST 1048576: true; the input reads as it did. -/
def candSoundUptoRow : OpenClaim := { program := "ytcnkghcdjicldaa", sum := "5e8f653f3cee3c68a7fa3664eae9f58842cbba72625a8e66bad74a1181cf9d8b", func := "dowser/dowserlaw20.CandSound", spec := "candSound", unfollowed := true, recurses := true, loops := true, apart := false, narrowed := true }
def CandSoundUptoSaid : Prop := candSoundUptoRow.holds Try.pinned (OpenSpec.upto candSoundSpec)

/-- 'dowserlaw20.CandFirst', WHERE WHAT IT READS IS OF BULK AT MOST 1048576: true; the input reads as it did. -/
def candFirstUptoRow : OpenClaim := { program := "ytcnkghcdjicldaa", sum := "5e8f653f3cee3c68a7fa3664eae9f58842cbba72625a8e66bad74a1181cf9d8b", func := "dowser/dowserlaw20.CandFirst", spec := "candFirst", unfollowed := true, recurses := true, loops := true, apart := false, narrowed := true }
def CandFirstUptoSaid : Prop := candFirstUptoRow.holds Try.pinned (OpenSpec.upto candFirstSpec)

end Rows
end Go.Proofs.Ytcnkghcdjicldaa
