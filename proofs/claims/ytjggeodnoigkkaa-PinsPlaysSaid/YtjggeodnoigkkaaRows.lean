/-
  No cell of these rows narrows 'for every input' (looked for: loops, veiled, ifaces, maps, wideKeys, modest, calm, conditions, laid).
  DERIVED. THE GIVEN ROWS OF THIS SEAT. 6 by the template 'for every input the law returns true; each argument reads behind the call as it read before'; 0 by the template 'total and deterministic' (their statements: YtjggeodnoigkkaaTotals.lean).
  GIVEN WITH THE SEED: the statements are not yours to turn. If you find one false, say at which input.
  Laid BY PROGRAM, IN A SANDBOX (cutbox-rows.mjs): the forced cells as the released guide's own fill.sh prints them over the translation 056efbfffebf15f2… (all of the seat's roots in one cut). By AI agents, Wed Nov 11 2026. No macro, syntax, notation, axiom, sorry.
-/
import Derived.Test.YtjggeodnoigkkaaChecked
import GoSem.Claim
import GoSem.ClaimJoined
import GoSem.ClaimMapViews
import Derived.JoinedTies
import Derived.KernelRfl
namespace Go.Proofs.Ytjggeodnoigkkaa
/- THE CELL 'sum', in the pinned program and in every row, IS THE sha256 OF THE DUMP (.gsa) THAT YtjggeodnoigkkaaProg.lean LOADS. Nothing in Lean hashes anything: it is a label: what it is worth is what the hold of that sum in a sandbox is worth. -/
noncomputable def Try.pinned : Pinned := { name := "ytjggeodnoigkkaa", sum := "056efbfffebf15f2e1fe2a8b09b185630b864c9ebf9c5bbabe1b20cb3130a753", checked := Try.checked }
namespace Rows
def none {H : Type} : Left H := { results := [], args := [] }

/-- 'lighterlaw20.PinsSafe': WHATEVER THE INPUT: true; the input reads as it did. -/
def pinsSafeSpec : ChangeSpec := { name := "pinsSafe", fn := fun _ => fun
  | [d1, d2] => { results := [.lit (.bool true)], args := [d1, d2] }
  | _ => none }
def pinsSafeRow : OpenClaim := { program := "ytjggeodnoigkkaa", sum := "056efbfffebf15f2e1fe2a8b09b185630b864c9ebf9c5bbabe1b20cb3130a753", func := "lighter/lighterlaw20.PinsSafe", spec := "pinsSafe", unfollowed := true, recurses := true, apart := false }
def PinsSafeSaid : Prop := pinsSafeRow.holds Try.pinned (OpenSpec.ofChange pinsSafeSpec)

/-- ITS FALSE NEIGHBOUR: 'it returns false'. Refute it at one input. -/
def pinsSafeWrong : ChangeSpec := { name := "pinsSafe", fn := fun _ => fun
  | [d1, d2] => { results := [.lit (.bool false)], args := [d1, d2] }
  | _ => none }
def PinsSafeWrongFalsely : Prop := pinsSafeRow.holds Try.pinned (OpenSpec.ofChange pinsSafeWrong)

/-- 'lighterlaw20.PinsOrder': WHATEVER THE INPUT: true; the input reads as it did. -/
def pinsOrderSpec : ChangeSpec := { name := "pinsOrder", fn := fun _ => fun
  | [d1, d2] => { results := [.lit (.bool true)], args := [d1, d2] }
  | _ => none }
def pinsOrderRow : OpenClaim := { program := "ytjggeodnoigkkaa", sum := "056efbfffebf15f2e1fe2a8b09b185630b864c9ebf9c5bbabe1b20cb3130a753", func := "lighter/lighterlaw20.PinsOrder", spec := "pinsOrder", unfollowed := true, recurses := true, apart := false }
def PinsOrderSaid : Prop := pinsOrderRow.holds Try.pinned (OpenSpec.ofChange pinsOrderSpec)

/-- ITS FALSE NEIGHBOUR: 'it returns false'. Refute it at one input. -/
def pinsOrderWrong : ChangeSpec := { name := "pinsOrder", fn := fun _ => fun
  | [d1, d2] => { results := [.lit (.bool false)], args := [d1, d2] }
  | _ => none }
def PinsOrderWrongFalsely : Prop := pinsOrderRow.holds Try.pinned (OpenSpec.ofChange pinsOrderWrong)

/-- 'lighterlaw20.PinsPlays': WHATEVER THE INPUT: true; the input reads as it did. -/
def pinsPlaysSpec : ChangeSpec := { name := "pinsPlays", fn := fun _ => fun
  | [d1, d2] => { results := [.lit (.bool true)], args := [d1, d2] }
  | _ => none }
def pinsPlaysRow : OpenClaim := { program := "ytjggeodnoigkkaa", sum := "056efbfffebf15f2e1fe2a8b09b185630b864c9ebf9c5bbabe1b20cb3130a753", func := "lighter/lighterlaw20.PinsPlays", spec := "pinsPlays", unfollowed := true, recurses := true, apart := false }
def PinsPlaysSaid : Prop := pinsPlaysRow.holds Try.pinned (OpenSpec.ofChange pinsPlaysSpec)

/-- ITS FALSE NEIGHBOUR: 'it returns false'. Refute it at one input. -/
def pinsPlaysWrong : ChangeSpec := { name := "pinsPlays", fn := fun _ => fun
  | [d1, d2] => { results := [.lit (.bool false)], args := [d1, d2] }
  | _ => none }
def PinsPlaysWrongFalsely : Prop := pinsPlaysRow.holds Try.pinned (OpenSpec.ofChange pinsPlaysWrong)

/-- 'lighterlaw20.PinsNil': WHATEVER THE INPUT: true; the input reads as it did. -/
def pinsNilSpec : ChangeSpec := { name := "pinsNil", fn := fun _ => fun
  | [d1, d2] => { results := [.lit (.bool true)], args := [d1, d2] }
  | _ => none }
def pinsNilRow : OpenClaim := { program := "ytjggeodnoigkkaa", sum := "056efbfffebf15f2e1fe2a8b09b185630b864c9ebf9c5bbabe1b20cb3130a753", func := "lighter/lighterlaw20.PinsNil", spec := "pinsNil", unfollowed := true, recurses := true, apart := false }
def PinsNilSaid : Prop := pinsNilRow.holds Try.pinned (OpenSpec.ofChange pinsNilSpec)

/-- ITS FALSE NEIGHBOUR: 'it returns false'. Refute it at one input. -/
def pinsNilWrong : ChangeSpec := { name := "pinsNil", fn := fun _ => fun
  | [d1, d2] => { results := [.lit (.bool false)], args := [d1, d2] }
  | _ => none }
def PinsNilWrongFalsely : Prop := pinsNilRow.holds Try.pinned (OpenSpec.ofChange pinsNilWrong)

/-- 'lighterlaw20.PinsReads': WHATEVER THE INPUT: true; the input reads as it did. -/
def pinsReadsSpec : ChangeSpec := { name := "pinsReads", fn := fun _ => fun
  | [d] => { results := [.lit (.bool true)], args := [d] }
  | _ => none }
def pinsReadsRow : OpenClaim := { program := "ytjggeodnoigkkaa", sum := "056efbfffebf15f2e1fe2a8b09b185630b864c9ebf9c5bbabe1b20cb3130a753", func := "lighter/lighterlaw20.PinsReads", spec := "pinsReads", unfollowed := true, recurses := true, apart := false }
def PinsReadsSaid : Prop := pinsReadsRow.holds Try.pinned (OpenSpec.ofChange pinsReadsSpec)

/-- ITS FALSE NEIGHBOUR: 'it returns false'. Refute it at one input. -/
def pinsReadsWrong : ChangeSpec := { name := "pinsReads", fn := fun _ => fun
  | [d] => { results := [.lit (.bool false)], args := [d] }
  | _ => none }
def PinsReadsWrongFalsely : Prop := pinsReadsRow.holds Try.pinned (OpenSpec.ofChange pinsReadsWrong)

/-- 'lighterlaw20.PinsBack': WHATEVER THE INPUT: true; the input reads as it did. -/
def pinsBackSpec : ChangeSpec := { name := "pinsBack", fn := fun _ => fun
  | [d1, d2] => { results := [.lit (.bool true)], args := [d1, d2] }
  | _ => none }
def pinsBackRow : OpenClaim := { program := "ytjggeodnoigkkaa", sum := "056efbfffebf15f2e1fe2a8b09b185630b864c9ebf9c5bbabe1b20cb3130a753", func := "lighter/lighterlaw20.PinsBack", spec := "pinsBack", unfollowed := true, recurses := true, apart := false }
def PinsBackSaid : Prop := pinsBackRow.holds Try.pinned (OpenSpec.ofChange pinsBackSpec)

/-- ITS FALSE NEIGHBOUR: 'it returns false'. Refute it at one input. -/
def pinsBackWrong : ChangeSpec := { name := "pinsBack", fn := fun _ => fun
  | [d1, d2] => { results := [.lit (.bool false)], args := [d1, d2] }
  | _ => none }
def PinsBackWrongFalsely : Prop := pinsBackRow.holds Try.pinned (OpenSpec.ofChange pinsBackWrong)

/- THE SECOND FORM. 'bulk': how many values and letters a reading holds, each counted each time it is reached (what is shared counts as often as it is met; a slice's spare places count too). A statement '..UptoSaid' is the law's where the arguments, and the package variables that the reading takes, are together of bulk at most 1048576: NARROWER than '..Said'. Prove '..Said' where nothing that the law and all that it calls make is longer than what came in: it says more and counts as full. Else prove '..UptoSaid'. A law counts once. -/
mutual
def uptoBulk {H : Type} : DataW H → Nat
  | .lit (.string bytes) => bytes.length + 1
  | .lit _ => 1
  | .nil => 1
  | .ptr d => uptoBulk d + 1
  | .slice elems spare => uptoBulkAll elems + uptoBulkAll spare + 1
  | .agg parts => uptoBulkAll parts + 1
  | .iface _ d => uptoBulk d + 1
  | .map entries => uptoBulkEntries entries + 1
  | .held _ => 1
def uptoBulkAll {H : Type} : List (DataW H) → Nat
  | [] => 0
  | d :: r => uptoBulk d + uptoBulkAll r
def uptoBulkEntries {H : Type} : List (Lit × DataW H) → Nat
  | [] => 0
  | x :: r => uptoBulkEntry x + uptoBulkEntries r
def uptoBulkEntry {H : Type} : Lit × DataW H → Nat
  | (.string bytes, d) => bytes.length + uptoBulk d + 1
  | (_, d) => uptoBulk d + 1
 end
def uptoSmall : (H : Type) → List (DataW H) → Bool := fun _ ds => decide (uptoBulkAll ds ≤ 1048576)
def OpenSpec.upto (s : _root_.Go.ChangeSpec) : _root_.Go.OpenSpec := { _root_.Go.OpenSpec.ofChange s with cond := some uptoSmall }

/-- 'lighterlaw20.PinsSafe', WHERE WHAT IT READS IS OF BULK AT MOST 1048576: true; the input reads as it did. -/
def pinsSafeUptoRow : OpenClaim := { program := "ytjggeodnoigkkaa", sum := "056efbfffebf15f2e1fe2a8b09b185630b864c9ebf9c5bbabe1b20cb3130a753", func := "lighter/lighterlaw20.PinsSafe", spec := "pinsSafe", unfollowed := true, recurses := true, apart := false, narrowed := true }
def PinsSafeUptoSaid : Prop := pinsSafeUptoRow.holds Try.pinned (OpenSpec.upto pinsSafeSpec)

/-- 'lighterlaw20.PinsOrder', WHERE WHAT IT READS IS OF BULK AT MOST 1048576: true; the input reads as it did. -/
def pinsOrderUptoRow : OpenClaim := { program := "ytjggeodnoigkkaa", sum := "056efbfffebf15f2e1fe2a8b09b185630b864c9ebf9c5bbabe1b20cb3130a753", func := "lighter/lighterlaw20.PinsOrder", spec := "pinsOrder", unfollowed := true, recurses := true, apart := false, narrowed := true }
def PinsOrderUptoSaid : Prop := pinsOrderUptoRow.holds Try.pinned (OpenSpec.upto pinsOrderSpec)

/-- 'lighterlaw20.PinsPlays', WHERE WHAT IT READS IS OF BULK AT MOST 1048576: true; the input reads as it did. -/
def pinsPlaysUptoRow : OpenClaim := { program := "ytjggeodnoigkkaa", sum := "056efbfffebf15f2e1fe2a8b09b185630b864c9ebf9c5bbabe1b20cb3130a753", func := "lighter/lighterlaw20.PinsPlays", spec := "pinsPlays", unfollowed := true, recurses := true, apart := false, narrowed := true }
def PinsPlaysUptoSaid : Prop := pinsPlaysUptoRow.holds Try.pinned (OpenSpec.upto pinsPlaysSpec)

/-- 'lighterlaw20.PinsNil', WHERE WHAT IT READS IS OF BULK AT MOST 1048576: true; the input reads as it did. -/
def pinsNilUptoRow : OpenClaim := { program := "ytjggeodnoigkkaa", sum := "056efbfffebf15f2e1fe2a8b09b185630b864c9ebf9c5bbabe1b20cb3130a753", func := "lighter/lighterlaw20.PinsNil", spec := "pinsNil", unfollowed := true, recurses := true, apart := false, narrowed := true }
def PinsNilUptoSaid : Prop := pinsNilUptoRow.holds Try.pinned (OpenSpec.upto pinsNilSpec)

/-- 'lighterlaw20.PinsReads', WHERE WHAT IT READS IS OF BULK AT MOST 1048576: true; the input reads as it did. -/
def pinsReadsUptoRow : OpenClaim := { program := "ytjggeodnoigkkaa", sum := "056efbfffebf15f2e1fe2a8b09b185630b864c9ebf9c5bbabe1b20cb3130a753", func := "lighter/lighterlaw20.PinsReads", spec := "pinsReads", unfollowed := true, recurses := true, apart := false, narrowed := true }
def PinsReadsUptoSaid : Prop := pinsReadsUptoRow.holds Try.pinned (OpenSpec.upto pinsReadsSpec)

/-- 'lighterlaw20.PinsBack', WHERE WHAT IT READS IS OF BULK AT MOST 1048576: true; the input reads as it did. -/
def pinsBackUptoRow : OpenClaim := { program := "ytjggeodnoigkkaa", sum := "056efbfffebf15f2e1fe2a8b09b185630b864c9ebf9c5bbabe1b20cb3130a753", func := "lighter/lighterlaw20.PinsBack", spec := "pinsBack", unfollowed := true, recurses := true, apart := false, narrowed := true }
def PinsBackUptoSaid : Prop := pinsBackUptoRow.holds Try.pinned (OpenSpec.upto pinsBackSpec)

end Rows
end Go.Proofs.Ytjggeodnoigkkaa
