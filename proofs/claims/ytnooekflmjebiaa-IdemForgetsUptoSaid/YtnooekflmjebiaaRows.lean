/-
  No cell of these rows narrows 'for every input' (looked for: loops, veiled, ifaces, maps, wideKeys, modest, calm, conditions, laid).
  DERIVED. THE GIVEN ROWS OF THIS SEAT. 4 by the template 'for every input the law returns true; each argument reads behind the call as it read before'; 0 by the template 'total and deterministic' (their statements: YtnooekflmjebiaaTotals.lean).
  GIVEN WITH THE SEED: the statements are not yours to turn. If you find one false, say at which input.
  Laid BY PROGRAM, IN A SANDBOX (cutbox-rows.mjs): the forced cells as the released guide's own fill.sh prints them over the translation 5199639e3b1097d2… (all of the seat's roots in one cut). By AI agents, Wed Nov 11 2026. No macro, syntax, notation, axiom, sorry.
-/
import Derived.Test.YtnooekflmjebiaaChecked
import GoSem.Claim
import GoSem.ClaimJoined
import GoSem.ClaimMapViews
import Derived.JoinedTies
import Derived.KernelRfl
namespace Go.Proofs.Ytnooekflmjebiaa
/- THE CELL 'sum', in the pinned program and in every row, IS THE sha256 OF THE DUMP (.gsa) THAT YtnooekflmjebiaaProg.lean LOADS. Nothing in Lean hashes anything: it is a label: what it is worth is what the hold of that sum in a sandbox is worth. -/
noncomputable def Try.pinned : Pinned := { name := "ytnooekflmjebiaa", sum := "5199639e3b1097d2bdfaef1d029e011041eaccdde81a77dbc12e67aa0245ced4", checked := Try.checked }
namespace Rows
def none {H : Type} : Left H := { results := [], args := [] }

/-- 'leatlaw21.IdemOnce': WHATEVER THE INPUT: true; the input reads as it did. -/
def idemOnceSpec : ChangeSpec := { name := "idemOnce", fn := fun _ => fun
  | [d1, d2, d3, d4, d5] => { results := [.lit (.bool true)], args := [d1, d2, d3, d4, d5] }
  | _ => none }
def idemOnceRow : OpenClaim := { program := "ytnooekflmjebiaa", sum := "5199639e3b1097d2bdfaef1d029e011041eaccdde81a77dbc12e67aa0245ced4", func := "leat/leatlaw21.IdemOnce", spec := "idemOnce", unfollowed := true, recurses := true, apart := false }
def IdemOnceSaid : Prop := idemOnceRow.holds Try.pinned (OpenSpec.ofChange idemOnceSpec)

/-- ITS FALSE NEIGHBOUR: 'it returns false'. Refute it at one input. -/
def idemOnceWrong : ChangeSpec := { name := "idemOnce", fn := fun _ => fun
  | [d1, d2, d3, d4, d5] => { results := [.lit (.bool false)], args := [d1, d2, d3, d4, d5] }
  | _ => none }
def IdemOnceWrongFalsely : Prop := idemOnceRow.holds Try.pinned (OpenSpec.ofChange idemOnceWrong)

/-- 'leatlaw21.IdemPlays': WHATEVER THE INPUT: true; the input reads as it did. -/
def idemPlaysSpec : ChangeSpec := { name := "idemPlays", fn := fun _ => fun
  | [d] => { results := [.lit (.bool true)], args := [d] }
  | _ => none }
def idemPlaysRow : OpenClaim := { program := "ytnooekflmjebiaa", sum := "5199639e3b1097d2bdfaef1d029e011041eaccdde81a77dbc12e67aa0245ced4", func := "leat/leatlaw21.IdemPlays", spec := "idemPlays", unfollowed := true, recurses := true, apart := false }
def IdemPlaysSaid : Prop := idemPlaysRow.holds Try.pinned (OpenSpec.ofChange idemPlaysSpec)

/-- ITS FALSE NEIGHBOUR: 'it returns false'. Refute it at one input. -/
def idemPlaysWrong : ChangeSpec := { name := "idemPlays", fn := fun _ => fun
  | [d] => { results := [.lit (.bool false)], args := [d] }
  | _ => none }
def IdemPlaysWrongFalsely : Prop := idemPlaysRow.holds Try.pinned (OpenSpec.ofChange idemPlaysWrong)

/-- 'leatlaw21.IdemApart': WHATEVER THE INPUT: true; the input reads as it did. -/
def idemApartSpec : ChangeSpec := { name := "idemApart", fn := fun _ => fun
  | [d1, d2] => { results := [.lit (.bool true)], args := [d1, d2] }
  | _ => none }
def idemApartRow : OpenClaim := { program := "ytnooekflmjebiaa", sum := "5199639e3b1097d2bdfaef1d029e011041eaccdde81a77dbc12e67aa0245ced4", func := "leat/leatlaw21.IdemApart", spec := "idemApart", unfollowed := true, recurses := true, apart := false }
def IdemApartSaid : Prop := idemApartRow.holds Try.pinned (OpenSpec.ofChange idemApartSpec)

/-- ITS FALSE NEIGHBOUR: 'it returns false'. Refute it at one input. -/
def idemApartWrong : ChangeSpec := { name := "idemApart", fn := fun _ => fun
  | [d1, d2] => { results := [.lit (.bool false)], args := [d1, d2] }
  | _ => none }
def IdemApartWrongFalsely : Prop := idemApartRow.holds Try.pinned (OpenSpec.ofChange idemApartWrong)

/-- 'leatlaw21.IdemForgets': WHATEVER THE INPUT: true; the input reads as it did. -/
def idemForgetsSpec : ChangeSpec := { name := "idemForgets", fn := fun _ => fun
  | [d1, d2] => { results := [.lit (.bool true)], args := [d1, d2] }
  | _ => none }
def idemForgetsRow : OpenClaim := { program := "ytnooekflmjebiaa", sum := "5199639e3b1097d2bdfaef1d029e011041eaccdde81a77dbc12e67aa0245ced4", func := "leat/leatlaw21.IdemForgets", spec := "idemForgets", unfollowed := true, recurses := true, apart := false }
def IdemForgetsSaid : Prop := idemForgetsRow.holds Try.pinned (OpenSpec.ofChange idemForgetsSpec)

/-- ITS FALSE NEIGHBOUR: 'it returns false'. Refute it at one input. -/
def idemForgetsWrong : ChangeSpec := { name := "idemForgets", fn := fun _ => fun
  | [d1, d2] => { results := [.lit (.bool false)], args := [d1, d2] }
  | _ => none }
def IdemForgetsWrongFalsely : Prop := idemForgetsRow.holds Try.pinned (OpenSpec.ofChange idemForgetsWrong)

/- THE SECOND FORM. 'bulk': how many values and letters a reading holds, each counted each time it is reached (what is shared counts as often as it is met; a slice's spare places count too). A statement '..UptoSaid' is the law's where the arguments, and the package variables that the reading takes, are together of bulk at most 1048576: NARROWER than '..Said'. Prove '..Said' where nothing that the law and all that it calls make is longer than what came in: it says more and counts as full. Else prove '..UptoSaid'. A law counts once. -/
mutual
def uptoBulk {H : Type} : DataW H → Nat
  | .lit (.string bytes) => bytes.length + 1
  | .lit _ => 1
  | .nil => 1
  | .ptr d => uptoBulk d + 1
  | .slice elems spare => uptoBulkAll elems + uptoBulkAll spare + 1
  | .agg parts => uptoBulkAll parts + 1
  | .iface _ d => uptoBulk d + 1
  | .map entries => uptoBulkEntries entries + 1
  | .held _ => 1
def uptoBulkAll {H : Type} : List (DataW H) → Nat
  | [] => 0
  | d :: r => uptoBulk d + uptoBulkAll r
def uptoBulkEntries {H : Type} : List (Lit × DataW H) → Nat
  | [] => 0
  | x :: r => uptoBulkEntry x + uptoBulkEntries r
def uptoBulkEntry {H : Type} : Lit × DataW H → Nat
  | (.string bytes, d) => bytes.length + uptoBulk d + 1
  | (_, d) => uptoBulk d + 1
 end
def uptoSmall : (H : Type) → List (DataW H) → Bool := fun _ ds => decide (uptoBulkAll ds ≤ 1048576)
def OpenSpec.upto (s : _root_.Go.ChangeSpec) : _root_.Go.OpenSpec := { _root_.Go.OpenSpec.ofChange s with cond := some uptoSmall }

/-- 'leatlaw21.IdemOnce', WHERE WHAT IT READS IS OF BULK AT MOST 1048576: true; the input reads as it did. -/
def idemOnceUptoRow : OpenClaim := { program := "ytnooekflmjebiaa", sum := "5199639e3b1097d2bdfaef1d029e011041eaccdde81a77dbc12e67aa0245ced4", func := "leat/leatlaw21.IdemOnce", spec := "idemOnce", unfollowed := true, recurses := true, apart := false, narrowed := true }
def IdemOnceUptoSaid : Prop := idemOnceUptoRow.holds Try.pinned (OpenSpec.upto idemOnceSpec)

/-- 'leatlaw21.IdemPlays', WHERE WHAT IT READS IS OF BULK AT MOST 1048576: true; the input reads as it did. -/
def idemPlaysUptoRow : OpenClaim := { program := "ytnooekflmjebiaa", sum := "5199639e3b1097d2bdfaef1d029e011041eaccdde81a77dbc12e67aa0245ced4", func := "leat/leatlaw21.IdemPlays", spec := "idemPlays", unfollowed := true, recurses := true, apart := false, narrowed := true }
def IdemPlaysUptoSaid : Prop := idemPlaysUptoRow.holds Try.pinned (OpenSpec.upto idemPlaysSpec)

/-- 'leatlaw21.IdemApart', WHERE WHAT IT READS IS OF BULK AT MOST 1048576: true; the input reads as it did. -/
def idemApartUptoRow : OpenClaim := { program := "ytnooekflmjebiaa", sum := "5199639e3b1097d2bdfaef1d029e011041eaccdde81a77dbc12e67aa0245ced4", func := "leat/leatlaw21.IdemApart", spec := "idemApart", unfollowed := true, recurses := true, apart := false, narrowed := true }
def IdemApartUptoSaid : Prop := idemApartUptoRow.holds Try.pinned (OpenSpec.upto idemApartSpec)

/-- 'leatlaw21.IdemForgets', WHERE WHAT IT READS IS OF BULK AT MOST 1048576: true; the input reads as it did. -/
def idemForgetsUptoRow : OpenClaim := { program := "ytnooekflmjebiaa", sum := "5199639e3b1097d2bdfaef1d029e011041eaccdde81a77dbc12e67aa0245ced4", func := "leat/leatlaw21.IdemForgets", spec := "idemForgets", unfollowed := true, recurses := true, apart := false, narrowed := true }
def IdemForgetsUptoSaid : Prop := idemForgetsUptoRow.holds Try.pinned (OpenSpec.upto idemForgetsSpec)

end Rows
end Go.Proofs.Ytnooekflmjebiaa
