/-
  No cell of these rows narrows 'for every input' (looked for: loops, veiled, ifaces, maps, wideKeys, modest, calm, conditions, laid).
  DERIVED. THE GIVEN ROWS OF THIS SEAT. 4 by the template 'for every input the law returns true; each argument reads behind the call as it read before'; 0 by the template 'total and deterministic' (their statements: YtglliljdaffaaaaTotals.lean).
  GIVEN WITH THE SEED: the statements are not yours to turn. If you find one false, say at which input.
  Laid BY PROGRAM, IN A SANDBOX (cutbox-rows.mjs): the forced cells as the released guide's own fill.sh prints them over the translation d379afa009d4f043… (all of the seat's roots in one cut). By AI agents, Wed Nov 11 2026. No macro, syntax, notation, axiom, sorry.
-/
import Derived.Test.YtglliljdaffaaaaChecked
import GoSem.Claim
import GoSem.ClaimJoined
import GoSem.ClaimMapViews
import Derived.JoinedTies
import Derived.KernelRfl
namespace Go.Proofs.Ytglliljdaffaaaa
/- THE CELL 'sum', in the pinned program and in every row, IS THE sha256 OF THE DUMP (.gsa) THAT YtglliljdaffaaaaProg.lean LOADS. Nothing in Lean hashes anything: it is a label: what it is worth is what the hold of that sum in a sandbox is worth. -/
noncomputable def Try.pinned : Pinned := { name := "ytglliljdaffaaaa", sum := "d379afa009d4f04330fe7c21bc2b6089d9a1771364337bfd53d39b6a69e22ffc", checked := Try.checked }
namespace Rows
def none {H : Type} : Left H := { results := [], args := [] }

/-- 'gazetteerlaw12.TtlEarly': WHATEVER THE INPUT: true; the input reads as it did. -/
def ttlEarlySpec : ChangeSpec := { name := "ttlEarly", fn := fun _ => fun
  | [d1, d2, d3] => { results := [.lit (.bool true)], args := [d1, d2, d3] }
  | _ => none }
def ttlEarlyRow : OpenClaim := { program := "ytglliljdaffaaaa", sum := "d379afa009d4f04330fe7c21bc2b6089d9a1771364337bfd53d39b6a69e22ffc", func := "gazetteer/gazetteerlaw12.TtlEarly", spec := "ttlEarly", apart := false }
def TtlEarlySaid : Prop := ttlEarlyRow.holds Try.pinned (OpenSpec.ofChange ttlEarlySpec)

/-- ITS FALSE NEIGHBOUR: 'it returns false'. Refute it at one input. -/
def ttlEarlyWrong : ChangeSpec := { name := "ttlEarly", fn := fun _ => fun
  | [d1, d2, d3] => { results := [.lit (.bool false)], args := [d1, d2, d3] }
  | _ => none }
def TtlEarlyWrongFalsely : Prop := ttlEarlyRow.holds Try.pinned (OpenSpec.ofChange ttlEarlyWrong)

/-- 'gazetteerlaw12.TtlClamps': WHATEVER THE INPUT: true; the input reads as it did. -/
def ttlClampsSpec : ChangeSpec := { name := "ttlClamps", fn := fun _ => fun
  | [d1, d2] => { results := [.lit (.bool true)], args := [d1, d2] }
  | _ => none }
def ttlClampsRow : OpenClaim := { program := "ytglliljdaffaaaa", sum := "d379afa009d4f04330fe7c21bc2b6089d9a1771364337bfd53d39b6a69e22ffc", func := "gazetteer/gazetteerlaw12.TtlClamps", spec := "ttlClamps", apart := false }
def TtlClampsSaid : Prop := ttlClampsRow.holds Try.pinned (OpenSpec.ofChange ttlClampsSpec)

/-- ITS FALSE NEIGHBOUR: 'it returns false'. Refute it at one input. -/
def ttlClampsWrong : ChangeSpec := { name := "ttlClamps", fn := fun _ => fun
  | [d1, d2] => { results := [.lit (.bool false)], args := [d1, d2] }
  | _ => none }
def TtlClampsWrongFalsely : Prop := ttlClampsRow.holds Try.pinned (OpenSpec.ofChange ttlClampsWrong)

/-- 'gazetteerlaw12.TtlTells': WHATEVER THE INPUT: true; the input reads as it did. -/
def ttlTellsSpec : ChangeSpec := { name := "ttlTells", fn := fun _ => fun
  | [d1, d2, d3, d4] => { results := [.lit (.bool true)], args := [d1, d2, d3, d4] }
  | _ => none }
def ttlTellsRow : OpenClaim := { program := "ytglliljdaffaaaa", sum := "d379afa009d4f04330fe7c21bc2b6089d9a1771364337bfd53d39b6a69e22ffc", func := "gazetteer/gazetteerlaw12.TtlTells", spec := "ttlTells", apart := false }
def TtlTellsSaid : Prop := ttlTellsRow.holds Try.pinned (OpenSpec.ofChange ttlTellsSpec)

/-- ITS FALSE NEIGHBOUR: 'it returns false'. Refute it at one input. -/
def ttlTellsWrong : ChangeSpec := { name := "ttlTells", fn := fun _ => fun
  | [d1, d2, d3, d4] => { results := [.lit (.bool false)], args := [d1, d2, d3, d4] }
  | _ => none }
def TtlTellsWrongFalsely : Prop := ttlTellsRow.holds Try.pinned (OpenSpec.ofChange ttlTellsWrong)

/-- 'gazetteerlaw12.TtlRuns': WHATEVER THE INPUT: true; the input reads as it did. -/
def ttlRunsSpec : ChangeSpec := { name := "ttlRuns", fn := fun _ => fun
  | [d1, d2, d3, d4] => { results := [.lit (.bool true)], args := [d1, d2, d3, d4] }
  | _ => none }
def ttlRunsRow : OpenClaim := { program := "ytglliljdaffaaaa", sum := "d379afa009d4f04330fe7c21bc2b6089d9a1771364337bfd53d39b6a69e22ffc", func := "gazetteer/gazetteerlaw12.TtlRuns", spec := "ttlRuns", apart := false }
def TtlRunsSaid : Prop := ttlRunsRow.holds Try.pinned (OpenSpec.ofChange ttlRunsSpec)

/-- ITS FALSE NEIGHBOUR: 'it returns false'. Refute it at one input. -/
def ttlRunsWrong : ChangeSpec := { name := "ttlRuns", fn := fun _ => fun
  | [d1, d2, d3, d4] => { results := [.lit (.bool false)], args := [d1, d2, d3, d4] }
  | _ => none }
def TtlRunsWrongFalsely : Prop := ttlRunsRow.holds Try.pinned (OpenSpec.ofChange ttlRunsWrong)

/- THE SECOND FORM. 'bulk': how many values and letters a reading holds, each counted each time it is reached (what is shared counts as often as it is met; a slice's spare places count too). A statement '..UptoSaid' is the law's where the arguments, and the package variables that the reading takes, are together of bulk at most 1048576: NARROWER than '..Said'. Prove '..Said' where nothing that the law and all that it calls make is longer than what came in: it says more and counts as full. Else prove '..UptoSaid'. A law counts once. -/
mutual
def uptoBulk {H : Type} : DataW H → Nat
  | .lit (.string bytes) => bytes.length + 1
  | .lit _ => 1
  | .nil => 1
  | .ptr d => uptoBulk d + 1
  | .slice elems spare => uptoBulkAll elems + uptoBulkAll spare + 1
  | .agg parts => uptoBulkAll parts + 1
  | .iface _ d => uptoBulk d + 1
  | .map entries => uptoBulkEntries entries + 1
  | .held _ => 1
def uptoBulkAll {H : Type} : List (DataW H) → Nat
  | [] => 0
  | d :: r => uptoBulk d + uptoBulkAll r
def uptoBulkEntries {H : Type} : List (Lit × DataW H) → Nat
  | [] => 0
  | x :: r => uptoBulkEntry x + uptoBulkEntries r
def uptoBulkEntry {H : Type} : Lit × DataW H → Nat
  | (.string bytes, d) => bytes.length + uptoBulk d + 1
  | (_, d) => uptoBulk d + 1
 end
def uptoSmall : (H : Type) → List (DataW H) → Bool := fun _ ds => decide (uptoBulkAll ds ≤ 1048576)
def OpenSpec.upto (s : _root_.Go.ChangeSpec) : _root_.Go.OpenSpec := { _root_.Go.OpenSpec.ofChange s with cond := some uptoSmall }

/-- 'gazetteerlaw12.TtlEarly', WHERE WHAT IT READS IS OF BULK AT MOST 1048576: true; the input reads as it did. -/
def ttlEarlyUptoRow : OpenClaim := { program := "ytglliljdaffaaaa", sum := "d379afa009d4f04330fe7c21bc2b6089d9a1771364337bfd53d39b6a69e22ffc", func := "gazetteer/gazetteerlaw12.TtlEarly", spec := "ttlEarly", apart := false, narrowed := true }
def TtlEarlyUptoSaid : Prop := ttlEarlyUptoRow.holds Try.pinned (OpenSpec.upto ttlEarlySpec)

/-- 'gazetteerlaw12.TtlClamps', WHERE WHAT IT READS IS OF BULK AT MOST 1048576: true; the input reads as it did. -/
def ttlClampsUptoRow : OpenClaim := { program := "ytglliljdaffaaaa", sum := "d379afa009d4f04330fe7c21bc2b6089d9a1771364337bfd53d39b6a69e22ffc", func := "gazetteer/gazetteerlaw12.TtlClamps", spec := "ttlClamps", apart := false, narrowed := true }
def TtlClampsUptoSaid : Prop := ttlClampsUptoRow.holds Try.pinned (OpenSpec.upto ttlClampsSpec)

/-- 'gazetteerlaw12.TtlTells', WHERE WHAT IT READS IS OF BULK AT MOST 1048576: true; the input reads as it did. -/
def ttlTellsUptoRow : OpenClaim := { program := "ytglliljdaffaaaa", sum := "d379afa009d4f04330fe7c21bc2b6089d9a1771364337bfd53d39b6a69e22ffc", func := "gazetteer/gazetteerlaw12.TtlTells", spec := "ttlTells", apart := false, narrowed := true }
def TtlTellsUptoSaid : Prop := ttlTellsUptoRow.holds Try.pinned (OpenSpec.upto ttlTellsSpec)

/-- 'gazetteerlaw12.TtlRuns', WHERE WHAT IT READS IS OF BULK AT MOST 1048576: true; the input reads as it did. -/
def ttlRunsUptoRow : OpenClaim := { program := "ytglliljdaffaaaa", sum := "d379afa009d4f04330fe7c21bc2b6089d9a1771364337bfd53d39b6a69e22ffc", func := "gazetteer/gazetteerlaw12.TtlRuns", spec := "ttlRuns", apart := false, narrowed := true }
def TtlRunsUptoSaid : Prop := ttlRunsUptoRow.holds Try.pinned (OpenSpec.upto ttlRunsSpec)

end Rows
end Go.Proofs.Ytglliljdaffaaaa
