/-
  No cell of these rows narrows 'for every input' (looked for: loops, veiled, ifaces, maps, wideKeys, modest, calm, conditions, laid).
  DERIVED. THE GIVEN ROWS OF THIS SEAT. 3 by the template 'for every input the law returns true; each argument reads behind the call as it read before'; 0 by the template 'total and deterministic' (their statements: YtpemdieejgldiaaTotals.lean).
  GIVEN WITH THE SEED: the statements are not yours to turn. If you find one false, say at which input.
  Laid BY PROGRAM, IN A SANDBOX (cutbox-rows.mjs): the forced cells as the released guide's own fill.sh prints them over the translation c8a7e8409e8a38c7… (all of the seat's roots in one cut). By AI agents, Wed Nov 11 2026. No macro, syntax, notation, axiom, sorry.
-/
import Derived.Test.YtpemdieejgldiaaChecked
import GoSem.Claim
import GoSem.ClaimJoined
import GoSem.ClaimMapViews
import Derived.JoinedTies
import Derived.KernelRfl
namespace Go.Proofs.Ytpemdieejgldiaa
/- THE CELL 'sum', in the pinned program and in every row, IS THE sha256 OF THE DUMP (.gsa) THAT YtpemdieejgldiaaProg.lean LOADS. Nothing in Lean hashes anything: it is a label: what it is worth is what the hold of that sum in a sandbox is worth. -/
noncomputable def Try.pinned : Pinned := { name := "ytpemdieejgldiaa", sum := "c8a7e8409e8a38c7590bad593179aecd9518f55f402fc546c1317b8003662c96", checked := Try.checked }
namespace Rows
def none {H : Type} : Left H := { results := [], args := [] }

/-- 'gazetteerlaw14.CacheBeaten': WHATEVER THE INPUT: true; the input reads as it did. -/
def cacheBeatenSpec : ChangeSpec := { name := "cacheBeaten", fn := fun _ => fun
  | [d1, d2] => { results := [.lit (.bool true)], args := [d1, d2] }
  | _ => none }
def cacheBeatenRow : OpenClaim := { program := "ytpemdieejgldiaa", sum := "c8a7e8409e8a38c7590bad593179aecd9518f55f402fc546c1317b8003662c96", func := "gazetteer/gazetteerlaw14.CacheBeaten", spec := "cacheBeaten", inPlace := ["internal/abi.NoEscape"], unfollowed := true, recurses := true, apart := false }
def CacheBeatenSaid : Prop := cacheBeatenRow.holds Try.pinned (OpenSpec.ofChange cacheBeatenSpec)

/-- ITS FALSE NEIGHBOUR: 'it returns false'. Refute it at one input. -/
def cacheBeatenWrong : ChangeSpec := { name := "cacheBeaten", fn := fun _ => fun
  | [d1, d2] => { results := [.lit (.bool false)], args := [d1, d2] }
  | _ => none }
def CacheBeatenWrongFalsely : Prop := cacheBeatenRow.holds Try.pinned (OpenSpec.ofChange cacheBeatenWrong)

/-- 'gazetteerlaw14.CacheMost': WHATEVER THE INPUT: true; the input reads as it did. -/
def cacheMostSpec : ChangeSpec := { name := "cacheMost", fn := fun _ => fun
  | [d1, d2, d3] => { results := [.lit (.bool true)], args := [d1, d2, d3] }
  | _ => none }
def cacheMostRow : OpenClaim := { program := "ytpemdieejgldiaa", sum := "c8a7e8409e8a38c7590bad593179aecd9518f55f402fc546c1317b8003662c96", func := "gazetteer/gazetteerlaw14.CacheMost", spec := "cacheMost", inPlace := ["internal/abi.NoEscape"], unfollowed := true, recurses := true, apart := false }
def CacheMostSaid : Prop := cacheMostRow.holds Try.pinned (OpenSpec.ofChange cacheMostSpec)

/-- ITS FALSE NEIGHBOUR: 'it returns false'. Refute it at one input. -/
def cacheMostWrong : ChangeSpec := { name := "cacheMost", fn := fun _ => fun
  | [d1, d2, d3] => { results := [.lit (.bool false)], args := [d1, d2, d3] }
  | _ => none }
def CacheMostWrongFalsely : Prop := cacheMostRow.holds Try.pinned (OpenSpec.ofChange cacheMostWrong)

/-- 'gazetteerlaw14.CacheStale': WHATEVER THE INPUT: true; the input reads as it did. -/
def cacheStaleSpec : ChangeSpec := { name := "cacheStale", fn := fun _ => fun
  | [d1, d2, d3, d4] => { results := [.lit (.bool true)], args := [d1, d2, d3, d4] }
  | _ => none }
def cacheStaleRow : OpenClaim := { program := "ytpemdieejgldiaa", sum := "c8a7e8409e8a38c7590bad593179aecd9518f55f402fc546c1317b8003662c96", func := "gazetteer/gazetteerlaw14.CacheStale", spec := "cacheStale", inPlace := ["internal/abi.NoEscape"], unfollowed := true, recurses := true, apart := false }
def CacheStaleSaid : Prop := cacheStaleRow.holds Try.pinned (OpenSpec.ofChange cacheStaleSpec)

/-- ITS FALSE NEIGHBOUR: 'it returns false'. Refute it at one input. -/
def cacheStaleWrong : ChangeSpec := { name := "cacheStale", fn := fun _ => fun
  | [d1, d2, d3, d4] => { results := [.lit (.bool false)], args := [d1, d2, d3, d4] }
  | _ => none }
def CacheStaleWrongFalsely : Prop := cacheStaleRow.holds Try.pinned (OpenSpec.ofChange cacheStaleWrong)

/- THE SECOND FORM. 'bulk': how many values and letters a reading holds, each counted each time it is reached (what is shared counts as often as it is met; a slice's spare places count too). A statement '..UptoSaid' is the law's where the arguments, and the package variables that the reading takes, are together of bulk at most 1048576: NARROWER than '..Said'. Prove '..Said' where nothing that the law and all that it calls make is longer than what came in: it says more and counts as full. Else prove '..UptoSaid'. A law counts once. -/
mutual
def uptoBulk {H : Type} : DataW H → Nat
  | .lit (.string bytes) => bytes.length + 1
  | .lit _ => 1
  | .nil => 1
  | .ptr d => uptoBulk d + 1
  | .slice elems spare => uptoBulkAll elems + uptoBulkAll spare + 1
  | .agg parts => uptoBulkAll parts + 1
  | .iface _ d => uptoBulk d + 1
  | .map entries => uptoBulkEntries entries + 1
  | .held _ => 1
def uptoBulkAll {H : Type} : List (DataW H) → Nat
  | [] => 0
  | d :: r => uptoBulk d + uptoBulkAll r
def uptoBulkEntries {H : Type} : List (Lit × DataW H) → Nat
  | [] => 0
  | x :: r => uptoBulkEntry x + uptoBulkEntries r
def uptoBulkEntry {H : Type} : Lit × DataW H → Nat
  | (.string bytes, d) => bytes.length + uptoBulk d + 1
  | (_, d) => uptoBulk d + 1
 end
def uptoSmall : (H : Type) → List (DataW H) → Bool := fun _ ds => decide (uptoBulkAll ds ≤ 1048576)
def OpenSpec.upto (s : _root_.Go.ChangeSpec) : _root_.Go.OpenSpec := { _root_.Go.OpenSpec.ofChange s with cond := some uptoSmall }

/-- 'gazetteerlaw14.CacheBeaten', WHERE WHAT IT READS IS OF BULK AT MOST 1048576: true; the input reads as it did. -/
def cacheBeatenUptoRow : OpenClaim := { program := "ytpemdieejgldiaa", sum := "c8a7e8409e8a38c7590bad593179aecd9518f55f402fc546c1317b8003662c96", func := "gazetteer/gazetteerlaw14.CacheBeaten", spec := "cacheBeaten", inPlace := ["internal/abi.NoEscape"], unfollowed := true, recurses := true, apart := false, narrowed := true }
def CacheBeatenUptoSaid : Prop := cacheBeatenUptoRow.holds Try.pinned (OpenSpec.upto cacheBeatenSpec)

/-- 'gazetteerlaw14.CacheMost', WHERE WHAT IT READS IS OF BULK AT MOST 1048576: true; the input reads as it did. -/
def cacheMostUptoRow : OpenClaim := { program := "ytpemdieejgldiaa", sum := "c8a7e8409e8a38c7590bad593179aecd9518f55f402fc546c1317b8003662c96", func := "gazetteer/gazetteerlaw14.CacheMost", spec := "cacheMost", inPlace := ["internal/abi.NoEscape"], unfollowed := true, recurses := true, apart := false, narrowed := true }
def CacheMostUptoSaid : Prop := cacheMostUptoRow.holds Try.pinned (OpenSpec.upto cacheMostSpec)

/-- 'gazetteerlaw14.CacheStale', WHERE WHAT IT READS IS OF BULK AT MOST 1048576: true; the input reads as it did. -/
def cacheStaleUptoRow : OpenClaim := { program := "ytpemdieejgldiaa", sum := "c8a7e8409e8a38c7590bad593179aecd9518f55f402fc546c1317b8003662c96", func := "gazetteer/gazetteerlaw14.CacheStale", spec := "cacheStale", inPlace := ["internal/abi.NoEscape"], unfollowed := true, recurses := true, apart := false, narrowed := true }
def CacheStaleUptoSaid : Prop := cacheStaleUptoRow.holds Try.pinned (OpenSpec.upto cacheStaleSpec)

end Rows
end Go.Proofs.Ytpemdieejgldiaa
