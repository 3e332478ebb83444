/-
  No cell of these rows narrows 'for every input' (looked for: loops, veiled, ifaces, maps, wideKeys, modest, calm, conditions, laid).
  DERIVED. THE GIVEN ROWS OF THIS SEAT. 14 by the template 'for every input the law returns true; each argument reads behind the call as it read before'; 0 by the template 'total and deterministic' (their statements: YtadafplbgophfaaTotals.lean).
  GIVEN WITH THE SEED: the statements are not yours to turn. If you find one false, say at which input.
  Laid BY PROGRAM, IN A SANDBOX (cutbox-rows.mjs): the forced cells as the released guide's own fill.sh prints them over the translation afe0581b264eb165… (all of the seat's roots in one cut). By AI agents, Wed Nov 11 2026. No macro, syntax, notation, axiom, sorry.
-/
import Derived.Test.YtadafplbgophfaaChecked
import GoSem.Claim
import GoSem.ClaimJoined
import GoSem.ClaimMapViews
import Derived.JoinedTies
import Derived.KernelRfl
namespace Go.Proofs.Ytadafplbgophfaa
/- THE CELL 'sum', in the pinned program and in every row, IS THE sha256 OF THE DUMP (.gsa) THAT YtadafplbgophfaaProg.lean LOADS. Nothing in Lean hashes anything: it is a label: what it is worth is what the hold of that sum in a sandbox is worth. -/
noncomputable def Try.pinned : Pinned := { name := "ytadafplbgophfaa", sum := "afe0581b264eb16566202d8769a9384cd73fc220da85bd626fe5b3ad7643c230", checked := Try.checked }
namespace Rows
def none {H : Type} : Left H := { results := [], args := [] }

/-- 'tripartitelaw02.TrimEnds': WHATEVER THE INPUT: true; the input reads as it did. -/
def trimEndsSpec : ChangeSpec := { name := "trimEnds", fn := fun _ => fun
  | [d1, d2] => { results := [.lit (.bool true)], args := [d1, d2] }
  | _ => none }
def trimEndsRow : OpenClaim := { program := "ytadafplbgophfaa", sum := "afe0581b264eb16566202d8769a9384cd73fc220da85bd626fe5b3ad7643c230", func := "tripartite/tripartitelaw02.TrimEnds", spec := "trimEnds", apart := false }
def TrimEndsSaid : Prop := trimEndsRow.holds Try.pinned (OpenSpec.ofChange trimEndsSpec)

/-- ITS FALSE NEIGHBOUR: 'it returns false'. Refute it at one input. -/
def trimEndsWrong : ChangeSpec := { name := "trimEnds", fn := fun _ => fun
  | [d1, d2] => { results := [.lit (.bool false)], args := [d1, d2] }
  | _ => none }
def TrimEndsWrongFalsely : Prop := trimEndsRow.holds Try.pinned (OpenSpec.ofChange trimEndsWrong)

/-- 'tripartitelaw02.TrimTexts': WHATEVER THE INPUT: true; the input reads as it did. -/
def trimTextsSpec : ChangeSpec := { name := "trimTexts", fn := fun _ => fun
  | [d1, d2] => { results := [.lit (.bool true)], args := [d1, d2] }
  | _ => none }
def trimTextsRow : OpenClaim := { program := "ytadafplbgophfaa", sum := "afe0581b264eb16566202d8769a9384cd73fc220da85bd626fe5b3ad7643c230", func := "tripartite/tripartitelaw02.TrimTexts", spec := "trimTexts", apart := false }
def TrimTextsSaid : Prop := trimTextsRow.holds Try.pinned (OpenSpec.ofChange trimTextsSpec)

/-- ITS FALSE NEIGHBOUR: 'it returns false'. Refute it at one input. -/
def trimTextsWrong : ChangeSpec := { name := "trimTexts", fn := fun _ => fun
  | [d1, d2] => { results := [.lit (.bool false)], args := [d1, d2] }
  | _ => none }
def TrimTextsWrongFalsely : Prop := trimTextsRow.holds Try.pinned (OpenSpec.ofChange trimTextsWrong)

/-- 'tripartitelaw03.LcsMatches': WHATEVER THE INPUT: true; the input reads as it did. -/
def lcsMatchesSpec : ChangeSpec := { name := "lcsMatches", fn := fun _ => fun
  | [d1, d2] => { results := [.lit (.bool true)], args := [d1, d2] }
  | _ => none }
def lcsMatchesRow : OpenClaim := { program := "ytadafplbgophfaa", sum := "afe0581b264eb16566202d8769a9384cd73fc220da85bd626fe5b3ad7643c230", func := "tripartite/tripartitelaw03.LcsMatches", spec := "lcsMatches", recurses := true, apart := false }
def LcsMatchesSaid : Prop := lcsMatchesRow.holds Try.pinned (OpenSpec.ofChange lcsMatchesSpec)

/-- ITS FALSE NEIGHBOUR: 'it returns false'. Refute it at one input. -/
def lcsMatchesWrong : ChangeSpec := { name := "lcsMatches", fn := fun _ => fun
  | [d1, d2] => { results := [.lit (.bool false)], args := [d1, d2] }
  | _ => none }
def LcsMatchesWrongFalsely : Prop := lcsMatchesRow.holds Try.pinned (OpenSpec.ofChange lcsMatchesWrong)

/-- 'tripartitelaw03.LcsAlls': WHATEVER THE INPUT: true; the input reads as it did. -/
def lcsAllsSpec : ChangeSpec := { name := "lcsAlls", fn := fun _ => fun
  | [d1, d2] => { results := [.lit (.bool true)], args := [d1, d2] }
  | _ => none }
def lcsAllsRow : OpenClaim := { program := "ytadafplbgophfaa", sum := "afe0581b264eb16566202d8769a9384cd73fc220da85bd626fe5b3ad7643c230", func := "tripartite/tripartitelaw03.LcsAlls", spec := "lcsAlls", recurses := true, apart := false }
def LcsAllsSaid : Prop := lcsAllsRow.holds Try.pinned (OpenSpec.ofChange lcsAllsSpec)

/-- ITS FALSE NEIGHBOUR: 'it returns false'. Refute it at one input. -/
def lcsAllsWrong : ChangeSpec := { name := "lcsAlls", fn := fun _ => fun
  | [d1, d2] => { results := [.lit (.bool false)], args := [d1, d2] }
  | _ => none }
def LcsAllsWrongFalsely : Prop := lcsAllsRow.holds Try.pinned (OpenSpec.ofChange lcsAllsWrong)

/-- 'tripartitelaw03.LcsTurns': WHATEVER THE INPUT: true; the input reads as it did. -/
def lcsTurnsSpec : ChangeSpec := { name := "lcsTurns", fn := fun _ => fun
  | [d1, d2, d3] => { results := [.lit (.bool true)], args := [d1, d2, d3] }
  | _ => none }
def lcsTurnsRow : OpenClaim := { program := "ytadafplbgophfaa", sum := "afe0581b264eb16566202d8769a9384cd73fc220da85bd626fe5b3ad7643c230", func := "tripartite/tripartitelaw03.LcsTurns", spec := "lcsTurns", recurses := true, apart := false }
def LcsTurnsSaid : Prop := lcsTurnsRow.holds Try.pinned (OpenSpec.ofChange lcsTurnsSpec)

/-- ITS FALSE NEIGHBOUR: 'it returns false'. Refute it at one input. -/
def lcsTurnsWrong : ChangeSpec := { name := "lcsTurns", fn := fun _ => fun
  | [d1, d2, d3] => { results := [.lit (.bool false)], args := [d1, d2, d3] }
  | _ => none }
def LcsTurnsWrongFalsely : Prop := lcsTurnsRow.holds Try.pinned (OpenSpec.ofChange lcsTurnsWrong)

/-- 'tripartitelaw03.LcsRights': WHATEVER THE INPUT: true; the input reads as it did. -/
def lcsRightsSpec : ChangeSpec := { name := "lcsRights", fn := fun _ => fun
  | [d1, d2, d3] => { results := [.lit (.bool true)], args := [d1, d2, d3] }
  | _ => none }
def lcsRightsRow : OpenClaim := { program := "ytadafplbgophfaa", sum := "afe0581b264eb16566202d8769a9384cd73fc220da85bd626fe5b3ad7643c230", func := "tripartite/tripartitelaw03.LcsRights", spec := "lcsRights", recurses := true, apart := false }
def LcsRightsSaid : Prop := lcsRightsRow.holds Try.pinned (OpenSpec.ofChange lcsRightsSpec)

/-- ITS FALSE NEIGHBOUR: 'it returns false'. Refute it at one input. -/
def lcsRightsWrong : ChangeSpec := { name := "lcsRights", fn := fun _ => fun
  | [d1, d2, d3] => { results := [.lit (.bool false)], args := [d1, d2, d3] }
  | _ => none }
def LcsRightsWrongFalsely : Prop := lcsRightsRow.holds Try.pinned (OpenSpec.ofChange lcsRightsWrong)

/-- 'tripartitelaw04.EditScripts': WHATEVER THE INPUT: true; the input reads as it did. -/
def editScriptsSpec : ChangeSpec := { name := "editScripts", fn := fun _ => fun
  | [d1, d2, d3] => { results := [.lit (.bool true)], args := [d1, d2, d3] }
  | _ => none }
def editScriptsRow : OpenClaim := { program := "ytadafplbgophfaa", sum := "afe0581b264eb16566202d8769a9384cd73fc220da85bd626fe5b3ad7643c230", func := "tripartite/tripartitelaw04.EditScripts", spec := "editScripts", apart := false }
def EditScriptsSaid : Prop := editScriptsRow.holds Try.pinned (OpenSpec.ofChange editScriptsSpec)

/-- ITS FALSE NEIGHBOUR: 'it returns false'. Refute it at one input. -/
def editScriptsWrong : ChangeSpec := { name := "editScripts", fn := fun _ => fun
  | [d1, d2, d3] => { results := [.lit (.bool false)], args := [d1, d2, d3] }
  | _ => none }
def EditScriptsWrongFalsely : Prop := editScriptsRow.holds Try.pinned (OpenSpec.ofChange editScriptsWrong)

/-- 'tripartitelaw04.EditApplies': WHATEVER THE INPUT: true; the input reads as it did. -/
def editAppliesSpec : ChangeSpec := { name := "editApplies", fn := fun _ => fun
  | [d1, d2, d3] => { results := [.lit (.bool true)], args := [d1, d2, d3] }
  | _ => none }
def editAppliesRow : OpenClaim := { program := "ytadafplbgophfaa", sum := "afe0581b264eb16566202d8769a9384cd73fc220da85bd626fe5b3ad7643c230", func := "tripartite/tripartitelaw04.EditApplies", spec := "editApplies", apart := false }
def EditAppliesSaid : Prop := editAppliesRow.holds Try.pinned (OpenSpec.ofChange editAppliesSpec)

/-- ITS FALSE NEIGHBOUR: 'it returns false'. Refute it at one input. -/
def editAppliesWrong : ChangeSpec := { name := "editApplies", fn := fun _ => fun
  | [d1, d2, d3] => { results := [.lit (.bool false)], args := [d1, d2, d3] }
  | _ => none }
def EditAppliesWrongFalsely : Prop := editAppliesRow.holds Try.pinned (OpenSpec.ofChange editAppliesWrong)

/-- 'tripartitelaw06.ChunkLists': WHATEVER THE INPUT: true; the input reads as it did. -/
def chunkListsSpec : ChangeSpec := { name := "chunkLists", fn := fun _ => fun
  | [d1, d2, d3] => { results := [.lit (.bool true)], args := [d1, d2, d3] }
  | _ => none }
def chunkListsRow : OpenClaim := { program := "ytadafplbgophfaa", sum := "afe0581b264eb16566202d8769a9384cd73fc220da85bd626fe5b3ad7643c230", func := "tripartite/tripartitelaw06.ChunkLists", spec := "chunkLists", apart := false }
def ChunkListsSaid : Prop := chunkListsRow.holds Try.pinned (OpenSpec.ofChange chunkListsSpec)

/-- ITS FALSE NEIGHBOUR: 'it returns false'. Refute it at one input. -/
def chunkListsWrong : ChangeSpec := { name := "chunkLists", fn := fun _ => fun
  | [d1, d2, d3] => { results := [.lit (.bool false)], args := [d1, d2, d3] }
  | _ => none }
def ChunkListsWrongFalsely : Prop := chunkListsRow.holds Try.pinned (OpenSpec.ofChange chunkListsWrong)

/-- 'tripartitelaw10.BuildHoists': WHATEVER THE INPUT: true; the input reads as it did. -/
def buildHoistsSpec : ChangeSpec := { name := "buildHoists", fn := fun _ => fun
  | [d1, d2] => { results := [.lit (.bool true)], args := [d1, d2] }
  | _ => none }
def buildHoistsRow : OpenClaim := { program := "ytadafplbgophfaa", sum := "afe0581b264eb16566202d8769a9384cd73fc220da85bd626fe5b3ad7643c230", func := "tripartite/tripartitelaw10.BuildHoists", spec := "buildHoists", inPlace := ["internal/bytealg.IndexByteString", "internal/bytealg.IndexString", "internal/abi.NoEscape", "internal/bytealg.MakeNoZero"], named := ["internal/bytealg.MaxLen"], apart := false }
def BuildHoistsSaid : Prop := buildHoistsRow.holds Try.pinned (OpenSpec.ofChange buildHoistsSpec)

/-- ITS FALSE NEIGHBOUR: 'it returns false'. Refute it at one input. -/
def buildHoistsWrong : ChangeSpec := { name := "buildHoists", fn := fun _ => fun
  | [d1, d2] => { results := [.lit (.bool false)], args := [d1, d2] }
  | _ => none }
def BuildHoistsWrongFalsely : Prop := buildHoistsRow.holds Try.pinned (OpenSpec.ofChange buildHoistsWrong)

/-- 'tripartitelaw11.ResolveAlls': WHATEVER THE INPUT: true; the input reads as it did. -/
def resolveAllsSpec : ChangeSpec := { name := "resolveAlls", fn := fun _ => fun
  | [d1, d2, d3] => { results := [.lit (.bool true)], args := [d1, d2, d3] }
  | _ => none }
def resolveAllsRow : OpenClaim := { program := "ytadafplbgophfaa", sum := "afe0581b264eb16566202d8769a9384cd73fc220da85bd626fe5b3ad7643c230", func := "tripartite/tripartitelaw11.ResolveAlls", spec := "resolveAlls", inPlace := ["internal/bytealg.IndexByteString", "internal/bytealg.IndexString", "internal/abi.NoEscape"], named := ["internal/bytealg.MaxLen"], apart := false }
def ResolveAllsSaid : Prop := resolveAllsRow.holds Try.pinned (OpenSpec.ofChange resolveAllsSpec)

/-- ITS FALSE NEIGHBOUR: 'it returns false'. Refute it at one input. -/
def resolveAllsWrong : ChangeSpec := { name := "resolveAlls", fn := fun _ => fun
  | [d1, d2, d3] => { results := [.lit (.bool false)], args := [d1, d2, d3] }
  | _ => none }
def ResolveAllsWrongFalsely : Prop := resolveAllsRow.holds Try.pinned (OpenSpec.ofChange resolveAllsWrong)

/-- 'tripartitelaw11.ResolveOnes': WHATEVER THE INPUT: true; the input reads as it did. -/
def resolveOnesSpec : ChangeSpec := { name := "resolveOnes", fn := fun _ => fun
  | [d1, d2, d3] => { results := [.lit (.bool true)], args := [d1, d2, d3] }
  | _ => none }
def resolveOnesRow : OpenClaim := { program := "ytadafplbgophfaa", sum := "afe0581b264eb16566202d8769a9384cd73fc220da85bd626fe5b3ad7643c230", func := "tripartite/tripartitelaw11.ResolveOnes", spec := "resolveOnes", inPlace := ["internal/bytealg.IndexByteString", "internal/bytealg.IndexString", "internal/abi.NoEscape"], named := ["internal/bytealg.MaxLen"], apart := false }
def ResolveOnesSaid : Prop := resolveOnesRow.holds Try.pinned (OpenSpec.ofChange resolveOnesSpec)

/-- ITS FALSE NEIGHBOUR: 'it returns false'. Refute it at one input. -/
def resolveOnesWrong : ChangeSpec := { name := "resolveOnes", fn := fun _ => fun
  | [d1, d2, d3] => { results := [.lit (.bool false)], args := [d1, d2, d3] }
  | _ => none }
def ResolveOnesWrongFalsely : Prop := resolveOnesRow.holds Try.pinned (OpenSpec.ofChange resolveOnesWrong)

/-- 'tripartitelaw10.BuildFavours': WHATEVER THE INPUT: true; the input reads as it did. -/
def buildFavoursSpec : ChangeSpec := { name := "buildFavours", fn := fun _ => fun
  | [d1, d2] => { results := [.lit (.bool true)], args := [d1, d2] }
  | _ => none }
def buildFavoursRow : OpenClaim := { program := "ytadafplbgophfaa", sum := "afe0581b264eb16566202d8769a9384cd73fc220da85bd626fe5b3ad7643c230", func := "tripartite/tripartitelaw10.BuildFavours", spec := "buildFavours", inPlace := ["internal/bytealg.IndexByteString", "internal/bytealg.IndexString", "internal/abi.NoEscape", "internal/bytealg.MakeNoZero"], named := ["internal/bytealg.MaxLen"], apart := false }
def BuildFavoursSaid : Prop := buildFavoursRow.holds Try.pinned (OpenSpec.ofChange buildFavoursSpec)

/-- ITS FALSE NEIGHBOUR: 'it returns false'. Refute it at one input. -/
def buildFavoursWrong : ChangeSpec := { name := "buildFavours", fn := fun _ => fun
  | [d1, d2] => { results := [.lit (.bool false)], args := [d1, d2] }
  | _ => none }
def BuildFavoursWrongFalsely : Prop := buildFavoursRow.holds Try.pinned (OpenSpec.ofChange buildFavoursWrong)

/-- 'tripartitelaw10.BuildDocs': WHATEVER THE INPUT: true; the input reads as it did. -/
def buildDocsSpec : ChangeSpec := { name := "buildDocs", fn := fun _ => fun
  | [d1, d2, d3] => { results := [.lit (.bool true)], args := [d1, d2, d3] }
  | _ => none }
def buildDocsRow : OpenClaim := { program := "ytadafplbgophfaa", sum := "afe0581b264eb16566202d8769a9384cd73fc220da85bd626fe5b3ad7643c230", func := "tripartite/tripartitelaw10.BuildDocs", spec := "buildDocs", inPlace := ["internal/bytealg.IndexByteString", "internal/bytealg.IndexString", "internal/abi.NoEscape", "internal/bytealg.MakeNoZero"], named := ["internal/bytealg.MaxLen"], apart := false }
def BuildDocsSaid : Prop := buildDocsRow.holds Try.pinned (OpenSpec.ofChange buildDocsSpec)

/-- ITS FALSE NEIGHBOUR: 'it returns false'. Refute it at one input. -/
def buildDocsWrong : ChangeSpec := { name := "buildDocs", fn := fun _ => fun
  | [d1, d2, d3] => { results := [.lit (.bool false)], args := [d1, d2, d3] }
  | _ => none }
def BuildDocsWrongFalsely : Prop := buildDocsRow.holds Try.pinned (OpenSpec.ofChange buildDocsWrong)

/- THE SECOND FORM. 'bulk': how many values and letters a reading holds, each counted each time it is reached (what is shared counts as often as it is met; a slice's spare places count too). A statement '..UptoSaid' is the law's where the arguments, and the package variables that the reading takes, are together of bulk at most 1048576: NARROWER than '..Said'. Prove '..Said' where nothing that the law and all that it calls make is longer than what came in: it says more and counts as full. Else prove '..UptoSaid'. A law counts once. -/
mutual
def uptoBulk {H : Type} : DataW H → Nat
  | .lit (.string bytes) => bytes.length + 1
  | .lit _ => 1
  | .nil => 1
  | .ptr d => uptoBulk d + 1
  | .slice elems spare => uptoBulkAll elems + uptoBulkAll spare + 1
  | .agg parts => uptoBulkAll parts + 1
  | .iface _ d => uptoBulk d + 1
  | .map entries => uptoBulkEntries entries + 1
  | .held _ => 1
def uptoBulkAll {H : Type} : List (DataW H) → Nat
  | [] => 0
  | d :: r => uptoBulk d + uptoBulkAll r
def uptoBulkEntries {H : Type} : List (Lit × DataW H) → Nat
  | [] => 0
  | x :: r => uptoBulkEntry x + uptoBulkEntries r
def uptoBulkEntry {H : Type} : Lit × DataW H → Nat
  | (.string bytes, d) => bytes.length + uptoBulk d + 1
  | (_, d) => uptoBulk d + 1
 end
def uptoSmall : (H : Type) → List (DataW H) → Bool := fun _ ds => decide (uptoBulkAll ds ≤ 1048576)
def OpenSpec.upto (s : _root_.Go.ChangeSpec) : _root_.Go.OpenSpec := { _root_.Go.OpenSpec.ofChange s with cond := some uptoSmall }

/-- 'tripartitelaw02.TrimEnds', WHERE WHAT IT READS IS OF BULK AT MOST 1048576: true; the input reads as it did. -/
def trimEndsUptoRow : OpenClaim := { program := "ytadafplbgophfaa", sum := "afe0581b264eb16566202d8769a9384cd73fc220da85bd626fe5b3ad7643c230", func := "tripartite/tripartitelaw02.TrimEnds", spec := "trimEnds", apart := false, narrowed := true }
def TrimEndsUptoSaid : Prop := trimEndsUptoRow.holds Try.pinned (OpenSpec.upto trimEndsSpec)

/-- 'tripartitelaw02.TrimTexts', WHERE WHAT IT READS IS OF BULK AT MOST 1048576: true; the input reads as it did. -/
def trimTextsUptoRow : OpenClaim := { program := "ytadafplbgophfaa", sum := "afe0581b264eb16566202d8769a9384cd73fc220da85bd626fe5b3ad7643c230", func := "tripartite/tripartitelaw02.TrimTexts", spec := "trimTexts", apart := false, narrowed := true }
def TrimTextsUptoSaid : Prop := trimTextsUptoRow.holds Try.pinned (OpenSpec.upto trimTextsSpec)

/-- 'tripartitelaw03.LcsMatches', WHERE WHAT IT READS IS OF BULK AT MOST 1048576: true; the input reads as it did. -/
def lcsMatchesUptoRow : OpenClaim := { program := "ytadafplbgophfaa", sum := "afe0581b264eb16566202d8769a9384cd73fc220da85bd626fe5b3ad7643c230", func := "tripartite/tripartitelaw03.LcsMatches", spec := "lcsMatches", recurses := true, apart := false, narrowed := true }
def LcsMatchesUptoSaid : Prop := lcsMatchesUptoRow.holds Try.pinned (OpenSpec.upto lcsMatchesSpec)

/-- 'tripartitelaw03.LcsAlls', WHERE WHAT IT READS IS OF BULK AT MOST 1048576: true; the input reads as it did. -/
def lcsAllsUptoRow : OpenClaim := { program := "ytadafplbgophfaa", sum := "afe0581b264eb16566202d8769a9384cd73fc220da85bd626fe5b3ad7643c230", func := "tripartite/tripartitelaw03.LcsAlls", spec := "lcsAlls", recurses := true, apart := false, narrowed := true }
def LcsAllsUptoSaid : Prop := lcsAllsUptoRow.holds Try.pinned (OpenSpec.upto lcsAllsSpec)

/-- 'tripartitelaw03.LcsTurns', WHERE WHAT IT READS IS OF BULK AT MOST 1048576: true; the input reads as it did. -/
def lcsTurnsUptoRow : OpenClaim := { program := "ytadafplbgophfaa", sum := "afe0581b264eb16566202d8769a9384cd73fc220da85bd626fe5b3ad7643c230", func := "tripartite/tripartitelaw03.LcsTurns", spec := "lcsTurns", recurses := true, apart := false, narrowed := true }
def LcsTurnsUptoSaid : Prop := lcsTurnsUptoRow.holds Try.pinned (OpenSpec.upto lcsTurnsSpec)

/-- 'tripartitelaw03.LcsRights', WHERE WHAT IT READS IS OF BULK AT MOST 1048576: true; the input reads as it did. -/
def lcsRightsUptoRow : OpenClaim := { program := "ytadafplbgophfaa", sum := "afe0581b264eb16566202d8769a9384cd73fc220da85bd626fe5b3ad7643c230", func := "tripartite/tripartitelaw03.LcsRights", spec := "lcsRights", recurses := true, apart := false, narrowed := true }
def LcsRightsUptoSaid : Prop := lcsRightsUptoRow.holds Try.pinned (OpenSpec.upto lcsRightsSpec)

/-- 'tripartitelaw04.EditScripts', WHERE WHAT IT READS IS OF BULK AT MOST 1048576: true; the input reads as it did. -/
def editScriptsUptoRow : OpenClaim := { program := "ytadafplbgophfaa", sum := "afe0581b264eb16566202d8769a9384cd73fc220da85bd626fe5b3ad7643c230", func := "tripartite/tripartitelaw04.EditScripts", spec := "editScripts", apart := false, narrowed := true }
def EditScriptsUptoSaid : Prop := editScriptsUptoRow.holds Try.pinned (OpenSpec.upto editScriptsSpec)

/-- 'tripartitelaw04.EditApplies', WHERE WHAT IT READS IS OF BULK AT MOST 1048576: true; the input reads as it did. -/
def editAppliesUptoRow : OpenClaim := { program := "ytadafplbgophfaa", sum := "afe0581b264eb16566202d8769a9384cd73fc220da85bd626fe5b3ad7643c230", func := "tripartite/tripartitelaw04.EditApplies", spec := "editApplies", apart := false, narrowed := true }
def EditAppliesUptoSaid : Prop := editAppliesUptoRow.holds Try.pinned (OpenSpec.upto editAppliesSpec)

/-- 'tripartitelaw06.ChunkLists', WHERE WHAT IT READS IS OF BULK AT MOST 1048576: true; the input reads as it did. -/
def chunkListsUptoRow : OpenClaim := { program := "ytadafplbgophfaa", sum := "afe0581b264eb16566202d8769a9384cd73fc220da85bd626fe5b3ad7643c230", func := "tripartite/tripartitelaw06.ChunkLists", spec := "chunkLists", apart := false, narrowed := true }
def ChunkListsUptoSaid : Prop := chunkListsUptoRow.holds Try.pinned (OpenSpec.upto chunkListsSpec)

/-- 'tripartitelaw10.BuildHoists', WHERE WHAT IT READS IS OF BULK AT MOST 1048576: true; the input reads as it did. -/
def buildHoistsUptoRow : OpenClaim := { program := "ytadafplbgophfaa", sum := "afe0581b264eb16566202d8769a9384cd73fc220da85bd626fe5b3ad7643c230", func := "tripartite/tripartitelaw10.BuildHoists", spec := "buildHoists", inPlace := ["internal/bytealg.IndexByteString", "internal/bytealg.IndexString", "internal/abi.NoEscape", "internal/bytealg.MakeNoZero"], named := ["internal/bytealg.MaxLen"], apart := false, narrowed := true }
def BuildHoistsUptoSaid : Prop := buildHoistsUptoRow.holds Try.pinned (OpenSpec.upto buildHoistsSpec)

/-- 'tripartitelaw11.ResolveAlls', WHERE WHAT IT READS IS OF BULK AT MOST 1048576: true; the input reads as it did. -/
def resolveAllsUptoRow : OpenClaim := { program := "ytadafplbgophfaa", sum := "afe0581b264eb16566202d8769a9384cd73fc220da85bd626fe5b3ad7643c230", func := "tripartite/tripartitelaw11.ResolveAlls", spec := "resolveAlls", inPlace := ["internal/bytealg.IndexByteString", "internal/bytealg.IndexString", "internal/abi.NoEscape"], named := ["internal/bytealg.MaxLen"], apart := false, narrowed := true }
def ResolveAllsUptoSaid : Prop := resolveAllsUptoRow.holds Try.pinned (OpenSpec.upto resolveAllsSpec)

/-- 'tripartitelaw11.ResolveOnes', WHERE WHAT IT READS IS OF BULK AT MOST 1048576: true; the input reads as it did. -/
def resolveOnesUptoRow : OpenClaim := { program := "ytadafplbgophfaa", sum := "afe0581b264eb16566202d8769a9384cd73fc220da85bd626fe5b3ad7643c230", func := "tripartite/tripartitelaw11.ResolveOnes", spec := "resolveOnes", inPlace := ["internal/bytealg.IndexByteString", "internal/bytealg.IndexString", "internal/abi.NoEscape"], named := ["internal/bytealg.MaxLen"], apart := false, narrowed := true }
def ResolveOnesUptoSaid : Prop := resolveOnesUptoRow.holds Try.pinned (OpenSpec.upto resolveOnesSpec)

/-- 'tripartitelaw10.BuildFavours', WHERE WHAT IT READS IS OF BULK AT MOST 1048576: true; the input reads as it did. -/
def buildFavoursUptoRow : OpenClaim := { program := "ytadafplbgophfaa", sum := "afe0581b264eb16566202d8769a9384cd73fc220da85bd626fe5b3ad7643c230", func := "tripartite/tripartitelaw10.BuildFavours", spec := "buildFavours", inPlace := ["internal/bytealg.IndexByteString", "internal/bytealg.IndexString", "internal/abi.NoEscape", "internal/bytealg.MakeNoZero"], named := ["internal/bytealg.MaxLen"], apart := false, narrowed := true }
def BuildFavoursUptoSaid : Prop := buildFavoursUptoRow.holds Try.pinned (OpenSpec.upto buildFavoursSpec)

/-- 'tripartitelaw10.BuildDocs', WHERE WHAT IT READS IS OF BULK AT MOST 1048576: true; the input reads as it did. -/
def buildDocsUptoRow : OpenClaim := { program := "ytadafplbgophfaa", sum := "afe0581b264eb16566202d8769a9384cd73fc220da85bd626fe5b3ad7643c230", func := "tripartite/tripartitelaw10.BuildDocs", spec := "buildDocs", inPlace := ["internal/bytealg.IndexByteString", "internal/bytealg.IndexString", "internal/abi.NoEscape", "internal/bytealg.MakeNoZero"], named := ["internal/bytealg.MaxLen"], apart := false, narrowed := true }
def BuildDocsUptoSaid : Prop := buildDocsUptoRow.holds Try.pinned (OpenSpec.upto buildDocsSpec)

end Rows
end Go.Proofs.Ytadafplbgophfaa
