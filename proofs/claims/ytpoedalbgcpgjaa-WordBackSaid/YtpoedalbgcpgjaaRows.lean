/-
  No cell of these rows narrows 'for every input' (looked for: loops, veiled, ifaces, maps, wideKeys, modest, calm, conditions, laid).
  DERIVED. THE GIVEN ROWS OF THIS SEAT. 11 by the template 'for every input the law returns true; each argument reads behind the call as it read before'; 0 by the template 'total and deterministic' (their statements: YtpoedalbgcpgjaaTotals.lean).
  GIVEN WITH THE SEED: the statements are not yours to turn. If you find one false, say at which input.
  Laid BY PROGRAM, IN A SANDBOX (cutbox-rows.mjs): the forced cells as the released guide's own fill.sh prints them over the translation fe45f4a44f2d5b16… (all of the seat's roots in one cut). By AI agents, Wed Nov 11 2026. No macro, syntax, notation, axiom, sorry.
-/
import Derived.Test.YtpoedalbgcpgjaaChecked
import GoSem.Claim
import GoSem.ClaimJoined
import GoSem.ClaimMapViews
import Derived.JoinedTies
import Derived.KernelRfl
namespace Go.Proofs.Ytpoedalbgcpgjaa
/- THE CELL 'sum', in the pinned program and in every row, IS THE sha256 OF THE DUMP (.gsa) THAT YtpoedalbgcpgjaaProg.lean LOADS. Nothing in Lean hashes anything: it is a label: what it is worth is what the hold of that sum in a sandbox is worth. -/
noncomputable def Try.pinned : Pinned := { name := "ytpoedalbgcpgjaa", sum := "fe45f4a44f2d5b16ea705758e416550520469fb082d2f113da3e6b3a04f943d8", checked := Try.checked }
namespace Rows
def none {H : Type} : Left H := { results := [], args := [] }

/-- 'casketlaw1.WordTags': WHATEVER THE INPUT: true; the input reads as it did. -/
def wordTagsSpec : ChangeSpec := { name := "wordTags", fn := fun _ => fun
  | [d] => { results := [.lit (.bool true)], args := [d] }
  | _ => none }
def wordTagsRow : OpenClaim := { program := "ytpoedalbgcpgjaa", sum := "fe45f4a44f2d5b16ea705758e416550520469fb082d2f113da3e6b3a04f943d8", func := "casket/casketlaw1.WordTags", spec := "wordTags", apart := false }
def WordTagsSaid : Prop := wordTagsRow.holds Try.pinned (OpenSpec.ofChange wordTagsSpec)

/-- ITS FALSE NEIGHBOUR: 'it returns false'. Refute it at one input. -/
def wordTagsWrong : ChangeSpec := { name := "wordTags", fn := fun _ => fun
  | [d] => { results := [.lit (.bool false)], args := [d] }
  | _ => none }
def WordTagsWrongFalsely : Prop := wordTagsRow.holds Try.pinned (OpenSpec.ofChange wordTagsWrong)

/-- 'casketlaw1.WordRows': WHATEVER THE INPUT: true; the input reads as it did. -/
def wordRowsSpec : ChangeSpec := { name := "wordRows", fn := fun _ => fun
  | [d1, d2] => { results := [.lit (.bool true)], args := [d1, d2] }
  | _ => none }
def wordRowsRow : OpenClaim := { program := "ytpoedalbgcpgjaa", sum := "fe45f4a44f2d5b16ea705758e416550520469fb082d2f113da3e6b3a04f943d8", func := "casket/casketlaw1.WordRows", spec := "wordRows", apart := false }
def WordRowsSaid : Prop := wordRowsRow.holds Try.pinned (OpenSpec.ofChange wordRowsSpec)

/-- ITS FALSE NEIGHBOUR: 'it returns false'. Refute it at one input. -/
def wordRowsWrong : ChangeSpec := { name := "wordRows", fn := fun _ => fun
  | [d1, d2] => { results := [.lit (.bool false)], args := [d1, d2] }
  | _ => none }
def WordRowsWrongFalsely : Prop := wordRowsRow.holds Try.pinned (OpenSpec.ofChange wordRowsWrong)

/-- 'casketlaw1.WordApart': WHATEVER THE INPUT: true; the input reads as it did. -/
def wordApartSpec : ChangeSpec := { name := "wordApart", fn := fun _ => fun
  | [d1, d2, d3, d4, d5, d6] => { results := [.lit (.bool true)], args := [d1, d2, d3, d4, d5, d6] }
  | _ => none }
def wordApartRow : OpenClaim := { program := "ytpoedalbgcpgjaa", sum := "fe45f4a44f2d5b16ea705758e416550520469fb082d2f113da3e6b3a04f943d8", func := "casket/casketlaw1.WordApart", spec := "wordApart", apart := false }
def WordApartSaid : Prop := wordApartRow.holds Try.pinned (OpenSpec.ofChange wordApartSpec)

/-- ITS FALSE NEIGHBOUR: 'it returns false'. Refute it at one input. -/
def wordApartWrong : ChangeSpec := { name := "wordApart", fn := fun _ => fun
  | [d1, d2, d3, d4, d5, d6] => { results := [.lit (.bool false)], args := [d1, d2, d3, d4, d5, d6] }
  | _ => none }
def WordApartWrongFalsely : Prop := wordApartRow.holds Try.pinned (OpenSpec.ofChange wordApartWrong)

/-- 'casketlaw1.WordBoxes': WHATEVER THE INPUT: true; the input reads as it did. -/
def wordBoxesSpec : ChangeSpec := { name := "wordBoxes", fn := fun _ => fun
  | [d1, d2, d3, d4, d5] => { results := [.lit (.bool true)], args := [d1, d2, d3, d4, d5] }
  | _ => none }
def wordBoxesRow : OpenClaim := { program := "ytpoedalbgcpgjaa", sum := "fe45f4a44f2d5b16ea705758e416550520469fb082d2f113da3e6b3a04f943d8", func := "casket/casketlaw1.WordBoxes", spec := "wordBoxes", apart := false }
def WordBoxesSaid : Prop := wordBoxesRow.holds Try.pinned (OpenSpec.ofChange wordBoxesSpec)

/-- ITS FALSE NEIGHBOUR: 'it returns false'. Refute it at one input. -/
def wordBoxesWrong : ChangeSpec := { name := "wordBoxes", fn := fun _ => fun
  | [d1, d2, d3, d4, d5] => { results := [.lit (.bool false)], args := [d1, d2, d3, d4, d5] }
  | _ => none }
def WordBoxesWrongFalsely : Prop := wordBoxesRow.holds Try.pinned (OpenSpec.ofChange wordBoxesWrong)

/-- 'casketlaw14.SitePairs': WHATEVER THE INPUT: true; the input reads as it did. -/
def sitePairsSpec : ChangeSpec := { name := "sitePairs", fn := fun _ => fun
  | [d1, d2] => { results := [.lit (.bool true)], args := [d1, d2] }
  | _ => none }
def sitePairsRow : OpenClaim := { program := "ytpoedalbgcpgjaa", sum := "fe45f4a44f2d5b16ea705758e416550520469fb082d2f113da3e6b3a04f943d8", func := "casket/casketlaw14.SitePairs", spec := "sitePairs", apart := false }
def SitePairsSaid : Prop := sitePairsRow.holds Try.pinned (OpenSpec.ofChange sitePairsSpec)

/-- ITS FALSE NEIGHBOUR: 'it returns false'. Refute it at one input. -/
def sitePairsWrong : ChangeSpec := { name := "sitePairs", fn := fun _ => fun
  | [d1, d2] => { results := [.lit (.bool false)], args := [d1, d2] }
  | _ => none }
def SitePairsWrongFalsely : Prop := sitePairsRow.holds Try.pinned (OpenSpec.ofChange sitePairsWrong)

/-- 'casketlaw14.SiteStops': WHATEVER THE INPUT: true; the input reads as it did. -/
def siteStopsSpec : ChangeSpec := { name := "siteStops", fn := fun _ => fun
  | [d] => { results := [.lit (.bool true)], args := [d] }
  | _ => none }
def siteStopsRow : OpenClaim := { program := "ytpoedalbgcpgjaa", sum := "fe45f4a44f2d5b16ea705758e416550520469fb082d2f113da3e6b3a04f943d8", func := "casket/casketlaw14.SiteStops", spec := "siteStops", apart := false }
def SiteStopsSaid : Prop := siteStopsRow.holds Try.pinned (OpenSpec.ofChange siteStopsSpec)

/-- ITS FALSE NEIGHBOUR: 'it returns false'. Refute it at one input. -/
def siteStopsWrong : ChangeSpec := { name := "siteStops", fn := fun _ => fun
  | [d] => { results := [.lit (.bool false)], args := [d] }
  | _ => none }
def SiteStopsWrongFalsely : Prop := siteStopsRow.holds Try.pinned (OpenSpec.ofChange siteStopsWrong)

/-- 'casketlaw1.WordClasses': WHATEVER THE INPUT: true; the input reads as it did. -/
def wordClassesSpec : ChangeSpec := { name := "wordClasses", fn := fun _ => fun
  | [d] => { results := [.lit (.bool true)], args := [d] }
  | _ => none }
def wordClassesRow : OpenClaim := { program := "ytpoedalbgcpgjaa", sum := "fe45f4a44f2d5b16ea705758e416550520469fb082d2f113da3e6b3a04f943d8", func := "casket/casketlaw1.WordClasses", spec := "wordClasses", apart := false }
def WordClassesSaid : Prop := wordClassesRow.holds Try.pinned (OpenSpec.ofChange wordClassesSpec)

/-- ITS FALSE NEIGHBOUR: 'it returns false'. Refute it at one input. -/
def wordClassesWrong : ChangeSpec := { name := "wordClasses", fn := fun _ => fun
  | [d] => { results := [.lit (.bool false)], args := [d] }
  | _ => none }
def WordClassesWrongFalsely : Prop := wordClassesRow.holds Try.pinned (OpenSpec.ofChange wordClassesWrong)

/-- 'casketlaw14.SitePlays': WHATEVER THE INPUT: true; the input reads as it did. -/
def sitePlaysSpec : ChangeSpec := { name := "sitePlays", fn := fun _ => fun
  | [d1, d2] => { results := [.lit (.bool true)], args := [d1, d2] }
  | _ => none }
def sitePlaysRow : OpenClaim := { program := "ytpoedalbgcpgjaa", sum := "fe45f4a44f2d5b16ea705758e416550520469fb082d2f113da3e6b3a04f943d8", func := "casket/casketlaw14.SitePlays", spec := "sitePlays", apart := false }
def SitePlaysSaid : Prop := sitePlaysRow.holds Try.pinned (OpenSpec.ofChange sitePlaysSpec)

/-- ITS FALSE NEIGHBOUR: 'it returns false'. Refute it at one input. -/
def sitePlaysWrong : ChangeSpec := { name := "sitePlays", fn := fun _ => fun
  | [d1, d2] => { results := [.lit (.bool false)], args := [d1, d2] }
  | _ => none }
def SitePlaysWrongFalsely : Prop := sitePlaysRow.holds Try.pinned (OpenSpec.ofChange sitePlaysWrong)

/-- 'casketlaw14.SiteWarms': WHATEVER THE INPUT: true; the input reads as it did. -/
def siteWarmsSpec : ChangeSpec := { name := "siteWarms", fn := fun _ => fun
  | [d1, d2, d3] => { results := [.lit (.bool true)], args := [d1, d2, d3] }
  | _ => none }
def siteWarmsRow : OpenClaim := { program := "ytpoedalbgcpgjaa", sum := "fe45f4a44f2d5b16ea705758e416550520469fb082d2f113da3e6b3a04f943d8", func := "casket/casketlaw14.SiteWarms", spec := "siteWarms", apart := false }
def SiteWarmsSaid : Prop := siteWarmsRow.holds Try.pinned (OpenSpec.ofChange siteWarmsSpec)

/-- ITS FALSE NEIGHBOUR: 'it returns false'. Refute it at one input. -/
def siteWarmsWrong : ChangeSpec := { name := "siteWarms", fn := fun _ => fun
  | [d1, d2, d3] => { results := [.lit (.bool false)], args := [d1, d2, d3] }
  | _ => none }
def SiteWarmsWrongFalsely : Prop := siteWarmsRow.holds Try.pinned (OpenSpec.ofChange siteWarmsWrong)

/-- 'casketlaw14.SiteForced': WHATEVER THE INPUT: true; the input reads as it did. -/
def siteForcedSpec : ChangeSpec := { name := "siteForced", fn := fun _ => fun
  | [d1, d2, d3] => { results := [.lit (.bool true)], args := [d1, d2, d3] }
  | _ => none }
def siteForcedRow : OpenClaim := { program := "ytpoedalbgcpgjaa", sum := "fe45f4a44f2d5b16ea705758e416550520469fb082d2f113da3e6b3a04f943d8", func := "casket/casketlaw14.SiteForced", spec := "siteForced", apart := false }
def SiteForcedSaid : Prop := siteForcedRow.holds Try.pinned (OpenSpec.ofChange siteForcedSpec)

/-- ITS FALSE NEIGHBOUR: 'it returns false'. Refute it at one input. -/
def siteForcedWrong : ChangeSpec := { name := "siteForced", fn := fun _ => fun
  | [d1, d2, d3] => { results := [.lit (.bool false)], args := [d1, d2, d3] }
  | _ => none }
def SiteForcedWrongFalsely : Prop := siteForcedRow.holds Try.pinned (OpenSpec.ofChange siteForcedWrong)

/-- 'casketlaw1.WordBack': WHATEVER THE INPUT: true; the input reads as it did. -/
def wordBackSpec : ChangeSpec := { name := "wordBack", fn := fun _ => fun
  | [d1, d2, d3, d4, d5] => { results := [.lit (.bool true)], args := [d1, d2, d3, d4, d5] }
  | _ => none }
def wordBackRow : OpenClaim := { program := "ytpoedalbgcpgjaa", sum := "fe45f4a44f2d5b16ea705758e416550520469fb082d2f113da3e6b3a04f943d8", func := "casket/casketlaw1.WordBack", spec := "wordBack", apart := false }
def WordBackSaid : Prop := wordBackRow.holds Try.pinned (OpenSpec.ofChange wordBackSpec)

/-- ITS FALSE NEIGHBOUR: 'it returns false'. Refute it at one input. -/
def wordBackWrong : ChangeSpec := { name := "wordBack", fn := fun _ => fun
  | [d1, d2, d3, d4, d5] => { results := [.lit (.bool false)], args := [d1, d2, d3, d4, d5] }
  | _ => none }
def WordBackWrongFalsely : Prop := wordBackRow.holds Try.pinned (OpenSpec.ofChange wordBackWrong)

/- THE SECOND FORM. 'bulk': how many values and letters a reading holds, each counted each time it is reached (what is shared counts as often as it is met; a slice's spare places count too). A statement '..UptoSaid' is the law's where the arguments, and the package variables that the reading takes, are together of bulk at most 1048576: NARROWER than '..Said'. Prove '..Said' where nothing that the law and all that it calls make is longer than what came in: it says more and counts as full. Else prove '..UptoSaid'. A law counts once. -/
mutual
def uptoBulk {H : Type} : DataW H → Nat
  | .lit (.string bytes) => bytes.length + 1
  | .lit _ => 1
  | .nil => 1
  | .ptr d => uptoBulk d + 1
  | .slice elems spare => uptoBulkAll elems + uptoBulkAll spare + 1
  | .agg parts => uptoBulkAll parts + 1
  | .iface _ d => uptoBulk d + 1
  | .map entries => uptoBulkEntries entries + 1
  | .held _ => 1
def uptoBulkAll {H : Type} : List (DataW H) → Nat
  | [] => 0
  | d :: r => uptoBulk d + uptoBulkAll r
def uptoBulkEntries {H : Type} : List (Lit × DataW H) → Nat
  | [] => 0
  | x :: r => uptoBulkEntry x + uptoBulkEntries r
def uptoBulkEntry {H : Type} : Lit × DataW H → Nat
  | (.string bytes, d) => bytes.length + uptoBulk d + 1
  | (_, d) => uptoBulk d + 1
 end
def uptoSmall : (H : Type) → List (DataW H) → Bool := fun _ ds => decide (uptoBulkAll ds ≤ 1048576)
def OpenSpec.upto (s : _root_.Go.ChangeSpec) : _root_.Go.OpenSpec := { _root_.Go.OpenSpec.ofChange s with cond := some uptoSmall }

/-- 'casketlaw1.WordTags', WHERE WHAT IT READS IS OF BULK AT MOST 1048576: true; the input reads as it did. -/
def wordTagsUptoRow : OpenClaim := { program := "ytpoedalbgcpgjaa", sum := "fe45f4a44f2d5b16ea705758e416550520469fb082d2f113da3e6b3a04f943d8", func := "casket/casketlaw1.WordTags", spec := "wordTags", apart := false, narrowed := true }
def WordTagsUptoSaid : Prop := wordTagsUptoRow.holds Try.pinned (OpenSpec.upto wordTagsSpec)

/-- 'casketlaw1.WordRows', WHERE WHAT IT READS IS OF BULK AT MOST 1048576: true; the input reads as it did. -/
def wordRowsUptoRow : OpenClaim := { program := "ytpoedalbgcpgjaa", sum := "fe45f4a44f2d5b16ea705758e416550520469fb082d2f113da3e6b3a04f943d8", func := "casket/casketlaw1.WordRows", spec := "wordRows", apart := false, narrowed := true }
def WordRowsUptoSaid : Prop := wordRowsUptoRow.holds Try.pinned (OpenSpec.upto wordRowsSpec)

/-- 'casketlaw1.WordApart', WHERE WHAT IT READS IS OF BULK AT MOST 1048576: true; the input reads as it did. -/
def wordApartUptoRow : OpenClaim := { program := "ytpoedalbgcpgjaa", sum := "fe45f4a44f2d5b16ea705758e416550520469fb082d2f113da3e6b3a04f943d8", func := "casket/casketlaw1.WordApart", spec := "wordApart", apart := false, narrowed := true }
def WordApartUptoSaid : Prop := wordApartUptoRow.holds Try.pinned (OpenSpec.upto wordApartSpec)

/-- 'casketlaw1.WordBoxes', WHERE WHAT IT READS IS OF BULK AT MOST 1048576: true; the input reads as it did. -/
def wordBoxesUptoRow : OpenClaim := { program := "ytpoedalbgcpgjaa", sum := "fe45f4a44f2d5b16ea705758e416550520469fb082d2f113da3e6b3a04f943d8", func := "casket/casketlaw1.WordBoxes", spec := "wordBoxes", apart := false, narrowed := true }
def WordBoxesUptoSaid : Prop := wordBoxesUptoRow.holds Try.pinned (OpenSpec.upto wordBoxesSpec)

/-- 'casketlaw14.SitePairs', WHERE WHAT IT READS IS OF BULK AT MOST 1048576: true; the input reads as it did. -/
def sitePairsUptoRow : OpenClaim := { program := "ytpoedalbgcpgjaa", sum := "fe45f4a44f2d5b16ea705758e416550520469fb082d2f113da3e6b3a04f943d8", func := "casket/casketlaw14.SitePairs", spec := "sitePairs", apart := false, narrowed := true }
def SitePairsUptoSaid : Prop := sitePairsUptoRow.holds Try.pinned (OpenSpec.upto sitePairsSpec)

/-- 'casketlaw14.SiteStops', WHERE WHAT IT READS IS OF BULK AT MOST 1048576: true; the input reads as it did. -/
def siteStopsUptoRow : OpenClaim := { program := "ytpoedalbgcpgjaa", sum := "fe45f4a44f2d5b16ea705758e416550520469fb082d2f113da3e6b3a04f943d8", func := "casket/casketlaw14.SiteStops", spec := "siteStops", apart := false, narrowed := true }
def SiteStopsUptoSaid : Prop := siteStopsUptoRow.holds Try.pinned (OpenSpec.upto siteStopsSpec)

/-- 'casketlaw1.WordClasses', WHERE WHAT IT READS IS OF BULK AT MOST 1048576: true; the input reads as it did. -/
def wordClassesUptoRow : OpenClaim := { program := "ytpoedalbgcpgjaa", sum := "fe45f4a44f2d5b16ea705758e416550520469fb082d2f113da3e6b3a04f943d8", func := "casket/casketlaw1.WordClasses", spec := "wordClasses", apart := false, narrowed := true }
def WordClassesUptoSaid : Prop := wordClassesUptoRow.holds Try.pinned (OpenSpec.upto wordClassesSpec)

/-- 'casketlaw14.SitePlays', WHERE WHAT IT READS IS OF BULK AT MOST 1048576: true; the input reads as it did. -/
def sitePlaysUptoRow : OpenClaim := { program := "ytpoedalbgcpgjaa", sum := "fe45f4a44f2d5b16ea705758e416550520469fb082d2f113da3e6b3a04f943d8", func := "casket/casketlaw14.SitePlays", spec := "sitePlays", apart := false, narrowed := true }
def SitePlaysUptoSaid : Prop := sitePlaysUptoRow.holds Try.pinned (OpenSpec.upto sitePlaysSpec)

/-- 'casketlaw14.SiteWarms', WHERE WHAT IT READS IS OF BULK AT MOST 1048576: true; the input reads as it did. -/
def siteWarmsUptoRow : OpenClaim := { program := "ytpoedalbgcpgjaa", sum := "fe45f4a44f2d5b16ea705758e416550520469fb082d2f113da3e6b3a04f943d8", func := "casket/casketlaw14.SiteWarms", spec := "siteWarms", apart := false, narrowed := true }
def SiteWarmsUptoSaid : Prop := siteWarmsUptoRow.holds Try.pinned (OpenSpec.upto siteWarmsSpec)

/-- 'casketlaw14.SiteForced', WHERE WHAT IT READS IS OF BULK AT MOST 1048576: true; the input reads as it did. -/
def siteForcedUptoRow : OpenClaim := { program := "ytpoedalbgcpgjaa", sum := "fe45f4a44f2d5b16ea705758e416550520469fb082d2f113da3e6b3a04f943d8", func := "casket/casketlaw14.SiteForced", spec := "siteForced", apart := false, narrowed := true }
def SiteForcedUptoSaid : Prop := siteForcedUptoRow.holds Try.pinned (OpenSpec.upto siteForcedSpec)

/-- 'casketlaw1.WordBack', WHERE WHAT IT READS IS OF BULK AT MOST 1048576: true; the input reads as it did. -/
def wordBackUptoRow : OpenClaim := { program := "ytpoedalbgcpgjaa", sum := "fe45f4a44f2d5b16ea705758e416550520469fb082d2f113da3e6b3a04f943d8", func := "casket/casketlaw1.WordBack", spec := "wordBack", apart := false, narrowed := true }
def WordBackUptoSaid : Prop := wordBackUptoRow.holds Try.pinned (OpenSpec.upto wordBackSpec)

end Rows
end Go.Proofs.Ytpoedalbgcpgjaa
