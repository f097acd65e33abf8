/-
  No cell of these rows narrows 'for every input' (looked for: loops, veiled, ifaces, maps, wideKeys, modest, calm, conditions, laid).
  DERIVED. THE GIVEN ROWS OF THIS SEAT. 2 by the template 'for every input the law returns true; each argument reads behind the call as it read before'; 0 by the template 'total and deterministic' (their statements: YtnhgjgoglmadnaaGreatTotals.lean).
  GIVEN WITH THE SEED: the statements are not yours to turn. If you find one false, say at which input.
  Laid BY PROGRAM, IN A SANDBOX (cutbox-rows.mjs): the forced cells as the released guide's own fill.sh prints them over the translation 9611c3410c488307… (all of the seat's roots in one cut). By AI agents, Wed Nov 11 2026. No macro, syntax, notation, axiom, sorry.
-/
import Derived.Test.YtnhgjgoglmadnaaGreatChecked
import GoSem.Claim
import GoSem.ClaimJoined
import GoSem.ClaimMapViews
import Derived.JoinedTies
import Derived.KernelRfl
namespace Go.Proofs.YtnhgjgoglmadnaaGreat
/- THE CELL 'sum', in the pinned program and in every row, IS THE sha256 OF THE DUMP (.gsa) THAT YtnhgjgoglmadnaaGreatProg.lean LOADS. Nothing in Lean hashes anything: it is a label: what it is worth is what the hold of that sum in a sandbox is worth. -/
noncomputable def Tryz.pinned : Pinned := { name := "ytnhgjgoglmadnaagreat", sum := "9611c3410c4883075c7f6d901154d28ed2296637dee391a03a6913d2e52ab154", checked := Tryz.checked }
namespace Rows
def none {H : Type} : Left H := { results := [], args := [] }

/-- 'hectarelaw19.AtlasTowns': WHATEVER THE INPUT: true; the input reads as it did. -/
def atlasTownsSpec : ChangeSpec := { name := "atlasTowns", fn := fun _ => fun
  | [d1, d2] => { results := [.lit (.bool true)], args := [d1, d2] }
  | _ => none }
def atlasTownsRow : OpenClaim := { program := "ytnhgjgoglmadnaagreat", sum := "9611c3410c4883075c7f6d901154d28ed2296637dee391a03a6913d2e52ab154", func := "hectare/hectarelaw19.AtlasTowns", spec := "atlasTowns", unfollowed := true, recurses := true, plainKeys := false, apart := false }
def AtlasTownsSaid : Prop := atlasTownsRow.holds Tryz.pinned (OpenSpec.ofChange atlasTownsSpec)

/-- ITS FALSE NEIGHBOUR: 'it returns false'. Refute it at one input. -/
def atlasTownsWrong : ChangeSpec := { name := "atlasTowns", fn := fun _ => fun
  | [d1, d2] => { results := [.lit (.bool false)], args := [d1, d2] }
  | _ => none }
def AtlasTownsWrongFalsely : Prop := atlasTownsRow.holds Tryz.pinned (OpenSpec.ofChange atlasTownsWrong)

/-- 'hectarelaw19.AtlasFields': WHATEVER THE INPUT: true; the input reads as it did. -/
def atlasFieldsSpec : ChangeSpec := { name := "atlasFields", fn := fun _ => fun
  | [d1, d2] => { results := [.lit (.bool true)], args := [d1, d2] }
  | _ => none }
def atlasFieldsRow : OpenClaim := { program := "ytnhgjgoglmadnaagreat", sum := "9611c3410c4883075c7f6d901154d28ed2296637dee391a03a6913d2e52ab154", func := "hectare/hectarelaw19.AtlasFields", spec := "atlasFields", unfollowed := true, recurses := true, plainKeys := false, apart := false }
def AtlasFieldsSaid : Prop := atlasFieldsRow.holds Tryz.pinned (OpenSpec.ofChange atlasFieldsSpec)

/-- ITS FALSE NEIGHBOUR: 'it returns false'. Refute it at one input. -/
def atlasFieldsWrong : ChangeSpec := { name := "atlasFields", fn := fun _ => fun
  | [d1, d2] => { results := [.lit (.bool false)], args := [d1, d2] }
  | _ => none }
def AtlasFieldsWrongFalsely : Prop := atlasFieldsRow.holds Tryz.pinned (OpenSpec.ofChange atlasFieldsWrong)

/- THE SECOND FORM. 'bulk': how many values and letters a reading holds, each counted each time it is reached (what is shared counts as often as it is met; a slice's spare places count too). A statement '..UptoSaid' is the law's where the arguments, and the package variables that the reading takes, are together of bulk at most 1048576: NARROWER than '..Said'. Prove '..Said' where nothing that the law and all that it calls make is longer than what came in: it says more and counts as full. Else prove '..UptoSaid'. A law counts once. -/
mutual
def uptoBulk {H : Type} : DataW H → Nat
  | .lit (.string bytes) => bytes.length + 1
  | .lit _ => 1
  | .nil => 1
  | .ptr d => uptoBulk d + 1
  | .slice elems spare => uptoBulkAll elems + uptoBulkAll spare + 1
  | .agg parts => uptoBulkAll parts + 1
  | .iface _ d => uptoBulk d + 1
  | .map entries => uptoBulkEntries entries + 1
  | .held _ => 1
def uptoBulkAll {H : Type} : List (DataW H) → Nat
  | [] => 0
  | d :: r => uptoBulk d + uptoBulkAll r
def uptoBulkEntries {H : Type} : List (Lit × DataW H) → Nat
  | [] => 0
  | x :: r => uptoBulkEntry x + uptoBulkEntries r
def uptoBulkEntry {H : Type} : Lit × DataW H → Nat
  | (.string bytes, d) => bytes.length + uptoBulk d + 1
  | (_, d) => uptoBulk d + 1
 end
def uptoSmall : (H : Type) → List (DataW H) → Bool := fun _ ds => decide (uptoBulkAll ds ≤ 1048576)
def OpenSpec.upto (s : _root_.Go.ChangeSpec) : _root_.Go.OpenSpec := { _root_.Go.OpenSpec.ofChange s with cond := some uptoSmall }

/-- 'hectarelaw19.AtlasTowns', WHERE WHAT IT READS IS OF BULK AT MOST 1048576: true; the input reads as it did. -/
def atlasTownsUptoRow : OpenClaim := { program := "ytnhgjgoglmadnaagreat", sum := "9611c3410c4883075c7f6d901154d28ed2296637dee391a03a6913d2e52ab154", func := "hectare/hectarelaw19.AtlasTowns", spec := "atlasTowns", unfollowed := true, recurses := true, plainKeys := false, apart := false, narrowed := true }
def AtlasTownsUptoSaid : Prop := atlasTownsUptoRow.holds Tryz.pinned (OpenSpec.upto atlasTownsSpec)

/-- 'hectarelaw19.AtlasFields', WHERE WHAT IT READS IS OF BULK AT MOST 1048576: true; the input reads as it did. -/
def atlasFieldsUptoRow : OpenClaim := { program := "ytnhgjgoglmadnaagreat", sum := "9611c3410c4883075c7f6d901154d28ed2296637dee391a03a6913d2e52ab154", func := "hectare/hectarelaw19.AtlasFields", spec := "atlasFields", unfollowed := true, recurses := true, plainKeys := false, apart := false, narrowed := true }
def AtlasFieldsUptoSaid : Prop := atlasFieldsUptoRow.holds Tryz.pinned (OpenSpec.upto atlasFieldsSpec)

end Rows
end Go.Proofs.YtnhgjgoglmadnaaGreat
