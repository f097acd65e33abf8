/-
  No cell of these rows narrows 'for every input' (looked for: loops, veiled, ifaces, maps, wideKeys, modest, calm, conditions, laid).
  DERIVED. THE GIVEN ROWS OF THIS SEAT. 16 by the template 'for every input the law returns true; each argument reads behind the call as it read before'; 0 by the template 'total and deterministic' (their statements: YtnhgjgoglmadnaaTotals.lean).
  GIVEN WITH THE SEED: the statements are not yours to turn. If you find one false, say at which input.
  Laid BY PROGRAM, IN A SANDBOX (cutbox-rows.mjs): the forced cells as the released guide's own fill.sh prints them over the translation f75b388ce883a7ed… (all of the seat's roots in one cut). By AI agents, Wed Nov 11 2026. No macro, syntax, notation, axiom, sorry.
-/
import Derived.Test.YtnhgjgoglmadnaaChecked
import GoSem.Claim
import GoSem.ClaimJoined
import GoSem.ClaimMapViews
import Derived.JoinedTies
import Derived.KernelRfl
namespace Go.Proofs.Ytnhgjgoglmadnaa
/- THE CELL 'sum', in the pinned program and in every row, IS THE sha256 OF THE DUMP (.gsa) THAT YtnhgjgoglmadnaaProg.lean LOADS. Nothing in Lean hashes anything: it is a label: what it is worth is what the hold of that sum in a sandbox is worth. -/
noncomputable def Try.pinned : Pinned := { name := "ytnhgjgoglmadnaa", sum := "f75b388ce883a7ed44a7fb35225ed393e3b7cb9adad62de736aecee18b08b825", checked := Try.checked }
namespace Rows
def none {H : Type} : Left H := { results := [], args := [] }

/-- 'hectarelaw18.OctetsSums': WHATEVER THE INPUT: true; the input reads as it did. -/
def octetsSumsSpec : ChangeSpec := { name := "octetsSums", fn := fun _ => fun
  | [d1, d2, d3] => { results := [.lit (.bool true)], args := [d1, d2, d3] }
  | _ => none }
def octetsSumsRow : OpenClaim := { program := "ytnhgjgoglmadnaa", sum := "f75b388ce883a7ed44a7fb35225ed393e3b7cb9adad62de736aecee18b08b825", func := "hectare/hectarelaw18.OctetsSums", spec := "octetsSums", apart := false }
def OctetsSumsSaid : Prop := octetsSumsRow.holds Try.pinned (OpenSpec.ofChange octetsSumsSpec)

/-- ITS FALSE NEIGHBOUR: 'it returns false'. Refute it at one input. -/
def octetsSumsWrong : ChangeSpec := { name := "octetsSums", fn := fun _ => fun
  | [d1, d2, d3] => { results := [.lit (.bool false)], args := [d1, d2, d3] }
  | _ => none }
def OctetsSumsWrongFalsely : Prop := octetsSumsRow.holds Try.pinned (OpenSpec.ofChange octetsSumsWrong)

/-- 'hectarelaw18.OctetsWrite': WHATEVER THE INPUT: true; the input reads as it did. -/
def octetsWriteSpec : ChangeSpec := { name := "octetsWrite", fn := fun _ => fun
  | [d] => { results := [.lit (.bool true)], args := [d] }
  | _ => none }
def octetsWriteRow : OpenClaim := { program := "ytnhgjgoglmadnaa", sum := "f75b388ce883a7ed44a7fb35225ed393e3b7cb9adad62de736aecee18b08b825", func := "hectare/hectarelaw18.OctetsWrite", spec := "octetsWrite", apart := false }
def OctetsWriteSaid : Prop := octetsWriteRow.holds Try.pinned (OpenSpec.ofChange octetsWriteSpec)

/-- ITS FALSE NEIGHBOUR: 'it returns false'. Refute it at one input. -/
def octetsWriteWrong : ChangeSpec := { name := "octetsWrite", fn := fun _ => fun
  | [d] => { results := [.lit (.bool false)], args := [d] }
  | _ => none }
def OctetsWriteWrongFalsely : Prop := octetsWriteRow.holds Try.pinned (OpenSpec.ofChange octetsWriteWrong)

/-- 'hectarelaw18.OctetsNums': WHATEVER THE INPUT: true; the input reads as it did. -/
def octetsNumsSpec : ChangeSpec := { name := "octetsNums", fn := fun _ => fun
  | [d1, d2, d3] => { results := [.lit (.bool true)], args := [d1, d2, d3] }
  | _ => none }
def octetsNumsRow : OpenClaim := { program := "ytnhgjgoglmadnaa", sum := "f75b388ce883a7ed44a7fb35225ed393e3b7cb9adad62de736aecee18b08b825", func := "hectare/hectarelaw18.OctetsNums", spec := "octetsNums", apart := false }
def OctetsNumsSaid : Prop := octetsNumsRow.holds Try.pinned (OpenSpec.ofChange octetsNumsSpec)

/-- ITS FALSE NEIGHBOUR: 'it returns false'. Refute it at one input. -/
def octetsNumsWrong : ChangeSpec := { name := "octetsNums", fn := fun _ => fun
  | [d1, d2, d3] => { results := [.lit (.bool false)], args := [d1, d2, d3] }
  | _ => none }
def OctetsNumsWrongFalsely : Prop := octetsNumsRow.holds Try.pinned (OpenSpec.ofChange octetsNumsWrong)

/-- 'hectarelaw24.WireTells': WHATEVER THE INPUT: true; the input reads as it did. -/
def wireTellsSpec : ChangeSpec := { name := "wireTells", fn := fun _ => fun
  | [d1, d2, d3, d4] => { results := [.lit (.bool true)], args := [d1, d2, d3, d4] }
  | _ => none }
def wireTellsRow : OpenClaim := { program := "ytnhgjgoglmadnaa", sum := "f75b388ce883a7ed44a7fb35225ed393e3b7cb9adad62de736aecee18b08b825", func := "hectare/hectarelaw24.WireTells", spec := "wireTells", apart := false }
def WireTellsSaid : Prop := wireTellsRow.holds Try.pinned (OpenSpec.ofChange wireTellsSpec)

/-- ITS FALSE NEIGHBOUR: 'it returns false'. Refute it at one input. -/
def wireTellsWrong : ChangeSpec := { name := "wireTells", fn := fun _ => fun
  | [d1, d2, d3, d4] => { results := [.lit (.bool false)], args := [d1, d2, d3, d4] }
  | _ => none }
def WireTellsWrongFalsely : Prop := wireTellsRow.holds Try.pinned (OpenSpec.ofChange wireTellsWrong)

/-- 'hectarelaw24.WireCut': WHATEVER THE INPUT: true; the input reads as it did. -/
def wireCutSpec : ChangeSpec := { name := "wireCut", fn := fun _ => fun
  | [d1, d2] => { results := [.lit (.bool true)], args := [d1, d2] }
  | _ => none }
def wireCutRow : OpenClaim := { program := "ytnhgjgoglmadnaa", sum := "f75b388ce883a7ed44a7fb35225ed393e3b7cb9adad62de736aecee18b08b825", func := "hectare/hectarelaw24.WireCut", spec := "wireCut", apart := false }
def WireCutSaid : Prop := wireCutRow.holds Try.pinned (OpenSpec.ofChange wireCutSpec)

/-- ITS FALSE NEIGHBOUR: 'it returns false'. Refute it at one input. -/
def wireCutWrong : ChangeSpec := { name := "wireCut", fn := fun _ => fun
  | [d1, d2] => { results := [.lit (.bool false)], args := [d1, d2] }
  | _ => none }
def WireCutWrongFalsely : Prop := wireCutRow.holds Try.pinned (OpenSpec.ofChange wireCutWrong)

/-- 'hectarelaw24.WireDead': WHATEVER THE INPUT: true; the input reads as it did. -/
def wireDeadSpec : ChangeSpec := { name := "wireDead", fn := fun _ => fun
  | [d1, d2, d3] => { results := [.lit (.bool true)], args := [d1, d2, d3] }
  | _ => none }
def wireDeadRow : OpenClaim := { program := "ytnhgjgoglmadnaa", sum := "f75b388ce883a7ed44a7fb35225ed393e3b7cb9adad62de736aecee18b08b825", func := "hectare/hectarelaw24.WireDead", spec := "wireDead", apart := false }
def WireDeadSaid : Prop := wireDeadRow.holds Try.pinned (OpenSpec.ofChange wireDeadSpec)

/-- ITS FALSE NEIGHBOUR: 'it returns false'. Refute it at one input. -/
def wireDeadWrong : ChangeSpec := { name := "wireDead", fn := fun _ => fun
  | [d1, d2, d3] => { results := [.lit (.bool false)], args := [d1, d2, d3] }
  | _ => none }
def WireDeadWrongFalsely : Prop := wireDeadRow.holds Try.pinned (OpenSpec.ofChange wireDeadWrong)

/-- 'hectarelaw24.WireRest': WHATEVER THE INPUT: true; the input reads as it did. -/
def wireRestSpec : ChangeSpec := { name := "wireRest", fn := fun _ => fun
  | [d1, d2] => { results := [.lit (.bool true)], args := [d1, d2] }
  | _ => none }
def wireRestRow : OpenClaim := { program := "ytnhgjgoglmadnaa", sum := "f75b388ce883a7ed44a7fb35225ed393e3b7cb9adad62de736aecee18b08b825", func := "hectare/hectarelaw24.WireRest", spec := "wireRest", apart := false }
def WireRestSaid : Prop := wireRestRow.holds Try.pinned (OpenSpec.ofChange wireRestSpec)

/-- ITS FALSE NEIGHBOUR: 'it returns false'. Refute it at one input. -/
def wireRestWrong : ChangeSpec := { name := "wireRest", fn := fun _ => fun
  | [d1, d2] => { results := [.lit (.bool false)], args := [d1, d2] }
  | _ => none }
def WireRestWrongFalsely : Prop := wireRestRow.holds Try.pinned (OpenSpec.ofChange wireRestWrong)

/-- 'hectarelaw18.OctetsBack': WHATEVER THE INPUT: true; the input reads as it did. -/
def octetsBackSpec : ChangeSpec := { name := "octetsBack", fn := fun _ => fun
  | [d] => { results := [.lit (.bool true)], args := [d] }
  | _ => none }
def octetsBackRow : OpenClaim := { program := "ytnhgjgoglmadnaa", sum := "f75b388ce883a7ed44a7fb35225ed393e3b7cb9adad62de736aecee18b08b825", func := "hectare/hectarelaw18.OctetsBack", spec := "octetsBack", apart := false }
def OctetsBackSaid : Prop := octetsBackRow.holds Try.pinned (OpenSpec.ofChange octetsBackSpec)

/-- ITS FALSE NEIGHBOUR: 'it returns false'. Refute it at one input. -/
def octetsBackWrong : ChangeSpec := { name := "octetsBack", fn := fun _ => fun
  | [d] => { results := [.lit (.bool false)], args := [d] }
  | _ => none }
def OctetsBackWrongFalsely : Prop := octetsBackRow.holds Try.pinned (OpenSpec.ofChange octetsBackWrong)

/-- 'hectarelaw18.OctetsRead': WHATEVER THE INPUT: true; the input reads as it did. -/
def octetsReadSpec : ChangeSpec := { name := "octetsRead", fn := fun _ => fun
  | [d1, d2] => { results := [.lit (.bool true)], args := [d1, d2] }
  | _ => none }
def octetsReadRow : OpenClaim := { program := "ytnhgjgoglmadnaa", sum := "f75b388ce883a7ed44a7fb35225ed393e3b7cb9adad62de736aecee18b08b825", func := "hectare/hectarelaw18.OctetsRead", spec := "octetsRead", apart := false }
def OctetsReadSaid : Prop := octetsReadRow.holds Try.pinned (OpenSpec.ofChange octetsReadSpec)

/-- ITS FALSE NEIGHBOUR: 'it returns false'. Refute it at one input. -/
def octetsReadWrong : ChangeSpec := { name := "octetsRead", fn := fun _ => fun
  | [d1, d2] => { results := [.lit (.bool false)], args := [d1, d2] }
  | _ => none }
def OctetsReadWrongFalsely : Prop := octetsReadRow.holds Try.pinned (OpenSpec.ofChange octetsReadWrong)

/-- 'hectarelaw19.AtlasTells': WHATEVER THE INPUT: true; the input reads as it did. -/
def atlasTellsSpec : ChangeSpec := { name := "atlasTells", fn := fun _ => fun
  | [d1, d2, d3] => { results := [.lit (.bool true)], args := [d1, d2, d3] }
  | _ => none }
def atlasTellsRow : OpenClaim := { program := "ytnhgjgoglmadnaa", sum := "f75b388ce883a7ed44a7fb35225ed393e3b7cb9adad62de736aecee18b08b825", func := "hectare/hectarelaw19.AtlasTells", spec := "atlasTells", unfollowed := true, recurses := true, apart := false }
def AtlasTellsSaid : Prop := atlasTellsRow.holds Try.pinned (OpenSpec.ofChange atlasTellsSpec)

/-- ITS FALSE NEIGHBOUR: 'it returns false'. Refute it at one input. -/
def atlasTellsWrong : ChangeSpec := { name := "atlasTells", fn := fun _ => fun
  | [d1, d2, d3] => { results := [.lit (.bool false)], args := [d1, d2, d3] }
  | _ => none }
def AtlasTellsWrongFalsely : Prop := atlasTellsRow.holds Try.pinned (OpenSpec.ofChange atlasTellsWrong)

/-- 'hectarelaw19.AtlasBack': WHATEVER THE INPUT: true; the input reads as it did. -/
def atlasBackSpec : ChangeSpec := { name := "atlasBack", fn := fun _ => fun
  | [d1, d2, d3] => { results := [.lit (.bool true)], args := [d1, d2, d3] }
  | _ => none }
def atlasBackRow : OpenClaim := { program := "ytnhgjgoglmadnaa", sum := "f75b388ce883a7ed44a7fb35225ed393e3b7cb9adad62de736aecee18b08b825", func := "hectare/hectarelaw19.AtlasBack", spec := "atlasBack", unfollowed := true, recurses := true, apart := false }
def AtlasBackSaid : Prop := atlasBackRow.holds Try.pinned (OpenSpec.ofChange atlasBackSpec)

/-- ITS FALSE NEIGHBOUR: 'it returns false'. Refute it at one input. -/
def atlasBackWrong : ChangeSpec := { name := "atlasBack", fn := fun _ => fun
  | [d1, d2, d3] => { results := [.lit (.bool false)], args := [d1, d2, d3] }
  | _ => none }
def AtlasBackWrongFalsely : Prop := atlasBackRow.holds Try.pinned (OpenSpec.ofChange atlasBackWrong)

/-- 'hectarelaw25.TalkTells': WHATEVER THE INPUT: true; the input reads as it did. -/
def talkTellsSpec : ChangeSpec := { name := "talkTells", fn := fun _ => fun
  | [d1, d2, d3, d4] => { results := [.lit (.bool true)], args := [d1, d2, d3, d4] }
  | _ => none }
def talkTellsRow : OpenClaim := { program := "ytnhgjgoglmadnaa", sum := "f75b388ce883a7ed44a7fb35225ed393e3b7cb9adad62de736aecee18b08b825", func := "hectare/hectarelaw25.TalkTells", spec := "talkTells", unfollowed := true, recurses := true, apart := false }
def TalkTellsSaid : Prop := talkTellsRow.holds Try.pinned (OpenSpec.ofChange talkTellsSpec)

/-- ITS FALSE NEIGHBOUR: 'it returns false'. Refute it at one input. -/
def talkTellsWrong : ChangeSpec := { name := "talkTells", fn := fun _ => fun
  | [d1, d2, d3, d4] => { results := [.lit (.bool false)], args := [d1, d2, d3, d4] }
  | _ => none }
def TalkTellsWrongFalsely : Prop := talkTellsRow.holds Try.pinned (OpenSpec.ofChange talkTellsWrong)

/-- 'hectarelaw25.TalkAsks': WHATEVER THE INPUT: true; the input reads as it did. -/
def talkAsksSpec : ChangeSpec := { name := "talkAsks", fn := fun _ => fun
  | [d1, d2, d3] => { results := [.lit (.bool true)], args := [d1, d2, d3] }
  | _ => none }
def talkAsksRow : OpenClaim := { program := "ytnhgjgoglmadnaa", sum := "f75b388ce883a7ed44a7fb35225ed393e3b7cb9adad62de736aecee18b08b825", func := "hectare/hectarelaw25.TalkAsks", spec := "talkAsks", unfollowed := true, recurses := true, apart := false }
def TalkAsksSaid : Prop := talkAsksRow.holds Try.pinned (OpenSpec.ofChange talkAsksSpec)

/-- ITS FALSE NEIGHBOUR: 'it returns false'. Refute it at one input. -/
def talkAsksWrong : ChangeSpec := { name := "talkAsks", fn := fun _ => fun
  | [d1, d2, d3] => { results := [.lit (.bool false)], args := [d1, d2, d3] }
  | _ => none }
def TalkAsksWrongFalsely : Prop := talkAsksRow.holds Try.pinned (OpenSpec.ofChange talkAsksWrong)

/-- 'hectarelaw25.TalkAnswers': WHATEVER THE INPUT: true; the input reads as it did. -/
def talkAnswersSpec : ChangeSpec := { name := "talkAnswers", fn := fun _ => fun
  | [d1, d2, d3] => { results := [.lit (.bool true)], args := [d1, d2, d3] }
  | _ => none }
def talkAnswersRow : OpenClaim := { program := "ytnhgjgoglmadnaa", sum := "f75b388ce883a7ed44a7fb35225ed393e3b7cb9adad62de736aecee18b08b825", func := "hectare/hectarelaw25.TalkAnswers", spec := "talkAnswers", unfollowed := true, recurses := true, apart := false }
def TalkAnswersSaid : Prop := talkAnswersRow.holds Try.pinned (OpenSpec.ofChange talkAnswersSpec)

/-- ITS FALSE NEIGHBOUR: 'it returns false'. Refute it at one input. -/
def talkAnswersWrong : ChangeSpec := { name := "talkAnswers", fn := fun _ => fun
  | [d1, d2, d3] => { results := [.lit (.bool false)], args := [d1, d2, d3] }
  | _ => none }
def TalkAnswersWrongFalsely : Prop := talkAnswersRow.holds Try.pinned (OpenSpec.ofChange talkAnswersWrong)

/-- 'hectarelaw25.TalkKinds': WHATEVER THE INPUT: true; the input reads as it did. -/
def talkKindsSpec : ChangeSpec := { name := "talkKinds", fn := fun _ => fun
  | [d1, d2] => { results := [.lit (.bool true)], args := [d1, d2] }
  | _ => none }
def talkKindsRow : OpenClaim := { program := "ytnhgjgoglmadnaa", sum := "f75b388ce883a7ed44a7fb35225ed393e3b7cb9adad62de736aecee18b08b825", func := "hectare/hectarelaw25.TalkKinds", spec := "talkKinds", unfollowed := true, recurses := true, apart := false }
def TalkKindsSaid : Prop := talkKindsRow.holds Try.pinned (OpenSpec.ofChange talkKindsSpec)

/-- ITS FALSE NEIGHBOUR: 'it returns false'. Refute it at one input. -/
def talkKindsWrong : ChangeSpec := { name := "talkKinds", fn := fun _ => fun
  | [d1, d2] => { results := [.lit (.bool false)], args := [d1, d2] }
  | _ => none }
def TalkKindsWrongFalsely : Prop := talkKindsRow.holds Try.pinned (OpenSpec.ofChange talkKindsWrong)

/-- 'hectarelaw25.TalkCodes': WHATEVER THE INPUT: true; the input reads as it did. -/
def talkCodesSpec : ChangeSpec := { name := "talkCodes", fn := fun _ => fun
  | [d1, d2, d3] => { results := [.lit (.bool true)], args := [d1, d2, d3] }
  | _ => none }
def talkCodesRow : OpenClaim := { program := "ytnhgjgoglmadnaa", sum := "f75b388ce883a7ed44a7fb35225ed393e3b7cb9adad62de736aecee18b08b825", func := "hectare/hectarelaw25.TalkCodes", spec := "talkCodes", unfollowed := true, recurses := true, apart := false }
def TalkCodesSaid : Prop := talkCodesRow.holds Try.pinned (OpenSpec.ofChange talkCodesSpec)

/-- ITS FALSE NEIGHBOUR: 'it returns false'. Refute it at one input. -/
def talkCodesWrong : ChangeSpec := { name := "talkCodes", fn := fun _ => fun
  | [d1, d2, d3] => { results := [.lit (.bool false)], args := [d1, d2, d3] }
  | _ => none }
def TalkCodesWrongFalsely : Prop := talkCodesRow.holds Try.pinned (OpenSpec.ofChange talkCodesWrong)

/- THE SECOND FORM. 'bulk': how many values and letters a reading holds, each counted each time it is reached (what is shared counts as often as it is met; a slice's spare places count too). A statement '..UptoSaid' is the law's where the arguments, and the package variables that the reading takes, are together of bulk at most 1048576: NARROWER than '..Said'. Prove '..Said' where nothing that the law and all that it calls make is longer than what came in: it says more and counts as full. Else prove '..UptoSaid'. A law counts once. -/
mutual
def uptoBulk {H : Type} : DataW H → Nat
  | .lit (.string bytes) => bytes.length + 1
  | .lit _ => 1
  | .nil => 1
  | .ptr d => uptoBulk d + 1
  | .slice elems spare => uptoBulkAll elems + uptoBulkAll spare + 1
  | .agg parts => uptoBulkAll parts + 1
  | .iface _ d => uptoBulk d + 1
  | .map entries => uptoBulkEntries entries + 1
  | .held _ => 1
def uptoBulkAll {H : Type} : List (DataW H) → Nat
  | [] => 0
  | d :: r => uptoBulk d + uptoBulkAll r
def uptoBulkEntries {H : Type} : List (Lit × DataW H) → Nat
  | [] => 0
  | x :: r => uptoBulkEntry x + uptoBulkEntries r
def uptoBulkEntry {H : Type} : Lit × DataW H → Nat
  | (.string bytes, d) => bytes.length + uptoBulk d + 1
  | (_, d) => uptoBulk d + 1
 end
def uptoSmall : (H : Type) → List (DataW H) → Bool := fun _ ds => decide (uptoBulkAll ds ≤ 1048576)
def OpenSpec.upto (s : _root_.Go.ChangeSpec) : _root_.Go.OpenSpec := { _root_.Go.OpenSpec.ofChange s with cond := some uptoSmall }

/-- 'hectarelaw18.OctetsSums', WHERE WHAT IT READS IS OF BULK AT MOST 1048576: true; the input reads as it did. -/
def octetsSumsUptoRow : OpenClaim := { program := "ytnhgjgoglmadnaa", sum := "f75b388ce883a7ed44a7fb35225ed393e3b7cb9adad62de736aecee18b08b825", func := "hectare/hectarelaw18.OctetsSums", spec := "octetsSums", apart := false, narrowed := true }
def OctetsSumsUptoSaid : Prop := octetsSumsUptoRow.holds Try.pinned (OpenSpec.upto octetsSumsSpec)

/-- 'hectarelaw18.OctetsWrite', WHERE WHAT IT READS IS OF BULK AT MOST 1048576: true; the input reads as it did. -/
def octetsWriteUptoRow : OpenClaim := { program := "ytnhgjgoglmadnaa", sum := "f75b388ce883a7ed44a7fb35225ed393e3b7cb9adad62de736aecee18b08b825", func := "hectare/hectarelaw18.OctetsWrite", spec := "octetsWrite", apart := false, narrowed := true }
def OctetsWriteUptoSaid : Prop := octetsWriteUptoRow.holds Try.pinned (OpenSpec.upto octetsWriteSpec)

/-- 'hectarelaw18.OctetsNums', WHERE WHAT IT READS IS OF BULK AT MOST 1048576: true; the input reads as it did. -/
def octetsNumsUptoRow : OpenClaim := { program := "ytnhgjgoglmadnaa", sum := "f75b388ce883a7ed44a7fb35225ed393e3b7cb9adad62de736aecee18b08b825", func := "hectare/hectarelaw18.OctetsNums", spec := "octetsNums", apart := false, narrowed := true }
def OctetsNumsUptoSaid : Prop := octetsNumsUptoRow.holds Try.pinned (OpenSpec.upto octetsNumsSpec)

/-- 'hectarelaw24.WireTells', WHERE WHAT IT READS IS OF BULK AT MOST 1048576: true; the input reads as it did. -/
def wireTellsUptoRow : OpenClaim := { program := "ytnhgjgoglmadnaa", sum := "f75b388ce883a7ed44a7fb35225ed393e3b7cb9adad62de736aecee18b08b825", func := "hectare/hectarelaw24.WireTells", spec := "wireTells", apart := false, narrowed := true }
def WireTellsUptoSaid : Prop := wireTellsUptoRow.holds Try.pinned (OpenSpec.upto wireTellsSpec)

/-- 'hectarelaw24.WireCut', WHERE WHAT IT READS IS OF BULK AT MOST 1048576: true; the input reads as it did. -/
def wireCutUptoRow : OpenClaim := { program := "ytnhgjgoglmadnaa", sum := "f75b388ce883a7ed44a7fb35225ed393e3b7cb9adad62de736aecee18b08b825", func := "hectare/hectarelaw24.WireCut", spec := "wireCut", apart := false, narrowed := true }
def WireCutUptoSaid : Prop := wireCutUptoRow.holds Try.pinned (OpenSpec.upto wireCutSpec)

/-- 'hectarelaw24.WireDead', WHERE WHAT IT READS IS OF BULK AT MOST 1048576: true; the input reads as it did. -/
def wireDeadUptoRow : OpenClaim := { program := "ytnhgjgoglmadnaa", sum := "f75b388ce883a7ed44a7fb35225ed393e3b7cb9adad62de736aecee18b08b825", func := "hectare/hectarelaw24.WireDead", spec := "wireDead", apart := false, narrowed := true }
def WireDeadUptoSaid : Prop := wireDeadUptoRow.holds Try.pinned (OpenSpec.upto wireDeadSpec)

/-- 'hectarelaw24.WireRest', WHERE WHAT IT READS IS OF BULK AT MOST 1048576: true; the input reads as it did. -/
def wireRestUptoRow : OpenClaim := { program := "ytnhgjgoglmadnaa", sum := "f75b388ce883a7ed44a7fb35225ed393e3b7cb9adad62de736aecee18b08b825", func := "hectare/hectarelaw24.WireRest", spec := "wireRest", apart := false, narrowed := true }
def WireRestUptoSaid : Prop := wireRestUptoRow.holds Try.pinned (OpenSpec.upto wireRestSpec)

/-- 'hectarelaw18.OctetsBack', WHERE WHAT IT READS IS OF BULK AT MOST 1048576: true; the input reads as it did. -/
def octetsBackUptoRow : OpenClaim := { program := "ytnhgjgoglmadnaa", sum := "f75b388ce883a7ed44a7fb35225ed393e3b7cb9adad62de736aecee18b08b825", func := "hectare/hectarelaw18.OctetsBack", spec := "octetsBack", apart := false, narrowed := true }
def OctetsBackUptoSaid : Prop := octetsBackUptoRow.holds Try.pinned (OpenSpec.upto octetsBackSpec)

/-- 'hectarelaw18.OctetsRead', WHERE WHAT IT READS IS OF BULK AT MOST 1048576: true; the input reads as it did. -/
def octetsReadUptoRow : OpenClaim := { program := "ytnhgjgoglmadnaa", sum := "f75b388ce883a7ed44a7fb35225ed393e3b7cb9adad62de736aecee18b08b825", func := "hectare/hectarelaw18.OctetsRead", spec := "octetsRead", apart := false, narrowed := true }
def OctetsReadUptoSaid : Prop := octetsReadUptoRow.holds Try.pinned (OpenSpec.upto octetsReadSpec)

/-- 'hectarelaw19.AtlasTells', WHERE WHAT IT READS IS OF BULK AT MOST 1048576: true; the input reads as it did. -/
def atlasTellsUptoRow : OpenClaim := { program := "ytnhgjgoglmadnaa", sum := "f75b388ce883a7ed44a7fb35225ed393e3b7cb9adad62de736aecee18b08b825", func := "hectare/hectarelaw19.AtlasTells", spec := "atlasTells", unfollowed := true, recurses := true, apart := false, narrowed := true }
def AtlasTellsUptoSaid : Prop := atlasTellsUptoRow.holds Try.pinned (OpenSpec.upto atlasTellsSpec)

/-- 'hectarelaw19.AtlasBack', WHERE WHAT IT READS IS OF BULK AT MOST 1048576: true; the input reads as it did. -/
def atlasBackUptoRow : OpenClaim := { program := "ytnhgjgoglmadnaa", sum := "f75b388ce883a7ed44a7fb35225ed393e3b7cb9adad62de736aecee18b08b825", func := "hectare/hectarelaw19.AtlasBack", spec := "atlasBack", unfollowed := true, recurses := true, apart := false, narrowed := true }
def AtlasBackUptoSaid : Prop := atlasBackUptoRow.holds Try.pinned (OpenSpec.upto atlasBackSpec)

/-- 'hectarelaw25.TalkTells', WHERE WHAT IT READS IS OF BULK AT MOST 1048576: true; the input reads as it did. -/
def talkTellsUptoRow : OpenClaim := { program := "ytnhgjgoglmadnaa", sum := "f75b388ce883a7ed44a7fb35225ed393e3b7cb9adad62de736aecee18b08b825", func := "hectare/hectarelaw25.TalkTells", spec := "talkTells", unfollowed := true, recurses := true, apart := false, narrowed := true }
def TalkTellsUptoSaid : Prop := talkTellsUptoRow.holds Try.pinned (OpenSpec.upto talkTellsSpec)

/-- 'hectarelaw25.TalkAsks', WHERE WHAT IT READS IS OF BULK AT MOST 1048576: true; the input reads as it did. -/
def talkAsksUptoRow : OpenClaim := { program := "ytnhgjgoglmadnaa", sum := "f75b388ce883a7ed44a7fb35225ed393e3b7cb9adad62de736aecee18b08b825", func := "hectare/hectarelaw25.TalkAsks", spec := "talkAsks", unfollowed := true, recurses := true, apart := false, narrowed := true }
def TalkAsksUptoSaid : Prop := talkAsksUptoRow.holds Try.pinned (OpenSpec.upto talkAsksSpec)

/-- 'hectarelaw25.TalkAnswers', WHERE WHAT IT READS IS OF BULK AT MOST 1048576: true; the input reads as it did. -/
def talkAnswersUptoRow : OpenClaim := { program := "ytnhgjgoglmadnaa", sum := "f75b388ce883a7ed44a7fb35225ed393e3b7cb9adad62de736aecee18b08b825", func := "hectare/hectarelaw25.TalkAnswers", spec := "talkAnswers", unfollowed := true, recurses := true, apart := false, narrowed := true }
def TalkAnswersUptoSaid : Prop := talkAnswersUptoRow.holds Try.pinned (OpenSpec.upto talkAnswersSpec)

/-- 'hectarelaw25.TalkKinds', WHERE WHAT IT READS IS OF BULK AT MOST 1048576: true; the input reads as it did. -/
def talkKindsUptoRow : OpenClaim := { program := "ytnhgjgoglmadnaa", sum := "f75b388ce883a7ed44a7fb35225ed393e3b7cb9adad62de736aecee18b08b825", func := "hectare/hectarelaw25.TalkKinds", spec := "talkKinds", unfollowed := true, recurses := true, apart := false, narrowed := true }
def TalkKindsUptoSaid : Prop := talkKindsUptoRow.holds Try.pinned (OpenSpec.upto talkKindsSpec)

/-- 'hectarelaw25.TalkCodes', WHERE WHAT IT READS IS OF BULK AT MOST 1048576: true; the input reads as it did. -/
def talkCodesUptoRow : OpenClaim := { program := "ytnhgjgoglmadnaa", sum := "f75b388ce883a7ed44a7fb35225ed393e3b7cb9adad62de736aecee18b08b825", func := "hectare/hectarelaw25.TalkCodes", spec := "talkCodes", unfollowed := true, recurses := true, apart := false, narrowed := true }
def TalkCodesUptoSaid : Prop := talkCodesUptoRow.holds Try.pinned (OpenSpec.upto talkCodesSpec)

end Rows
end Go.Proofs.Ytnhgjgoglmadnaa
