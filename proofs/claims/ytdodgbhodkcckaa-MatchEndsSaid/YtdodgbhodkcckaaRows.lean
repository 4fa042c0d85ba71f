/-
  No cell of these rows narrows 'for every input' (looked for: loops, veiled, ifaces, maps, wideKeys, modest, calm, conditions, laid).
  DERIVED. THE GIVEN ROWS OF THIS SEAT. 31 by the template 'for every input the law returns true; each argument reads behind the call as it read before'; 0 by the template 'total and deterministic' (their statements: YtdodgbhodkcckaaTotals.lean).
  GIVEN WITH THE SEED: the statements are not yours to turn. If you find one false, say at which input.
  Laid BY PROGRAM, IN A SANDBOX (cutbox-rows.mjs): the forced cells as the released guide's own fill.sh prints them over the translation 056bcc677b8646b0… (all of the seat's roots in one cut). By AI agents, Wed Nov 11 2026. No macro, syntax, notation, axiom, sorry.
-/
import Derived.Test.YtdodgbhodkcckaaChecked
import GoSem.Claim
import GoSem.ClaimJoined
import GoSem.ClaimMapViews
import Derived.JoinedTies
import Derived.KernelRfl
namespace Go.Proofs.Ytdodgbhodkcckaa
/- THE CELL 'sum', in the pinned program and in every row, IS THE sha256 OF THE DUMP (.gsa) THAT YtdodgbhodkcckaaProg.lean LOADS. Nothing in Lean hashes anything: it is a label: what it is worth is what the hold of that sum in a sandbox is worth. -/
noncomputable def Try.pinned : Pinned := { name := "ytdodgbhodkcckaa", sum := "056bcc677b8646b0c4e06af9dc136ecf0288a143b5c78258a452b6c752d2ad5a", checked := Try.checked }
namespace Rows
def none {H : Type} : Left H := { results := [], args := [] }

/-- 'contralaw02.VectorPlays': WHATEVER THE INPUT: true; the input reads as it did. -/
def vectorPlaysSpec : ChangeSpec := { name := "vectorPlays", fn := fun _ => fun
  | [d1, d2] => { results := [.lit (.bool true)], args := [d1, d2] }
  | _ => none }
def vectorPlaysRow : OpenClaim := { program := "ytdodgbhodkcckaa", sum := "056bcc677b8646b0c4e06af9dc136ecf0288a143b5c78258a452b6c752d2ad5a", func := "contra/contralaw02.VectorPlays", spec := "vectorPlays", inPlace := ["slices.overlaps[contra/vector.Position]"], unfollowed := true, recurses := true, plainKeys := false, apart := false }
def VectorPlaysSaid : Prop := vectorPlaysRow.holds Try.pinned (OpenSpec.ofChange vectorPlaysSpec)

/-- ITS FALSE NEIGHBOUR: 'it returns false'. Refute it at one input. -/
def vectorPlaysWrong : ChangeSpec := { name := "vectorPlays", fn := fun _ => fun
  | [d1, d2] => { results := [.lit (.bool false)], args := [d1, d2] }
  | _ => none }
def VectorPlaysWrongFalsely : Prop := vectorPlaysRow.holds Try.pinned (OpenSpec.ofChange vectorPlaysWrong)

/-- 'contralaw02.VectorBack': WHATEVER THE INPUT: true; the input reads as it did. -/
def vectorBackSpec : ChangeSpec := { name := "vectorBack", fn := fun _ => fun
  | [d1, d2] => { results := [.lit (.bool true)], args := [d1, d2] }
  | _ => none }
def vectorBackRow : OpenClaim := { program := "ytdodgbhodkcckaa", sum := "056bcc677b8646b0c4e06af9dc136ecf0288a143b5c78258a452b6c752d2ad5a", func := "contra/contralaw02.VectorBack", spec := "vectorBack", inPlace := ["slices.overlaps[contra/vector.Position]"], unfollowed := true, recurses := true, plainKeys := false, apart := false }
def VectorBackSaid : Prop := vectorBackRow.holds Try.pinned (OpenSpec.ofChange vectorBackSpec)

/-- ITS FALSE NEIGHBOUR: 'it returns false'. Refute it at one input. -/
def vectorBackWrong : ChangeSpec := { name := "vectorBack", fn := fun _ => fun
  | [d1, d2] => { results := [.lit (.bool false)], args := [d1, d2] }
  | _ => none }
def VectorBackWrongFalsely : Prop := vectorBackRow.holds Try.pinned (OpenSpec.ofChange vectorBackWrong)

/-- 'contralaw02.VectorOrder': WHATEVER THE INPUT: true; the input reads as it did. -/
def vectorOrderSpec : ChangeSpec := { name := "vectorOrder", fn := fun _ => fun
  | [d1, d2] => { results := [.lit (.bool true)], args := [d1, d2] }
  | _ => none }
def vectorOrderRow : OpenClaim := { program := "ytdodgbhodkcckaa", sum := "056bcc677b8646b0c4e06af9dc136ecf0288a143b5c78258a452b6c752d2ad5a", func := "contra/contralaw02.VectorOrder", spec := "vectorOrder", inPlace := ["slices.overlaps[contra/vector.Position]"], unfollowed := true, recurses := true, plainKeys := false, apart := false }
def VectorOrderSaid : Prop := vectorOrderRow.holds Try.pinned (OpenSpec.ofChange vectorOrderSpec)

/-- ITS FALSE NEIGHBOUR: 'it returns false'. Refute it at one input. -/
def vectorOrderWrong : ChangeSpec := { name := "vectorOrder", fn := fun _ => fun
  | [d1, d2] => { results := [.lit (.bool false)], args := [d1, d2] }
  | _ => none }
def VectorOrderWrongFalsely : Prop := vectorOrderRow.holds Try.pinned (OpenSpec.ofChange vectorOrderWrong)

/-- 'contralaw02.VectorParts': WHATEVER THE INPUT: true; the input reads as it did. -/
def vectorPartsSpec : ChangeSpec := { name := "vectorParts", fn := fun _ => fun
  | [d1, d2] => { results := [.lit (.bool true)], args := [d1, d2] }
  | _ => none }
def vectorPartsRow : OpenClaim := { program := "ytdodgbhodkcckaa", sum := "056bcc677b8646b0c4e06af9dc136ecf0288a143b5c78258a452b6c752d2ad5a", func := "contra/contralaw02.VectorParts", spec := "vectorParts", inPlace := ["slices.overlaps[contra/vector.Position]"], unfollowed := true, recurses := true, plainKeys := false, apart := false }
def VectorPartsSaid : Prop := vectorPartsRow.holds Try.pinned (OpenSpec.ofChange vectorPartsSpec)

/-- ITS FALSE NEIGHBOUR: 'it returns false'. Refute it at one input. -/
def vectorPartsWrong : ChangeSpec := { name := "vectorParts", fn := fun _ => fun
  | [d1, d2] => { results := [.lit (.bool false)], args := [d1, d2] }
  | _ => none }
def VectorPartsWrongFalsely : Prop := vectorPartsRow.holds Try.pinned (OpenSpec.ofChange vectorPartsWrong)

/-- 'contralaw02.VectorPlus': WHATEVER THE INPUT: true; the input reads as it did. -/
def vectorPlusSpec : ChangeSpec := { name := "vectorPlus", fn := fun _ => fun
  | [d1, d2, d3] => { results := [.lit (.bool true)], args := [d1, d2, d3] }
  | _ => none }
def vectorPlusRow : OpenClaim := { program := "ytdodgbhodkcckaa", sum := "056bcc677b8646b0c4e06af9dc136ecf0288a143b5c78258a452b6c752d2ad5a", func := "contra/contralaw02.VectorPlus", spec := "vectorPlus", inPlace := ["slices.overlaps[contra/vector.Position]"], unfollowed := true, recurses := true, plainKeys := false, apart := false }
def VectorPlusSaid : Prop := vectorPlusRow.holds Try.pinned (OpenSpec.ofChange vectorPlusSpec)

/-- ITS FALSE NEIGHBOUR: 'it returns false'. Refute it at one input. -/
def vectorPlusWrong : ChangeSpec := { name := "vectorPlus", fn := fun _ => fun
  | [d1, d2, d3] => { results := [.lit (.bool false)], args := [d1, d2, d3] }
  | _ => none }
def VectorPlusWrongFalsely : Prop := vectorPlusRow.holds Try.pinned (OpenSpec.ofChange vectorPlusWrong)

/-- 'contralaw10.BookNames': WHATEVER THE INPUT: true; the input reads as it did. -/
def bookNamesSpec : ChangeSpec := { name := "bookNames", fn := fun _ => fun
  | [d1, d2, d3] => { results := [.lit (.bool true)], args := [d1, d2, d3] }
  | _ => none }
def bookNamesRow : OpenClaim := { program := "ytdodgbhodkcckaa", sum := "056bcc677b8646b0c4e06af9dc136ecf0288a143b5c78258a452b6c752d2ad5a", func := "contra/contralaw10.BookNames", spec := "bookNames", inPlace := ["slices.overlaps[contra/api.Item]", "slices.overlaps[contra/book.Order]"], unfollowed := true, recurses := true, plainKeys := false, apart := false }
def BookNamesSaid : Prop := bookNamesRow.holds Try.pinned (OpenSpec.ofChange bookNamesSpec)

/-- ITS FALSE NEIGHBOUR: 'it returns false'. Refute it at one input. -/
def bookNamesWrong : ChangeSpec := { name := "bookNames", fn := fun _ => fun
  | [d1, d2, d3] => { results := [.lit (.bool false)], args := [d1, d2, d3] }
  | _ => none }
def BookNamesWrongFalsely : Prop := bookNamesRow.holds Try.pinned (OpenSpec.ofChange bookNamesWrong)

/-- 'contralaw15.ElimLook': WHATEVER THE INPUT: true; the input reads as it did. -/
def elimLookSpec : ChangeSpec := { name := "elimLook", fn := fun _ => fun
  | [d1, d2, d3] => { results := [.lit (.bool true)], args := [d1, d2, d3] }
  | _ => none }
def elimLookRow : OpenClaim := { program := "ytdodgbhodkcckaa", sum := "056bcc677b8646b0c4e06af9dc136ecf0288a143b5c78258a452b6c752d2ad5a", func := "contra/contralaw15.ElimLook", spec := "elimLook", inPlace := ["slices.overlaps[contra/api.Item]", "slices.overlaps[contra/vector.Position]"], unfollowed := true, recurses := true, plainKeys := false, apart := false }
def ElimLookSaid : Prop := elimLookRow.holds Try.pinned (OpenSpec.ofChange elimLookSpec)

/-- ITS FALSE NEIGHBOUR: 'it returns false'. Refute it at one input. -/
def elimLookWrong : ChangeSpec := { name := "elimLook", fn := fun _ => fun
  | [d1, d2, d3] => { results := [.lit (.bool false)], args := [d1, d2, d3] }
  | _ => none }
def ElimLookWrongFalsely : Prop := elimLookRow.holds Try.pinned (OpenSpec.ofChange elimLookWrong)

/-- 'contralaw15.ElimZero': WHATEVER THE INPUT: true; the input reads as it did. -/
def elimZeroSpec : ChangeSpec := { name := "elimZero", fn := fun _ => fun
  | [d1, d2, d3] => { results := [.lit (.bool true)], args := [d1, d2, d3] }
  | _ => none }
def elimZeroRow : OpenClaim := { program := "ytdodgbhodkcckaa", sum := "056bcc677b8646b0c4e06af9dc136ecf0288a143b5c78258a452b6c752d2ad5a", func := "contra/contralaw15.ElimZero", spec := "elimZero", inPlace := ["slices.overlaps[contra/api.Item]", "slices.overlaps[contra/vector.Position]"], unfollowed := true, recurses := true, plainKeys := false, apart := false }
def ElimZeroSaid : Prop := elimZeroRow.holds Try.pinned (OpenSpec.ofChange elimZeroSpec)

/-- ITS FALSE NEIGHBOUR: 'it returns false'. Refute it at one input. -/
def elimZeroWrong : ChangeSpec := { name := "elimZero", fn := fun _ => fun
  | [d1, d2, d3] => { results := [.lit (.bool false)], args := [d1, d2, d3] }
  | _ => none }
def ElimZeroWrongFalsely : Prop := elimZeroRow.holds Try.pinned (OpenSpec.ofChange elimZeroWrong)

/-- 'contralaw15.ElimOthers': WHATEVER THE INPUT: true; the input reads as it did. -/
def elimOthersSpec : ChangeSpec := { name := "elimOthers", fn := fun _ => fun
  | [d1, d2, d3] => { results := [.lit (.bool true)], args := [d1, d2, d3] }
  | _ => none }
def elimOthersRow : OpenClaim := { program := "ytdodgbhodkcckaa", sum := "056bcc677b8646b0c4e06af9dc136ecf0288a143b5c78258a452b6c752d2ad5a", func := "contra/contralaw15.ElimOthers", spec := "elimOthers", inPlace := ["slices.overlaps[contra/api.Item]", "slices.overlaps[contra/vector.Position]"], unfollowed := true, recurses := true, plainKeys := false, apart := false }
def ElimOthersSaid : Prop := elimOthersRow.holds Try.pinned (OpenSpec.ofChange elimOthersSpec)

/-- ITS FALSE NEIGHBOUR: 'it returns false'. Refute it at one input. -/
def elimOthersWrong : ChangeSpec := { name := "elimOthers", fn := fun _ => fun
  | [d1, d2, d3] => { results := [.lit (.bool false)], args := [d1, d2, d3] }
  | _ => none }
def ElimOthersWrongFalsely : Prop := elimOthersRow.holds Try.pinned (OpenSpec.ofChange elimOthersWrong)

/-- 'contralaw15.ElimOdd': WHATEVER THE INPUT: true; the input reads as it did. -/
def elimOddSpec : ChangeSpec := { name := "elimOdd", fn := fun _ => fun
  | [d1, d2] => { results := [.lit (.bool true)], args := [d1, d2] }
  | _ => none }
def elimOddRow : OpenClaim := { program := "ytdodgbhodkcckaa", sum := "056bcc677b8646b0c4e06af9dc136ecf0288a143b5c78258a452b6c752d2ad5a", func := "contra/contralaw15.ElimOdd", spec := "elimOdd", inPlace := ["slices.overlaps[contra/api.Item]", "slices.overlaps[contra/vector.Position]"], unfollowed := true, recurses := true, plainKeys := false, apart := false }
def ElimOddSaid : Prop := elimOddRow.holds Try.pinned (OpenSpec.ofChange elimOddSpec)

/-- ITS FALSE NEIGHBOUR: 'it returns false'. Refute it at one input. -/
def elimOddWrong : ChangeSpec := { name := "elimOdd", fn := fun _ => fun
  | [d1, d2] => { results := [.lit (.bool false)], args := [d1, d2] }
  | _ => none }
def ElimOddWrongFalsely : Prop := elimOddRow.holds Try.pinned (OpenSpec.ofChange elimOddWrong)

/-- 'contralaw15.ElimGroup': WHATEVER THE INPUT: true; the input reads as it did. -/
def elimGroupSpec : ChangeSpec := { name := "elimGroup", fn := fun _ => fun
  | [d1, d2, d3] => { results := [.lit (.bool true)], args := [d1, d2, d3] }
  | _ => none }
def elimGroupRow : OpenClaim := { program := "ytdodgbhodkcckaa", sum := "056bcc677b8646b0c4e06af9dc136ecf0288a143b5c78258a452b6c752d2ad5a", func := "contra/contralaw15.ElimGroup", spec := "elimGroup", inPlace := ["slices.overlaps[contra/api.Item]", "slices.overlaps[contra/vector.Position]"], unfollowed := true, recurses := true, plainKeys := false, apart := false }
def ElimGroupSaid : Prop := elimGroupRow.holds Try.pinned (OpenSpec.ofChange elimGroupSpec)

/-- ITS FALSE NEIGHBOUR: 'it returns false'. Refute it at one input. -/
def elimGroupWrong : ChangeSpec := { name := "elimGroup", fn := fun _ => fun
  | [d1, d2, d3] => { results := [.lit (.bool false)], args := [d1, d2, d3] }
  | _ => none }
def ElimGroupWrongFalsely : Prop := elimGroupRow.holds Try.pinned (OpenSpec.ofChange elimGroupWrong)

/-- 'contralaw14.MatchPlays': WHATEVER THE INPUT: true; the input reads as it did. -/
def matchPlaysSpec : ChangeSpec := { name := "matchPlays", fn := fun _ => fun
  | [d1, d2, d3] => { results := [.lit (.bool true)], args := [d1, d2, d3] }
  | _ => none }
def matchPlaysRow : OpenClaim := { program := "ytdodgbhodkcckaa", sum := "056bcc677b8646b0c4e06af9dc136ecf0288a143b5c78258a452b6c752d2ad5a", func := "contra/contralaw14.MatchPlays", spec := "matchPlays", inPlace := ["slices.overlaps[contra/api.Item]", "slices.overlaps[contra/book.Order]"], unfollowed := true, recurses := true, plainKeys := false, apart := false }
def MatchPlaysSaid : Prop := matchPlaysRow.holds Try.pinned (OpenSpec.ofChange matchPlaysSpec)

/-- ITS FALSE NEIGHBOUR: 'it returns false'. Refute it at one input. -/
def matchPlaysWrong : ChangeSpec := { name := "matchPlays", fn := fun _ => fun
  | [d1, d2, d3] => { results := [.lit (.bool false)], args := [d1, d2, d3] }
  | _ => none }
def MatchPlaysWrongFalsely : Prop := matchPlaysRow.holds Try.pinned (OpenSpec.ofChange matchPlaysWrong)

/-- 'contralaw14.MatchPair': WHATEVER THE INPUT: true; the input reads as it did. -/
def matchPairSpec : ChangeSpec := { name := "matchPair", fn := fun _ => fun
  | [d1, d2, d3] => { results := [.lit (.bool true)], args := [d1, d2, d3] }
  | _ => none }
def matchPairRow : OpenClaim := { program := "ytdodgbhodkcckaa", sum := "056bcc677b8646b0c4e06af9dc136ecf0288a143b5c78258a452b6c752d2ad5a", func := "contra/contralaw14.MatchPair", spec := "matchPair", inPlace := ["slices.overlaps[contra/api.Item]", "slices.overlaps[contra/book.Order]"], unfollowed := true, recurses := true, plainKeys := false, apart := false }
def MatchPairSaid : Prop := matchPairRow.holds Try.pinned (OpenSpec.ofChange matchPairSpec)

/-- ITS FALSE NEIGHBOUR: 'it returns false'. Refute it at one input. -/
def matchPairWrong : ChangeSpec := { name := "matchPair", fn := fun _ => fun
  | [d1, d2, d3] => { results := [.lit (.bool false)], args := [d1, d2, d3] }
  | _ => none }
def MatchPairWrongFalsely : Prop := matchPairRow.holds Try.pinned (OpenSpec.ofChange matchPairWrong)

/-- 'contralaw14.MatchTwice': WHATEVER THE INPUT: true; the input reads as it did. -/
def matchTwiceSpec : ChangeSpec := { name := "matchTwice", fn := fun _ => fun
  | [d1, d2, d3] => { results := [.lit (.bool true)], args := [d1, d2, d3] }
  | _ => none }
def matchTwiceRow : OpenClaim := { program := "ytdodgbhodkcckaa", sum := "056bcc677b8646b0c4e06af9dc136ecf0288a143b5c78258a452b6c752d2ad5a", func := "contra/contralaw14.MatchTwice", spec := "matchTwice", inPlace := ["slices.overlaps[contra/api.Item]", "slices.overlaps[contra/book.Order]"], unfollowed := true, recurses := true, plainKeys := false, apart := false }
def MatchTwiceSaid : Prop := matchTwiceRow.holds Try.pinned (OpenSpec.ofChange matchTwiceSpec)

/-- ITS FALSE NEIGHBOUR: 'it returns false'. Refute it at one input. -/
def matchTwiceWrong : ChangeSpec := { name := "matchTwice", fn := fun _ => fun
  | [d1, d2, d3] => { results := [.lit (.bool false)], args := [d1, d2, d3] }
  | _ => none }
def MatchTwiceWrongFalsely : Prop := matchTwiceRow.holds Try.pinned (OpenSpec.ofChange matchTwiceWrong)

/-- 'contralaw14.MatchFar': WHATEVER THE INPUT: true; the input reads as it did. -/
def matchFarSpec : ChangeSpec := { name := "matchFar", fn := fun _ => fun
  | [d1, d2, d3] => { results := [.lit (.bool true)], args := [d1, d2, d3] }
  | _ => none }
def matchFarRow : OpenClaim := { program := "ytdodgbhodkcckaa", sum := "056bcc677b8646b0c4e06af9dc136ecf0288a143b5c78258a452b6c752d2ad5a", func := "contra/contralaw14.MatchFar", spec := "matchFar", inPlace := ["slices.overlaps[contra/api.Item]", "slices.overlaps[contra/book.Order]"], unfollowed := true, recurses := true, plainKeys := false, apart := false }
def MatchFarSaid : Prop := matchFarRow.holds Try.pinned (OpenSpec.ofChange matchFarSpec)

/-- ITS FALSE NEIGHBOUR: 'it returns false'. Refute it at one input. -/
def matchFarWrong : ChangeSpec := { name := "matchFar", fn := fun _ => fun
  | [d1, d2, d3] => { results := [.lit (.bool false)], args := [d1, d2, d3] }
  | _ => none }
def MatchFarWrongFalsely : Prop := matchFarRow.holds Try.pinned (OpenSpec.ofChange matchFarWrong)

/-- 'contralaw14.MatchStrangers': WHATEVER THE INPUT: true; the input reads as it did. -/
def matchStrangersSpec : ChangeSpec := { name := "matchStrangers", fn := fun _ => fun
  | [d1, d2] => { results := [.lit (.bool true)], args := [d1, d2] }
  | _ => none }
def matchStrangersRow : OpenClaim := { program := "ytdodgbhodkcckaa", sum := "056bcc677b8646b0c4e06af9dc136ecf0288a143b5c78258a452b6c752d2ad5a", func := "contra/contralaw14.MatchStrangers", spec := "matchStrangers", inPlace := ["slices.overlaps[contra/api.Item]", "slices.overlaps[contra/book.Order]"], unfollowed := true, recurses := true, plainKeys := false, apart := false }
def MatchStrangersSaid : Prop := matchStrangersRow.holds Try.pinned (OpenSpec.ofChange matchStrangersSpec)

/-- ITS FALSE NEIGHBOUR: 'it returns false'. Refute it at one input. -/
def matchStrangersWrong : ChangeSpec := { name := "matchStrangers", fn := fun _ => fun
  | [d1, d2] => { results := [.lit (.bool false)], args := [d1, d2] }
  | _ => none }
def MatchStrangersWrongFalsely : Prop := matchStrangersRow.holds Try.pinned (OpenSpec.ofChange matchStrangersWrong)

/-- 'contralaw14.MatchEnds': WHATEVER THE INPUT: true; the input reads as it did. -/
def matchEndsSpec : ChangeSpec := { name := "matchEnds", fn := fun _ => fun
  | [d1, d2, d3] => { results := [.lit (.bool true)], args := [d1, d2, d3] }
  | _ => none }
def matchEndsRow : OpenClaim := { program := "ytdodgbhodkcckaa", sum := "056bcc677b8646b0c4e06af9dc136ecf0288a143b5c78258a452b6c752d2ad5a", func := "contra/contralaw14.MatchEnds", spec := "matchEnds", inPlace := ["slices.overlaps[contra/api.Item]", "slices.overlaps[contra/book.Order]"], unfollowed := true, recurses := true, plainKeys := false, apart := false }
def MatchEndsSaid : Prop := matchEndsRow.holds Try.pinned (OpenSpec.ofChange matchEndsSpec)

/-- ITS FALSE NEIGHBOUR: 'it returns false'. Refute it at one input. -/
def matchEndsWrong : ChangeSpec := { name := "matchEnds", fn := fun _ => fun
  | [d1, d2, d3] => { results := [.lit (.bool false)], args := [d1, d2, d3] }
  | _ => none }
def MatchEndsWrongFalsely : Prop := matchEndsRow.holds Try.pinned (OpenSpec.ofChange matchEndsWrong)

/-- 'contralaw17.VotePlays': WHATEVER THE INPUT: true; the input reads as it did. -/
def votePlaysSpec : ChangeSpec := { name := "votePlays", fn := fun _ => fun
  | [d1, d2, d3] => { results := [.lit (.bool true)], args := [d1, d2, d3] }
  | _ => none }
def votePlaysRow : OpenClaim := { program := "ytdodgbhodkcckaa", sum := "056bcc677b8646b0c4e06af9dc136ecf0288a143b5c78258a452b6c752d2ad5a", func := "contra/contralaw17.VotePlays", spec := "votePlays", inPlace := ["slices.overlaps[contra/api.Item]", "slices.overlaps[contra/vote.Part]"], unfollowed := true, recurses := true, plainKeys := false, apart := false }
def VotePlaysSaid : Prop := votePlaysRow.holds Try.pinned (OpenSpec.ofChange votePlaysSpec)

/-- ITS FALSE NEIGHBOUR: 'it returns false'. Refute it at one input. -/
def votePlaysWrong : ChangeSpec := { name := "votePlays", fn := fun _ => fun
  | [d1, d2, d3] => { results := [.lit (.bool false)], args := [d1, d2, d3] }
  | _ => none }
def VotePlaysWrongFalsely : Prop := votePlaysRow.holds Try.pinned (OpenSpec.ofChange votePlaysWrong)

/-- 'contralaw17.VoteKeeps': WHATEVER THE INPUT: true; the input reads as it did. -/
def voteKeepsSpec : ChangeSpec := { name := "voteKeeps", fn := fun _ => fun
  | [d1, d2, d3] => { results := [.lit (.bool true)], args := [d1, d2, d3] }
  | _ => none }
def voteKeepsRow : OpenClaim := { program := "ytdodgbhodkcckaa", sum := "056bcc677b8646b0c4e06af9dc136ecf0288a143b5c78258a452b6c752d2ad5a", func := "contra/contralaw17.VoteKeeps", spec := "voteKeeps", inPlace := ["slices.overlaps[contra/api.Item]", "slices.overlaps[contra/vote.Part]"], unfollowed := true, recurses := true, plainKeys := false, apart := false }
def VoteKeepsSaid : Prop := voteKeepsRow.holds Try.pinned (OpenSpec.ofChange voteKeepsSpec)

/-- ITS FALSE NEIGHBOUR: 'it returns false'. Refute it at one input. -/
def voteKeepsWrong : ChangeSpec := { name := "voteKeeps", fn := fun _ => fun
  | [d1, d2, d3] => { results := [.lit (.bool false)], args := [d1, d2, d3] }
  | _ => none }
def VoteKeepsWrongFalsely : Prop := voteKeepsRow.holds Try.pinned (OpenSpec.ofChange voteKeepsWrong)

/-- 'contralaw17.VoteOnce': WHATEVER THE INPUT: true; the input reads as it did. -/
def voteOnceSpec : ChangeSpec := { name := "voteOnce", fn := fun _ => fun
  | [d1, d2] => { results := [.lit (.bool true)], args := [d1, d2] }
  | _ => none }
def voteOnceRow : OpenClaim := { program := "ytdodgbhodkcckaa", sum := "056bcc677b8646b0c4e06af9dc136ecf0288a143b5c78258a452b6c752d2ad5a", func := "contra/contralaw17.VoteOnce", spec := "voteOnce", inPlace := ["slices.overlaps[contra/api.Item]", "slices.overlaps[contra/vote.Part]"], unfollowed := true, recurses := true, plainKeys := false, apart := false }
def VoteOnceSaid : Prop := voteOnceRow.holds Try.pinned (OpenSpec.ofChange voteOnceSpec)

/-- ITS FALSE NEIGHBOUR: 'it returns false'. Refute it at one input. -/
def voteOnceWrong : ChangeSpec := { name := "voteOnce", fn := fun _ => fun
  | [d1, d2] => { results := [.lit (.bool false)], args := [d1, d2] }
  | _ => none }
def VoteOnceWrongFalsely : Prop := voteOnceRow.holds Try.pinned (OpenSpec.ofChange voteOnceWrong)

/-- 'contralaw17.VoteFull': WHATEVER THE INPUT: true; the input reads as it did. -/
def voteFullSpec : ChangeSpec := { name := "voteFull", fn := fun _ => fun
  | [d] => { results := [.lit (.bool true)], args := [d] }
  | _ => none }
def voteFullRow : OpenClaim := { program := "ytdodgbhodkcckaa", sum := "056bcc677b8646b0c4e06af9dc136ecf0288a143b5c78258a452b6c752d2ad5a", func := "contra/contralaw17.VoteFull", spec := "voteFull", inPlace := ["slices.overlaps[contra/api.Item]", "slices.overlaps[contra/vote.Part]"], unfollowed := true, recurses := true, plainKeys := false, apart := false }
def VoteFullSaid : Prop := voteFullRow.holds Try.pinned (OpenSpec.ofChange voteFullSpec)

/-- ITS FALSE NEIGHBOUR: 'it returns false'. Refute it at one input. -/
def voteFullWrong : ChangeSpec := { name := "voteFull", fn := fun _ => fun
  | [d] => { results := [.lit (.bool false)], args := [d] }
  | _ => none }
def VoteFullWrongFalsely : Prop := voteFullRow.holds Try.pinned (OpenSpec.ofChange voteFullWrong)

/-- 'contralaw16.CycleNets': WHATEVER THE INPUT: true; the input reads as it did. -/
def cycleNetsSpec : ChangeSpec := { name := "cycleNets", fn := fun _ => fun
  | [d1, d2] => { results := [.lit (.bool true)], args := [d1, d2] }
  | _ => none }
def cycleNetsRow : OpenClaim := { program := "ytdodgbhodkcckaa", sum := "056bcc677b8646b0c4e06af9dc136ecf0288a143b5c78258a452b6c752d2ad5a", func := "contra/contralaw16.CycleNets", spec := "cycleNets", unfollowed := true, recurses := true, plainKeys := false, apart := false }
def CycleNetsSaid : Prop := cycleNetsRow.holds Try.pinned (OpenSpec.ofChange cycleNetsSpec)

/-- ITS FALSE NEIGHBOUR: 'it returns false'. Refute it at one input. -/
def cycleNetsWrong : ChangeSpec := { name := "cycleNets", fn := fun _ => fun
  | [d1, d2] => { results := [.lit (.bool false)], args := [d1, d2] }
  | _ => none }
def CycleNetsWrongFalsely : Prop := cycleNetsRow.holds Try.pinned (OpenSpec.ofChange cycleNetsWrong)

/-- 'contralaw16.CycleZero': WHATEVER THE INPUT: true; the input reads as it did. -/
def cycleZeroSpec : ChangeSpec := { name := "cycleZero", fn := fun _ => fun
  | [d1, d2, d3] => { results := [.lit (.bool true)], args := [d1, d2, d3] }
  | _ => none }
def cycleZeroRow : OpenClaim := { program := "ytdodgbhodkcckaa", sum := "056bcc677b8646b0c4e06af9dc136ecf0288a143b5c78258a452b6c752d2ad5a", func := "contra/contralaw16.CycleZero", spec := "cycleZero", unfollowed := true, recurses := true, plainKeys := false, apart := false }
def CycleZeroSaid : Prop := cycleZeroRow.holds Try.pinned (OpenSpec.ofChange cycleZeroSpec)

/-- ITS FALSE NEIGHBOUR: 'it returns false'. Refute it at one input. -/
def cycleZeroWrong : ChangeSpec := { name := "cycleZero", fn := fun _ => fun
  | [d1, d2, d3] => { results := [.lit (.bool false)], args := [d1, d2, d3] }
  | _ => none }
def CycleZeroWrongFalsely : Prop := cycleZeroRow.holds Try.pinned (OpenSpec.ofChange cycleZeroWrong)

/-- 'contralaw16.CycleBoth': WHATEVER THE INPUT: true; the input reads as it did. -/
def cycleBothSpec : ChangeSpec := { name := "cycleBoth", fn := fun _ => fun
  | [d] => { results := [.lit (.bool true)], args := [d] }
  | _ => none }
def cycleBothRow : OpenClaim := { program := "ytdodgbhodkcckaa", sum := "056bcc677b8646b0c4e06af9dc136ecf0288a143b5c78258a452b6c752d2ad5a", func := "contra/contralaw16.CycleBoth", spec := "cycleBoth", unfollowed := true, recurses := true, plainKeys := false, apart := false }
def CycleBothSaid : Prop := cycleBothRow.holds Try.pinned (OpenSpec.ofChange cycleBothSpec)

/-- ITS FALSE NEIGHBOUR: 'it returns false'. Refute it at one input. -/
def cycleBothWrong : ChangeSpec := { name := "cycleBoth", fn := fun _ => fun
  | [d] => { results := [.lit (.bool false)], args := [d] }
  | _ => none }
def CycleBothWrongFalsely : Prop := cycleBothRow.holds Try.pinned (OpenSpec.ofChange cycleBothWrong)

/-- 'contralaw16.CycleMine': WHATEVER THE INPUT: true; the input reads as it did. -/
def cycleMineSpec : ChangeSpec := { name := "cycleMine", fn := fun _ => fun
  | [d1, d2] => { results := [.lit (.bool true)], args := [d1, d2] }
  | _ => none }
def cycleMineRow : OpenClaim := { program := "ytdodgbhodkcckaa", sum := "056bcc677b8646b0c4e06af9dc136ecf0288a143b5c78258a452b6c752d2ad5a", func := "contra/contralaw16.CycleMine", spec := "cycleMine", unfollowed := true, recurses := true, plainKeys := false, apart := false }
def CycleMineSaid : Prop := cycleMineRow.holds Try.pinned (OpenSpec.ofChange cycleMineSpec)

/-- ITS FALSE NEIGHBOUR: 'it returns false'. Refute it at one input. -/
def cycleMineWrong : ChangeSpec := { name := "cycleMine", fn := fun _ => fun
  | [d1, d2] => { results := [.lit (.bool false)], args := [d1, d2] }
  | _ => none }
def CycleMineWrongFalsely : Prop := cycleMineRow.holds Try.pinned (OpenSpec.ofChange cycleMineWrong)

/-- 'contralaw16.CycleAdds': WHATEVER THE INPUT: true; the input reads as it did. -/
def cycleAddsSpec : ChangeSpec := { name := "cycleAdds", fn := fun _ => fun
  | [d1, d2, d3] => { results := [.lit (.bool true)], args := [d1, d2, d3] }
  | _ => none }
def cycleAddsRow : OpenClaim := { program := "ytdodgbhodkcckaa", sum := "056bcc677b8646b0c4e06af9dc136ecf0288a143b5c78258a452b6c752d2ad5a", func := "contra/contralaw16.CycleAdds", spec := "cycleAdds", unfollowed := true, recurses := true, plainKeys := false, apart := false }
def CycleAddsSaid : Prop := cycleAddsRow.holds Try.pinned (OpenSpec.ofChange cycleAddsSpec)

/-- ITS FALSE NEIGHBOUR: 'it returns false'. Refute it at one input. -/
def cycleAddsWrong : ChangeSpec := { name := "cycleAdds", fn := fun _ => fun
  | [d1, d2, d3] => { results := [.lit (.bool false)], args := [d1, d2, d3] }
  | _ => none }
def CycleAddsWrongFalsely : Prop := cycleAddsRow.holds Try.pinned (OpenSpec.ofChange cycleAddsWrong)

/-- 'contralaw18.ChiefPlays': WHATEVER THE INPUT: true; the input reads as it did. -/
def chiefPlaysSpec : ChangeSpec := { name := "chiefPlays", fn := fun _ => fun
  | [d1, d2] => { results := [.lit (.bool true)], args := [d1, d2] }
  | _ => none }
def chiefPlaysRow : OpenClaim := { program := "ytdodgbhodkcckaa", sum := "056bcc677b8646b0c4e06af9dc136ecf0288a143b5c78258a452b6c752d2ad5a", func := "contra/contralaw18.ChiefPlays", spec := "chiefPlays", unfollowed := true, recurses := true, plainKeys := false, apart := false }
def ChiefPlaysSaid : Prop := chiefPlaysRow.holds Try.pinned (OpenSpec.ofChange chiefPlaysSpec)

/-- ITS FALSE NEIGHBOUR: 'it returns false'. Refute it at one input. -/
def chiefPlaysWrong : ChangeSpec := { name := "chiefPlays", fn := fun _ => fun
  | [d1, d2] => { results := [.lit (.bool false)], args := [d1, d2] }
  | _ => none }
def ChiefPlaysWrongFalsely : Prop := chiefPlaysRow.holds Try.pinned (OpenSpec.ofChange chiefPlaysWrong)

/-- 'contralaw18.ChiefOne': WHATEVER THE INPUT: true; the input reads as it did. -/
def chiefOneSpec : ChangeSpec := { name := "chiefOne", fn := fun _ => fun
  | [d] => { results := [.lit (.bool true)], args := [d] }
  | _ => none }
def chiefOneRow : OpenClaim := { program := "ytdodgbhodkcckaa", sum := "056bcc677b8646b0c4e06af9dc136ecf0288a143b5c78258a452b6c752d2ad5a", func := "contra/contralaw18.ChiefOne", spec := "chiefOne", unfollowed := true, recurses := true, plainKeys := false, apart := false }
def ChiefOneSaid : Prop := chiefOneRow.holds Try.pinned (OpenSpec.ofChange chiefOneSpec)

/-- ITS FALSE NEIGHBOUR: 'it returns false'. Refute it at one input. -/
def chiefOneWrong : ChangeSpec := { name := "chiefOne", fn := fun _ => fun
  | [d] => { results := [.lit (.bool false)], args := [d] }
  | _ => none }
def ChiefOneWrongFalsely : Prop := chiefOneRow.holds Try.pinned (OpenSpec.ofChange chiefOneWrong)

/-- 'contralaw18.ChiefOwn': WHATEVER THE INPUT: true; the input reads as it did. -/
def chiefOwnSpec : ChangeSpec := { name := "chiefOwn", fn := fun _ => fun
  | [d1, d2] => { results := [.lit (.bool true)], args := [d1, d2] }
  | _ => none }
def chiefOwnRow : OpenClaim := { program := "ytdodgbhodkcckaa", sum := "056bcc677b8646b0c4e06af9dc136ecf0288a143b5c78258a452b6c752d2ad5a", func := "contra/contralaw18.ChiefOwn", spec := "chiefOwn", unfollowed := true, recurses := true, plainKeys := false, apart := false }
def ChiefOwnSaid : Prop := chiefOwnRow.holds Try.pinned (OpenSpec.ofChange chiefOwnSpec)

/-- ITS FALSE NEIGHBOUR: 'it returns false'. Refute it at one input. -/
def chiefOwnWrong : ChangeSpec := { name := "chiefOwn", fn := fun _ => fun
  | [d1, d2] => { results := [.lit (.bool false)], args := [d1, d2] }
  | _ => none }
def ChiefOwnWrongFalsely : Prop := chiefOwnRow.holds Try.pinned (OpenSpec.ofChange chiefOwnWrong)

/-- 'contralaw18.ChiefLate': WHATEVER THE INPUT: true; the input reads as it did. -/
def chiefLateSpec : ChangeSpec := { name := "chiefLate", fn := fun _ => fun
  | [d1, d2, d3] => { results := [.lit (.bool true)], args := [d1, d2, d3] }
  | _ => none }
def chiefLateRow : OpenClaim := { program := "ytdodgbhodkcckaa", sum := "056bcc677b8646b0c4e06af9dc136ecf0288a143b5c78258a452b6c752d2ad5a", func := "contra/contralaw18.ChiefLate", spec := "chiefLate", unfollowed := true, recurses := true, plainKeys := false, apart := false }
def ChiefLateSaid : Prop := chiefLateRow.holds Try.pinned (OpenSpec.ofChange chiefLateSpec)

/-- ITS FALSE NEIGHBOUR: 'it returns false'. Refute it at one input. -/
def chiefLateWrong : ChangeSpec := { name := "chiefLate", fn := fun _ => fun
  | [d1, d2, d3] => { results := [.lit (.bool false)], args := [d1, d2, d3] }
  | _ => none }
def ChiefLateWrongFalsely : Prop := chiefLateRow.holds Try.pinned (OpenSpec.ofChange chiefLateWrong)

/-- 'contralaw18.ChiefOpen': WHATEVER THE INPUT: true; the input reads as it did. -/
def chiefOpenSpec : ChangeSpec := { name := "chiefOpen", fn := fun _ => fun
  | [d] => { results := [.lit (.bool true)], args := [d] }
  | _ => none }
def chiefOpenRow : OpenClaim := { program := "ytdodgbhodkcckaa", sum := "056bcc677b8646b0c4e06af9dc136ecf0288a143b5c78258a452b6c752d2ad5a", func := "contra/contralaw18.ChiefOpen", spec := "chiefOpen", unfollowed := true, recurses := true, plainKeys := false, apart := false }
def ChiefOpenSaid : Prop := chiefOpenRow.holds Try.pinned (OpenSpec.ofChange chiefOpenSpec)

/-- ITS FALSE NEIGHBOUR: 'it returns false'. Refute it at one input. -/
def chiefOpenWrong : ChangeSpec := { name := "chiefOpen", fn := fun _ => fun
  | [d] => { results := [.lit (.bool false)], args := [d] }
  | _ => none }
def ChiefOpenWrongFalsely : Prop := chiefOpenRow.holds Try.pinned (OpenSpec.ofChange chiefOpenWrong)

/- THE SECOND FORM. 'bulk': how many values and letters a reading holds, each counted each time it is reached (what is shared counts as often as it is met; a slice's spare places count too). A statement '..UptoSaid' is the law's where the arguments, and the package variables that the reading takes, are together of bulk at most 1048576: NARROWER than '..Said'. Prove '..Said' where nothing that the law and all that it calls make is longer than what came in: it says more and counts as full. Else prove '..UptoSaid'. A law counts once. -/
mutual
def uptoBulk {H : Type} : DataW H → Nat
  | .lit (.string bytes) => bytes.length + 1
  | .lit _ => 1
  | .nil => 1
  | .ptr d => uptoBulk d + 1
  | .slice elems spare => uptoBulkAll elems + uptoBulkAll spare + 1
  | .agg parts => uptoBulkAll parts + 1
  | .iface _ d => uptoBulk d + 1
  | .map entries => uptoBulkEntries entries + 1
  | .held _ => 1
def uptoBulkAll {H : Type} : List (DataW H) → Nat
  | [] => 0
  | d :: r => uptoBulk d + uptoBulkAll r
def uptoBulkEntries {H : Type} : List (Lit × DataW H) → Nat
  | [] => 0
  | x :: r => uptoBulkEntry x + uptoBulkEntries r
def uptoBulkEntry {H : Type} : Lit × DataW H → Nat
  | (.string bytes, d) => bytes.length + uptoBulk d + 1
  | (_, d) => uptoBulk d + 1
 end
def uptoSmall : (H : Type) → List (DataW H) → Bool := fun _ ds => decide (uptoBulkAll ds ≤ 1048576)
def OpenSpec.upto (s : _root_.Go.ChangeSpec) : _root_.Go.OpenSpec := { _root_.Go.OpenSpec.ofChange s with cond := some uptoSmall }

/-- 'contralaw02.VectorPlays', WHERE WHAT IT READS IS OF BULK AT MOST 1048576: true; the input reads as it did. -/
def vectorPlaysUptoRow : OpenClaim := { program := "ytdodgbhodkcckaa", sum := "056bcc677b8646b0c4e06af9dc136ecf0288a143b5c78258a452b6c752d2ad5a", func := "contra/contralaw02.VectorPlays", spec := "vectorPlays", inPlace := ["slices.overlaps[contra/vector.Position]"], unfollowed := true, recurses := true, plainKeys := false, apart := false, narrowed := true }
def VectorPlaysUptoSaid : Prop := vectorPlaysUptoRow.holds Try.pinned (OpenSpec.upto vectorPlaysSpec)

/-- 'contralaw02.VectorBack', WHERE WHAT IT READS IS OF BULK AT MOST 1048576: true; the input reads as it did. -/
def vectorBackUptoRow : OpenClaim := { program := "ytdodgbhodkcckaa", sum := "056bcc677b8646b0c4e06af9dc136ecf0288a143b5c78258a452b6c752d2ad5a", func := "contra/contralaw02.VectorBack", spec := "vectorBack", inPlace := ["slices.overlaps[contra/vector.Position]"], unfollowed := true, recurses := true, plainKeys := false, apart := false, narrowed := true }
def VectorBackUptoSaid : Prop := vectorBackUptoRow.holds Try.pinned (OpenSpec.upto vectorBackSpec)

/-- 'contralaw02.VectorOrder', WHERE WHAT IT READS IS OF BULK AT MOST 1048576: true; the input reads as it did. -/
def vectorOrderUptoRow : OpenClaim := { program := "ytdodgbhodkcckaa", sum := "056bcc677b8646b0c4e06af9dc136ecf0288a143b5c78258a452b6c752d2ad5a", func := "contra/contralaw02.VectorOrder", spec := "vectorOrder", inPlace := ["slices.overlaps[contra/vector.Position]"], unfollowed := true, recurses := true, plainKeys := false, apart := false, narrowed := true }
def VectorOrderUptoSaid : Prop := vectorOrderUptoRow.holds Try.pinned (OpenSpec.upto vectorOrderSpec)

/-- 'contralaw02.VectorParts', WHERE WHAT IT READS IS OF BULK AT MOST 1048576: true; the input reads as it did. -/
def vectorPartsUptoRow : OpenClaim := { program := "ytdodgbhodkcckaa", sum := "056bcc677b8646b0c4e06af9dc136ecf0288a143b5c78258a452b6c752d2ad5a", func := "contra/contralaw02.VectorParts", spec := "vectorParts", inPlace := ["slices.overlaps[contra/vector.Position]"], unfollowed := true, recurses := true, plainKeys := false, apart := false, narrowed := true }
def VectorPartsUptoSaid : Prop := vectorPartsUptoRow.holds Try.pinned (OpenSpec.upto vectorPartsSpec)

/-- 'contralaw02.VectorPlus', WHERE WHAT IT READS IS OF BULK AT MOST 1048576: true; the input reads as it did. -/
def vectorPlusUptoRow : OpenClaim := { program := "ytdodgbhodkcckaa", sum := "056bcc677b8646b0c4e06af9dc136ecf0288a143b5c78258a452b6c752d2ad5a", func := "contra/contralaw02.VectorPlus", spec := "vectorPlus", inPlace := ["slices.overlaps[contra/vector.Position]"], unfollowed := true, recurses := true, plainKeys := false, apart := false, narrowed := true }
def VectorPlusUptoSaid : Prop := vectorPlusUptoRow.holds Try.pinned (OpenSpec.upto vectorPlusSpec)

/-- 'contralaw10.BookNames', WHERE WHAT IT READS IS OF BULK AT MOST 1048576: true; the input reads as it did. -/
def bookNamesUptoRow : OpenClaim := { program := "ytdodgbhodkcckaa", sum := "056bcc677b8646b0c4e06af9dc136ecf0288a143b5c78258a452b6c752d2ad5a", func := "contra/contralaw10.BookNames", spec := "bookNames", inPlace := ["slices.overlaps[contra/api.Item]", "slices.overlaps[contra/book.Order]"], unfollowed := true, recurses := true, plainKeys := false, apart := false, narrowed := true }
def BookNamesUptoSaid : Prop := bookNamesUptoRow.holds Try.pinned (OpenSpec.upto bookNamesSpec)

/-- 'contralaw15.ElimLook', WHERE WHAT IT READS IS OF BULK AT MOST 1048576: true; the input reads as it did. -/
def elimLookUptoRow : OpenClaim := { program := "ytdodgbhodkcckaa", sum := "056bcc677b8646b0c4e06af9dc136ecf0288a143b5c78258a452b6c752d2ad5a", func := "contra/contralaw15.ElimLook", spec := "elimLook", inPlace := ["slices.overlaps[contra/api.Item]", "slices.overlaps[contra/vector.Position]"], unfollowed := true, recurses := true, plainKeys := false, apart := false, narrowed := true }
def ElimLookUptoSaid : Prop := elimLookUptoRow.holds Try.pinned (OpenSpec.upto elimLookSpec)

/-- 'contralaw15.ElimZero', WHERE WHAT IT READS IS OF BULK AT MOST 1048576: true; the input reads as it did. -/
def elimZeroUptoRow : OpenClaim := { program := "ytdodgbhodkcckaa", sum := "056bcc677b8646b0c4e06af9dc136ecf0288a143b5c78258a452b6c752d2ad5a", func := "contra/contralaw15.ElimZero", spec := "elimZero", inPlace := ["slices.overlaps[contra/api.Item]", "slices.overlaps[contra/vector.Position]"], unfollowed := true, recurses := true, plainKeys := false, apart := false, narrowed := true }
def ElimZeroUptoSaid : Prop := elimZeroUptoRow.holds Try.pinned (OpenSpec.upto elimZeroSpec)

/-- 'contralaw15.ElimOthers', WHERE WHAT IT READS IS OF BULK AT MOST 1048576: true; the input reads as it did. -/
def elimOthersUptoRow : OpenClaim := { program := "ytdodgbhodkcckaa", sum := "056bcc677b8646b0c4e06af9dc136ecf0288a143b5c78258a452b6c752d2ad5a", func := "contra/contralaw15.ElimOthers", spec := "elimOthers", inPlace := ["slices.overlaps[contra/api.Item]", "slices.overlaps[contra/vector.Position]"], unfollowed := true, recurses := true, plainKeys := false, apart := false, narrowed := true }
def ElimOthersUptoSaid : Prop := elimOthersUptoRow.holds Try.pinned (OpenSpec.upto elimOthersSpec)

/-- 'contralaw15.ElimOdd', WHERE WHAT IT READS IS OF BULK AT MOST 1048576: true; the input reads as it did. -/
def elimOddUptoRow : OpenClaim := { program := "ytdodgbhodkcckaa", sum := "056bcc677b8646b0c4e06af9dc136ecf0288a143b5c78258a452b6c752d2ad5a", func := "contra/contralaw15.ElimOdd", spec := "elimOdd", inPlace := ["slices.overlaps[contra/api.Item]", "slices.overlaps[contra/vector.Position]"], unfollowed := true, recurses := true, plainKeys := false, apart := false, narrowed := true }
def ElimOddUptoSaid : Prop := elimOddUptoRow.holds Try.pinned (OpenSpec.upto elimOddSpec)

/-- 'contralaw15.ElimGroup', WHERE WHAT IT READS IS OF BULK AT MOST 1048576: true; the input reads as it did. -/
def elimGroupUptoRow : OpenClaim := { program := "ytdodgbhodkcckaa", sum := "056bcc677b8646b0c4e06af9dc136ecf0288a143b5c78258a452b6c752d2ad5a", func := "contra/contralaw15.ElimGroup", spec := "elimGroup", inPlace := ["slices.overlaps[contra/api.Item]", "slices.overlaps[contra/vector.Position]"], unfollowed := true, recurses := true, plainKeys := false, apart := false, narrowed := true }
def ElimGroupUptoSaid : Prop := elimGroupUptoRow.holds Try.pinned (OpenSpec.upto elimGroupSpec)

/-- 'contralaw14.MatchPlays', WHERE WHAT IT READS IS OF BULK AT MOST 1048576: true; the input reads as it did. -/
def matchPlaysUptoRow : OpenClaim := { program := "ytdodgbhodkcckaa", sum := "056bcc677b8646b0c4e06af9dc136ecf0288a143b5c78258a452b6c752d2ad5a", func := "contra/contralaw14.MatchPlays", spec := "matchPlays", inPlace := ["slices.overlaps[contra/api.Item]", "slices.overlaps[contra/book.Order]"], unfollowed := true, recurses := true, plainKeys := false, apart := false, narrowed := true }
def MatchPlaysUptoSaid : Prop := matchPlaysUptoRow.holds Try.pinned (OpenSpec.upto matchPlaysSpec)

/-- 'contralaw14.MatchPair', WHERE WHAT IT READS IS OF BULK AT MOST 1048576: true; the input reads as it did. -/
def matchPairUptoRow : OpenClaim := { program := "ytdodgbhodkcckaa", sum := "056bcc677b8646b0c4e06af9dc136ecf0288a143b5c78258a452b6c752d2ad5a", func := "contra/contralaw14.MatchPair", spec := "matchPair", inPlace := ["slices.overlaps[contra/api.Item]", "slices.overlaps[contra/book.Order]"], unfollowed := true, recurses := true, plainKeys := false, apart := false, narrowed := true }
def MatchPairUptoSaid : Prop := matchPairUptoRow.holds Try.pinned (OpenSpec.upto matchPairSpec)

/-- 'contralaw14.MatchTwice', WHERE WHAT IT READS IS OF BULK AT MOST 1048576: true; the input reads as it did. -/
def matchTwiceUptoRow : OpenClaim := { program := "ytdodgbhodkcckaa", sum := "056bcc677b8646b0c4e06af9dc136ecf0288a143b5c78258a452b6c752d2ad5a", func := "contra/contralaw14.MatchTwice", spec := "matchTwice", inPlace := ["slices.overlaps[contra/api.Item]", "slices.overlaps[contra/book.Order]"], unfollowed := true, recurses := true, plainKeys := false, apart := false, narrowed := true }
def MatchTwiceUptoSaid : Prop := matchTwiceUptoRow.holds Try.pinned (OpenSpec.upto matchTwiceSpec)

/-- 'contralaw14.MatchFar', WHERE WHAT IT READS IS OF BULK AT MOST 1048576: true; the input reads as it did. -/
def matchFarUptoRow : OpenClaim := { program := "ytdodgbhodkcckaa", sum := "056bcc677b8646b0c4e06af9dc136ecf0288a143b5c78258a452b6c752d2ad5a", func := "contra/contralaw14.MatchFar", spec := "matchFar", inPlace := ["slices.overlaps[contra/api.Item]", "slices.overlaps[contra/book.Order]"], unfollowed := true, recurses := true, plainKeys := false, apart := false, narrowed := true }
def MatchFarUptoSaid : Prop := matchFarUptoRow.holds Try.pinned (OpenSpec.upto matchFarSpec)

/-- 'contralaw14.MatchStrangers', WHERE WHAT IT READS IS OF BULK AT MOST 1048576: true; the input reads as it did. -/
def matchStrangersUptoRow : OpenClaim := { program := "ytdodgbhodkcckaa", sum := "056bcc677b8646b0c4e06af9dc136ecf0288a143b5c78258a452b6c752d2ad5a", func := "contra/contralaw14.MatchStrangers", spec := "matchStrangers", inPlace := ["slices.overlaps[contra/api.Item]", "slices.overlaps[contra/book.Order]"], unfollowed := true, recurses := true, plainKeys := false, apart := false, narrowed := true }
def MatchStrangersUptoSaid : Prop := matchStrangersUptoRow.holds Try.pinned (OpenSpec.upto matchStrangersSpec)

/-- 'contralaw14.MatchEnds', WHERE WHAT IT READS IS OF BULK AT MOST 1048576: true; the input reads as it did. -/
def matchEndsUptoRow : OpenClaim := { program := "ytdodgbhodkcckaa", sum := "056bcc677b8646b0c4e06af9dc136ecf0288a143b5c78258a452b6c752d2ad5a", func := "contra/contralaw14.MatchEnds", spec := "matchEnds", inPlace := ["slices.overlaps[contra/api.Item]", "slices.overlaps[contra/book.Order]"], unfollowed := true, recurses := true, plainKeys := false, apart := false, narrowed := true }
def MatchEndsUptoSaid : Prop := matchEndsUptoRow.holds Try.pinned (OpenSpec.upto matchEndsSpec)

/-- 'contralaw17.VotePlays', WHERE WHAT IT READS IS OF BULK AT MOST 1048576: true; the input reads as it did. -/
def votePlaysUptoRow : OpenClaim := { program := "ytdodgbhodkcckaa", sum := "056bcc677b8646b0c4e06af9dc136ecf0288a143b5c78258a452b6c752d2ad5a", func := "contra/contralaw17.VotePlays", spec := "votePlays", inPlace := ["slices.overlaps[contra/api.Item]", "slices.overlaps[contra/vote.Part]"], unfollowed := true, recurses := true, plainKeys := false, apart := false, narrowed := true }
def VotePlaysUptoSaid : Prop := votePlaysUptoRow.holds Try.pinned (OpenSpec.upto votePlaysSpec)

/-- 'contralaw17.VoteKeeps', WHERE WHAT IT READS IS OF BULK AT MOST 1048576: true; the input reads as it did. -/
def voteKeepsUptoRow : OpenClaim := { program := "ytdodgbhodkcckaa", sum := "056bcc677b8646b0c4e06af9dc136ecf0288a143b5c78258a452b6c752d2ad5a", func := "contra/contralaw17.VoteKeeps", spec := "voteKeeps", inPlace := ["slices.overlaps[contra/api.Item]", "slices.overlaps[contra/vote.Part]"], unfollowed := true, recurses := true, plainKeys := false, apart := false, narrowed := true }
def VoteKeepsUptoSaid : Prop := voteKeepsUptoRow.holds Try.pinned (OpenSpec.upto voteKeepsSpec)

/-- 'contralaw17.VoteOnce', WHERE WHAT IT READS IS OF BULK AT MOST 1048576: true; the input reads as it did. -/
def voteOnceUptoRow : OpenClaim := { program := "ytdodgbhodkcckaa", sum := "056bcc677b8646b0c4e06af9dc136ecf0288a143b5c78258a452b6c752d2ad5a", func := "contra/contralaw17.VoteOnce", spec := "voteOnce", inPlace := ["slices.overlaps[contra/api.Item]", "slices.overlaps[contra/vote.Part]"], unfollowed := true, recurses := true, plainKeys := false, apart := false, narrowed := true }
def VoteOnceUptoSaid : Prop := voteOnceUptoRow.holds Try.pinned (OpenSpec.upto voteOnceSpec)

/-- 'contralaw17.VoteFull', WHERE WHAT IT READS IS OF BULK AT MOST 1048576: true; the input reads as it did. -/
def voteFullUptoRow : OpenClaim := { program := "ytdodgbhodkcckaa", sum := "056bcc677b8646b0c4e06af9dc136ecf0288a143b5c78258a452b6c752d2ad5a", func := "contra/contralaw17.VoteFull", spec := "voteFull", inPlace := ["slices.overlaps[contra/api.Item]", "slices.overlaps[contra/vote.Part]"], unfollowed := true, recurses := true, plainKeys := false, apart := false, narrowed := true }
def VoteFullUptoSaid : Prop := voteFullUptoRow.holds Try.pinned (OpenSpec.upto voteFullSpec)

/-- 'contralaw16.CycleNets', WHERE WHAT IT READS IS OF BULK AT MOST 1048576: true; the input reads as it did. -/
def cycleNetsUptoRow : OpenClaim := { program := "ytdodgbhodkcckaa", sum := "056bcc677b8646b0c4e06af9dc136ecf0288a143b5c78258a452b6c752d2ad5a", func := "contra/contralaw16.CycleNets", spec := "cycleNets", unfollowed := true, recurses := true, plainKeys := false, apart := false, narrowed := true }
def CycleNetsUptoSaid : Prop := cycleNetsUptoRow.holds Try.pinned (OpenSpec.upto cycleNetsSpec)

/-- 'contralaw16.CycleZero', WHERE WHAT IT READS IS OF BULK AT MOST 1048576: true; the input reads as it did. -/
def cycleZeroUptoRow : OpenClaim := { program := "ytdodgbhodkcckaa", sum := "056bcc677b8646b0c4e06af9dc136ecf0288a143b5c78258a452b6c752d2ad5a", func := "contra/contralaw16.CycleZero", spec := "cycleZero", unfollowed := true, recurses := true, plainKeys := false, apart := false, narrowed := true }
def CycleZeroUptoSaid : Prop := cycleZeroUptoRow.holds Try.pinned (OpenSpec.upto cycleZeroSpec)

/-- 'contralaw16.CycleBoth', WHERE WHAT IT READS IS OF BULK AT MOST 1048576: true; the input reads as it did. -/
def cycleBothUptoRow : OpenClaim := { program := "ytdodgbhodkcckaa", sum := "056bcc677b8646b0c4e06af9dc136ecf0288a143b5c78258a452b6c752d2ad5a", func := "contra/contralaw16.CycleBoth", spec := "cycleBoth", unfollowed := true, recurses := true, plainKeys := false, apart := false, narrowed := true }
def CycleBothUptoSaid : Prop := cycleBothUptoRow.holds Try.pinned (OpenSpec.upto cycleBothSpec)

/-- 'contralaw16.CycleMine', WHERE WHAT IT READS IS OF BULK AT MOST 1048576: true; the input reads as it did. -/
def cycleMineUptoRow : OpenClaim := { program := "ytdodgbhodkcckaa", sum := "056bcc677b8646b0c4e06af9dc136ecf0288a143b5c78258a452b6c752d2ad5a", func := "contra/contralaw16.CycleMine", spec := "cycleMine", unfollowed := true, recurses := true, plainKeys := false, apart := false, narrowed := true }
def CycleMineUptoSaid : Prop := cycleMineUptoRow.holds Try.pinned (OpenSpec.upto cycleMineSpec)

/-- 'contralaw16.CycleAdds', WHERE WHAT IT READS IS OF BULK AT MOST 1048576: true; the input reads as it did. -/
def cycleAddsUptoRow : OpenClaim := { program := "ytdodgbhodkcckaa", sum := "056bcc677b8646b0c4e06af9dc136ecf0288a143b5c78258a452b6c752d2ad5a", func := "contra/contralaw16.CycleAdds", spec := "cycleAdds", unfollowed := true, recurses := true, plainKeys := false, apart := false, narrowed := true }
def CycleAddsUptoSaid : Prop := cycleAddsUptoRow.holds Try.pinned (OpenSpec.upto cycleAddsSpec)

/-- 'contralaw18.ChiefPlays', WHERE WHAT IT READS IS OF BULK AT MOST 1048576: true; the input reads as it did. -/
def chiefPlaysUptoRow : OpenClaim := { program := "ytdodgbhodkcckaa", sum := "056bcc677b8646b0c4e06af9dc136ecf0288a143b5c78258a452b6c752d2ad5a", func := "contra/contralaw18.ChiefPlays", spec := "chiefPlays", unfollowed := true, recurses := true, plainKeys := false, apart := false, narrowed := true }
def ChiefPlaysUptoSaid : Prop := chiefPlaysUptoRow.holds Try.pinned (OpenSpec.upto chiefPlaysSpec)

/-- 'contralaw18.ChiefOne', WHERE WHAT IT READS IS OF BULK AT MOST 1048576: true; the input reads as it did. -/
def chiefOneUptoRow : OpenClaim := { program := "ytdodgbhodkcckaa", sum := "056bcc677b8646b0c4e06af9dc136ecf0288a143b5c78258a452b6c752d2ad5a", func := "contra/contralaw18.ChiefOne", spec := "chiefOne", unfollowed := true, recurses := true, plainKeys := false, apart := false, narrowed := true }
def ChiefOneUptoSaid : Prop := chiefOneUptoRow.holds Try.pinned (OpenSpec.upto chiefOneSpec)

/-- 'contralaw18.ChiefOwn', WHERE WHAT IT READS IS OF BULK AT MOST 1048576: true; the input reads as it did. -/
def chiefOwnUptoRow : OpenClaim := { program := "ytdodgbhodkcckaa", sum := "056bcc677b8646b0c4e06af9dc136ecf0288a143b5c78258a452b6c752d2ad5a", func := "contra/contralaw18.ChiefOwn", spec := "chiefOwn", unfollowed := true, recurses := true, plainKeys := false, apart := false, narrowed := true }
def ChiefOwnUptoSaid : Prop := chiefOwnUptoRow.holds Try.pinned (OpenSpec.upto chiefOwnSpec)

/-- 'contralaw18.ChiefLate', WHERE WHAT IT READS IS OF BULK AT MOST 1048576: true; the input reads as it did. -/
def chiefLateUptoRow : OpenClaim := { program := "ytdodgbhodkcckaa", sum := "056bcc677b8646b0c4e06af9dc136ecf0288a143b5c78258a452b6c752d2ad5a", func := "contra/contralaw18.ChiefLate", spec := "chiefLate", unfollowed := true, recurses := true, plainKeys := false, apart := false, narrowed := true }
def ChiefLateUptoSaid : Prop := chiefLateUptoRow.holds Try.pinned (OpenSpec.upto chiefLateSpec)

/-- 'contralaw18.ChiefOpen', WHERE WHAT IT READS IS OF BULK AT MOST 1048576: true; the input reads as it did. -/
def chiefOpenUptoRow : OpenClaim := { program := "ytdodgbhodkcckaa", sum := "056bcc677b8646b0c4e06af9dc136ecf0288a143b5c78258a452b6c752d2ad5a", func := "contra/contralaw18.ChiefOpen", spec := "chiefOpen", unfollowed := true, recurses := true, plainKeys := false, apart := false, narrowed := true }
def ChiefOpenUptoSaid : Prop := chiefOpenUptoRow.holds Try.pinned (OpenSpec.upto chiefOpenSpec)

end Rows
end Go.Proofs.Ytdodgbhodkcckaa
