/-
  No cell of these rows narrows 'for every input' (looked for: loops, veiled, ifaces, maps, wideKeys, modest, calm, conditions, laid).
  DERIVED. THE GIVEN ROWS OF THIS SEAT. 5 by the template 'for every input the law returns true; each argument reads behind the call as it read before'; 0 by the template 'total and deterministic' (their statements: YtpndngcopfpdgaaTotals.lean).
  GIVEN WITH THE SEED: the statements are not yours to turn. If you find one false, say at which input.
  Laid BY PROGRAM, IN A SANDBOX (cutbox-rows.mjs): the forced cells as the released guide's own fill.sh prints them over the translation 69df9bad73d8a640… (all of the seat's roots in one cut). By AI agents, Wed Nov 11 2026. No macro, syntax, notation, axiom, sorry.
-/
import Derived.Test.YtpndngcopfpdgaaChecked
import GoSem.Claim
import GoSem.ClaimJoined
import GoSem.ClaimMapViews
import Derived.JoinedTies
import Derived.KernelRfl
namespace Go.Proofs.Ytpndngcopfpdgaa
/- THE CELL 'sum', in the pinned program and in every row, IS THE sha256 OF THE DUMP (.gsa) THAT YtpndngcopfpdgaaProg.lean LOADS. Nothing in Lean hashes anything: it is a label: what it is worth is what the hold of that sum in a sandbox is worth. -/
noncomputable def Try.pinned : Pinned := { name := "ytpndngcopfpdgaa", sum := "69df9bad73d8a64096b3e6f53ae142bcf98e91dcd4a703f4487fa1cf5c8e21e8", checked := Try.checked }
namespace Rows
def none {H : Type} : Left H := { results := [], args := [] }

/-- 'joinerylaw6.ScoreBounds': WHATEVER THE INPUT: true; the input reads as it did. -/
def scoreBoundsSpec : ChangeSpec := { name := "scoreBounds", fn := fun _ => fun
  | [d1, d2, d3, d4, d5, d6] => { results := [.lit (.bool true)], args := [d1, d2, d3, d4, d5, d6] }
  | _ => none }
def scoreBoundsRow : OpenClaim := { program := "ytpndngcopfpdgaa", sum := "69df9bad73d8a64096b3e6f53ae142bcf98e91dcd4a703f4487fa1cf5c8e21e8", func := "joinery/joinerylaw6.ScoreBounds", spec := "scoreBounds", apart := false }
def ScoreBoundsSaid : Prop := scoreBoundsRow.holds Try.pinned (OpenSpec.ofChange scoreBoundsSpec)

/-- ITS FALSE NEIGHBOUR: 'it returns false'. Refute it at one input. -/
def scoreBoundsWrong : ChangeSpec := { name := "scoreBounds", fn := fun _ => fun
  | [d1, d2, d3, d4, d5, d6] => { results := [.lit (.bool false)], args := [d1, d2, d3, d4, d5, d6] }
  | _ => none }
def ScoreBoundsWrongFalsely : Prop := scoreBoundsRow.holds Try.pinned (OpenSpec.ofChange scoreBoundsWrong)

/-- 'joinerylaw6.ScoreLess': WHATEVER THE INPUT: true; the input reads as it did. -/
def scoreLessSpec : ChangeSpec := { name := "scoreLess", fn := fun _ => fun
  | [d1, d2, d3, d4, d5, d6] => { results := [.lit (.bool true)], args := [d1, d2, d3, d4, d5, d6] }
  | _ => none }
def scoreLessRow : OpenClaim := { program := "ytpndngcopfpdgaa", sum := "69df9bad73d8a64096b3e6f53ae142bcf98e91dcd4a703f4487fa1cf5c8e21e8", func := "joinery/joinerylaw6.ScoreLess", spec := "scoreLess", apart := false }
def ScoreLessSaid : Prop := scoreLessRow.holds Try.pinned (OpenSpec.ofChange scoreLessSpec)

/-- ITS FALSE NEIGHBOUR: 'it returns false'. Refute it at one input. -/
def scoreLessWrong : ChangeSpec := { name := "scoreLess", fn := fun _ => fun
  | [d1, d2, d3, d4, d5, d6] => { results := [.lit (.bool false)], args := [d1, d2, d3, d4, d5, d6] }
  | _ => none }
def ScoreLessWrongFalsely : Prop := scoreLessRow.holds Try.pinned (OpenSpec.ofChange scoreLessWrong)

/-- 'joinerylaw6.ScoreBest': WHATEVER THE INPUT: true; the input reads as it did. -/
def scoreBestSpec : ChangeSpec := { name := "scoreBest", fn := fun _ => fun
  | [d1, d2, d3] => { results := [.lit (.bool true)], args := [d1, d2, d3] }
  | _ => none }
def scoreBestRow : OpenClaim := { program := "ytpndngcopfpdgaa", sum := "69df9bad73d8a64096b3e6f53ae142bcf98e91dcd4a703f4487fa1cf5c8e21e8", func := "joinery/joinerylaw6.ScoreBest", spec := "scoreBest", apart := false }
def ScoreBestSaid : Prop := scoreBestRow.holds Try.pinned (OpenSpec.ofChange scoreBestSpec)

/-- ITS FALSE NEIGHBOUR: 'it returns false'. Refute it at one input. -/
def scoreBestWrong : ChangeSpec := { name := "scoreBest", fn := fun _ => fun
  | [d1, d2, d3] => { results := [.lit (.bool false)], args := [d1, d2, d3] }
  | _ => none }
def ScoreBestWrongFalsely : Prop := scoreBestRow.holds Try.pinned (OpenSpec.ofChange scoreBestWrong)

/-- 'joinerylaw6.ScoreMore': WHATEVER THE INPUT: true; the input reads as it did. -/
def scoreMoreSpec : ChangeSpec := { name := "scoreMore", fn := fun _ => fun
  | [d1, d2, d3, d4, d5, d6, d7] => { results := [.lit (.bool true)], args := [d1, d2, d3, d4, d5, d6, d7] }
  | _ => none }
def scoreMoreRow : OpenClaim := { program := "ytpndngcopfpdgaa", sum := "69df9bad73d8a64096b3e6f53ae142bcf98e91dcd4a703f4487fa1cf5c8e21e8", func := "joinery/joinerylaw6.ScoreMore", spec := "scoreMore", apart := false }
def ScoreMoreSaid : Prop := scoreMoreRow.holds Try.pinned (OpenSpec.ofChange scoreMoreSpec)

/-- ITS FALSE NEIGHBOUR: 'it returns false'. Refute it at one input. -/
def scoreMoreWrong : ChangeSpec := { name := "scoreMore", fn := fun _ => fun
  | [d1, d2, d3, d4, d5, d6, d7] => { results := [.lit (.bool false)], args := [d1, d2, d3, d4, d5, d6, d7] }
  | _ => none }
def ScoreMoreWrongFalsely : Prop := scoreMoreRow.holds Try.pinned (OpenSpec.ofChange scoreMoreWrong)

/-- 'joinerylaw6.ScoreAdd': WHATEVER THE INPUT: true; the input reads as it did. -/
def scoreAddSpec : ChangeSpec := { name := "scoreAdd", fn := fun _ => fun
  | [d1, d2, d3] => { results := [.lit (.bool true)], args := [d1, d2, d3] }
  | _ => none }
def scoreAddRow : OpenClaim := { program := "ytpndngcopfpdgaa", sum := "69df9bad73d8a64096b3e6f53ae142bcf98e91dcd4a703f4487fa1cf5c8e21e8", func := "joinery/joinerylaw6.ScoreAdd", spec := "scoreAdd", apart := false }
def ScoreAddSaid : Prop := scoreAddRow.holds Try.pinned (OpenSpec.ofChange scoreAddSpec)

/-- ITS FALSE NEIGHBOUR: 'it returns false'. Refute it at one input. -/
def scoreAddWrong : ChangeSpec := { name := "scoreAdd", fn := fun _ => fun
  | [d1, d2, d3] => { results := [.lit (.bool false)], args := [d1, d2, d3] }
  | _ => none }
def ScoreAddWrongFalsely : Prop := scoreAddRow.holds Try.pinned (OpenSpec.ofChange scoreAddWrong)

/- THE SECOND FORM. 'bulk': how many values and letters a reading holds, each counted each time it is reached (what is shared counts as often as it is met; a slice's spare places count too). A statement '..UptoSaid' is the law's where the arguments, and the package variables that the reading takes, are together of bulk at most 1048576: NARROWER than '..Said'. Prove '..Said' where nothing that the law and all that it calls make is longer than what came in: it says more and counts as full. Else prove '..UptoSaid'. A law counts once. -/
mutual
def uptoBulk {H : Type} : DataW H → Nat
  | .lit (.string bytes) => bytes.length + 1
  | .lit _ => 1
  | .nil => 1
  | .ptr d => uptoBulk d + 1
  | .slice elems spare => uptoBulkAll elems + uptoBulkAll spare + 1
  | .agg parts => uptoBulkAll parts + 1
  | .iface _ d => uptoBulk d + 1
  | .map entries => uptoBulkEntries entries + 1
  | .held _ => 1
def uptoBulkAll {H : Type} : List (DataW H) → Nat
  | [] => 0
  | d :: r => uptoBulk d + uptoBulkAll r
def uptoBulkEntries {H : Type} : List (Lit × DataW H) → Nat
  | [] => 0
  | x :: r => uptoBulkEntry x + uptoBulkEntries r
def uptoBulkEntry {H : Type} : Lit × DataW H → Nat
  | (.string bytes, d) => bytes.length + uptoBulk d + 1
  | (_, d) => uptoBulk d + 1
 end
def uptoSmall : (H : Type) → List (DataW H) → Bool := fun _ ds => decide (uptoBulkAll ds ≤ 1048576)
def OpenSpec.upto (s : _root_.Go.ChangeSpec) : _root_.Go.OpenSpec := { _root_.Go.OpenSpec.ofChange s with cond := some uptoSmall }

/-- 'joinerylaw6.ScoreBounds', WHERE WHAT IT READS IS OF BULK AT MOST 1048576: true; the input reads as it did. -/
def scoreBoundsUptoRow : OpenClaim := { program := "ytpndngcopfpdgaa", sum := "69df9bad73d8a64096b3e6f53ae142bcf98e91dcd4a703f4487fa1cf5c8e21e8", func := "joinery/joinerylaw6.ScoreBounds", spec := "scoreBounds", apart := false, narrowed := true }
def ScoreBoundsUptoSaid : Prop := scoreBoundsUptoRow.holds Try.pinned (OpenSpec.upto scoreBoundsSpec)

/-- 'joinerylaw6.ScoreLess', WHERE WHAT IT READS IS OF BULK AT MOST 1048576: true; the input reads as it did. -/
def scoreLessUptoRow : OpenClaim := { program := "ytpndngcopfpdgaa", sum := "69df9bad73d8a64096b3e6f53ae142bcf98e91dcd4a703f4487fa1cf5c8e21e8", func := "joinery/joinerylaw6.ScoreLess", spec := "scoreLess", apart := false, narrowed := true }
def ScoreLessUptoSaid : Prop := scoreLessUptoRow.holds Try.pinned (OpenSpec.upto scoreLessSpec)

/-- 'joinerylaw6.ScoreBest', WHERE WHAT IT READS IS OF BULK AT MOST 1048576: true; the input reads as it did. -/
def scoreBestUptoRow : OpenClaim := { program := "ytpndngcopfpdgaa", sum := "69df9bad73d8a64096b3e6f53ae142bcf98e91dcd4a703f4487fa1cf5c8e21e8", func := "joinery/joinerylaw6.ScoreBest", spec := "scoreBest", apart := false, narrowed := true }
def ScoreBestUptoSaid : Prop := scoreBestUptoRow.holds Try.pinned (OpenSpec.upto scoreBestSpec)

/-- 'joinerylaw6.ScoreMore', WHERE WHAT IT READS IS OF BULK AT MOST 1048576: true; the input reads as it did. -/
def scoreMoreUptoRow : OpenClaim := { program := "ytpndngcopfpdgaa", sum := "69df9bad73d8a64096b3e6f53ae142bcf98e91dcd4a703f4487fa1cf5c8e21e8", func := "joinery/joinerylaw6.ScoreMore", spec := "scoreMore", apart := false, narrowed := true }
def ScoreMoreUptoSaid : Prop := scoreMoreUptoRow.holds Try.pinned (OpenSpec.upto scoreMoreSpec)

/-- 'joinerylaw6.ScoreAdd', WHERE WHAT IT READS IS OF BULK AT MOST 1048576: true; the input reads as it did. -/
def scoreAddUptoRow : OpenClaim := { program := "ytpndngcopfpdgaa", sum := "69df9bad73d8a64096b3e6f53ae142bcf98e91dcd4a703f4487fa1cf5c8e21e8", func := "joinery/joinerylaw6.ScoreAdd", spec := "scoreAdd", apart := false, narrowed := true }
def ScoreAddUptoSaid : Prop := scoreAddUptoRow.holds Try.pinned (OpenSpec.upto scoreAddSpec)

end Rows
end Go.Proofs.Ytpndngcopfpdgaa
