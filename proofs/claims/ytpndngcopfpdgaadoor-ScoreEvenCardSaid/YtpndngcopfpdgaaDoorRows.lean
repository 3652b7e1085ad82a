/-
  NARROWER THAN 'FOR EVERY INPUT', by the rows' own cells (each row's printed sentence says how): ScoreAll: laid · ScoreTurned: laid · ScoreKnown: laid · ScoreEven: laid.
  DERIVED. THE GIVEN ROWS OF THIS SEAT. 4 by the template 'for every input the law returns true; each argument reads behind the call as it read before'; 0 by the template 'total and deterministic' (their statements: YtpndngcopfpdgaaDoorTotals.lean).
  GIVEN WITH THE SEED: the statements are not yours to turn. If you find one false, say at which input.
  Laid BY PROGRAM, IN A SANDBOX (cutbox-rows.mjs): the forced cells as the released guide's own fill.sh prints them over the translation 8934781468523475… (all of the seat's roots in one cut). By AI agents, Wed Nov 11 2026. No macro, syntax, notation, axiom, sorry.
-/
import Derived.Test.YtpndngcopfpdgaaDoorChecked
import GoSem.Claim
import GoSem.ClaimJoined
import GoSem.ClaimMapViews
import Derived.JoinedTies
import Derived.KernelRfl
namespace Go.Proofs.YtpndngcopfpdgaaDoor
/- THE CELL 'sum', in the pinned program and in every row, IS THE sha256 OF THE DUMP (.gsa) THAT YtpndngcopfpdgaaDoorProg.lean LOADS. Nothing in Lean hashes anything: it is a label: what it is worth is what the hold of that sum in a sandbox is worth. -/
noncomputable def Tryd.pinned : Pinned := { name := "ytpndngcopfpdgaadoor", sum := "8934781468523475b904570bcd9244a3215715655ad9e84fe8a60d8af371b965", checked := Tryd.checked }
namespace Rows
def none {H : Type} : Left H := { results := [], args := [] }

/- WHAT THE LISTED PACKAGE-LEVEL VARIABLES READ AS WHEN THE CALL BEGINS. Each datum BY PROGRAM (the guide's laid-datum.mjs) off the statement by which the dump's own 'gosem.cut.vars' lays the variable. In a bare row this is a premise. The card (YtpndngcopfpdgaaDoorCards.lean) ties it to the program's text. -/
def laid_joinery_score_tops {H : Type} : DataW H := .agg [.lit (.int .i64 0), .lit (.int .i64 200), .lit (.int .i64 1000)]

/-- 'joinerylaw6.ScoreAll': WHATEVER THE INPUT: true; the input reads as it did. -/
def scoreAllSpec : ChangeSpec := { name := "scoreAll", fn := fun _ => fun
  | [d1, d2, d3, d4, d5, d6, d7, d8] => { results := [.lit (.bool true)], args := [d1, d2, d3, d4, d5, d6, d7, d8] }
  | _ => none }
def scoreAllRow : OpenClaim := { program := "ytpndngcopfpdgaadoor", sum := "8934781468523475b904570bcd9244a3215715655ad9e84fe8a60d8af371b965", func := "joinery/joinerylaw6.ScoreAll", spec := "scoreAll", named := ["joinery/score.tops"], apart := false, laid := [("joinery/score.tops", laid_joinery_score_tops)] }
def ScoreAllSaid : Prop := scoreAllRow.holds Tryd.pinned (OpenSpec.ofChange scoreAllSpec)

/-- ITS FALSE NEIGHBOUR: 'it returns false'. Refute it at one input. -/
def scoreAllWrong : ChangeSpec := { name := "scoreAll", fn := fun _ => fun
  | [d1, d2, d3, d4, d5, d6, d7, d8] => { results := [.lit (.bool false)], args := [d1, d2, d3, d4, d5, d6, d7, d8] }
  | _ => none }
def ScoreAllWrongFalsely : Prop := scoreAllRow.holds Tryd.pinned (OpenSpec.ofChange scoreAllWrong)

/-- 'joinerylaw6.ScoreTurned': WHATEVER THE INPUT: true; the input reads as it did. -/
def scoreTurnedSpec : ChangeSpec := { name := "scoreTurned", fn := fun _ => fun
  | [d1, d2, d3, d4, d5, d6, d7, d8] => { results := [.lit (.bool true)], args := [d1, d2, d3, d4, d5, d6, d7, d8] }
  | _ => none }
def scoreTurnedRow : OpenClaim := { program := "ytpndngcopfpdgaadoor", sum := "8934781468523475b904570bcd9244a3215715655ad9e84fe8a60d8af371b965", func := "joinery/joinerylaw6.ScoreTurned", spec := "scoreTurned", named := ["joinery/score.tops"], apart := false, laid := [("joinery/score.tops", laid_joinery_score_tops)] }
def ScoreTurnedSaid : Prop := scoreTurnedRow.holds Tryd.pinned (OpenSpec.ofChange scoreTurnedSpec)

/-- ITS FALSE NEIGHBOUR: 'it returns false'. Refute it at one input. -/
def scoreTurnedWrong : ChangeSpec := { name := "scoreTurned", fn := fun _ => fun
  | [d1, d2, d3, d4, d5, d6, d7, d8] => { results := [.lit (.bool false)], args := [d1, d2, d3, d4, d5, d6, d7, d8] }
  | _ => none }
def ScoreTurnedWrongFalsely : Prop := scoreTurnedRow.holds Tryd.pinned (OpenSpec.ofChange scoreTurnedWrong)

/-- 'joinerylaw6.ScoreKnown': WHATEVER THE INPUT: true; the input reads as it did. -/
def scoreKnownSpec : ChangeSpec := { name := "scoreKnown", fn := fun _ => fun
  | [d] => { results := [.lit (.bool true)], args := [d] }
  | _ => none }
def scoreKnownRow : OpenClaim := { program := "ytpndngcopfpdgaadoor", sum := "8934781468523475b904570bcd9244a3215715655ad9e84fe8a60d8af371b965", func := "joinery/joinerylaw6.ScoreKnown", spec := "scoreKnown", named := ["joinery/score.tops"], apart := false, laid := [("joinery/score.tops", laid_joinery_score_tops)] }
def ScoreKnownSaid : Prop := scoreKnownRow.holds Tryd.pinned (OpenSpec.ofChange scoreKnownSpec)

/-- ITS FALSE NEIGHBOUR: 'it returns false'. Refute it at one input. -/
def scoreKnownWrong : ChangeSpec := { name := "scoreKnown", fn := fun _ => fun
  | [d] => { results := [.lit (.bool false)], args := [d] }
  | _ => none }
def ScoreKnownWrongFalsely : Prop := scoreKnownRow.holds Tryd.pinned (OpenSpec.ofChange scoreKnownWrong)

/-- 'joinerylaw6.ScoreEven': WHATEVER THE INPUT: true; the input reads as it did. -/
def scoreEvenSpec : ChangeSpec := { name := "scoreEven", fn := fun _ => fun
  | [d1, d2, d3, d4] => { results := [.lit (.bool true)], args := [d1, d2, d3, d4] }
  | _ => none }
def scoreEvenRow : OpenClaim := { program := "ytpndngcopfpdgaadoor", sum := "8934781468523475b904570bcd9244a3215715655ad9e84fe8a60d8af371b965", func := "joinery/joinerylaw6.ScoreEven", spec := "scoreEven", named := ["joinery/score.tops"], apart := false, laid := [("joinery/score.tops", laid_joinery_score_tops)] }
def ScoreEvenSaid : Prop := scoreEvenRow.holds Tryd.pinned (OpenSpec.ofChange scoreEvenSpec)

/-- ITS FALSE NEIGHBOUR: 'it returns false'. Refute it at one input. -/
def scoreEvenWrong : ChangeSpec := { name := "scoreEven", fn := fun _ => fun
  | [d1, d2, d3, d4] => { results := [.lit (.bool false)], args := [d1, d2, d3, d4] }
  | _ => none }
def ScoreEvenWrongFalsely : Prop := scoreEvenRow.holds Tryd.pinned (OpenSpec.ofChange scoreEvenWrong)

/- THE SECOND FORM. 'bulk': how many values and letters a reading holds, each counted each time it is reached (what is shared counts as often as it is met; a slice's spare places count too). A statement '..UptoSaid' is the law's where the arguments, and the package variables that the reading takes, are together of bulk at most 1048576: NARROWER than '..Said'. Prove '..Said' where nothing that the law and all that it calls make is longer than what came in: it says more and counts as full. Else prove '..UptoSaid'. A law counts once. -/
mutual
def uptoBulk {H : Type} : DataW H → Nat
  | .lit (.string bytes) => bytes.length + 1
  | .lit _ => 1
  | .nil => 1
  | .ptr d => uptoBulk d + 1
  | .slice elems spare => uptoBulkAll elems + uptoBulkAll spare + 1
  | .agg parts => uptoBulkAll parts + 1
  | .iface _ d => uptoBulk d + 1
  | .map entries => uptoBulkEntries entries + 1
  | .held _ => 1
def uptoBulkAll {H : Type} : List (DataW H) → Nat
  | [] => 0
  | d :: r => uptoBulk d + uptoBulkAll r
def uptoBulkEntries {H : Type} : List (Lit × DataW H) → Nat
  | [] => 0
  | x :: r => uptoBulkEntry x + uptoBulkEntries r
def uptoBulkEntry {H : Type} : Lit × DataW H → Nat
  | (.string bytes, d) => bytes.length + uptoBulk d + 1
  | (_, d) => uptoBulk d + 1
 end
def uptoSmall : (H : Type) → List (DataW H) → Bool := fun _ ds => decide (uptoBulkAll ds ≤ 1048576)
def OpenSpec.upto (s : _root_.Go.ChangeSpec) : _root_.Go.OpenSpec := { _root_.Go.OpenSpec.ofChange s with cond := some uptoSmall }

/-- 'joinerylaw6.ScoreAll', WHERE WHAT IT READS IS OF BULK AT MOST 1048576: true; the input reads as it did. -/
def scoreAllUptoRow : OpenClaim := { program := "ytpndngcopfpdgaadoor", sum := "8934781468523475b904570bcd9244a3215715655ad9e84fe8a60d8af371b965", func := "joinery/joinerylaw6.ScoreAll", spec := "scoreAll", named := ["joinery/score.tops"], apart := false, laid := [("joinery/score.tops", laid_joinery_score_tops)], narrowed := true }
def ScoreAllUptoSaid : Prop := scoreAllUptoRow.holds Tryd.pinned (OpenSpec.upto scoreAllSpec)

/-- 'joinerylaw6.ScoreTurned', WHERE WHAT IT READS IS OF BULK AT MOST 1048576: true; the input reads as it did. -/
def scoreTurnedUptoRow : OpenClaim := { program := "ytpndngcopfpdgaadoor", sum := "8934781468523475b904570bcd9244a3215715655ad9e84fe8a60d8af371b965", func := "joinery/joinerylaw6.ScoreTurned", spec := "scoreTurned", named := ["joinery/score.tops"], apart := false, laid := [("joinery/score.tops", laid_joinery_score_tops)], narrowed := true }
def ScoreTurnedUptoSaid : Prop := scoreTurnedUptoRow.holds Tryd.pinned (OpenSpec.upto scoreTurnedSpec)

/-- 'joinerylaw6.ScoreKnown', WHERE WHAT IT READS IS OF BULK AT MOST 1048576: true; the input reads as it did. -/
def scoreKnownUptoRow : OpenClaim := { program := "ytpndngcopfpdgaadoor", sum := "8934781468523475b904570bcd9244a3215715655ad9e84fe8a60d8af371b965", func := "joinery/joinerylaw6.ScoreKnown", spec := "scoreKnown", named := ["joinery/score.tops"], apart := false, laid := [("joinery/score.tops", laid_joinery_score_tops)], narrowed := true }
def ScoreKnownUptoSaid : Prop := scoreKnownUptoRow.holds Tryd.pinned (OpenSpec.upto scoreKnownSpec)

/-- 'joinerylaw6.ScoreEven', WHERE WHAT IT READS IS OF BULK AT MOST 1048576: true; the input reads as it did. -/
def scoreEvenUptoRow : OpenClaim := { program := "ytpndngcopfpdgaadoor", sum := "8934781468523475b904570bcd9244a3215715655ad9e84fe8a60d8af371b965", func := "joinery/joinerylaw6.ScoreEven", spec := "scoreEven", named := ["joinery/score.tops"], apart := false, laid := [("joinery/score.tops", laid_joinery_score_tops)], narrowed := true }
def ScoreEvenUptoSaid : Prop := scoreEvenUptoRow.holds Tryd.pinned (OpenSpec.upto scoreEvenSpec)

end Rows
end Go.Proofs.YtpndngcopfpdgaaDoor
