/- The closed facts of the row of ShardAsks, one by one. -/
import Derived.Test.YtofofjfmhaggmaaGreatDoorRows
import Derived.KernelRfl
import Derived.JoinedOf
set_option linter.unusedVariables false
namespace Go.Proofs.YtofofjfmhaggmaaGreatDoor.shardAsks
theorem both {a b : Bool} (h : a = true) (k : b = true) : (a && b) = true := by rw [h, k]; rfl
theorem fact0 : (Rows.shardAsksRow.wf (OpenSpec.ofChange Rows.shardAsksSpec)) = true := by kernel_rfl
theorem fact1 : (laidOutB Tryz.prog) = true := by kernel_rfl
theorem fact2 : (mapsRowed Tryz.prog) = true := by kernel_rfl
theorem fact3 : (Tryz.f9.params.all (Tryz.prog.readableRec ·)) = true := by kernel_rfl
theorem fact4 : (namedTie Tryz.prog Rows.shardAsksRow.named Rows.shardAsksSpec.vars) = true := by kernel_rfl
theorem fact5 : ((Rows.shardAsksRow.stops == [])) = true := by kernel_rfl
theorem fact6 : ((Tryz.prog.stops == [])) = true := by kernel_rfl
theorem fact7 : ((Rows.shardAsksRow.knobs == [])) = true := by kernel_rfl
theorem fact8 : ((Tryz.prog.stopKnobs == [])) = true := by kernel_rfl
theorem fact9 : ((Rows.shardAsksRow.inPlace == Tryz.prog.inPlace 9)) = true := by kernel_rfl
theorem fact10 : ((Rows.shardAsksRow.unfollowed == Tryz.prog.unfollowed 9)) = true := by kernel_rfl
theorem fact11 : ((Rows.shardAsksRow.recurses == Tryz.prog.recurses 9)) = true := by kernel_rfl
theorem fact12 : ((Rows.shardAsksRow.named == Tryz.prog.varsNamed 9)) = true := by kernel_rfl
theorem fact13 : ((Rows.shardAsksRow.maps == (Tryz.f9.params.toList ++ Rows.shardAsksSpec.plain.varTypes Tryz.prog).any (Tryz.prog.mapsRec ·))) = true := by kernel_rfl
theorem fact14 : ((Rows.shardAsksRow.ifaces == (Tryz.f9.params.toList ++ Rows.shardAsksSpec.plain.varTypes Tryz.prog).any (Tryz.prog.ifacesRec ·))) = true := by kernel_rfl
theorem fact15 : ((Rows.shardAsksRow.mapsOut == Tryz.prog.mapsAmong Tryz.f9.resultTypes.toList)) = true := by kernel_rfl
theorem fact16 : ((Rows.shardAsksRow.loops == (Tryz.f9.params.toList ++ Rows.shardAsksSpec.plain.varTypes Tryz.prog).any (Tryz.prog.loopsFrom ·))) = true := by kernel_rfl
theorem fact17 : ((Rows.shardAsksRow.wideKeys == (Tryz.f9.params.toList ++ Rows.shardAsksSpec.plain.varTypes Tryz.prog ++ Tryz.f9.resultTypes.toList).any (Tryz.prog.wideKeysFrom ·))) = true := by kernel_rfl
theorem fact18 : (Rows.shardAsksSpec.vars.all (Tryz.prog.varReadable ·)) = true := by kernel_rfl
theorem fact19 : (Tryz.f9.resultTypes.all (fun t => Tryz.prog.readableRec t && decide (t < Tryz.prog.types.size))) = true := by kernel_rfl
theorem fact20 : ((Rows.shardAsksRow.ifacesOut == Tryz.f9.resultTypes.toList.any (Tryz.prog.ifacesRec ·))) = true := by kernel_rfl
theorem fact21 : ((Rows.shardAsksRow.loopsOut == Tryz.f9.resultTypes.toList.any (Tryz.prog.loopsFrom ·))) = true := by kernel_rfl
theorem fact22 : ((Rows.shardAsksRow.plainKeys == Tryz.prog.plainKeys)) = true := by kernel_rfl
theorem fact23 : (Rows.shardAsksRow.shortTexts.isNone) = true := by kernel_rfl
theorem fact24 : (Tryz.prog.stopsHeard) = true := by kernel_rfl
theorem fact25 : (Tryz.prog.mayEnter) = true := by kernel_rfl
theorem fact26 : ((Rows.shardAsksRow.lifted == Tryz.prog.liftsFinal)) = true := by kernel_rfl
theorem fact27 : ((Tryz.prog.make == some Rows.shardAsksRow.make)) = true := by kernel_rfl
theorem fact28 : ((Rows.shardAsksRow.kinds == (if Rows.shardAsksRow.domain.isEmpty then [] else Tryz.f9.params.toList.map fun t => match Tryz.prog.underlying t with | some (.int k) => some k | _ => none))) = true := by kernel_rfl
theorem fact29 : ((Rows.shardAsksRow.pinned == Rows.shardAsksRow.pinnedBy)) = true := by kernel_rfl
theorem fact30 : ((Rows.shardAsksRow.veiled == (Tryz.f9.params.toList ++ Rows.shardAsksSpec.plain.varTypes Tryz.prog ++ Tryz.f9.resultTypes.toList).any (Tryz.prog.veiledRec ·))) = true := by kernel_rfl
theorem fact31 : (Rows.shardAsksRow.veiledFits Tryz.prog Tryz.f9.params.toList (Tryz.f9.params.toList ++ Rows.shardAsksSpec.plain.varTypes Tryz.prog ++ Tryz.f9.resultTypes.toList)) = true := by kernel_rfl
set_option maxRecDepth 100000 in
theorem closed : joinedFacts Tryz.prog 9 Tryz.f9 Rows.shardAsksSpec Rows.shardAsksRow = true :=
  both (both (both (both (both (both (both (both (both (both (both (both (both (both (both (both (both (both (both (both (both (both (both (both (both (both (both (both (both (both (both (fact0) fact1) fact2) fact3) fact4) fact5) fact6) fact7) fact8) fact9) fact10) fact11) fact12) fact13) fact14) fact15) fact16) fact17) fact18) fact19) fact20) fact21) fact22) fact23) fact24) fact25) fact26) fact27) fact28) fact29) fact30) fact31
end Go.Proofs.YtofofjfmhaggmaaGreatDoor.shardAsks
