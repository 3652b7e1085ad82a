/- The closed facts of the row of PlayNumbers, one by one. -/
import Derived.Test.YtgkjlpielikecaaGreatDoorRows
import Derived.KernelRfl
import Derived.JoinedOf
set_option linter.unusedVariables false
namespace Go.Proofs.YtgkjlpielikecaaGreatDoor.playNumbers
theorem both {a b : Bool} (h : a = true) (k : b = true) : (a && b) = true := by rw [h, k]; rfl
theorem fact0 : (Rows.playNumbersRow.wf (OpenSpec.ofChange Rows.playNumbersSpec)) = true := by kernel_rfl
theorem fact1 : (laidOutB Tryz.prog) = true := by kernel_rfl
theorem fact2 : (mapsRowed Tryz.prog) = true := by kernel_rfl
theorem fact3 : (Tryz.f6.params.all (Tryz.prog.readableRec ·)) = true := by kernel_rfl
theorem fact4 : (namedTie Tryz.prog Rows.playNumbersRow.named Rows.playNumbersSpec.vars) = true := by kernel_rfl
theorem fact5 : ((Rows.playNumbersRow.stops == [])) = true := by kernel_rfl
theorem fact6 : ((Tryz.prog.stops == [])) = true := by kernel_rfl
theorem fact7 : ((Rows.playNumbersRow.knobs == [])) = true := by kernel_rfl
theorem fact8 : ((Tryz.prog.stopKnobs == [])) = true := by kernel_rfl
theorem fact9 : ((Rows.playNumbersRow.inPlace == Tryz.prog.inPlace 6)) = true := by kernel_rfl
theorem fact10 : ((Rows.playNumbersRow.unfollowed == Tryz.prog.unfollowed 6)) = true := by kernel_rfl
theorem fact11 : ((Rows.playNumbersRow.recurses == Tryz.prog.recurses 6)) = true := by kernel_rfl
theorem fact12 : ((Rows.playNumbersRow.named == Tryz.prog.varsNamed 6)) = true := by kernel_rfl
theorem fact13 : ((Rows.playNumbersRow.maps == (Tryz.f6.params.toList ++ Rows.playNumbersSpec.plain.varTypes Tryz.prog).any (Tryz.prog.mapsRec ·))) = true := by kernel_rfl
theorem fact14 : ((Rows.playNumbersRow.ifaces == (Tryz.f6.params.toList ++ Rows.playNumbersSpec.plain.varTypes Tryz.prog).any (Tryz.prog.ifacesRec ·))) = true := by kernel_rfl
theorem fact15 : ((Rows.playNumbersRow.mapsOut == Tryz.prog.mapsAmong Tryz.f6.resultTypes.toList)) = true := by kernel_rfl
theorem fact16 : ((Rows.playNumbersRow.loops == (Tryz.f6.params.toList ++ Rows.playNumbersSpec.plain.varTypes Tryz.prog).any (Tryz.prog.loopsFrom ·))) = true := by kernel_rfl
theorem fact17 : ((Rows.playNumbersRow.wideKeys == (Tryz.f6.params.toList ++ Rows.playNumbersSpec.plain.varTypes Tryz.prog ++ Tryz.f6.resultTypes.toList).any (Tryz.prog.wideKeysFrom ·))) = true := by kernel_rfl
theorem fact18 : (Rows.playNumbersSpec.vars.all (Tryz.prog.varReadable ·)) = true := by kernel_rfl
theorem fact19 : (Tryz.f6.resultTypes.all (fun t => Tryz.prog.readableRec t && decide (t < Tryz.prog.types.size))) = true := by kernel_rfl
theorem fact20 : ((Rows.playNumbersRow.ifacesOut == Tryz.f6.resultTypes.toList.any (Tryz.prog.ifacesRec ·))) = true := by kernel_rfl
theorem fact21 : ((Rows.playNumbersRow.loopsOut == Tryz.f6.resultTypes.toList.any (Tryz.prog.loopsFrom ·))) = true := by kernel_rfl
theorem fact22 : ((Rows.playNumbersRow.plainKeys == Tryz.prog.plainKeys)) = true := by kernel_rfl
theorem fact23 : (Rows.playNumbersRow.shortTexts.isNone) = true := by kernel_rfl
theorem fact24 : (Tryz.prog.stopsHeard) = true := by kernel_rfl
theorem fact25 : (Tryz.prog.mayEnter) = true := by kernel_rfl
theorem fact26 : ((Rows.playNumbersRow.lifted == Tryz.prog.liftsFinal)) = true := by kernel_rfl
theorem fact27 : ((Tryz.prog.make == some Rows.playNumbersRow.make)) = true := by kernel_rfl
theorem fact28 : ((Rows.playNumbersRow.kinds == (if Rows.playNumbersRow.domain.isEmpty then [] else Tryz.f6.params.toList.map fun t => match Tryz.prog.underlying t with | some (.int k) => some k | _ => none))) = true := by kernel_rfl
theorem fact29 : ((Rows.playNumbersRow.pinned == Rows.playNumbersRow.pinnedBy)) = true := by kernel_rfl
theorem fact30 : ((Rows.playNumbersRow.veiled == (Tryz.f6.params.toList ++ Rows.playNumbersSpec.plain.varTypes Tryz.prog ++ Tryz.f6.resultTypes.toList).any (Tryz.prog.veiledRec ·))) = true := by kernel_rfl
theorem fact31 : (Rows.playNumbersRow.veiledFits Tryz.prog Tryz.f6.params.toList (Tryz.f6.params.toList ++ Rows.playNumbersSpec.plain.varTypes Tryz.prog ++ Tryz.f6.resultTypes.toList)) = true := by kernel_rfl
set_option maxRecDepth 100000 in
theorem closed : joinedFacts Tryz.prog 6 Tryz.f6 Rows.playNumbersSpec Rows.playNumbersRow = true :=
  both (both (both (both (both (both (both (both (both (both (both (both (both (both (both (both (both (both (both (both (both (both (both (both (both (both (both (both (both (both (both (fact0) fact1) fact2) fact3) fact4) fact5) fact6) fact7) fact8) fact9) fact10) fact11) fact12) fact13) fact14) fact15) fact16) fact17) fact18) fact19) fact20) fact21) fact22) fact23) fact24) fact25) fact26) fact27) fact28) fact29) fact30) fact31
end Go.Proofs.YtgkjlpielikecaaGreatDoor.playNumbers
