/- The closed facts of the row of ShardLease, one by one. -/
import Derived.Test.YtofofjfmhaggmaaGreatDoorRows
import Derived.KernelRfl
import Derived.JoinedOf
set_option linter.unusedVariables false
namespace Go.Proofs.YtofofjfmhaggmaaGreatDoor.shardLease
theorem both {a b : Bool} (h : a = true) (k : b = true) : (a && b) = true := by rw [h, k]; rfl
theorem fact0 : (Rows.shardLeaseRow.wf (OpenSpec.ofChange Rows.shardLeaseSpec)) = true := by kernel_rfl
theorem fact1 : (laidOutB Tryz.prog) = true := by kernel_rfl
theorem fact2 : (mapsRowed Tryz.prog) = true := by kernel_rfl
theorem fact3 : (Tryz.f10.params.all (Tryz.prog.readableRec ·)) = true := by kernel_rfl
theorem fact4 : (namedTie Tryz.prog Rows.shardLeaseRow.named Rows.shardLeaseSpec.vars) = true := by kernel_rfl
theorem fact5 : ((Rows.shardLeaseRow.stops == [])) = true := by kernel_rfl
theorem fact6 : ((Tryz.prog.stops == [])) = true := by kernel_rfl
theorem fact7 : ((Rows.shardLeaseRow.knobs == [])) = true := by kernel_rfl
theorem fact8 : ((Tryz.prog.stopKnobs == [])) = true := by kernel_rfl
theorem fact9 : ((Rows.shardLeaseRow.inPlace == Tryz.prog.inPlace 10)) = true := by kernel_rfl
theorem fact10 : ((Rows.shardLeaseRow.unfollowed == Tryz.prog.unfollowed 10)) = true := by kernel_rfl
theorem fact11 : ((Rows.shardLeaseRow.recurses == Tryz.prog.recurses 10)) = true := by kernel_rfl
theorem fact12 : ((Rows.shardLeaseRow.named == Tryz.prog.varsNamed 10)) = true := by kernel_rfl
theorem fact13 : ((Rows.shardLeaseRow.maps == (Tryz.f10.params.toList ++ Rows.shardLeaseSpec.plain.varTypes Tryz.prog).any (Tryz.prog.mapsRec ·))) = true := by kernel_rfl
theorem fact14 : ((Rows.shardLeaseRow.ifaces == (Tryz.f10.params.toList ++ Rows.shardLeaseSpec.plain.varTypes Tryz.prog).any (Tryz.prog.ifacesRec ·))) = true := by kernel_rfl
theorem fact15 : ((Rows.shardLeaseRow.mapsOut == Tryz.prog.mapsAmong Tryz.f10.resultTypes.toList)) = true := by kernel_rfl
theorem fact16 : ((Rows.shardLeaseRow.loops == (Tryz.f10.params.toList ++ Rows.shardLeaseSpec.plain.varTypes Tryz.prog).any (Tryz.prog.loopsFrom ·))) = true := by kernel_rfl
theorem fact17 : ((Rows.shardLeaseRow.wideKeys == (Tryz.f10.params.toList ++ Rows.shardLeaseSpec.plain.varTypes Tryz.prog ++ Tryz.f10.resultTypes.toList).any (Tryz.prog.wideKeysFrom ·))) = true := by kernel_rfl
theorem fact18 : (Rows.shardLeaseSpec.vars.all (Tryz.prog.varReadable ·)) = true := by kernel_rfl
theorem fact19 : (Tryz.f10.resultTypes.all (fun t => Tryz.prog.readableRec t && decide (t < Tryz.prog.types.size))) = true := by kernel_rfl
theorem fact20 : ((Rows.shardLeaseRow.ifacesOut == Tryz.f10.resultTypes.toList.any (Tryz.prog.ifacesRec ·))) = true := by kernel_rfl
theorem fact21 : ((Rows.shardLeaseRow.loopsOut == Tryz.f10.resultTypes.toList.any (Tryz.prog.loopsFrom ·))) = true := by kernel_rfl
theorem fact22 : ((Rows.shardLeaseRow.plainKeys == Tryz.prog.plainKeys)) = true := by kernel_rfl
theorem fact23 : (Rows.shardLeaseRow.shortTexts.isNone) = true := by kernel_rfl
theorem fact24 : (Tryz.prog.stopsHeard) = true := by kernel_rfl
theorem fact25 : (Tryz.prog.mayEnter) = true := by kernel_rfl
theorem fact26 : ((Rows.shardLeaseRow.lifted == Tryz.prog.liftsFinal)) = true := by kernel_rfl
theorem fact27 : ((Tryz.prog.make == some Rows.shardLeaseRow.make)) = true := by kernel_rfl
theorem fact28 : ((Rows.shardLeaseRow.kinds == (if Rows.shardLeaseRow.domain.isEmpty then [] else Tryz.f10.params.toList.map fun t => match Tryz.prog.underlying t with | some (.int k) => some k | _ => none))) = true := by kernel_rfl
theorem fact29 : ((Rows.shardLeaseRow.pinned == Rows.shardLeaseRow.pinnedBy)) = true := by kernel_rfl
theorem fact30 : ((Rows.shardLeaseRow.veiled == (Tryz.f10.params.toList ++ Rows.shardLeaseSpec.plain.varTypes Tryz.prog ++ Tryz.f10.resultTypes.toList).any (Tryz.prog.veiledRec ·))) = true := by kernel_rfl
theorem fact31 : (Rows.shardLeaseRow.veiledFits Tryz.prog Tryz.f10.params.toList (Tryz.f10.params.toList ++ Rows.shardLeaseSpec.plain.varTypes Tryz.prog ++ Tryz.f10.resultTypes.toList)) = true := by kernel_rfl
set_option maxRecDepth 100000 in
theorem closed : joinedFacts Tryz.prog 10 Tryz.f10 Rows.shardLeaseSpec Rows.shardLeaseRow = true :=
  both (both (both (both (both (both (both (both (both (both (both (both (both (both (both (both (both (both (both (both (both (both (both (both (both (both (both (both (both (both (both (fact0) fact1) fact2) fact3) fact4) fact5) fact6) fact7) fact8) fact9) fact10) fact11) fact12) fact13) fact14) fact15) fact16) fact17) fact18) fact19) fact20) fact21) fact22) fact23) fact24) fact25) fact26) fact27) fact28) fact29) fact30) fact31
end Go.Proofs.YtofofjfmhaggmaaGreatDoor.shardLease
