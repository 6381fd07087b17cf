import Derived.Test.YtmoblhikociccaaGreatDoorRows
import Derived.ProofKit
import Derived.JoinedOf
namespace Go.Proofs.YtmoblhikociccaaGreatDoor
open Go
theorem jn0 : (Rows.serviceNilRow.wf (OpenSpec.ofChange Rows.serviceNilSpec)) = true := by kernel_rfl
theorem jn1 : (laidOutB Tryz.prog) = true := by kernel_rfl
theorem jn2 : (mapsRowed Tryz.prog) = true := by kernel_rfl
theorem jn3 : (Tryz.f3.params.all (Tryz.prog.readableRec ·)) = true := by kernel_rfl
theorem jn4 : (namedTie Tryz.prog Rows.serviceNilRow.named Rows.serviceNilSpec.vars) = true := by kernel_rfl
theorem jn5 : ((Rows.serviceNilRow.stops == [])) = true := by kernel_rfl
theorem jn6 : ((Tryz.prog.stops == [])) = true := by kernel_rfl
theorem jn7 : ((Rows.serviceNilRow.knobs == [])) = true := by kernel_rfl
theorem jn8 : ((Tryz.prog.stopKnobs == [])) = true := by kernel_rfl
theorem jn9 : ((Rows.serviceNilRow.inPlace == Tryz.prog.inPlace 3)) = true := by kernel_rfl
theorem jn10 : ((Rows.serviceNilRow.unfollowed == Tryz.prog.unfollowed 3)) = true := by kernel_rfl
theorem jn11 : ((Rows.serviceNilRow.recurses == Tryz.prog.recurses 3)) = true := by kernel_rfl
theorem jn12 : ((Rows.serviceNilRow.named == Tryz.prog.varsNamed 3)) = true := by kernel_rfl
theorem jn13 : ((Rows.serviceNilRow.maps == (Tryz.f3.params.toList ++ Rows.serviceNilSpec.plain.varTypes Tryz.prog).any (Tryz.prog.mapsRec ·))) = true := by kernel_rfl
theorem jn14 : ((Rows.serviceNilRow.ifaces == (Tryz.f3.params.toList ++ Rows.serviceNilSpec.plain.varTypes Tryz.prog).any (Tryz.prog.ifacesRec ·))) = true := by kernel_rfl
theorem jn15 : ((Rows.serviceNilRow.mapsOut == Tryz.prog.mapsAmong Tryz.f3.resultTypes.toList)) = true := by kernel_rfl
theorem jn16 : ((Rows.serviceNilRow.loops == (Tryz.f3.params.toList ++ Rows.serviceNilSpec.plain.varTypes Tryz.prog).any (Tryz.prog.loopsFrom ·))) = true := by kernel_rfl
theorem jn17 : ((Rows.serviceNilRow.wideKeys == (Tryz.f3.params.toList ++ Rows.serviceNilSpec.plain.varTypes Tryz.prog ++ Tryz.f3.resultTypes.toList).any (Tryz.prog.wideKeysFrom ·))) = true := by kernel_rfl
theorem jn18 : (Rows.serviceNilSpec.vars.all (Tryz.prog.varReadable ·)) = true := by kernel_rfl
theorem jn19 : (Tryz.f3.resultTypes.all (fun t => Tryz.prog.readableRec t && decide (t < Tryz.prog.types.size))) = true := by kernel_rfl
theorem jn20 : ((Rows.serviceNilRow.ifacesOut == Tryz.f3.resultTypes.toList.any (Tryz.prog.ifacesRec ·))) = true := by kernel_rfl
theorem jn21 : ((Rows.serviceNilRow.loopsOut == Tryz.f3.resultTypes.toList.any (Tryz.prog.loopsFrom ·))) = true := by kernel_rfl
theorem jn22 : ((Rows.serviceNilRow.plainKeys == Tryz.prog.plainKeys)) = true := by kernel_rfl
theorem jn23 : (Rows.serviceNilRow.shortTexts.isNone) = true := by kernel_rfl
theorem jn24 : (Tryz.prog.stopsHeard) = true := by kernel_rfl
theorem jn25 : (Tryz.prog.mayEnter) = true := by kernel_rfl
theorem jn26 : ((Rows.serviceNilRow.lifted == Tryz.prog.liftsFinal)) = true := by kernel_rfl
theorem jn27 : ((Tryz.prog.make == some Rows.serviceNilRow.make)) = true := by kernel_rfl
theorem jn29 : ((Rows.serviceNilRow.pinned == Rows.serviceNilRow.pinnedBy)) = true := by kernel_rfl
theorem jn30 : ((Rows.serviceNilRow.veiled == (Tryz.f3.params.toList ++ Rows.serviceNilSpec.plain.varTypes Tryz.prog ++ Tryz.f3.resultTypes.toList).any (Tryz.prog.veiledRec ·))) = true := by kernel_rfl
theorem jn31 : (Rows.serviceNilRow.veiledFits Tryz.prog Tryz.f3.params.toList (Tryz.f3.params.toList ++ Rows.serviceNilSpec.plain.varTypes Tryz.prog ++ Tryz.f3.resultTypes.toList)) = true := by kernel_rfl
theorem jnNamed : Tryz.prog.funcNamed Rows.serviceNilRow.func = some 3 := by kernel_rfl
end Go.Proofs.YtmoblhikociccaaGreatDoor
