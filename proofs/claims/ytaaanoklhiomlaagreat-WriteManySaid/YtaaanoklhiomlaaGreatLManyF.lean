import Derived.Test.YtaaanoklhiomlaaGreatRows
import Derived.WalkKit
import Derived.ProofKit
namespace Go.Proofs.YtaaanoklhiomlaaGreat.writeMany
set_option maxRecDepth 100000
theorem k0 : (Rows.writeManyRow.wf (OpenSpec.ofChange Rows.writeManySpec)) = true := by kernel_rfl
theorem k1 : (laidOutB Tryz.prog) = true := by kernel_rfl
theorem k2 : (mapsRowed Tryz.prog) = true := by kernel_rfl
theorem k3 : (Tryz.f10.params.all (Tryz.prog.readableRec ·)) = true := by kernel_rfl
theorem k4 : (namedTie Tryz.prog Rows.writeManyRow.named Rows.writeManySpec.vars) = true := by kernel_rfl
theorem k5 : ((Rows.writeManyRow.stops == [])) = true := by kernel_rfl
theorem k6 : ((Tryz.prog.stops == [])) = true := by kernel_rfl
theorem k7 : ((Rows.writeManyRow.knobs == [])) = true := by kernel_rfl
theorem k8 : ((Tryz.prog.stopKnobs == [])) = true := by kernel_rfl
theorem k9 : ((Rows.writeManyRow.inPlace == Tryz.prog.inPlace 10)) = true := by kernel_rfl
theorem k10 : ((Rows.writeManyRow.unfollowed == Tryz.prog.unfollowed 10)) = true := by kernel_rfl
theorem k11 : ((Rows.writeManyRow.recurses == Tryz.prog.recurses 10)) = true := by kernel_rfl
theorem k12 : ((Rows.writeManyRow.named == Tryz.prog.varsNamed 10)) = true := by kernel_rfl
theorem k13 : ((Rows.writeManyRow.maps == (Tryz.f10.params.toList ++ Rows.writeManySpec.plain.varTypes Tryz.prog).any (Tryz.prog.mapsRec ·))) = true := by kernel_rfl
theorem k14 : ((Rows.writeManyRow.ifaces == (Tryz.f10.params.toList ++ Rows.writeManySpec.plain.varTypes Tryz.prog).any (Tryz.prog.ifacesRec ·))) = true := by kernel_rfl
theorem k15 : ((Rows.writeManyRow.mapsOut == Tryz.prog.mapsAmong Tryz.f10.resultTypes.toList)) = true := by kernel_rfl
theorem k16 : ((Rows.writeManyRow.loops == (Tryz.f10.params.toList ++ Rows.writeManySpec.plain.varTypes Tryz.prog).any (Tryz.prog.loopsFrom ·))) = true := by kernel_rfl
theorem k17 : ((Rows.writeManyRow.wideKeys == (Tryz.f10.params.toList ++ Rows.writeManySpec.plain.varTypes Tryz.prog ++ Tryz.f10.resultTypes.toList).any (Tryz.prog.wideKeysFrom ·))) = true := by kernel_rfl
theorem k18 : (Rows.writeManySpec.vars.all (Tryz.prog.varReadable ·)) = true := by kernel_rfl
theorem k19 : (Tryz.f10.resultTypes.all (fun t => Tryz.prog.readableRec t && decide (t < Tryz.prog.types.size))) = true := by kernel_rfl
theorem k20 : ((Rows.writeManyRow.ifacesOut == Tryz.f10.resultTypes.toList.any (Tryz.prog.ifacesRec ·))) = true := by kernel_rfl
theorem k21 : ((Rows.writeManyRow.loopsOut == Tryz.f10.resultTypes.toList.any (Tryz.prog.loopsFrom ·))) = true := by kernel_rfl
theorem k22 : ((Rows.writeManyRow.plainKeys == Tryz.prog.plainKeys)) = true := by kernel_rfl
theorem k23 : (Rows.writeManyRow.shortTexts.isNone) = true := by kernel_rfl
theorem k24 : (Tryz.prog.stopsHeard) = true := by kernel_rfl
theorem k25 : (Tryz.prog.mayEnter) = true := by kernel_rfl
theorem k26 : ((Rows.writeManyRow.lifted == Tryz.prog.liftsFinal)) = true := by kernel_rfl
theorem k27 : ((Tryz.prog.make == some Rows.writeManyRow.make)) = true := by kernel_rfl
theorem k28 : ((Rows.writeManyRow.kinds == (if Rows.writeManyRow.domain.isEmpty then [] else Tryz.f10.params.toList.map fun t => match Tryz.prog.underlying t with | some (.int k) => some k | _ => none))) = true := by kernel_rfl
theorem k29 : ((Rows.writeManyRow.pinned == Rows.writeManyRow.pinnedBy)) = true := by kernel_rfl
theorem k30 : ((Rows.writeManyRow.veiled == (Tryz.f10.params.toList ++ Rows.writeManySpec.plain.varTypes Tryz.prog ++ Tryz.f10.resultTypes.toList).any (Tryz.prog.veiledRec ·))) = true := by kernel_rfl
theorem k31 : (Rows.writeManyRow.veiledFits Tryz.prog Tryz.f10.params.toList (Tryz.f10.params.toList ++ Rows.writeManySpec.plain.varTypes Tryz.prog ++ Tryz.f10.resultTypes.toList)) = true := by kernel_rfl
theorem and_t {a b : Bool} (ha : a = true) (hb : b = true) : (a && b) = true := by rw [ha, hb]; rfl
theorem closed : joinedFacts Tryz.prog 10 Tryz.f10 Rows.writeManySpec Rows.writeManyRow = true :=
  (and_t (and_t (and_t (and_t (and_t (and_t (and_t (and_t (and_t (and_t (and_t (and_t (and_t (and_t (and_t (and_t (and_t (and_t (and_t (and_t (and_t (and_t (and_t (and_t (and_t (and_t (and_t (and_t (and_t (and_t (and_t k0 k1) k2) k3) k4) k5) k6) k7) k8) k9) k10) k11) k12) k13) k14) k15) k16) k17) k18) k19) k20) k21) k22) k23) k24) k25) k26) k27) k28) k29) k30) k31)

end Go.Proofs.YtaaanoklhiomlaaGreat.writeMany
