import Derived.Test.YtmoblhikociccaaGreatDoorRows
import Derived.LaidByTextLater
import Derived.SevenTiedAt
namespace Go.Proofs.YtmoblhikociccaaGreatDoor
open Go
def tiedA : List (String × DataW Unit) := [("unicode/utf8.acceptRanges", Rows.laid_unicode_utf8_acceptRanges), ("math/bits.deBruijn64tab", Rows.laid_math_bits_deBruijn64tab), ("errors.errorType", Rows.laid_errors_errorType)]
theorem tA1 : Tryz.prog.worded (varsWordLater true) = true := by kernel_rfl
theorem tA2 : Tryz.prog.worded (varsWordLater !true) = false := by kernel_rfl
theorem tA3 : Tryz.prog.worded rootWordLater = true := by kernel_rfl
theorem tA4 : tiedA.map (fun x => Tryz.prog.kindOfLater x.1) = [LaidKind.data, .data, .handle].map some := by kernel_rfl
theorem tA5 : (Tryz.prog.funcNamed "gosem.cut.vars").isSome = true := by kernel_rfl
theorem tA6 : varsNamedLaterB Tryz.prog (varsId Tryz.prog) tiedA = true := by kernel_rfl
theorem tA7 : ∀ os tape, varsDone Tryz.prog 400 (varsId Tryz.prog) os tape = true := fun _ _ => by kernel_rfl
theorem tA8 : ∀ os tape, (DataW.laidRun Tryz.prog (varsWorld Tryz.prog 400 (varsId Tryz.prog) os tape).memory 8 ((tiedA.filter fun x => x.2.handleName?.isNone).map (·.1))).map (·.1) = some (tiedA.filter fun x => x.2.handleName?.isNone) := fun _ _ => by kernel_rfl
theorem tA9 : ∀ os tape, (DataW.laidRun Tryz.prog (varsWorld Tryz.prog 400 (varsId Tryz.prog) os tape).memory 8 ((tiedA.filter fun x => x.2.handleName?.isNone).map (·.1))).map (fun x => decide x.2.Nodup && laidRowsB Tryz.prog (varsWorld Tryz.prog 400 (varsId Tryz.prog) os tape).memory x.2) = some true := fun _ _ => by kernel_rfl
theorem tA10 : ∀ os tape, (tiedA.filter fun x => x.2.handleName?.isSome).all (handleAtB Tryz.prog (varsWorld Tryz.prog 400 (varsId Tryz.prog) os tape).memory) = true := fun _ _ => by kernel_rfl
theorem tieA : Tryz.prog.laidByTextLater tiedA [.data, .data, .handle] true :=
  Program.laidByTextLater_by_run_h 400 8 tA1 tA2 tA3 tA4 tA5 tA6 tA7 tA8 tA9 tA10
theorem pinFirst : Tryz.pinned.checked.prog.pinnedFits "unicode/utf8.first" = true := by kernel_rfl
theorem noOwnUns : Tryz.pinned.checked.prog.headLifts.contains "ownunsafe" = false := by kernel_rfl
theorem fitsA : Tryz.pinned.checked.prog.listedFits [("unicode/utf8.first", Rows.laid_unicode_utf8_first), ("unicode/utf8.acceptRanges", Rows.laid_unicode_utf8_acceptRanges), ("math/bits.deBruijn64tab", Rows.laid_math_bits_deBruijn64tab), ("errors.errorType", Rows.laid_errors_errorType)] = true := by
  unfold Program.listedFits
  rw [noOwnUns]
  kernel_rfl
theorem nilRowTie : Rows.serviceNilRow.laidByTextAt .later Tryz.pinned [.pinned, .data, .data, .handle] true :=
  OpenClaim.laidByTextAt_pinned rfl rfl tieA rfl rfl rfl rfl (fun y hy _e => by
    simp only [Rows.serviceNilRow, List.zip_cons_cons, List.zip_nil_right, List.mem_cons, List.mem_nil_iff, or_false] at hy
    rcases hy with rfl | rfl | rfl | rfl
    · exact ⟨pinFirst, by kernel_rfl⟩
    · cases _e
    · cases _e
    · cases _e) fitsA
end Go.Proofs.YtmoblhikociccaaGreatDoor
