import Derived.Test.YtmoblhikociccaaGreatDoorRows
import Derived.Test.YtmoblhikociccaaGreatDoorCards
namespace Go.Proofs.YtmoblhikociccaaGreatDoor
open Go
theorem ng0 : ((Tryz.prog.funcs.toList.take 150).all fun fn => !fn.goes) = true := by kernel_rfl
theorem ng1 : (((Tryz.prog.funcs.toList.drop 150).take 150).all fun fn => !fn.goes) = true := by kernel_rfl
theorem ng2 : (((Tryz.prog.funcs.toList.drop 300).take 150).all fun fn => !fn.goes) = true := by kernel_rfl
theorem ng3 : ((Tryz.prog.funcs.toList.drop 450).all fun fn => !fn.goes) = true := by kernel_rfl
theorem ngAll : ∀ fn ∈ Tryz.prog.funcs.toList, fn.goes = false := by
  intro fn h
  rw [← List.take_append_drop 450 Tryz.prog.funcs.toList, List.mem_append] at h
  have e : ∀ l : List Func, l.take 450 = l.take 150 ++ ((l.drop 150).take 150 ++ (l.drop 300).take 150) := by
    intro l
    have h1 : l.take 450 = (l.take 450).take 150 ++ (l.take 450).drop 150 := (List.take_append_drop 150 _).symm
    have h2 : (l.take 450).drop 150 = ((l.take 450).drop 150).take 150 ++ ((l.take 450).drop 150).drop 150 := (List.take_append_drop 150 _).symm
    rw [h1, h2, List.take_take, List.drop_take, List.take_take, List.drop_take, List.drop_drop]
    rfl
  have no : ∀ {l : List Func}, (l.all fun fn => !fn.goes) = true → fn ∈ l → fn.goes = false := by
    intro l hl hm
    have := List.all_eq_true.1 hl fn hm
    simpa using this
  rcases h with h | h
  · rw [e, List.mem_append, List.mem_append] at h
    rcases h with h | h | h
    · exact no ng0 h
    · exact no ng1 h
    · exact no ng2 h
  · exact no ng3 h
theorem ngGet (g : Nat) : (Tryz.prog.funcs[g]?).any Func.goes = false := by
  cases h : Tryz.prog.funcs[g]? with
  | none => rfl
  | some fn => exact ngAll fn (Array.mem_toList_iff.2 (Array.mem_of_getElem? h))
theorem goesNo (f : FuncId) : Tryz.prog.goes f = false := by
  unfold Program.goes
  have h1 : ((Tryz.prog.closure f).any fun g => (Tryz.prog.funcs[g]?).any Func.goes) = false := by
    rw [List.any_eq_false]
    intro g _
    rw [ngGet g]
    exact Bool.false_ne_true
  have h2 : Tryz.prog.funcs.any Func.goes = false := by
    rw [← Array.any_toList, List.any_eq_false]
    intro fn hm
    rw [ngAll fn hm]
    exact Bool.false_ne_true
  rw [h1, h2, Bool.and_false]
  rfl
theorem cg : false = Rows.serviceNilRow.goesBy Tryz.prog := by
  have hs : Rows.serviceNilRow.start = .entering := rfl
  unfold OpenClaim.goesBy Program.goesAt Program.goesFrom
  rw [hs]
  cases h : Tryz.prog.funcNamed Rows.serviceNilRow.func with
  | none => rfl
  | some f => simp [goesNo]
end Go.Proofs.YtmoblhikociccaaGreatDoor
