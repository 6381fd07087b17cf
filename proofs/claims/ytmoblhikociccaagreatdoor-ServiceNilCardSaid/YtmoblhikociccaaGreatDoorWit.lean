import Derived.Test.YtmoblhikociccaaGreatDoorStart
import Derived.LaidHandle
namespace Go.Proofs.YtmoblhikociccaaGreatDoor
open Go Go.Ae Go.ChangeShapes Go.WideShapes Go.ChangeAt Go.RowKit

def litValue : Lit → Value
  | .int k n => .int k n
  | .bool b => .bool b
  | _ => .int .u8 0
mutual
def litCells : DataW Unit → List Value
  | .lit l => [litValue l]
  | .agg ds => litCellsAll ds
  | _ => []
def litCellsAll : List (DataW Unit) → List Value
  | [] => []
  | d :: r => litCells d ++ litCellsAll r
end
noncomputable def withCells (h : Array Obj) (g : Nat) (cs : List Value) : Array Obj := h.modify g fun
  | .cells _ t frozen => .cells cs.toArray t frozen
  | o => o
/-- a world that meets the condition: the settled one, the variables laid -/
noncomputable def laidWorld (os : Os) : World :=
  let w0 := World.holding Tryz.prog os ⟨#[], #[], []⟩
  { w0 with heap := withCells (withCells (withCells (withCells w0.heap 0 [.iface 316 (.agg #[.pointer (some ⟨7, 70, none⟩)])]) 1 (litCells Rows.laid_math_bits_deBruijn64tab)) 3 (litCells Rows.laid_unicode_utf8_first)) 4 (litCells Rows.laid_unicode_utf8_acceptRanges) }
noncomputable abbrev wit (os : Os) (args : Array Value) : World := (laidWorld os).forCall (fun _ _ => 0) ⟨#[], args, []⟩
noncomputable abbrev nilArgs : Array Value := #[.string .empty, .string .empty, .bool false]
theorem wh (os : Os) : (laidWorld os).os = os := rfl
theorem wv (os : Os) : (wit os nilArgs).variablesB Tryz.prog = true := by kernel_rfl
theorem wr (os : Os) : ((wit os nilArgs).heap.toList.drop Tryz.prog.globals.size).take ((begin Tryz.prog (fun _ _ => 0) default).world.heap.size - Tryz.prog.globals.size) = (begin Tryz.prog (fun _ _ => 0) default).world.heap.toList.drop Tryz.prog.globals.size := by kernel_rfl
theorem wok (os : Os) : Input.okWideB Tryz.prog (wit os nilArgs) 3 ⟨#[], nilArgs, []⟩ = true := by kernel_rfl
theorem wpre (os : Os) (H : Type) (enc : TypeId × Value → H) : Rows.serviceNilSpec.preB enc Tryz.prog Tryz.f3 [] false (wit os nilArgs).memory nilArgs 8 = true := by kernel_rfl
theorem wsz (os : Os) (H : Type) (enc : TypeId × Value → H) : Rows.serviceNilSpec.sizedB enc Tryz.prog Tryz.f3 false (wit os nilArgs).memory nilArgs 8 = true := by kernel_rfl
theorem wl1 (os : Os) (args : Array Value) : (DataW.laidRun Tryz.prog (wit os args).memory 8 ((laidNil.filter fun x => x.2.handleName?.isNone).map (·.1))).map (·.1) = some (laidNil.filter fun x => x.2.handleName?.isNone) := by kernel_rfl
theorem wl2 (os : Os) (args : Array Value) : (DataW.laidRun Tryz.prog (wit os args).memory 8 ((laidNil.filter fun x => x.2.handleName?.isNone).map (·.1))).map (fun x => decide x.2.Nodup && laidRowsB Tryz.prog (wit os args).memory x.2) = some true := by kernel_rfl
theorem wl3 (os : Os) (args : Array Value) : (laidNil.filter fun x => x.2.handleName?.isSome).all (handleAtB Tryz.prog (wit os args).memory) = true := by kernel_rfl
theorem wl (os : Os) (args : Array Value) : laidMetH Tryz.prog laidNil (wit os args).memory := laidMetH_of_parts (laidMet_of_run' 8 (wl1 os args) (wl2 os args)) (wl3 os args)
end Go.Proofs.YtmoblhikociccaaGreatDoor
