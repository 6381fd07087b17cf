/- PROVED: mandatelaw23.ServiceNil returns true whatever comes in, and what came in reads as it did. Conditions: those of the given card alone (the listed package variables, tied to the program's text). The whole of 'fixed' is evaluated by the kernel, in records of calls; an evaluator over abstract blocks is shown to follow the model on every tape. -/
import Derived.Test.YtmoblhikociccaaGreatDoorNilRow
import Derived.Test.YtmoblhikociccaaGreatDoorNilTie
import Derived.Test.YtmoblhikociccaaGreatDoorNilGoes
import Derived.Test.YtmoblhikociccaaGreatDoorCards
import Derived.SevenTiedAt
namespace Go.Proofs.YtmoblhikociccaaGreatDoor
open Go
theorem cw : Rows.serviceNilRow.wfByText (OpenSpec.ofChange Rows.serviceNilSpec) = true := by kernel_rfl
theorem cm : Tryz.prog.mainIs = some (true, "72058b8b32525cfc027badd308535b989f4ec81e77b12261f835bcdddc0bcf70".toList) := by kernel_rfl
theorem cl : true = Tryz.prog.looks [] := by kernel_rfl
theorem cs9 : Tryz.prog.wantsStandIn 9 = false := by kernel_rfl
theorem cs4 : Tryz.prog.wantsStandIn 4 = false := by kernel_rfl
theorem serviceNil_card : Rows.ServiceNilCardSaid :=
  Claim7.holds_tied_plain_at .later [] [.pinned, .data, .data, .handle] true (true, "72058b8b32525cfc027badd308535b989f4ec81e77b12261f835bcdddc0bcf70") true
    nil_holds (fun _ h => by cases h) cw (fun _ h => by cases h) nilRowTie rfl ⟨rfl, rfl⟩ cm rfl
    (fun f fn hf hfn => by
      obtain rfl : f = 3 := Option.some.inj (jnNamed.symm.trans hf) |>.symm
      obtain rfl : fn = Tryz.f3 := (Option.some.inj (Tryz.func3.symm.trans hfn)).symm
      exact ⟨cl, fun j t ht => by
        rw [Tryz.params3] at ht
        have h3 : t = 9 ∨ t = 4 := by
          match j, ht with
          | 0, ht => left; simpa using ht.symm
          | 1, ht => left; simpa using ht.symm
          | 2, ht => right; simpa using ht.symm
          | j + 3, ht => simp at ht
        rcases h3 with rfl | rfl
        · exact cs9
        · exact cs4⟩)
    cg
end Go.Proofs.YtmoblhikociccaaGreatDoor
