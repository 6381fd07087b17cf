import Derived.Test.YtmoblhikociccaaGreatDoorNil
import Derived.Test.YtmoblhikociccaaGreatDoorNilJoin2
namespace Go.Proofs.YtmoblhikociccaaGreatDoor
open Go
theorem nil_holds : Rows.ServiceNilSaid :=
  OpenClaim.holds_of_wide 3 Tryz.f3 rfl rfl rfl rfl rfl rfl rfl ⟨rfl, rfl, rfl, rfl, rfl⟩ rfl rfl rfl rfl rfl jnNamed Tryz.func3 jnAll
    (of_decide_eq_true (by kernel_rfl)) (by unfold Func.isWrapper; first | (rw [if_pos (by decide +kernel)]; kernel_rfl) | (rw [if_neg (by decide +kernel)]; exact ⟨rfl, rfl⟩))
    (fun os started H enc _ => nil_lifted os started H enc)
end Go.Proofs.YtmoblhikociccaaGreatDoor
