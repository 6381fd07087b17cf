import Derived.Test.YtmoblhikociccaaGreatDoorRows
import Derived.ProofKit
import Derived.JoinedOf
import Derived.Test.YtmoblhikociccaaGreatDoorNilJoin
namespace Go.Proofs.YtmoblhikociccaaGreatDoor
open Go
theorem jnAll : joinedFacts Tryz.prog 3 Tryz.f3 Rows.serviceNilSpec Rows.serviceNilRow = true := by
  simp only [joinedFacts, jn0, jn1, jn2, jn3, jn4, jn5, jn6, jn7, jn8, jn9, jn10, jn11, jn12, jn13, jn14, jn15, jn16, jn17, jn18, jn19, jn20, jn21, jn22, jn23, jn24, jn25, jn26, jn27, jn29, jn30, jn31]
  kernel_rfl
end Go.Proofs.YtmoblhikociccaaGreatDoor
