import Derived.Test.YtmoblhikociccaaGreatDoorAeC
import Derived.Test.YtmoblhikociccaaGreatDoorProg
import Derived.KernelRfl
namespace Go.Proofs.YtmoblhikociccaaGreatDoor
open Go Go.Ae
theorem ground : Footing Tryz.prog := ground_of (by kernel_rfl) (by kernel_rfl) (by kernel_rfl)
end Go.Proofs.YtmoblhikociccaaGreatDoor
