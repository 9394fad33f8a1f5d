/- The law PackNames answers true: the document's example of Nums and all the numbers of errors and limits. No condition. -/
import Derived.Test.YtcknoadoeonbjaaPPackNamesx1
namespace Go.Proofs.Ytcknoadoeonbjaa.Pure
open Go.RowKit Go.Proofs.Ytcknoadoeonbjaa.PPackNames Go.Proofs.YtcknoadoeonbjaaW.PrintWords Go.Proofs.YtcknoadoeonbjaaW.PrintLast

/-- YOURS: ∃ k, keelsonlaw01_PackNames.f k  = some true
What it reaches (each with k first where it has rounds; `.mono`: more rounds tell the same; `.l0`, ..: its loops, with `.mono_l`): pack_width.f, pack_Num.f, pack_Nums.f, keelsonlaw01_speaks.f, keelsonlaw01_PackNames.f -/
theorem PackNames : keelsonlaw01_PackNames.Pure := by
  exact ⟨20, by decide +kernel⟩

end Go.Proofs.Ytcknoadoeonbjaa.Pure
