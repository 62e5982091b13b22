/- Small words for the laws of frames. -/
import Derived.Test.YtdcbpkhogpjfeaaFrameI
namespace Go.Proofs.Ytdcbpkhogpjfeaa
def frZ : Fr := ⟨0, 0, 0, 0, 0, []⟩
theorem eqb_self (x : Fr) : x.eqb x = true := (Fr.eqb_iff x x).2 rfl
end Go.Proofs.Ytdcbpkhogpjfeaa
