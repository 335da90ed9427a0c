/- The context of this seat's program. -/
import Derived.Test.YtjncpcdpfgjibaaVcI
import Derived.Test.YtjncpcdpfgjibaaProg
import Derived.KernelRfl
namespace Go.Proofs.Ytjncpcdpfgjibaa
open Go Go.Vc

noncomputable def ctx : Ctx := Ctx.of Try.prog 124 82

theorem ctx_ok : ctx.Ok := Ctx.ok_of (by kernel_rfl) (by kernel_rfl) (by kernel_rfl) (by kernel_rfl)

end Go.Proofs.Ytjncpcdpfgjibaa
