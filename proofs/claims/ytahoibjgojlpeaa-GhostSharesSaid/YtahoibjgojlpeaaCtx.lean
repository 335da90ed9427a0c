/- The context of this seat's program. -/
import Derived.Test.YtahoibjgojlpeaaVcI
import Derived.Test.YtahoibjgojlpeaaProg
import Derived.KernelRfl
namespace Go.Proofs.Ytahoibjgojlpeaa
open Go Go.Vc

noncomputable def ctx : Ctx := Ctx.of Try.prog 83 60

theorem ctx_ok : ctx.Ok := Ctx.ok_of (by kernel_rfl) (by kernel_rfl) (by kernel_rfl) (by kernel_rfl)

end Go.Proofs.Ytahoibjgojlpeaa
