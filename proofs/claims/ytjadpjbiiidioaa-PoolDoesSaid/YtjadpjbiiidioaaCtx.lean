/- The context of this seat's program. -/
import Derived.Test.YtjadpjbiiidioaaVcI
import Derived.Test.YtjadpjbiiidioaaProg
import Derived.KernelRfl
namespace Go.Proofs.Ytjadpjbiiidioaa
open Go Go.Vc

noncomputable def ctx : Ctx := Ctx.of Try.prog 125 88

theorem ctx_ok : ctx.Ok := Ctx.ok_of (by kernel_rfl) (by kernel_rfl) (by kernel_rfl) (by kernel_rfl)

end Go.Proofs.Ytjadpjbiiidioaa
