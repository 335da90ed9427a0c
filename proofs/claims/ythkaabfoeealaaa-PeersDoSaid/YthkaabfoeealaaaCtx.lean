/- The context of this seat's program. -/
import Derived.Test.YthkaabfoeealaaaVcI
import Derived.Test.YthkaabfoeealaaaProg
import Derived.KernelRfl
namespace Go.Proofs.Ythkaabfoeealaaa
open Go Go.Vc

noncomputable def ctx : Ctx := Ctx.of Try.prog 95 70

theorem ctx_ok : ctx.Ok := Ctx.ok_of (by kernel_rfl) (by kernel_rfl) (by kernel_rfl) (by kernel_rfl)

end Go.Proofs.Ythkaabfoeealaaa
