/- The context of this seat's program. -/
import Derived.Test.YtgdhddignbkloaaVcI
import Derived.Test.YtgdhddignbkloaaProg
import Derived.KernelRfl
namespace Go.Proofs.Ytgdhddignbkloaa
open Go Go.Vc

noncomputable def ctx : Ctx := Ctx.of Try.prog 157 112

theorem ctx_ok : ctx.Ok := Ctx.ok_of (by kernel_rfl) (by kernel_rfl) (by kernel_rfl) (by kernel_rfl)

/-- The same, for functions in which a call writes behind what is read ahead of it. -/
noncomputable def ctxL : Ctx := { ctx with loose := true }

theorem ctxL_ok : ctxL.Ok := ⟨ctx_ok.tab, ctx_ok.zero, ctx_ok.size, ctx_ok.ent, ctx_ok.mixed⟩

end Go.Proofs.Ytgdhddignbkloaa
