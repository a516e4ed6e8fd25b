import Derived.RangeFuncNested
import Derived.RangeFuncBound
import Derived.RangeFuncCalls
import Derived.RangeFuncLeaves
import Derived.Shelf.Abstract
import Derived.OwnWalkIn
import Derived.TacticsInMore
import Derived.LoopNIn
import Derived.LoopIn
import Derived.BigFrameIn
import Derived.Test.YtgdpojleejdfaaaDoorPOMd
import Derived.Test.YtgdpojleejdfaaaDoorPOEq
/- Contracts of printer.visit, printer.tokens, printer.Format. -/
namespace Go.Proofs.YtgdpojleejdfaaaDoor.Px
open Go.RowKit Go.Proofs.YtgdpojleejdfaaaDoorW.PrintWords Go.Proofs.YtgdpojleejdfaaaDoorW.PrintLast Go.Proofs.YtgdpojleejdfaaaDoorW.PrintMore
set_option linter.unusedVariables false
set_option linter.unusedSimpArgs false
attribute [local go_sem] Oper.semAt_some
abbrev Tk := Int × ByteArray × ByteArray × Bool
/-- Rows of nodes stand. -/
def KT (A B : World) : Prop := A.heap.size ≤ B.heap.size ∧ ∀ (k : Nat) (cs : Array Value) (fr : Nat × Nat), A.heap[k]? = some (Obj.cells cs 39 fr) → B.heap[k]? = some (Obj.cells cs 39 fr)
theorem KT.refl (A : World) : KT A A := ⟨Nat.le_refl _, fun _ _ _ h => h⟩
theorem KT.trans {A B C : World} (h : KT A B) (k : KT B C) : KT A C := ⟨Nat.le_trans h.1 k.1, fun _ _ _ hh => k.2 _ _ _ (h.2 _ _ _ hh)⟩
theorem KT.alloc (A : World) (o : Obj) : KT A (A.alloc o) := ⟨by simp, fun k cs fr h => blk_alloc h o⟩
section
variable (P : Tk → Prop) (w0 : World) (l N : Nat) (J Jx : List Tk → World → Prop)
end
end Go.Proofs.YtgdpojleejdfaaaDoor.Px
