import Derived.Test.YtgdpojleejdfaaaDoorPOVi
import Derived.Test.YtgdpojleejdfaaaDoorPOShelf
import Derived.Test.YtgdpojleejdfaaaDoorPOMu
/- Contract of printer.Format. -/
namespace Go.Proofs.YtgdpojleejdfaaaDoor.Px
open Go.RowKit Go.Proofs.YtgdpojleejdfaaaDoorW.PrintWords Go.Proofs.YtgdpojleejdfaaaDoorW.PrintLast Go.Proofs.YtgdpojleejdfaaaDoorW.PrintMore
set_option linter.unusedVariables false
set_option linter.unusedSimpArgs false
attribute [local go_sem] Oper.semAt_some
def fmtT (x : Tk) : ByteArray := fmtTok x.1 x.2.1 x.2.2.1 x.2.2.2
def okTk (x : Tk) : Prop := x.2.1.size ≤ 1099511627776 ∧ x.2.2.1.size ≤ 1099511627776 ∧ (fmtT x).size ≤ 1048576
instance okTk.dec (x : Tk) : Decidable (okTk x) := by unfold okTk; infer_instance
theorem KT.grown {A B : World} {row : Option Nat} (hg : A.grownBy B row) (hr : ∀ r, row = some r → ∃ o : Obj, A.heap[r]? = some o ∧ o.isCells = false) : KT A B :=
  ⟨hg.size, fun k cs fr h => (hg.block k (Array.getElem?_eq_some_iff.1 h).1 (fun e => by
    obtain ⟨o, ho, hc⟩ := hr k e.symm
    rw [h] at ho; cases ho; cases hc)).trans h⟩
theorem KT.below {A B : World} (h : Below A.heap.size A B) : KT A B := ⟨h.size, fun k cs fr hk => blk_below hk h⟩
end Go.Proofs.YtgdpojleejdfaaaDoor.Px
