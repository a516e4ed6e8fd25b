import Derived.Test.YtkpnfejfbmandaaDoorPLNc
import Derived.Test.YtkpnfejfbmandaaDoorPLAw
/- The walk of tmplpipelaw12.ParseConcatenation. -/
namespace Go.Proofs.YtkpnfejfbmandaaDoor.Px
open Go.RowKit Go.Proofs.YtkpnfejfbmandaaDoorW.PrintWords Go.Proofs.YtkpnfejfbmandaaDoorW.PrintLast Go.Proofs.YtkpnfejfbmandaaDoorW.PrintMore
attribute [local go_sem] max2_int min2_int max_two min_two max_three min_three max_four min_four
set_option linter.unusedVariables false
set_option linter.unusedSimpArgs false
theorem count_any {l : List S78} (h : nL l ≤ 1000000000) (A : Option Addr) (c : Nat) (w : World) (hC : Kd.C k78 w A l.length l) (hc : l.length ≤ c) :
    Calls Tryd.prog 13 #[.slice A l.length c] w fun e w' => e = .returned (.int .i64 (cntL l)) ∧ Below w.heap.size w w' := by
  obtain ⟨K, hK⟩ := count_ev l h
  exact parse_Count.calls K A c l _ w hC hc (hK K (Nat.le_refl _))
end Go.Proofs.YtkpnfejfbmandaaDoor.Px
