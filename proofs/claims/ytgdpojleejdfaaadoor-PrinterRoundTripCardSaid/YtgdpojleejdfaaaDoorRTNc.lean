import Derived.Test.YtgdpojleejdfaaaDoorRTNb
import Derived.Test.YtgdpojleejdfaaaDoorRTPx0
import Derived.Test.YtgdpojleejdfaaaDoorRTPx9
import Derived.Test.YtgdpojleejdfaaaDoorRTPz
import Derived.Test.YtgdpojleejdfaaaDoorRTQa2
import Derived.Test.YtgdpojleejdfaaaDoorRTRq
/- Plain laws: what Count, Nest, weight and offsets tell of a list of nodes. -/
namespace Go.Proofs.YtgdpojleejdfaaaDoor.Px
open Go.RowKit Go.Proofs.YtgdpojleejdfaaaDoorW.PrintWords Go.Proofs.YtgdpojleejdfaaaDoorW.PrintLast Go.Proofs.YtgdpojleejdfaaaDoorW.PrintMore
set_option linter.unusedVariables false
set_option linter.unusedSimpArgs false
mutual
def cntL : List S39 → Nat
  | [] => 0
  | x :: xs => cntN x + cntL xs
def cntN : S39 → Nat
  | ⟨k, _, _, _, _, _, b, l⟩ => 1 + (if k = 2 then cntL b + cntL l else if k = 3 ∨ k = 6 then cntL b else 0)
end
theorem cntN_eq (x : S39) : cntN x = 1 + (if x.f0 = 2 then cntL x.f6 + cntL x.f7 else if x.f0 = 3 ∨ x.f0 = 6 then cntL x.f6 else 0) := by cases x; simp [cntN]
theorem cntL_cons (x : S39) (xs : List S39) : cntL (x :: xs) = cntN x + cntL xs := by simp [cntL]
mutual
def nstL : List S39 → Nat
  | [] => 0
  | x :: xs => max (nstN x) (nstL xs)
def nstN : S39 → Nat
  | ⟨k, _, _, _, _, _, b, l⟩ => if k = 2 then max (1 + nstL b) (1 + nstL l) else if k = 3 ∨ k = 6 then 1 + nstL b else 0
end
theorem nstN_eq (x : S39) : nstN x = if x.f0 = 2 then max (1 + nstL x.f6) (1 + nstL x.f7) else if x.f0 = 3 ∨ x.f0 = 6 then 1 + nstL x.f6 else 0 := by cases x; simp [nstN]
theorem nstL_cons (x : S39) (xs : List S39) : nstL (x :: xs) = max (nstN x) (nstL xs) := by simp [nstL]
end Go.Proofs.YtgdpojleejdfaaaDoor.Px
