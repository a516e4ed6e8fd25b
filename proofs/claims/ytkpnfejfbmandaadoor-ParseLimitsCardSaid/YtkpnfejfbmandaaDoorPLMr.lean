import Derived.Test.YtkpnfejfbmandaaDoorPLPx0
import Derived.Test.YtkpnfejfbmandaaDoorPLMu
/- Merged texts: Rl Pa Ls Lb Ld Le. -/
/- Contract of the reference's Lex: written by hand over the printed contracts of find, words and form. -/
namespace Go.Proofs.YtkpnfejfbmandaaDoor.Px
open Go.RowKit Go.Proofs.YtkpnfejfbmandaaDoorW.PrintWords Go.Proofs.YtkpnfejfbmandaaDoorW.PrintLast Go.Proofs.YtkpnfejfbmandaaDoorW.PrintMore
set_option linter.unusedVariables false
set_option linter.unusedSimpArgs false
end Go.Proofs.YtkpnfejfbmandaaDoor.Px
/- Plain laws: the reference's lexer ends, and what its tokens look like. -/
namespace Go.Proofs.YtkpnfejfbmandaaDoor.Px
open Go.RowKit Go.Proofs.YtkpnfejfbmandaaDoorW.PrintWords Go.Proofs.YtkpnfejfbmandaaDoorW.PrintLast Go.Proofs.YtkpnfejfbmandaaDoorW.PrintMore
set_option linter.unusedVariables false
set_option linter.unusedSimpArgs false
theorem w64 {n : Int} (h0 : 0 ≤ n) (h1 : n ≤ 4611686018427387904) : wrap64 n = n := by unfold wrap64; omega
/-- What the token holds so far. -/
structure OkS (n : Nat) (kd : Int) (s p : ByteArray) (hp : Bool) : Prop where
  hi : kd ≤ 8
  ne : kd ≠ 0
  s0 : kd ≥ 0 → (s.size = 0 ↔ ¬ (kd = 4 ∨ kd = 6))
  sn : s.size ≤ n
  p0 : p.size = 0
  hp0 : hp = false
/-- A token as the lexer makes it of a source of n bytes. -/
structure okT (n : Nat) (t : S140) : Prop where
  k0 : 0 ≤ t.f0
  k8 : t.f0 ≤ 8
  s0 : t.f0 ≠ 0 → (t.f2.size = 0 ↔ ¬ (t.f0 = 4 ∨ t.f0 = 6))
  sn : t.f2.size ≤ n
  pn : t.f3.size ≤ n
  h0 : t.f0 = 0 → t.f4 = false
end Go.Proofs.YtkpnfejfbmandaaDoor.Px
/- strings.Split at periods, over lists. -/
namespace Go.Proofs.YtkpnfejfbmandaaDoor.Px
open Go.RowKit Go.Proofs.YtkpnfejfbmandaaDoorW.PrintWords Go.Proofs.YtkpnfejfbmandaaDoorW.PrintLast Go.Proofs.YtkpnfejfbmandaaDoorW.PrintMore
set_option linter.unusedVariables false
set_option linter.unusedSimpArgs false
end Go.Proofs.YtkpnfejfbmandaaDoor.Px
/- The reference's names, paths, words and forms are those of La. -/
namespace Go.Proofs.YtkpnfejfbmandaaDoor.Px
open Go.RowKit Go.Proofs.YtkpnfejfbmandaaDoorW.PrintWords Go.Proofs.YtkpnfejfbmandaaDoorW.PrintLast Go.Proofs.YtkpnfejfbmandaaDoorW.PrintMore
set_option linter.unusedVariables false
set_option linter.unusedSimpArgs false
end Go.Proofs.YtkpnfejfbmandaaDoor.Px
/- The reference's form tells what dirF tells; the reference's Lex what lexF tells. -/
namespace Go.Proofs.YtkpnfejfbmandaaDoor.Px
open Go.RowKit Go.Proofs.YtkpnfejfbmandaaDoorW.PrintWords Go.Proofs.YtkpnfejfbmandaaDoorW.PrintLast Go.Proofs.YtkpnfejfbmandaaDoorW.PrintMore
set_option linter.unusedVariables false
set_option linter.unusedSimpArgs false
end Go.Proofs.YtkpnfejfbmandaaDoor.Px
/- The reference's Lex tells what lexS tells. -/
namespace Go.Proofs.YtkpnfejfbmandaaDoor.Px
open Go.RowKit Go.Proofs.YtkpnfejfbmandaaDoorW.PrintWords Go.Proofs.YtkpnfejfbmandaaDoorW.PrintLast Go.Proofs.YtkpnfejfbmandaaDoorW.PrintMore
set_option linter.unusedVariables false
set_option linter.unusedSimpArgs false
def tokR (x : T5) : S140 := ⟨x.2.1, x.1, ⟨x.2.2.1.toArray⟩, ⟨x.2.2.2.1.toArray⟩, x.2.2.2.2⟩
end Go.Proofs.YtkpnfejfbmandaaDoor.Px
