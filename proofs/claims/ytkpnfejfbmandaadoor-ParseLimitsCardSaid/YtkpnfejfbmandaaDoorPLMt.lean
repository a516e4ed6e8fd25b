import Derived.Test.YtkpnfejfbmandaaDoorPLMd
import Derived.Test.YtkpnfejfbmandaaDoorPLPx0
import Derived.Test.YtkpnfejfbmandaaDoorPLMl
import Derived.Test.YtkpnfejfbmandaaDoorPLMr
import Derived.Test.YtkpnfejfbmandaaDoorPLPx1
/- Merged texts: Fr Tk Lm Ln. -/
/- The reference's Format is lex.Format. -/
namespace Go.Proofs.YtkpnfejfbmandaaDoor.Px
open Go.RowKit Go.Proofs.YtkpnfejfbmandaaDoorW.PrintWords Go.Proofs.YtkpnfejfbmandaaDoorW.PrintLast Go.Proofs.YtkpnfejfbmandaaDoorW.PrintMore
set_option linter.unusedVariables false
set_option linter.unusedSimpArgs false
/-- A token as the lexer makes it. -/
structure OkTok (x : Int × ByteArray × ByteArray × Bool) : Prop where
  k0 : 0 ≤ x.1
  k8 : x.1 ≤ 8
  s0 : x.1 ≠ 0 → (x.2.1.size = 0 ↔ ¬ (x.1 = 4 ∨ x.1 = 6))
  sn : x.2.1.size ≤ 5000
  pn : x.2.2.1.size ≤ 5000
  h0 : x.1 = 0 → x.2.2.2 = false
end Go.Proofs.YtkpnfejfbmandaaDoor.Px
/- Facts of lexed tokens; the reference lexer's answer. -/
namespace Go.Proofs.YtkpnfejfbmandaaDoor.Px
open Go.RowKit Go.Proofs.YtkpnfejfbmandaaDoorW.PrintWords Go.Proofs.YtkpnfejfbmandaaDoorW.PrintLast Go.Proofs.YtkpnfejfbmandaaDoorW.PrintMore
set_option linter.unusedVariables false
set_option linter.unusedSimpArgs false
/-- Kinds of lexed tokens. -/
structure KOk (d : T4) : Prop where
  k0 : 0 ≤ d.1
  k8 : d.1 ≤ 8
  s0 : d.1 ≠ 0 → (d.2.1 = [] ↔ named d.1 = false)
  h0 : d.1 = 0 → d.2.2.2 = false
end Go.Proofs.YtkpnfejfbmandaaDoor.Px
/- The walk of tmplpipelaw11.LexMatchesReference. -/
namespace Go.Proofs.YtkpnfejfbmandaaDoor.Px
open Go.RowKit Go.Proofs.YtkpnfejfbmandaaDoorW.PrintWords Go.Proofs.YtkpnfejfbmandaaDoorW.PrintLast Go.Proofs.YtkpnfejfbmandaaDoorW.PrintMore
set_option linter.unusedVariables false
set_option linter.unusedSimpArgs false
attribute [local go_sem high] eqA28
end Go.Proofs.YtkpnfejfbmandaaDoor.Px
/- The walk of tmplpipelaw11.LexMatchesReference. -/
namespace Go.Proofs.YtkpnfejfbmandaaDoor.Px
open Go.RowKit Go.Proofs.YtkpnfejfbmandaaDoorW.PrintWords Go.Proofs.YtkpnfejfbmandaaDoorW.PrintLast Go.Proofs.YtkpnfejfbmandaaDoorW.PrintMore
set_option linter.unusedVariables false
set_option linter.unusedSimpArgs false
structure LnI (L : List T5) (A : Option Addr) (B : Option Addr) (w wr : World) : Prop where
  a : Kd.C k76 wr A L.length (L.map tokS)
  b : Kd.C k140 wr B L.length (L.map tokR)
  below : Below w.heap.size w wr
end Go.Proofs.YtkpnfejfbmandaaDoor.Px
