/- lex.Lex and lex.Format in the printer's form. -/
import Derived.Test.YtgdpojleejdfaaaDoorLx
import Derived.Test.YtgdpojleejdfaaaDoorLf
namespace Go.Proofs.YtgdpojleejdfaaaDoor.Px
open Go.RowKit Go.Proofs.YtgdpojleejdfaaaDoorW.PrintWords Go.Proofs.YtgdpojleejdfaaaDoorW.PrintLast Go.Proofs.YtgdpojleejdfaaaDoorW.PrintMore
set_option linter.unusedVariables false
set_option linter.unusedSimpArgs false

/-- What the package-level variables that the lexer reads hold. -/
structure GS (w : World) : Prop where
  g : Glob w
  s : Shapes w
theorem GS.below {w w1 : World} (h : GS w) (hb : Below w.heap.size w w1) : GS w1 := ⟨h.g.below hb, h.s.below hb⟩
def lex_Lex.f (a0 : ByteArray) : Option (List S28 × Int × Int) := some (lexF a0)
theorem lex_Lex.calls (a0 : ByteArray) (r1 : List S28) (r2 r3 : Int) (w : World) (hG_ : GS w) (h : lex_Lex.f a0 = some (r1, r2, r3)) :
    Calls Tryd.prog 15 #[.string a0] w fun e w' => ∃ v0_ : Value, e = .returned (.tuple #[v0_, .int .i64 r2, .int .i64 r3]) ∧ Kd.R k28 28 w' w.heap.size (fun _ => True) v0_ r1 ∧ Below w.heap.size w w' := by
  have h := Option.some.inj h
  have hL := lex_any a0 w hG_.g hG_.s
  rw [h] at hL
  exact hL
def lex_Format.f (a0 a1 : Int) (a2 a3 : ByteArray) (a4 : Bool) : Option ByteArray := if a2.size ≤ 1099511627776 ∧ a3.size ≤ 1099511627776 then some (fmtTok a0 a2 a3 a4) else none
theorem lex_Format.calls (a0_0 a0_1 : Int) (a0_2 a0_3 : ByteArray) (a0_4 : Bool) (r : ByteArray) (w : World) (h : lex_Format.f a0_0 a0_1 a0_2 a0_3 a0_4 = some r) :
    Calls Tryd.prog 25 #[.agg #[.int .i64 a0_0, .int .i64 a0_1, .string a0_2, .string a0_3, .bool a0_4]] w fun e w' => e = .returned (.string r) ∧ Below w.heap.size w w' := by
  unfold lex_Format.f at h
  split at h
  · rename_i hc
    cases h
    exact lex_Format_any a0_0 a0_1 a0_2 a0_3 a0_4 w hc.1 hc.2
  · cases h
end Go.Proofs.YtgdpojleejdfaaaDoor.Px
