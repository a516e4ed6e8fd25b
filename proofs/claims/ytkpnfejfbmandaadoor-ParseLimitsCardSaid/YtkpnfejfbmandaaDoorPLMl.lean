import Derived.Test.YtkpnfejfbmandaaDoorPLPx0
import Derived.Test.YtkpnfejfbmandaaDoorPLPx1
import Derived.Test.YtkpnfejfbmandaaDoorPLMd
import Derived.Test.YtkpnfejfbmandaaDoorPLMr
import Derived.Test.YtkpnfejfbmandaaDoorPLMu
/- Merged texts: Al Of Or Oc Ow Fl. -/
/- tmplpipelaw11's example holds; small laws on lexF. -/
namespace Go.Proofs.YtkpnfejfbmandaaDoor.Px
open Go.RowKit Go.Proofs.YtkpnfejfbmandaaDoorW.PrintWords Go.Proofs.YtkpnfejfbmandaaDoorW.PrintLast Go.Proofs.YtkpnfejfbmandaaDoorW.PrintMore
theorem lexF_small {s : ByteArray} (h : s.size ≤ 65536) : lexF s = lexR s (lexS 0 s.data.toList) := if_neg (by omega)
end Go.Proofs.YtkpnfejfbmandaaDoor.Px
/- Where the tokens of lexS stand. -/
namespace Go.Proofs.YtkpnfejfbmandaaDoor.Px
open Go.RowKit Go.Proofs.YtkpnfejfbmandaaDoorW.PrintWords Go.Proofs.YtkpnfejfbmandaaDoorW.PrintLast Go.Proofs.YtkpnfejfbmandaaDoorW.PrintMore
set_option linter.unusedVariables false
set_option linter.unusedSimpArgs false
/-- The tokens stand behind lo, in D; pt: the one before was a text. -/
def OffsOk (D : List UInt8) : Nat → Bool → List T5 → Prop
  | _, _, [] => True
  | lo, pt, x :: xs => lo ≤ x.1 ∧ x.1 < D.length ∧ (x.2.1 = 0 → pt = false ∧ ∃ r, D.drop x.1 = x.2.2.1 ++ r) ∧ (x.2.1 ≠ 0 → ∃ r, D.drop x.1 = 123 :: r) ∧ OffsOk D (x.1 + 1) (x.2.1 == 0) xs
/-- What the i-th token tells. -/
theorem OffsOk.at_ {D : List UInt8} : ∀ {l : List T5} {lo : Nat} {pt : Bool}, OffsOk D lo pt l → ∀ (i : Nat) (h : i < l.length), l[i].1 < D.length ∧ (l[i].2.1 = 0 → ∃ r, D.drop l[i].1 = l[i].2.2.1 ++ r) ∧ (l[i].2.1 ≠ 0 → ∃ r, D.drop l[i].1 = 123 :: r)
  | x :: xs, lo, pt, h, 0, hi => ⟨h.2.1, fun e => (h.2.2.1 e).2, h.2.2.2.1⟩
  | x :: xs, lo, pt, h, i + 1, hi => h.2.2.2.2.at_ i (by simpa using hi)
theorem OffsOk.next {D : List UInt8} : ∀ {l : List T5} {lo : Nat} {pt : Bool}, OffsOk D lo pt l → ∀ (i : Nat) (h : i + 1 < l.length), l[i].1 < l[i + 1].1 ∧ ¬ (l[i].2.1 = 0 ∧ l[i + 1].2.1 = 0)
  | x :: y :: xs, lo, pt, h, 0, hi => by
    obtain ⟨_, _, _, _, h2⟩ := h
    refine ⟨h2.1, fun e => ?_⟩
    have h3 := (h2.2.2.1 e.2).1
    rw [beq_eq_false_iff_ne] at h3
    exact h3 e.1
  | x :: xs, lo, pt, h, i + 1, hi => h.2.2.2.2.next i (by simpa using hi)
end Go.Proofs.YtkpnfejfbmandaaDoor.Px
/- The canonical source of tokens has these tokens. -/
namespace Go.Proofs.YtkpnfejfbmandaaDoor.Px
open Go.RowKit Go.Proofs.YtkpnfejfbmandaaDoorW.PrintWords Go.Proofs.YtkpnfejfbmandaaDoorW.PrintLast Go.Proofs.YtkpnfejfbmandaaDoorW.PrintMore
set_option linter.unusedVariables false
set_option linter.unusedSimpArgs false
/-- The keyword of a kind; the canonical words of a directive; a token's canonical source. -/
def kwL (k : Int) : List (List UInt8) := match (kwList.find? (fun p => p.2 == k)).map (·.1) with | none => [] | some s => [s]
def wordsOf (d : T4) : List (List UInt8) := kwL d.1 ++ ((if d.2.1 = [] then [] else [d.2.1]) ++ (if d.2.2.2 = true then [46 :: d.2.2.1] else []))
structure DOk (d : T4) : Prop where
  ne : d.1 ≠ 0
  dir : dirF (fieldsG (Lib.join (wordsOf d) [32]) []) = (0, d)
  no : noPair 125 (Lib.join (wordsOf d) [32] ++ [125])
end Go.Proofs.YtkpnfejfbmandaaDoor.Px
/- The tokens of two sources in sequence. -/
namespace Go.Proofs.YtkpnfejfbmandaaDoor.Px
open Go.RowKit Go.Proofs.YtkpnfejfbmandaaDoorW.PrintWords Go.Proofs.YtkpnfejfbmandaaDoorW.PrintLast Go.Proofs.YtkpnfejfbmandaaDoorW.PrintMore
set_option linter.unusedVariables false
set_option linter.unusedSimpArgs false
end Go.Proofs.YtkpnfejfbmandaaDoor.Px
/- The walk of tmplpipelaw11.LexOffsets. -/
namespace Go.Proofs.YtkpnfejfbmandaaDoor.Px
open Go.RowKit Go.Proofs.YtkpnfejfbmandaaDoorW.PrintWords Go.Proofs.YtkpnfejfbmandaaDoorW.PrintLast Go.Proofs.YtkpnfejfbmandaaDoorW.PrintMore
set_option linter.unusedVariables false
set_option linter.unusedSimpArgs false
/-- What is known of the i-th token of a source. -/
structure TkAt (s : ByteArray) (x : T5) : Prop where
  lt : x.1 < s.size
  txt : x.2.1 = 0 → x.1 + x.2.2.1.length ≤ s.size ∧ s.extract x.1 (x.1 + x.2.2.1.length) = ⟨x.2.2.1.toArray⟩
  dir : x.2.1 ≠ 0 → bt s x.1 = 123
end Go.Proofs.YtkpnfejfbmandaaDoor.Px
/- Canonical sources of tokens as bytes. -/
namespace Go.Proofs.YtkpnfejfbmandaaDoor.Px
open Go.RowKit Go.Proofs.YtkpnfejfbmandaaDoorW.PrintWords Go.Proofs.YtkpnfejfbmandaaDoorW.PrintLast Go.Proofs.YtkpnfejfbmandaaDoorW.PrintMore
set_option linter.unusedVariables false
set_option linter.unusedSimpArgs false
end Go.Proofs.YtkpnfejfbmandaaDoor.Px
