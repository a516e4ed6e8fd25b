import Derived.Test.YtgdpojleejdfaaaDoorRTMd
import Derived.Test.YtgdpojleejdfaaaDoorRTPx0
import Derived.Test.YtgdpojleejdfaaaDoorRTMl
import Derived.Test.YtgdpojleejdfaaaDoorRTMr
import Derived.Test.YtgdpojleejdfaaaDoorRTPx1
/- Merged texts: Fr Tk Lm Ln. -/
/- The reference's Format is lex.Format. -/
namespace Go.Proofs.YtgdpojleejdfaaaDoor.Px
open Go.RowKit Go.Proofs.YtgdpojleejdfaaaDoorW.PrintWords Go.Proofs.YtgdpojleejdfaaaDoorW.PrintLast Go.Proofs.YtgdpojleejdfaaaDoorW.PrintMore
set_option linter.unusedVariables false
set_option linter.unusedSimpArgs false
/-- A token as the lexer makes it. -/
structure OkTok (x : Int × ByteArray × ByteArray × Bool) : Prop where
  k0 : 0 ≤ x.1
  k8 : x.1 ≤ 8
  s0 : x.1 ≠ 0 → (x.2.1.size = 0 ↔ ¬ (x.1 = 4 ∨ x.1 = 6))
  sn : x.2.1.size ≤ 5000
  pn : x.2.2.1.size ≤ 5000
  h0 : x.1 = 0 → x.2.2.2 = false
end Go.Proofs.YtgdpojleejdfaaaDoor.Px
/- Facts of lexed tokens; the reference lexer's answer. -/
namespace Go.Proofs.YtgdpojleejdfaaaDoor.Px
open Go.RowKit Go.Proofs.YtgdpojleejdfaaaDoorW.PrintWords Go.Proofs.YtgdpojleejdfaaaDoorW.PrintLast Go.Proofs.YtgdpojleejdfaaaDoorW.PrintMore
set_option linter.unusedVariables false
set_option linter.unusedSimpArgs false
theorem dirK_named {k : Int} {ws : List (List UInt8)} {t : T4} (e : dirK k ws = (0, t)) : t.2.1 = [] ↔ named t.1 = false := by
  unfold dirK at e
  split at e
  · rename_i hn
    match ws, e with
    | [], e => simp at e
    | s :: r, e =>
      try dsimp only at e
      split at e
      · simp at e
      · obtain ⟨h1, h2, _, h4, _⟩ := dirP_ok e
        have hs := nameL_ne (h4 hn)
        rw [h1, h2, hn]
        exact ⟨fun h => absurd h hs, fun h => by cases h⟩
  · rename_i hn
    obtain ⟨h1, h2, _⟩ := dirP_ok e
    rw [h1, h2]
    exact ⟨fun _ => by simpa using hn, fun _ => rfl⟩
theorem dirF_named {ws : List (List UInt8)} {t : T4} (e : dirF ws = (0, t)) : t.2.1 = [] ↔ named t.1 = false := by
  unfold dirF at e
  match ws, e with
  | [], e => simp at e
  | w :: r, e =>
    try dsimp only at e
    split at e
    · exact dirK_named e
    · split at e
      · exact dirK_named e
      · simp at e
/-- Kinds of lexed tokens. -/
structure KOk (d : T4) : Prop where
  k0 : 0 ≤ d.1
  k8 : d.1 ≤ 8
  s0 : d.1 ≠ 0 → (d.2.1 = [] ↔ named d.1 = false)
  h0 : d.1 = 0 → d.2.2.2 = false
theorem lexS_kOk : ∀ (n p : Nat) (s : List UInt8) (l : List T5), s.length ≤ n → lexS p s = .ok l → ∀ x ∈ l, KOk x.2
  | n, p, s, l, hn, e => by
    have htx : ∀ p t, ∀ x ∈ txtT p t, KOk x.2 := fun p t x hx => by
      unfold txtT at hx
      split at hx
      · cases hx
      · rw [List.mem_singleton.1 hx]
        exact ⟨Int.le_refl _, (by decide : (0 : Int) ≤ 8), fun h => absurd rfl h, fun _ => rfl⟩
    cases way s with
    | text _ h => rw [lexS_text h] at e; cases e; exact htx _ _
    | open_ t r h hr => rw [lexS_open h hr] at e; cases e
    | dir t u r h hu =>
      obtain ⟨d, l', hd, hl', rfl⟩ := lexS_dirOk h hu e
      cases n with
      | zero => simp at hn
      | succ n =>
        have ih := lexS_kOk n _ r l' (by simp at hn; omega) hl'
        intro x hx
        rcases List.mem_append.1 hx with hx | hx
        · exact htx _ _ x hx
        · rcases List.mem_cons.1 hx with rfl | hx
          · have h := dirF_kind hd
            exact ⟨by show 0 ≤ d.1; omega, h.2, fun _ => dirF_named hd, fun h0 => by have h1 : d.1 = 0 := h0; omega⟩
          · exact ih x hx
end Go.Proofs.YtgdpojleejdfaaaDoor.Px
/- The walk of tmplpipelaw11.LexMatchesReference. -/
namespace Go.Proofs.YtgdpojleejdfaaaDoor.Px
open Go.RowKit Go.Proofs.YtgdpojleejdfaaaDoorW.PrintWords Go.Proofs.YtgdpojleejdfaaaDoorW.PrintLast Go.Proofs.YtgdpojleejdfaaaDoorW.PrintMore
set_option linter.unusedVariables false
set_option linter.unusedSimpArgs false
attribute [local go_sem high] eqA28
theorem rd_map47 (L : List T5) (i : Nat) (h : i < L.length) : rd_T47 (L.map tokR) (i : Int) = tokR L[i] := by
  simp [rd_T47, List.getD_eq_getElem?_getD, h]
end Go.Proofs.YtgdpojleejdfaaaDoor.Px
/- The walk of tmplpipelaw11.LexMatchesReference. -/
namespace Go.Proofs.YtgdpojleejdfaaaDoor.Px
open Go.RowKit Go.Proofs.YtgdpojleejdfaaaDoorW.PrintWords Go.Proofs.YtgdpojleejdfaaaDoorW.PrintLast Go.Proofs.YtgdpojleejdfaaaDoorW.PrintMore
set_option linter.unusedVariables false
set_option linter.unusedSimpArgs false
/-- Both lexers' answer. -/
theorem lex_both (s : ByteArray) (hs : s.size ≤ 5000) : ∃ (L : List T5) (N E : Int), lexF s = (L.map tokS, N, E) ∧ outR s [] (lexS 0 s.data.toList) = (L.map tokR, N, E) ∧ (∀ x ∈ L, KOk x.2 ∧ x.2.2.1.length ≤ 5000 ∧ x.2.2.2.1.length ≤ 5000) := by
  rw [lexF_small (by omega)]
  cases h : lexS 0 s.data.toList with
  | ok L =>
    refine ⟨L, s.size, 0, rfl, by simp [outR], fun x hx => ?_⟩
    have h1 := lexS_kOk _ 0 _ L (Nat.le_refl _) h x hx
    have h2 := lexS_small 5000 _ 0 _ L (Nat.le_refl _) (by rw [data_length]; exact hs) h x hx
    exact ⟨h1, h2.1, h2.2⟩
  | error x =>
    obtain ⟨q, e⟩ := x
    exact ⟨[], q, e, rfl, rfl, fun x hx => by cases hx⟩
structure LnI (L : List T5) (A : Option Addr) (B : Option Addr) (w wr : World) : Prop where
  a : Kd.C k28 wr A L.length (L.map tokS)
  b : Kd.C k47 wr B L.length (L.map tokR)
  below : Below w.heap.size w wr
end Go.Proofs.YtgdpojleejdfaaaDoor.Px
