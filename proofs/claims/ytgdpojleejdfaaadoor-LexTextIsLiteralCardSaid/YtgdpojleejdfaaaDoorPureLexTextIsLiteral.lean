/- The pure statement of LexTextIsLiteral. -/
import Derived.Test.YtgdpojleejdfaaaDoorPy3
import Derived.Test.YtgdpojleejdfaaaDoorAl
namespace Go.Proofs.YtgdpojleejdfaaaDoor.Pure
open Go.RowKit Go.Proofs.YtgdpojleejdfaaaDoor.Px Go.Proofs.YtgdpojleejdfaaaDoorW.PrintWords Go.Proofs.YtgdpojleejdfaaaDoorW.PrintLast

theorem noPair_short {s : List UInt8} (h : s.length ≤ 1) : noPair 123 s := by
  match s, h with
  | [], _ => trivial
  | [a], _ => trivial
theorem lit_end (s : ByteArray) (hs : s.size ≤ 5000) (hn : noPair 123 s.data.toList) (k : Nat) (i : Int) (h : ¬ (wrap64 (i + 1) < (s.size : Int))) : tmplpipelaw11_LexTextIsLiteral.l0 (k + 1) s i = some true := by
  simp only [tmplpipelaw11_LexTextIsLiteral.l0]
  rw [if_neg h]
  have hL : lexF s = ((txtT 0 s.data.toList).map tokS, (s.size : Int), 0) := by
    unfold lexF
    rw [if_neg (by omega), lexS_text hn]; rfl
  unfold lex_Lex.f
  rw [hL]
  simp only [Option.bind_some]
  rw [alive_true]
  simp only [Option.bind_some, if_true]
  rw [ByteArray.toList_eq]
  by_cases h0 : s.data.toList = []
  · have hz : s.size = 0 := by rw [← data_length, h0]; rfl
    rw [if_pos h0, h0]
    simp [txtT, hz]
  · rw [if_neg h0]
    unfold txtT
    rw [if_neg h0]
    simp [tokS, rd_T28, ByteArray.toList_eq]
theorem lit_loop (s : ByteArray) (hs : s.size ≤ 5000) : ∀ (m : Nat) (i : Nat), s.size ≤ i + m → i ≤ s.size → (noPair 123 (s.data.toList.drop i) → noPair 123 s.data.toList) → ∃ k, tmplpipelaw11_LexTextIsLiteral.l0 k s i = some true
  | 0, i, hm, hi, hn => by
    have hw : wrap64 ((i : Int) + 1) = (i : Int) + 1 := w64L (by omega) (by omega)
    exact ⟨1, lit_end s hs (hn (noPair_short (by rw [List.length_drop, data_length]; omega))) 0 i (by rw [hw]; omega)⟩
  | m + 1, i, hm, hi, hn => by
    have hw : wrap64 ((i : Int) + 1) = (i : Int) + 1 := w64L (by omega) (by omega)
    by_cases hl : (i : Int) + 1 < (s.size : Int)
    case neg => exact ⟨1, lit_end s hs (hn (noPair_short (by rw [List.length_drop, data_length]; omega))) 0 i (by rw [hw]; exact hl)⟩
    obtain ⟨a, q, e1, e2, e3⟩ := drop_btL s (i : Int) (by omega) (by omega)
    obtain ⟨b, q', e4, e5, e6⟩ := drop_btL s ((i : Int) + 1) (by omega) hl
    have hq : q = b :: q' := by rw [← e3, e4]
    have hd : s.data.toList.drop i = a :: b :: q' := by rw [← hq, ← e1]; rfl
    have hd1 : s.data.toList.drop (i + 1) = b :: q' := by rw [← e4]; rfl
    have eqc := b123
    by_cases hab : a = 123 ∧ b = 123
    · refine ⟨1, ?_⟩
      simp only [tmplpipelaw11_LexTextIsLiteral.l0, hw]
      rw [if_pos hl, if_pos (by omega), if_pos (by omega), e2, if_pos ((eqc a).2 hab.1), if_pos (by omega), e5, if_pos ((eqc b).2 hab.2), alive_true]
      rfl
    · obtain ⟨k, hk⟩ := lit_loop s hs m (i + 1) (by omega) (by omega) (fun h => hn (by rw [hd]; rw [hd1] at h; exact ⟨hab, h⟩))
      refine ⟨k + 1, ?_⟩
      simp only [tmplpipelaw11_LexTextIsLiteral.l0, hw]
      rw [if_pos hl, if_pos (by omega), if_pos (by omega), e2]
      have hk' : tmplpipelaw11_LexTextIsLiteral.l0 k s ((i : Int) + 1) = some true := hk
      by_cases ha : a = 123
      · rw [if_pos ((eqc a).2 ha), if_pos (by omega), e5, if_neg (fun h => hab ⟨ha, (eqc b).1 h⟩)]; exact hk'
      · rw [if_neg (fun h => ha ((eqc a).1 h))]; exact hk'
theorem LexTextIsLiteral : tmplpipelaw11_LexTextIsLiteral.Pure := by
  intro s _
  unfold tmplpipelaw11_LexTextIsLiteral.f
  by_cases h : (s.size : Int) > 5000
  · refine ⟨0, ?_⟩
    rw [if_pos h, alive_true]; rfl
  · obtain ⟨k, hk⟩ := lit_loop s (by omega) s.size 0 (by omega) (Nat.zero_le _) (fun h => h)
    exact ⟨k, by rw [if_neg h]; exact hk⟩
end Go.Proofs.YtgdpojleejdfaaaDoor.Pure
