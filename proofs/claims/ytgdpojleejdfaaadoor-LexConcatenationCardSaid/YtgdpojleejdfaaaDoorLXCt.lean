import Derived.Test.YtgdpojleejdfaaaDoorLXPy5
import Derived.Test.YtgdpojleejdfaaaDoorLXMl
/- Lists of tokens one after the other. -/
namespace Go.Proofs.YtgdpojleejdfaaaDoor.Px
set_option linter.unusedVariables false
set_option linter.unusedSimpArgs false
open Go.RowKit Go.Proofs.YtgdpojleejdfaaaDoorW.PrintWords Go.Proofs.YtgdpojleejdfaaaDoorW.PrintLast
theorem tok_refl (l : List S28) (hl : l.length ≤ 100000) : ∀ m i k : Nat, l.length ≤ i + m → i ≤ l.length → m < k → lex_Token.l0 k l l (l.length : Int) (i : Int) = some true
  | m, i, 0, _, _, hk => by omega
  | m, i, k + 1, hm, hi, hk => by
    unfold lex_Token.l0
    by_cases h : (i : Int) < (l.length : Int)
    · rw [if_pos h, if_pos (by omega), if_pos h, if_pos h]
      have hw : wrap64 ((i : Int) + 1) = ((i + 1 : Nat) : Int) := by rw [w64L (by omega) (by omega)]; rfl
      rw [if_neg (by simp), hw]
      cases m with
      | zero => omega
      | succ m => exact tok_refl l hl m (i + 1) k (by omega) (by omega) (by omega)
    · rw [if_neg h]
theorem tokF_refl (l : List S28) (hl : l.length ≤ 100000) (k : Nat) (hk : l.length < k) : lex_Token.f k l l = some true := by
  unfold lex_Token.f
  rw [if_pos rfl]
  exact tok_refl l hl l.length 0 k (by omega) (by omega) hk
theorem mergeT_snoc : ∀ (l m : List T5) (x : T5), m ≠ [] → mergeT l (m ++ [x]) = mergeT l m ++ [x]
  | [], m, x, _ => rfl
  | [a], [], x, h => absurd rfl h
  | [a], y :: ys, x, _ => by
    simp only [List.cons_append, mergeT]
    split <;> simp
  | a :: b :: l, m, x, h => by
    simp only [mergeT]
    rw [mergeT_snoc (b :: l) m x h]; rfl
theorem mergeT_last : ∀ (l : List T5) (a x : T5), mergeT (l ++ [a]) [x] = if a.2.1 = 0 ∧ x.2.1 = 0 then l ++ [(a.1, a.2.1, a.2.2.1 ++ x.2.2.1, a.2.2.2)] else l ++ [a, x]
  | [], a, x => by simp only [List.nil_append, mergeT]
  | [b], a, x => by
    simp only [List.cons_append, List.nil_append, mergeT]
    split <;> rfl
  | b :: c :: l, a, x => by
    have ih := mergeT_last (c :: l) a x
    simp only [List.cons_append, mergeT] at ih ⊢
    rw [ih]; split <;> rfl
theorem mergeT_len (l m : List T5) : (mergeT l m).length ≤ l.length + m.length := by
  induction l with
  | nil => simp [mergeT]
  | cons a l ih =>
    cases l with
    | nil =>
      cases m with
      | nil => simp [mergeT]
      | cons y ys => simp only [mergeT]; split <;> simp <;> omega
    | cons b l => simp only [mergeT, List.length_cons] at ih ⊢; omega
theorem offs_len : ∀ (n p : Nat) (s : List UInt8) (l : List T5), s.length ≤ n → lexS p s = .ok l → l.length ≤ s.length
  | n, p, s, l, hn, e => by
    cases way s with
    | text _ h =>
      rw [lexS_text h] at e; cases e
      unfold txtT; split
      · simp
      · rename_i h0; have := List.length_pos_iff.2 h0; show 1 ≤ _; omega
    | open_ t r h hr => rw [lexS_open h hr] at e; cases e
    | dir t u r h hu =>
      obtain ⟨dd, l', hd, hl', rfl⟩ := lexS_dirOk h hu e
      cases n with
      | zero => simp at hn
      | succ n =>
        have := offs_len n _ r l' (by simp at hn; omega) hl'
        have h2 : (txtT p t).length ≤ t.length := by
          unfold txtT; split
          · simp
          · rename_i h0; have := List.length_pos_iff.2 h0; show 1 ≤ _; omega
        simp only [List.length_append, List.length_cons]; omega
structure Small (s : ByteArray) (L : List T5) : Prop where
  len : L.length ≤ s.size
  at_ : ∀ x ∈ L, x.1 ≤ s.size
  txt : ∀ x ∈ L, x.2.1 = 0 → x.2.2.1.length ≤ s.size
theorem small_of {s : ByteArray} {L : List T5} (h : lexS 0 s.data.toList = .ok L) : Small s L := by
  refine ⟨by have := offs_len _ 0 _ L (Nat.le_refl _) h; rw [data_length] at this; exact this, fun x hx => ?_, fun x hx h0 => ?_⟩
  · obtain ⟨i, hi, rfl⟩ := List.getElem_of_mem hx
    exact Nat.le_of_lt (tkAt h i hi).lt
  · obtain ⟨i, hi, rfl⟩ := List.getElem_of_mem hx
    have := ((tkAt h i hi).txt h0).1
    omega
theorem suffix_is (a : ByteArray) (ha : a.size ≤ 5000) : strings_HasSuffix.f a ⟨#[123]⟩ = some (decide (a.data.toList.getLast? = some 123)) := by
  unfold strings_HasSuffix.f stringslite_HasSuffix.f
  have h1 : ((⟨#[123]⟩ : ByteArray).size : Int) = 1 := rfl
  rw [h1]
  by_cases h : (a.size : Int) ≥ 1
  case neg =>
    rw [if_neg h]
    have : a.data.toList = [] := List.eq_nil_of_length_eq_zero (by rw [data_length]; omega)
    simp [this]
  rw [if_pos h, w64L (by omega) (by omega), if_pos (by omega), if_pos (by omega)]
  simp only [Option.bind_some, Option.some.injEq]
  have e1 : (⟨#[123]⟩ : ByteArray).toList = [123] := by rw [ByteArray.toList_eq]
  have e2 : (a.extract ((a.size : Int) - 1).toNat a.size).toList = a.data.toList.drop (a.size - 1) := by
    rw [ByteArray.toList_eq, ByteArray.data_extract, Array.toList_extract]
    rw [show ((a.size : Int) - 1).toNat = a.size - 1 by omega]
    simp [List.extract, data_length]
    exact List.take_of_length_le (by rw [List.length_drop, data_length]; exact Nat.le_refl _)
  rw [e1, e2]
  rcases List.eq_nil_or_concat a.data.toList with h0 | ⟨l, z, hz⟩
  · have := congrArg List.length h0
    rw [data_length] at this
    have h3 : a.size = 0 := this
    omega
  · have hl := congrArg List.length hz
    rw [data_length] at hl
    rw [hz]
    have : a.size - 1 = l.length := by simp at hl; omega
    rw [this]
    simp
    by_cases hq : z = 123 <;> simp [hq]
theorem cat_lex {a b : ByteArray} {L M : List T5} (hsz : a.size + b.size ≤ 5000) (hlast : a.data.toList.getLast? ≠ some 123) (hL : lexS 0 a.data.toList = .ok L) (hM : lexS 0 b.data.toList = .ok M) :
    lexF (a ++ b) = ((mergeT L (shiftT a.size M)).map tokS, ((a.size + b.size : Nat) : Int), 0) := by
  rw [lexF_small (by rw [ByteArray.size_append]; omega)]
  have hsh := lexS_shift a.size _ 0 b.data.toList M (Nat.le_refl _) hM
  have hc := lexS_concat _ 0 a.data.toList b.data.toList L (shiftT a.size M) (Nat.le_refl _) hlast hL (by rw [data_length]; exact hsh)
  have hd : (a ++ b).data.toList = a.data.toList ++ b.data.toList := by simp
  rw [hd, hc]
  simp [lexR, ByteArray.size_append]
end Go.Proofs.YtgdpojleejdfaaaDoor.Px
