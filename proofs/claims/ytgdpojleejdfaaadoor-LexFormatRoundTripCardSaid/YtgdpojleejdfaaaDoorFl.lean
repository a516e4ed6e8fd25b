/- Canonical sources of tokens as bytes. -/
import Derived.Test.YtgdpojleejdfaaaDoorOr
import Derived.Test.YtgdpojleejdfaaaDoorOw
import Derived.Test.YtgdpojleejdfaaaDoorLf
namespace Go.Proofs.YtgdpojleejdfaaaDoor.Px
open Go.RowKit Go.Proofs.YtgdpojleejdfaaaDoorW.PrintWords Go.Proofs.YtgdpojleejdfaaaDoorW.PrintLast Go.Proofs.YtgdpojleejdfaaaDoorW.PrintMore
set_option linter.unusedVariables false
set_option linter.unusedSimpArgs false

theorem byteList (x : ByteArray) {l : List UInt8} (h : x.data.toList = l) : x = ⟨l.toArray⟩ := by
  obtain ⟨⟨d⟩⟩ := x
  simp only at h
  rw [h]
theorem bytes_app (a b : List UInt8) : (⟨a.toArray⟩ : ByteArray) ++ ⟨b.toArray⟩ = ⟨(a ++ b).toArray⟩ := by
  apply byteList
  simp
theorem bytes_size (a : List UInt8) : (⟨a.toArray⟩ : ByteArray).size = a.length := List.size_toArray ..
/-- lex.Format at a token. -/
theorem fmtTok_is (d : T4) : fmtTok d.1 ⟨d.2.1.toArray⟩ ⟨d.2.2.1.toArray⟩ d.2.2.2 = ⟨(fmtD d).toArray⟩ := by
  apply byteList
  unfold fmtTok fmtD
  split
  · rfl
  · have hw : (tokWords d.1 ⟨d.2.1.toArray⟩ ⟨d.2.2.1.toArray⟩ d.2.2.2).map (·.data.toList) = wordsOf d := by
      unfold tokWords wordsOf kwWords kwOf kwL
      rw [ByteArray.toList_eq]
      cases (kwList.find? fun p => p.2 == d.1).map (·.1) with
      | none => by_cases h1 : d.2.1 = [] <;> by_cases h2 : d.2.2.2 = true <;> simp [h1, h2]
      | some s => by_cases h1 : d.2.1 = [] <;> by_cases h2 : d.2.2.2 = true <;> simp [h1, h2]
    unfold joinB
    rw [hw]
    simp
theorem format_any (d : T4) (at_ : Int) (w : World) (h1 : d.2.1.length ≤ 1099511627776) (h2 : d.2.2.1.length ≤ 1099511627776) :
    Calls Tryd.prog 25 #[.agg #[.int .i64 d.1, .int .i64 at_, .string ⟨d.2.1.toArray⟩, .string ⟨d.2.2.1.toArray⟩, .bool d.2.2.2]] w fun e w' => e = .returned (.string ⟨(fmtD d).toArray⟩) ∧ Below w.heap.size w w' := by
  have h := lex_Format_any d.1 at_ ⟨d.2.1.toArray⟩ ⟨d.2.2.1.toArray⟩ d.2.2.2 w (by rw [bytes_size]; exact h1) (by rw [bytes_size]; exact h2)
  rw [fmtTok_is] at h
  exact h
/-- Small tokens. -/
def SmallT (N : Nat) (l : List T5) : Prop := ∀ x ∈ l, x.2.2.1.length ≤ N ∧ x.2.2.2.1.length ≤ N
theorem dirF_small {N : Nat} {ws : List (List UInt8)} {t : T4} (e : dirF ws = (0, t)) (h : ∀ w ∈ ws, w.length ≤ N) : t.2.1.length ≤ N ∧ t.2.2.1.length ≤ N := by
  obtain ⟨h1, h2, h3⟩ := dirF_words e
  have hp : t.2.2.2 = false → t.2.2.1 = [] := by
    have hK : ∀ k ws, dirK k ws = (0, t) → t.2.2.2 = false → t.2.2.1 = [] := fun k ws e => by
      unfold dirK at e
      split at e
      · match ws, e with
        | [], e => simp at e
        | w :: r, e =>
          try dsimp only at e
          split at e
          · simp at e
          · exact fun h => ((dirP_ok e).2.2.2.2.2.1 h).2
      · exact fun h => ((dirP_ok e).2.2.2.2.2.1 h).2
    unfold dirF at e
    match ws, e with
    | [], e => simp at e
    | w :: r, e =>
      try dsimp only at e
      split at e
      · exact hK _ _ e
      · split at e
        · exact hK _ _ e
        · simp at e
  rw [h1] at h
  refine ⟨?_, ?_⟩
  · by_cases hs : t.2.1 = []
    · rw [hs]; exact Nat.zero_le _
    · exact h _ (by unfold wordsOf; rw [if_neg hs]; simp)
  · cases hb : t.2.2.2 with
    | false => rw [hp hb]; exact Nat.zero_le _
    | true =>
      have := h (46 :: t.2.2.1) (by unfold wordsOf; rw [if_pos hb]; simp)
      simp at this; omega
theorem fieldsG_small : ∀ (u cur : List UInt8), ∀ w ∈ fieldsG u cur, w.length ≤ u.length + cur.length
  | [], cur, w, hw => by
    unfold fieldsG wordCons at hw
    split at hw
    · cases hw
    · rw [List.mem_singleton.1 hw]; simp
  | b :: u, cur, w, hw => by
    rw [fieldsG] at hw
    split at hw
    · unfold wordCons at hw
      split at hw
      · have := fieldsG_small u [] w hw; simp at this ⊢; omega
      · rcases List.mem_cons.1 hw with rfl | hw
        · simp
        · have := fieldsG_small u [] w hw; simp at this ⊢; omega
    · have := fieldsG_small u _ w hw; simp at this ⊢; omega
theorem lexS_small (N : Nat) : ∀ (n p : Nat) (s : List UInt8) (l : List T5), s.length ≤ n → s.length ≤ N → lexS p s = .ok l → SmallT N l
  | n, p, s, l, hn, hN, e => by
    cases way s with
    | text _ h =>
      rw [lexS_text h] at e
      cases e
      unfold txtT
      split
      · intro x hx; cases hx
      · intro x hx; rw [List.mem_singleton.1 hx]; exact ⟨hN, Nat.zero_le _⟩
    | open_ t r h hr => rw [lexS_open h hr] at e; cases e
    | dir t u r h hu =>
      obtain ⟨d, l', hd, hl', rfl⟩ := lexS_dirOk h hu e
      cases n with
      | zero => simp at hn
      | succ n =>
        have ih := lexS_small N n _ r l' (by simp at hn; omega) (by simp at hN; omega) hl'
        have hds := dirF_small (N := N) hd (fun w hw => by have := fieldsG_small u [] w hw; simp at this hN; omega)
        intro x hx
        rw [List.mem_append] at hx
        rcases hx with hx | hx
        · unfold txtT at hx
          split at hx
          · cases hx
          · rw [List.mem_singleton.1 hx]; exact ⟨by simp at hN; show t.length ≤ N; omega, Nat.zero_le _⟩
        · rcases List.mem_cons.1 hx with rfl | hx
          · exact hds
          · exact ih x hx
theorem fmtAll_take (l : List T5) (i : Nat) (h : i < l.length) : fmtAll (l.take (i + 1)) = fmtAll (l.take i) ++ fmtD l[i].2 := by
  unfold fmtAll
  rw [List.take_succ_eq_append_getElem h, List.flatMap_append, List.flatMap_singleton]
theorem fmtAll_take_le (l : List T5) (i : Nat) : (fmtAll (l.take i)).length ≤ (fmtAll l).length := by
  have e : fmtAll l = fmtAll (l.take i) ++ fmtAll (l.drop i) := by
    unfold fmtAll
    rw [← List.flatMap_append, List.take_append_drop]
  rw [e, List.length_append]; omega
theorem retime_len : ∀ (p : Nat) (l : List T5), (retime p l).length = l.length
  | _, [] => rfl
  | p, x :: xs => by simp [retime, retime_len _ xs]
theorem retime_at {p : Nat} {l : List T5} (i : Nat) (h : i < l.length) : ((retime p l)[i]'(by rw [retime_len]; exact h)).2 = l[i].2 := by
  have := congrArg (·[i]?) (retime_parts p l)
  simp only [List.getElem?_map] at this
  rw [List.getElem?_eq_getElem h, List.getElem?_eq_getElem (by rw [retime_len]; exact h)] at this
  simpa using this
end Go.Proofs.YtgdpojleejdfaaaDoor.Px
