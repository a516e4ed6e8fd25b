/- strings.FieldsFunc at spaces tells the words of La. -/
import Derived.Test.YtgdpojleejdfaaaDoorLa
namespace Go.Proofs.YtgdpojleejdfaaaDoor.Px
open Go.RowKit Go.Proofs.YtgdpojleejdfaaaDoorW.PrintWords Go.Proofs.YtgdpojleejdfaaaDoorW.PrintLast Go.Proofs.YtgdpojleejdfaaaDoorW.PrintMore
set_option linter.unusedVariables false
set_option linter.unusedSimpArgs false

def isSp (x : Nat) : Bool := (x : Int) == 32
theorem get_list (s : ByteArray) (i : Nat) (h : i < s.size) : s.data.toList[i]? = some (s.get! i) := by
  have e : s.get! i = s[i]'h := by
    simp [ByteArray.get!, getElem!_pos, h]
    rfl
  rw [e]
  have hl : i < s.data.toList.length := by rw [data_length]; exact h
  rw [List.getElem?_eq_getElem hl]
  simp [ByteArray.getElem_eq_getElem_data]
theorem dec_high (s : ByteArray) (pos : Nat) (h : pos < s.size) (ha : 128 ≤ (s.get! pos).toNat) :
    128 ≤ (Utf8.decode s pos).1 ∧ 1 ≤ (Utf8.decode s pos).2 ∧ pos + (Utf8.decode s pos).2 ≤ s.size ∧ ∀ j, j < (Utf8.decode s pos).2 → 128 ≤ (s.get! (pos + j)).toNat := by
  rw [Lib.decode_at]
  unfold Lib.decodeN
  rw [if_neg (by omega)]
  have one : ∀ j, j < 1 → 128 ≤ (s.get! (pos + j)).toNat := fun j hj => by
    obtain rfl : j = 0 := by omega
    exact ha
  repeat' split
  all_goals refine ⟨by first | omega | (show 128 ≤ 65533; omega), by first | omega | (show 1 ≤ 1; omega), by first | omega | (show pos + 1 ≤ s.size; omega), fun j hj => ?_⟩
  all_goals first
    | exact one j hj
    | (have hj2 : j = 0 ∨ j = 1 ∨ j = 2 ∨ j = 3 := by
         simp only at hj
         omega
       rcases hj2 with rfl | rfl | rfl | rfl
       · exact ha
       all_goals first | (simp only at hj; omega))
theorem fieldsG_skip : ∀ (t r cur : List UInt8), (∀ b ∈ t, b ≠ 32) → fieldsG (t ++ r) cur = fieldsG r (cur ++ t)
  | [], r, cur, _ => by simp
  | b :: t, r, cur, h => by
    show fieldsG (b :: (t ++ r)) cur = _
    rw [fieldsG, if_neg (h b (by simp)), fieldsG_skip t r _ (fun c hc => h c (by simp [hc]))]; simp
def curOf (s : ByteArray) (pos : Nat) : Option Nat → List UInt8
  | none => []
  | some a => (s.extract a pos).data.toList
def endOf (s : ByteArray) (x : List (Nat × Nat) × Option Nat) : List (List UInt8) := (Lib.closeSpans s x).map fun y => (s.extract y.1 y.2).data.toList
theorem ext_split (s : ByteArray) (a b c : Nat) (h1 : a ≤ b) (h2 : b ≤ c) : (s.extract a b).data.toList ++ (s.extract b c).data.toList = (s.extract a c).data.toList := by
  rw [Lib.extract_data, Lib.extract_data, Lib.extract_data]
  rw [show c - a = (b - a) + (c - b) by omega, List.take_add, List.drop_drop, show a + (b - a) = b by omega]
theorem ext_len (s : ByteArray) (a b : Nat) (h1 : a ≤ b) (h2 : b ≤ s.size) : (s.extract a b).data.toList.length = b - a := by rw [data_length, ByteArray.size_extract]; omega
theorem spans_is (s : ByteArray) : ∀ (f pos : Nat) (st : Option Nat) (acc : List (Nat × Nat)), pos ≤ s.size → s.size ≤ pos + f → (∀ a, st = some a → a < pos) →
    endOf s (Lib.spansFromP isSp s f pos st acc) = (acc.map fun y => (s.extract y.1 y.2).data.toList) ++ fieldsG (s.data.toList.drop pos) (curOf s pos st) := by
  have fin : ∀ (pos : Nat) (st : Option Nat) (acc : List (Nat × Nat)), pos = s.size → (∀ a, st = some a → a < pos) → endOf s (acc, st) = (acc.map fun y => (s.extract y.1 y.2).data.toList) ++ fieldsG (s.data.toList.drop pos) (curOf s pos st) := by
    intro pos st acc hp hst
    rw [List.drop_eq_nil_of_le (by rw [data_length]; omega)]
    subst hp
    cases st with
    | none => simp [endOf, Lib.closeSpans, fieldsG, wordCons, curOf]
    | some a =>
      have hlt := hst a rfl
      have hne : ¬ (s.extract a s.size).data.toList = [] := fun e => by
        have := ext_len s a s.size (by omega) (Nat.le_refl _)
        rw [e] at this; simp at this; omega
      simp [endOf, Lib.closeSpans, fieldsG, wordCons, curOf, hne]
      omega
  intro f
  induction f with
  | zero =>
    intro pos st acc h1 h2 hst
    exact fin pos st acc (by omega) hst
  | succ f ih =>
    intro pos st acc h1 h2 hst
    by_cases hlt : pos < s.size
    case neg =>
      rw [Lib.spansFromP_end _ _ _ _ _ _ hlt]
      exact fin pos st acc (by omega) hst
    have hg := get_list s pos hlt
    have step : Lib.spansFromP isSp s (f + 1) pos st acc = if pos < s.size then (if isSp (Utf8.decode s pos).1 then
        (match st with
         | some a => Lib.spansFromP isSp s f (pos + (Utf8.decode s pos).2) none (acc ++ [(a, pos)])
         | none => Lib.spansFromP isSp s f (pos + (Utf8.decode s pos).2) none acc)
       else
        (match st with
         | some a => Lib.spansFromP isSp s f (pos + (Utf8.decode s pos).2) (some a) acc
         | none => Lib.spansFromP isSp s f (pos + (Utf8.decode s pos).2) (some pos) acc)) else (acc, st) := by
      cases st <;> rfl
    rw [step, if_pos hlt]
    clear step
    have hdrop : s.data.toList.drop pos = s.get! pos :: s.data.toList.drop (pos + 1) := by
      obtain ⟨hl, e⟩ := List.getElem?_eq_some_iff.1 hg
      rw [List.drop_eq_getElem_cons hl, e]
    -- a byte that is no space, of width k
    have skip : ∀ k, 1 ≤ k → pos + k ≤ s.size → (∀ j, j < k → s.get! (pos + j) ≠ 32) → isSp (Utf8.decode s pos).1 = false → (Utf8.decode s pos).2 = k →
        endOf s (if isSp (Utf8.decode s pos).1 = true then (match st with
         | some a => Lib.spansFromP isSp s f (pos + (Utf8.decode s pos).2) none (acc ++ [(a, pos)])
         | none => Lib.spansFromP isSp s f (pos + (Utf8.decode s pos).2) none acc)
       else
        (match st with
         | some a => Lib.spansFromP isSp s f (pos + (Utf8.decode s pos).2) (some a) acc
         | none => Lib.spansFromP isSp s f (pos + (Utf8.decode s pos).2) (some pos) acc)) = (acc.map fun y => (s.extract y.1 y.2).data.toList) ++ fieldsG (s.data.toList.drop pos) (curOf s pos st) := by
      intro k hk1 hk2 hk3 hsp hw
      rw [hw, if_neg (by rw [hsp]; decide)]
      have ht : s.data.toList.drop pos = (s.extract pos (pos + k)).data.toList ++ s.data.toList.drop (pos + k) := by
        rw [Lib.extract_data, Nat.add_sub_cancel_left, ← List.drop_drop, List.take_append_drop]
      have hn : ∀ b ∈ (s.extract pos (pos + k)).data.toList, b ≠ 32 := fun b hb => by
        obtain ⟨j, hj, e⟩ := List.getElem_of_mem hb
        have hl := ext_len s pos (pos + k) (by omega) hk2
        have hj2 : j < k := by omega
        have hx : (s.extract pos (pos + k)).data.toList[j]? = some (s.get! (pos + j)) := by
          rw [Lib.extract_data, Nat.add_sub_cancel_left, List.getElem?_take, if_pos hj2, List.getElem?_drop, get_list s _ (by omega)]
        rw [List.getElem?_eq_getElem hj, e] at hx
        rw [Option.some.inj hx]
        exact hk3 j hj2
      rw [ht, fieldsG_skip _ _ _ hn]
      cases st with
      | none =>
        dsimp only
        rw [ih _ _ _ hk2 (by omega) (fun a e => by cases e; omega)]
        simp [curOf]
      | some a =>
        dsimp only
        have hlt' := hst a rfl
        rw [ih _ _ _ hk2 (by omega) (fun a' e => by cases e; omega)]
        simp only [curOf]
        rw [ext_split s a pos (pos + k) (by omega) (by omega)]
    by_cases ha : (s.get! pos).toNat < 128
    · have hdec : Utf8.decode s pos = ((s.get! pos).toNat, 1) := by
        have e : s.get! pos = s[pos]'hlt := by
          simp [ByteArray.get!, getElem!_pos, hlt]
          rfl
        rw [decode_ascii s pos hlt (by rw [← e]; exact ha), e]
      by_cases h32 : s.get! pos = 32
      · have hsp : isSp (Utf8.decode s pos).1 = true := by rw [hdec, h32]; rfl
        have hw : (Utf8.decode s pos).2 = 1 := by rw [hdec]
        rw [hw, if_pos hsp, hdrop, fieldsG, if_pos h32]
        cases st with
        | none =>
          dsimp only
          rw [ih _ _ _ (by omega) (by omega) (fun a e => by cases e)]
          simp [curOf, wordCons]
        | some a =>
          dsimp only
          have hlt' := hst a rfl
          have hne : ¬ (s.extract a pos).data.toList = [] := fun e => by
            have := ext_len s a pos (by omega) h1
            rw [e] at this; simp at this; omega
          rw [ih _ _ _ (by omega) (by omega) (fun a e => by cases e)]
          simp [curOf, wordCons, hne]
          omega
      · refine skip 1 (Nat.le_refl _) (by omega) (fun j hj => ?_) ?_ (by rw [hdec])
        · obtain rfl : j = 0 := by omega
          exact h32
        · rw [hdec]
          unfold isSp
          rw [beq_eq_false_iff_ne]
          intro e
          exact h32 (UInt8.toNat_inj.1 (by have e : ((s.get! pos).toNat : Int) = 32 := e
                                           have : (s.get! pos).toNat = 32 := by omega
                                           rw [this]; rfl))
    · obtain ⟨d1, d2, d3, d4⟩ := dec_high s pos hlt (by omega)
      refine skip _ d2 d3 (fun j hj e => ?_) ?_ rfl
      · have := d4 j hj
        rw [e] at this
        exact absurd this (by decide)
      · unfold isSp
        rw [beq_eq_false_iff_ne]; omega
theorem fields_is (s : ByteArray) : (Lib.goFieldsP isSp s).map (·.data.toList) = fieldsG s.data.toList [] := by
  have := spans_is s s.size 0 none [] (Nat.zero_le _) (by omega) (fun a e => by cases e)
  unfold Lib.goFieldsP Lib.spansOfP
  rw [List.map_map]
  unfold endOf at this
  rw [List.map_nil, List.nil_append, List.drop_zero] at this
  exact this
end Go.Proofs.YtgdpojleejdfaaaDoor.Px
