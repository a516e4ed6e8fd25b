import Derived.Test.YtgdpojleejdfaaaDoorPOPx0
import Derived.Test.YtgdpojleejdfaaaDoorPOMu
/- Merged texts: Rl Pa Ls Lb Ld Le. -/
/- Contract of the reference's Lex: written by hand over the printed contracts of find, words and form. -/
namespace Go.Proofs.YtgdpojleejdfaaaDoor.Px
open Go.RowKit Go.Proofs.YtgdpojleejdfaaaDoorW.PrintWords Go.Proofs.YtgdpojleejdfaaaDoorW.PrintLast Go.Proofs.YtgdpojleejdfaaaDoorW.PrintMore
set_option linter.unusedVariables false
set_option linter.unusedSimpArgs false
end Go.Proofs.YtgdpojleejdfaaaDoor.Px
/- Plain laws: the reference's lexer ends, and what its tokens look like. -/
namespace Go.Proofs.YtgdpojleejdfaaaDoor.Px
open Go.RowKit Go.Proofs.YtgdpojleejdfaaaDoorW.PrintWords Go.Proofs.YtgdpojleejdfaaaDoorW.PrintLast Go.Proofs.YtgdpojleejdfaaaDoorW.PrintMore
set_option linter.unusedVariables false
set_option linter.unusedSimpArgs false
theorem w64 {n : Int} (h0 : 0 ≤ n) (h1 : n ≤ 4611686018427387904) : wrap64 n = n := by unfold wrap64; omega
/-- What the token holds so far. -/
structure OkS (n : Nat) (kd : Int) (s p : ByteArray) (hp : Bool) : Prop where
  hi : kd ≤ 8
  ne : kd ≠ 0
  s0 : kd ≥ 0 → (s.size = 0 ↔ ¬ (kd = 4 ∨ kd = 6))
  sn : s.size ≤ n
  p0 : p.size = 0
  hp0 : hp = false
/-- A token as the lexer makes it of a source of n bytes. -/
structure okT (n : Nat) (t : S47) : Prop where
  k0 : 0 ≤ t.f0
  k8 : t.f0 ≤ 8
  s0 : t.f0 ≠ 0 → (t.f2.size = 0 ↔ ¬ (t.f0 = 4 ∨ t.f0 = 6))
  sn : t.f2.size ≤ n
  pn : t.f3.size ≤ n
  h0 : t.f0 = 0 → t.f4 = false
end Go.Proofs.YtgdpojleejdfaaaDoor.Px
/- strings.Split at periods, over lists. -/
namespace Go.Proofs.YtgdpojleejdfaaaDoor.Px
open Go.RowKit Go.Proofs.YtgdpojleejdfaaaDoorW.PrintWords Go.Proofs.YtgdpojleejdfaaaDoorW.PrintLast Go.Proofs.YtgdpojleejdfaaaDoorW.PrintMore
set_option linter.unusedVariables false
set_option linter.unusedSimpArgs false
def dotG : List UInt8 → List UInt8 → List (List UInt8)
  | [], cur => [cur]
  | b :: r, cur => if b = 46 then cur :: dotG r [] else dotG r (cur ++ [b])
theorem pre1 (c a : UInt8) (s : List UInt8) : List.isPrefixOf [c] (a :: s) = true ↔ a = c := by
  simp only [List.isPrefixOf, Bool.and_true, beq_iff_eq]
  exact ⟨fun h => h.symm, fun h => h.symm⟩
theorem idx1 : ∀ (s : List UInt8), (Lib.index s [46] = -1 ∧ (46 : UInt8) ∉ s) ∨ ∃ t r, s = t ++ 46 :: r ∧ (46 : UInt8) ∉ t ∧ Lib.index s [46] = t.length
  | [] => .inl ⟨rfl, by simp⟩
  | a :: s => by
    by_cases ha : a = 46
    · subst ha
      exact .inr ⟨[], s, rfl, by simp, by unfold Lib.index; rw [if_pos ((pre1 _ _ _).2 rfl)]; rfl⟩
    · have hp : ¬ List.isPrefixOf [(46 : UInt8)] (a :: s) = true := fun e => ha ((pre1 _ _ _).1 e)
      rcases idx1 s with ⟨h1, h2⟩ | ⟨t, r, h1, h2, h3⟩
      · refine .inl ⟨by unfold Lib.index; rw [if_neg hp, h1]; rfl, ?_⟩
        intro e
        rcases List.mem_cons.1 e with e | e
        · exact ha e.symm
        · exact h2 e
      · refine .inr ⟨a :: t, r, by rw [h1]; rfl, ?_, ?_⟩
        · intro e
          rcases List.mem_cons.1 e with e | e
          · exact ha e.symm
          · exact h2 e
        · unfold Lib.index
          rw [if_neg hp, h3]
          have : ((t.length : Int) == -1) = false := by rw [beq_eq_false_iff_ne]; omega
          rw [this]; simp
theorem dotG_none : ∀ (t cur : List UInt8), (46 : UInt8) ∉ t → dotG t cur = [cur ++ t]
  | [], cur, _ => by simp [dotG]
  | b :: t, cur, h => by
    have hb : ¬ b = 46 := fun e => h (by rw [e]; simp)
    rw [dotG, if_neg hb, dotG_none t _ (fun e => h (by simp [e]))]; simp
theorem dotG_hit : ∀ (t r cur : List UInt8), (46 : UInt8) ∉ t → dotG (t ++ 46 :: r) cur = (cur ++ t) :: dotG r []
  | [], r, cur, _ => by simp [dotG]
  | b :: t, r, cur, h => by
    have hb : ¬ b = 46 := fun e => h (by rw [e]; simp)
    show dotG (b :: (t ++ 46 :: r)) cur = _
    rw [dotG, if_neg hb, dotG_hit t r _ (fun e => h (by simp [e]))]; simp
theorem split_dot : ∀ (n : Nat) (s : List UInt8), s.length ≤ n → Lib.split s [46] = dotG s [] := by
  intro n
  induction n with
  | zero =>
    intro s h
    have : s = [] := List.eq_nil_of_length_eq_zero (by omega)
    subst this; rfl
  | succ n ih =>
    intro s h
    unfold Lib.split
    rcases idx1 s with ⟨h1, h2⟩ | ⟨t, r, h1, h2, h3⟩
    · rw [Lib.count_miss h1, dotG_none _ _ h2]; rfl
    · have ih := ih r (by rw [h1] at h; simp at h; omega)
      unfold Lib.split at ih
      rw [Lib.count_hit (by simp) h3]
      have hd : s.drop (t.length + [(46 : UInt8)].length) = r := by rw [h1, ← List.drop_drop, List.drop_left]; rfl
      have hm : ¬ (Lib.index s [46] == -1) = true := by rw [h3, beq_iff_eq]; omega
      rw [hd, Nat.add_comm 1, Lib.splitK, if_neg hm, h3, Int.toNat_natCast, hd, ih]
      rw [show s.take (t.length + 0) = t by rw [h1, Nat.add_zero, List.take_left]]
      conv => rhs; rw [h1]
      rw [dotG_hit _ _ _ h2]; rfl
end Go.Proofs.YtgdpojleejdfaaaDoor.Px
/- The reference's names, paths, words and forms are those of La. -/
namespace Go.Proofs.YtgdpojleejdfaaaDoor.Px
open Go.RowKit Go.Proofs.YtgdpojleejdfaaaDoorW.PrintWords Go.Proofs.YtgdpojleejdfaaaDoorW.PrintLast Go.Proofs.YtgdpojleejdfaaaDoorW.PrintMore
set_option linter.unusedVariables false
set_option linter.unusedSimpArgs false
end Go.Proofs.YtgdpojleejdfaaaDoor.Px
/- The reference's form tells what dirF tells; the reference's Lex what lexF tells. -/
namespace Go.Proofs.YtgdpojleejdfaaaDoor.Px
open Go.RowKit Go.Proofs.YtgdpojleejdfaaaDoorW.PrintWords Go.Proofs.YtgdpojleejdfaaaDoorW.PrintLast Go.Proofs.YtgdpojleejdfaaaDoorW.PrintMore
set_option linter.unusedVariables false
set_option linter.unusedSimpArgs false
end Go.Proofs.YtgdpojleejdfaaaDoor.Px
/- The reference's Lex tells what lexS tells. -/
namespace Go.Proofs.YtgdpojleejdfaaaDoor.Px
open Go.RowKit Go.Proofs.YtgdpojleejdfaaaDoorW.PrintWords Go.Proofs.YtgdpojleejdfaaaDoorW.PrintLast Go.Proofs.YtgdpojleejdfaaaDoorW.PrintMore
set_option linter.unusedVariables false
set_option linter.unusedSimpArgs false
def pre (l0 : List T5) : Except (Nat × Int) (List T5) → Except (Nat × Int) (List T5)
  | .ok l => .ok (l0 ++ l)
  | .error e => .error e
def tokR (x : T5) : S47 := ⟨x.2.1, x.1, ⟨x.2.2.1.toArray⟩, ⟨x.2.2.2.1.toArray⟩, x.2.2.2.2⟩
end Go.Proofs.YtgdpojleejdfaaaDoor.Px
