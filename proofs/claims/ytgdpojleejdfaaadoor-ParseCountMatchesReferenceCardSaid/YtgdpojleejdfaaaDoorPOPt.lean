import Derived.Test.YtgdpojleejdfaaaDoorPOPz
import Derived.Test.YtgdpojleejdfaaaDoorPORn
import Derived.Test.YtgdpojleejdfaaaDoorPOMr
import Derived.Test.YtgdpojleejdfaaaDoorPOMt
/- Plain laws: the parser ends; the reference's parser answers as the program's. -/
namespace Go.Proofs.YtgdpojleejdfaaaDoor.Px
open Go.RowKit Go.Proofs.YtgdpojleejdfaaaDoorW.PrintWords Go.Proofs.YtgdpojleejdfaaaDoorW.PrintLast Go.Proofs.YtgdpojleejdfaaaDoorW.PrintMore
set_option linter.unusedVariables false
set_option linter.unusedSimpArgs false
abbrev LTot (m : Nat) : Prop := ∀ (l : List S28) (n d : Int) (out : List S39), l.length ≤ m → out.length + l.length < 100000 → 0 ≤ n → 0 ≤ d →
  ∃ res, (∀ k, 2 * m + 1 ≤ k → plist k l n d out = some res) ∧ ∀ o l' n', res = .ok (o, l', n') → l'.length ≤ l.length ∧ n ≤ n'
abbrev NTot (m : Nat) : Prop := ∀ (t : S28) (r : List S28) (n d : Int), r.length + 1 ≤ m → r.length + 1 < 100000 → 0 ≤ n → 0 ≤ d →
  ∃ res, (∀ k, 2 * m ≤ k → pnode k t r n d = some res) ∧ ∀ x l' n', res = .ok (x, l', n') → l'.length ≤ r.length ∧ n ≤ n'
theorem endB_ok {t : S28} {h : Bool} {body els : List S39} {l : List S28} {n : Int} {x : S39} {l' : List S28} {n' : Int} (e : endB t h body els l n = .ok (x, l', n')) : l'.length ≤ l.length ∧ n ≤ n' := by
  cases l with
  | nil => cases e
  | cons t3 r4 =>
    simp only [endB] at e
    by_cases h8 : t3.f0 = 8
    · rw [if_pos h8] at e; cases e; simp
    · rw [if_neg h8] at e; cases e
theorem pblk_tot (m : Nat) (ih : LTot m) (t : S28) (r : List S28) (n d : Int) (hr : r.length ≤ m) (hl : r.length < 100000) (hn : 0 ≤ n) (hd : 0 ≤ d) :
    ∃ res, (∀ k, 2 * m + 1 ≤ k → pblk k t r n d = some res) ∧ ∀ x l' n', res = .ok (x, l', n') → l'.length ≤ r.length ∧ n ≤ n' := by
  obtain ⟨res, h, hp⟩ := ih r n (d + 1) [] hr (by simpa using hl) hn (by omega)
  cases res with
  | error e => exact ⟨.error e, fun k hk => by unfold pblk; rw [h k hk], fun _ _ _ h => by cases h⟩
  | ok q =>
    obtain ⟨body, l1, n1⟩ := q
    obtain ⟨g1, g2⟩ := hp _ _ _ rfl
    cases l1 with
    | nil => exact ⟨.error (t.f1, 7), fun k hk => by unfold pblk; rw [h k hk], fun _ _ _ h => by cases h⟩
    | cons t1 r2 =>
      rw [List.length_cons] at g1
      by_cases h7 : t1.f0 = 7
      · by_cases h2 : t.f0 = 2
        · obtain ⟨res2, h3, hp3⟩ := ih r2 n1 (d + 1) [] (by omega) (by simp only [List.length_nil]; omega) (by omega) (by omega)
          cases res2 with
          | error e => exact ⟨.error e, fun k hk => by unfold pblk; rw [h k hk]; dsimp only; rw [if_pos h7, if_pos h2, h3 k hk], fun _ _ _ h => by cases h⟩
          | ok q =>
            obtain ⟨els, r3, n3⟩ := q
            obtain ⟨g3, g4⟩ := hp3 _ _ _ rfl
            refine ⟨endB t true body els r3 n3, fun k hk => by unfold pblk; rw [h k hk]; dsimp only; rw [if_pos h7, if_pos h2, h3 k hk], fun x l' n' e => ?_⟩
            obtain ⟨a, b⟩ := endB_ok e
            exact ⟨by omega, by omega⟩
        · exact ⟨.error (t1.f1, 13), fun k hk => by unfold pblk; rw [h k hk]; dsimp only; rw [if_pos h7, if_neg h2], fun _ _ _ h => by cases h⟩
      · refine ⟨endB t false body [] (t1 :: r2) n1, fun k hk => by unfold pblk; rw [h k hk]; dsimp only; rw [if_neg h7], fun x l' n' e => ?_⟩
        obtain ⟨a, b⟩ := endB_ok e
        rw [List.length_cons] at a
        exact ⟨by omega, by omega⟩
theorem parse_tot : ∀ m, LTot m ∧ NTot m := by
  intro m
  induction m with
  | zero =>
    refine ⟨?_, ?_⟩
    · intro l n d out hl ho hn hd
      obtain rfl : l = [] := List.length_eq_zero_iff.1 (by omega)
      exact ⟨_, fun k hk => by obtain ⟨k, rfl⟩ : ∃ k', k = k' + 1 := ⟨k - 1, by omega⟩; exact plist_nil _ _ _ _, fun o l' n' h => by cases h; exact ⟨Nat.le_refl _, Int.le_refl _⟩⟩
    · intro t r n d hr; omega
  | succ m ih =>
    have hnode : NTot (m + 1) := by
      intro t r n d hr hr2 hn hd
      have red : ∀ k, 2 * (m + 1) ≤ k → ∃ j, 2 * m + 1 ≤ j ∧ k = j + 1 := fun k hk => ⟨k - 1, by omega, by omega⟩
      by_cases c1 : t.f0 = 6 ∧ d > 0
      · exact ⟨_, fun k hk => by obtain ⟨j, hj, rfl⟩ := red k hk; rw [pnode_eq, if_pos ⟨hn, hd⟩, if_pos c1], fun _ _ _ h => by cases h⟩
      by_cases c2 : opK t.f0 ∧ d ≥ 32
      · exact ⟨_, fun k hk => by obtain ⟨j, hj, rfl⟩ := red k hk; rw [pnode_eq, if_pos ⟨hn, hd⟩, if_neg c1, if_pos c2], fun _ _ _ h => by cases h⟩
      by_cases c3 : n ≥ 4096
      · exact ⟨_, fun k hk => by obtain ⟨j, hj, rfl⟩ := red k hk; rw [pnode_eq, if_pos ⟨hn, hd⟩, if_neg c1, if_neg c2, if_pos c3], fun _ _ _ h => by cases h⟩
      by_cases c4 : opK t.f0
      · obtain ⟨res, h, hp⟩ := pblk_tot m ih.1 t r (n + 1) d (by omega) (by omega) (by omega) hd
        refine ⟨res, fun k hk => ?_, fun x l' n' e => ?_⟩
        · obtain ⟨j, hj, rfl⟩ := red k hk
          rw [pnode_eq, if_pos ⟨hn, hd⟩, if_neg c1, if_neg c2, if_neg c3, if_pos c4]
          exact h j hj
        · obtain ⟨a, b⟩ := hp _ _ _ e
          exact ⟨a, by omega⟩
      · refine ⟨_, fun k hk => by obtain ⟨j, hj, rfl⟩ := red k hk; rw [pnode_eq, if_pos ⟨hn, hd⟩, if_neg c1, if_neg c2, if_neg c3, if_neg c4], fun x l' n' e => ?_⟩
        cases e
        exact ⟨Nat.le_refl _, by omega⟩
    refine ⟨?_, hnode⟩
    intro l n d out hl ho hn hd
    have red : ∀ k, 2 * (m + 1) + 1 ≤ k → ∃ j, 2 * (m + 1) ≤ j ∧ k = j + 1 := fun k hk => ⟨k - 1, by omega, by omega⟩
    cases l with
    | nil => exact ⟨_, fun k hk => by obtain ⟨k, _, rfl⟩ := red k hk; exact plist_nil _ _ _ _, fun o l' n' h => by cases h; exact ⟨Nat.le_refl _, Int.le_refl _⟩⟩
    | cons t r =>
      rw [List.length_cons] at hl ho
      by_cases c : t.f0 = 7 ∨ t.f0 = 8
      · exact ⟨_, fun k hk => by obtain ⟨k, _, rfl⟩ := red k hk; rw [plist_cons, if_pos (by omega), if_pos c], fun o l' n' h => by cases h; exact ⟨Nat.le_refl _, Int.le_refl _⟩⟩
      obtain ⟨res, h, hp⟩ := hnode t r n d hl (by omega) hn hd
      cases res with
      | error e => exact ⟨.error e, fun k hk => by obtain ⟨k, hk2, rfl⟩ := red k hk; rw [plist_cons, if_pos (by omega), if_neg c, h k hk2], fun _ _ _ h => by cases h⟩
      | ok q =>
        obtain ⟨x, r', n'⟩ := q
        obtain ⟨g1, g2⟩ := hp _ _ _ rfl
        obtain ⟨res2, h2, hp2⟩ := ih.1 r' n' d (out ++ [x]) (by omega) (by rw [List.length_append, List.length_singleton]; omega) (by omega) hd
        refine ⟨res2, fun k hk => by obtain ⟨k, hk2, rfl⟩ := red k hk; rw [plist_cons, if_pos (by omega), if_neg c, h k hk2]; exact h2 k (by omega), fun o l' n'' e => ?_⟩
        obtain ⟨a, b⟩ := hp2 _ _ _ e
        exact ⟨by rw [List.length_cons]; omega, by omega⟩
end Go.Proofs.YtgdpojleejdfaaaDoor.Px
