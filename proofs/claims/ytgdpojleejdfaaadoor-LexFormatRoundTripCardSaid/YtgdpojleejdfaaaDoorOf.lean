/- Where the tokens of lexS stand. -/
import Derived.Test.YtgdpojleejdfaaaDoorDi
namespace Go.Proofs.YtgdpojleejdfaaaDoor.Px
open Go.RowKit Go.Proofs.YtgdpojleejdfaaaDoorW.PrintWords Go.Proofs.YtgdpojleejdfaaaDoorW.PrintLast Go.Proofs.YtgdpojleejdfaaaDoorW.PrintMore
set_option linter.unusedVariables false
set_option linter.unusedSimpArgs false

/-- The tokens stand behind lo, in D; pt: the one before was a text. -/
def OffsOk (D : List UInt8) : Nat → Bool → List T5 → Prop
  | _, _, [] => True
  | lo, pt, x :: xs => lo ≤ x.1 ∧ x.1 < D.length ∧ (x.2.1 = 0 → pt = false ∧ ∃ r, D.drop x.1 = x.2.2.1 ++ r) ∧ (x.2.1 ≠ 0 → ∃ r, D.drop x.1 = 123 :: r) ∧ OffsOk D (x.1 + 1) (x.2.1 == 0) xs
theorem OffsOk.lower {D : List UInt8} : ∀ {l : List T5} {lo lo' : Nat} {pt : Bool}, OffsOk D lo pt l → lo' ≤ lo → OffsOk D lo' pt l
  | [], _, _, _, _, _ => trivial
  | x :: xs, lo, lo', pt, h, hl => ⟨Nat.le_trans hl h.1, h.2.1, h.2.2⟩
theorem kw_pos {l : List UInt8} {k : Int} (h : kwKind l = some k) : 1 ≤ k := (kw_range h).1
theorem dirE_ok {k : Int} {s p : List UInt8} {h : Bool} {t : T4} (e : dirE k s p h = (0, t)) : t = (k, s, p, h) ∧ pathL p = true ∧ (named k = true → nameL s = true) := by
  unfold dirE at e
  split at e
  · rename_i hc
    simp only [Prod.mk.injEq, true_and] at e
    exact ⟨e.symm, hc⟩
  · simp at e
theorem dirP_ok {k : Int} {s : List UInt8} {ws : List (List UInt8)} {t : T4} (e : dirP k s ws = (0, t)) : t.1 = k ∧ t.2.1 = s ∧ pathL t.2.2.1 = true ∧ (named k = true → nameL s = true) ∧ (t.2.2.2 = true ↔ ws.length = 1) ∧
    (t.2.2.2 = false → ws = [] ∧ t.2.2.1 = []) ∧ (t.2.2.2 = true → ws = [46 :: t.2.2.1]) ∧ leastOf k ≤ ws.length ∧ ws.length ≤ mostOf k := by
  unfold dirP at e
  split at e
  · simp at e
  · rename_i hc
    have hm1 : mostOf k ≤ 1 := by unfold mostOf; split <;> omega
    match ws, hc, e with
    | [], hc, e =>
      obtain ⟨rfl, h1, h2⟩ := dirE_ok e
      exact ⟨rfl, rfl, h1, h2, by simp, fun _ => ⟨rfl, rfl⟩, fun h => (by cases h), by omega, by omega⟩
    | w :: r, hc, e =>
      have hr : r = [] := List.eq_nil_of_length_eq_zero (by rw [List.length_cons] at hc; omega)
      subst hr
      try dsimp only at e
      split at e
      · rename_i hp
        obtain ⟨rfl, h1, h2⟩ := dirE_ok e
        have hw : w = 46 :: w.drop 1 := by
          cases w with
          | nil => simp [Lib.hasPrefix, List.isPrefixOf] at hp
          | cons a w =>
            simp only [Lib.hasPrefix, List.isPrefixOf, Bool.and_eq_true, beq_iff_eq] at hp
            rw [← hp.1]; rfl
        exact ⟨rfl, rfl, h1, h2, by simp, fun h => (by cases h), fun _ => by rw [← hw], by omega, by omega⟩
      · simp at e
/-- A directive's kind. -/
theorem dirF_kind {ws : List (List UInt8)} {t : T4} (e : dirF ws = (0, t)) : 1 ≤ t.1 ∧ t.1 ≤ 8 := by
  have hK : ∀ k ws, dirK k ws = (0, t) → t.1 = k := fun k ws e => by
    unfold dirK at e
    split at e
    · match ws, e with
      | [], e => simp at e
      | w :: r, e =>
        try dsimp only at e
        split at e
        · simp at e
        · exact (dirP_ok e).1
    · exact (dirP_ok e).1
  unfold dirF at e
  match ws, e with
  | [], e => simp at e
  | w :: r, e =>
    try dsimp only at e
    split at e
    · rename_i k hk
      rw [hK _ _ e]; exact kw_range hk
    · split at e
      · rw [hK _ _ e]; decide
      · simp at e
theorem lexS_dirOk {p : Nat} {t u r : List UInt8} (h : noPair 123 (t ++ [123])) (hu : noPair 125 (u ++ [125])) {l : List T5} (e : lexS p (t ++ 123 :: 123 :: (u ++ 125 :: 125 :: r)) = .ok l) :
    ∃ d l', dirF (fieldsG u []) = (0, d) ∧ lexS (p + t.length + u.length + 4) r = .ok l' ∧ l = txtT p t ++ (p + t.length, d) :: l' := by
  rw [lexS_dir h hu] at e
  generalize dirF (fieldsG u []) = dd at e ⊢
  obtain ⟨d0, d⟩ := dd
  try dsimp only at e
  split at e
  · rename_i h0
    subst h0
    cases hl : lexS (p + t.length + u.length + 4) r with
    | error x => rw [hl] at e; cases e
    | ok l' => rw [hl] at e; cases e; exact ⟨d, l', rfl, rfl, rfl⟩
  · cases e
theorem offs_ok (D : List UInt8) : ∀ (n p : Nat) (s : List UInt8) (l : List T5), s.length ≤ n → D.drop p = s → p ≤ D.length → lexS p s = .ok l → OffsOk D p false l ∧ (∀ x xs, l = x :: xs → x.1 = p) ∧ (l = [] ↔ s = [])
  | n, p, s, l, hn, hD, hp, e => by
    have hlen : p + s.length = D.length := by rw [← hD, List.length_drop]; omega
    have txt : ∀ (t r : List UInt8) (xs : List T5), s = t ++ r → t ≠ [] → OffsOk D (p + 1) true xs → OffsOk D p false ((p, 0, t, [], false) :: xs) := fun t r xs hs ht h =>
      ⟨Nat.le_refl _, by have := List.length_pos_iff.2 ht; rw [hs, List.length_append] at hlen; show p < _; omega, fun _ => ⟨rfl, r, by rw [← hs]; exact hD⟩, fun h => absurd rfl h, h⟩
    cases way s with
    | text _ hn' =>
      rw [lexS_text hn'] at e
      cases e
      unfold txtT
      by_cases h0 : s = []
      · rw [if_pos h0]; exact ⟨trivial, fun x xs h => (by cases h), by simp [h0]⟩
      · rw [if_neg h0]
        exact ⟨txt s [] [] (by simp) h0 trivial, fun x xs h => (by cases h; rfl), by simp [h0]⟩
    | open_ t r hn' hr => rw [lexS_open hn' hr] at e; cases e
    | dir t u r hn' hu =>
      obtain ⟨d, l', hd, hl', rfl⟩ := lexS_dirOk hn' hu e
      cases n with
      | zero => simp at hn
      | succ n =>
        have e2 : t ++ 123 :: 123 :: (u ++ 125 :: 125 :: r) = (t ++ [123, 123] ++ u ++ [125, 125]) ++ r := by simp
        have hD2 : D.drop (p + t.length + u.length + 4) = r := by
          rw [show p + t.length + u.length + 4 = p + (t ++ [123, 123] ++ u ++ [125, 125]).length by simp; omega, ← List.drop_drop, hD, e2, List.drop_left]
        have hD1 : D.drop (p + t.length) = 123 :: 123 :: (u ++ 125 :: 125 :: r) := by rw [← List.drop_drop, hD, List.drop_left]
        have hl2 : p + t.length + u.length + 4 + r.length = D.length := by simp at hlen; omega
        obtain ⟨h1, h2, h3⟩ := offs_ok D n (p + t.length + u.length + 4) r l' (by simp at hn; omega) hD2 (by omega) hl'
        obtain ⟨k1, k8⟩ := dirF_kind hd
        have hk : d.1 ≠ 0 := by omega
        have hdir : ∀ pt, OffsOk D (p + t.length) pt ((p + t.length, d) :: l') := fun pt =>
          ⟨Nat.le_refl _, by show p + t.length < _; omega, fun h => absurd h hk, fun _ => ⟨_, hD1⟩, by
            have : (d.1 == 0) = false := by rw [beq_eq_false_iff_ne]; exact hk
            show OffsOk D (p + t.length + 1) (d.1 == 0) l'
            rw [this]
            exact h1.lower (by omega)⟩
        unfold txtT
        by_cases h0 : t = []
        · rw [if_pos h0]
          subst h0
          exact ⟨hdir false, fun x xs h => (by cases h; rfl), by simp⟩
        · rw [if_neg h0]
          have := List.length_pos_iff.2 h0
          exact ⟨txt t _ _ rfl h0 ((hdir true).lower (by omega)), fun x xs h => (by cases h; rfl), by simp⟩
/-- What the i-th token tells. -/
theorem OffsOk.at_ {D : List UInt8} : ∀ {l : List T5} {lo : Nat} {pt : Bool}, OffsOk D lo pt l → ∀ (i : Nat) (h : i < l.length), l[i].1 < D.length ∧ (l[i].2.1 = 0 → ∃ r, D.drop l[i].1 = l[i].2.2.1 ++ r) ∧ (l[i].2.1 ≠ 0 → ∃ r, D.drop l[i].1 = 123 :: r)
  | x :: xs, lo, pt, h, 0, hi => ⟨h.2.1, fun e => (h.2.2.1 e).2, h.2.2.2.1⟩
  | x :: xs, lo, pt, h, i + 1, hi => h.2.2.2.2.at_ i (by simpa using hi)
theorem OffsOk.next {D : List UInt8} : ∀ {l : List T5} {lo : Nat} {pt : Bool}, OffsOk D lo pt l → ∀ (i : Nat) (h : i + 1 < l.length), l[i].1 < l[i + 1].1 ∧ ¬ (l[i].2.1 = 0 ∧ l[i + 1].2.1 = 0)
  | x :: y :: xs, lo, pt, h, 0, hi => by
    obtain ⟨_, _, _, _, h2⟩ := h
    refine ⟨h2.1, fun e => ?_⟩
    have h3 := (h2.2.2.1 e.2).1
    rw [beq_eq_false_iff_ne] at h3
    exact h3 e.1
  | x :: xs, lo, pt, h, i + 1, hi => h.2.2.2.2.next i (by simpa using hi)
end Go.Proofs.YtgdpojleejdfaaaDoor.Px
