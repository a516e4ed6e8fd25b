import Derived.Test.YtgdpojleejdfaaaDoorRTNc
/- Plain laws: the offsets of what is parsed; ParseOffsets. -/
namespace Go.Proofs.YtgdpojleejdfaaaDoor.Px
open Go.RowKit Go.Proofs.YtgdpojleejdfaaaDoorW.PrintWords Go.Proofs.YtgdpojleejdfaaaDoorW.PrintLast Go.Proofs.YtgdpojleejdfaaaDoorW.PrintMore
set_option linter.unusedVariables false
set_option linter.unusedSimpArgs false
mutual
def offL : List S39 → List Int
  | [] => []
  | x :: xs => offN x ++ offL xs
def offN : S39 → List Int
  | ⟨_, a, _, _, _, _, b, l⟩ => a :: (offL b ++ offL l)
end
theorem offN_eq (x : S39) : offN x = x.f1 :: (offL x.f6 ++ offL x.f7) := by cases x; simp [offN]
theorem offL_cons (x : S39) (xs : List S39) : offL (x :: xs) = offN x ++ offL xs := by simp [offL]
structure PGood (d : Int) (pre : List S28) (o : List Int) (nst cnt n : Nat) : Prop where
  sub : o.Sublist (pre.map (·.f1))
  nst : (nst : Int) ≤ 32 - d
  cnt : cnt = n
abbrev PgL (k : Nat) : Prop := ∀ (l : List S28) (n d : Int) (out o : List S39) (l' : List S28) (n' : Int), 0 ≤ d → d ≤ 32 → plist k l n d out = some (.ok (o, l', n')) →
  ∃ pre ys, l = pre ++ l' ∧ o = out ++ ys ∧ PGood d pre (offL ys) (nstL ys) (cntL ys) (nL ys)
abbrev PgN (k : Nat) : Prop := ∀ (t : S28) (r : List S28) (n d : Int) (x : S39) (l' : List S28) (n' : Int), d ≤ 32 → pnode k t r n d = some (.ok (x, l', n')) →
  ∃ pre, t :: r = pre ++ l' ∧ PGood d pre (offN x) (nstN x) (cntN x) (nN x)
theorem pgood : ∀ k, PgL k ∧ PgN k
  | 0 => ⟨fun l n d out o l' n' _ _ h => by simp [plist] at h, fun t r n d x l' n' _ h => by simp [pnode] at h⟩
  | k + 1 => by
    obtain ⟨ihl, ihn⟩ := pgood k
    refine ⟨?_, ?_⟩
    · intro l n d out o l' n' hd0 hd h
      have none_ : ∃ pre ys, l' = pre ++ l' ∧ out = out ++ ys ∧ PGood d pre (offL ys) (nstL ys) (cntL ys) (nL ys) := ⟨[], [], rfl, by simp, by simp [offL], by simp [nstL]; omega, by simp [cntL, nL]⟩
      cases l with
      | nil => rw [plist_nil] at h; cases h; exact none_
      | cons t r =>
        rw [plist_cons] at h
        by_cases h1 : out.length < 100000
        case neg => rw [if_neg h1] at h; cases h
        rw [if_pos h1] at h
        by_cases h2 : t.f0 = 7 ∨ t.f0 = 8
        · rw [if_pos h2] at h; cases h; exact none_
        rw [if_neg h2] at h
        cases hp : pnode k t r n d with
        | none => rw [hp] at h; cases h
        | some x =>
          rw [hp] at h
          cases x with
          | error e => cases h
          | ok q =>
            obtain ⟨x, r', n1⟩ := q
            obtain ⟨p1, e1, g1⟩ := ihn _ _ _ _ _ _ _ hd hp
            obtain ⟨p2, ys, e2, e3, g2⟩ := ihl _ _ _ _ _ _ _ hd0 hd h
            refine ⟨p1 ++ p2, x :: ys, by rw [e1, e2, List.append_assoc], by rw [e3]; simp, ?_, ?_, ?_⟩
            · rw [offL_cons, List.map_append]; exact g1.sub.append g2.sub
            · rw [nstL_cons]; have := g1.nst; have := g2.nst; omega
            · rw [cntL_cons, nL_cons, g1.cnt, g2.cnt]
    · intro t r n d x l' n' hd32 h
      rw [pnode_eq] at h
      by_cases h1 : 0 ≤ n ∧ 0 ≤ d
      case neg => rw [if_neg h1] at h; cases h
      rw [if_pos h1] at h
      by_cases h2 : t.f0 = 6 ∧ d > 0
      · rw [if_pos h2] at h; cases h
      rw [if_neg h2] at h
      by_cases h3 : opK t.f0 ∧ d ≥ 32
      · rw [if_pos h3] at h; cases h
      rw [if_neg h3] at h
      by_cases h4 : n ≥ 4096
      · rw [if_pos h4] at h; cases h
      rw [if_neg h4] at h
      by_cases h5 : opK t.f0
      case neg =>
        rw [if_neg h5] at h; cases h
        have n2 : ¬ t.f0 = 2 := fun e => h5 (.inl e)
        have n3 : ¬ (t.f0 = 3 ∨ t.f0 = 6) := fun e => h5 (.inr e)
        refine ⟨[t], rfl, ?_, ?_, ?_⟩
        · rw [offN_eq]; simp [offL]
        · rw [nstN_eq]; dsimp only; rw [if_neg n2, if_neg n3]; omega
        · rw [cntN_eq, nN_eq]; dsimp only; rw [if_neg n2, if_neg n3]; simp [nL]
      rw [if_pos h5] at h
      have hd : d < 32 := Int.not_le.1 fun e => h3 ⟨h5, e⟩
      have hend : ∀ (hh : Bool) (body els : List S39) (l1 : List S28) (n1 : Int), endB t hh body els l1 n1 = .ok (x, l', n') → ∃ t3, l1 = t3 :: l' ∧ x = ⟨t.f0, t.f1, t.f2, t.f3, t.f4, hh, body, els⟩ := by
        intro hh body els l1 n1 e
        cases l1 with
        | nil => cases e
        | cons t3 r4 =>
          simp only [endB] at e
          by_cases h8 : t3.f0 = 8
          · rw [if_pos h8] at e; cases e; exact ⟨t3, rfl, rfl⟩
          · rw [if_neg h8] at e; cases e
      have done_ : ∀ (hh : Bool) (body els : List S39) (p1 p2 : List S28), x = ⟨t.f0, t.f1, t.f2, t.f3, t.f4, hh, body, els⟩ → PGood (d + 1) p1 (offL body) (nstL body) (cntL body) (nL body) →
          PGood (d + 1) p2 (offL els) (nstL els) (cntL els) (nL els) → (t.f0 = 2 ∨ els = []) → ∀ pre, (t :: (p1 ++ p2)).Sublist pre → PGood d pre (offN x) (nstN x) (cntN x) (nN x) := by
        rintro hh body els p1 p2 rfl g1 g2 hk pre hpre
        refine ⟨?_, ?_, ?_⟩
        · rw [offN_eq]
          dsimp only
          refine List.Sublist.trans ?_ (hpre.map (·.f1))
          rw [List.map_cons, List.map_append]
          exact List.Sublist.cons_cons _ (g1.sub.append g2.sub)
        · rw [nstN_eq]; dsimp only
          have a := g1.nst; have b := g2.nst
          split
          · omega
          · split <;> omega
        · rw [cntN_eq, nN_eq]; dsimp only
          have a := g1.cnt; have b := g2.cnt
          rcases hk with hk | rfl
          · rw [if_pos hk]; omega
          · simp only [cntL, nL] at b ⊢
            by_cases e2 : t.f0 = 2
            · rw [if_pos e2]; omega
            · rw [if_neg e2, if_pos (h5.resolve_left e2)]; omega
      have nilG : PGood (d + 1) [] (offL []) (nstL []) (cntL []) (nL []) := ⟨by simp [offL], by simp [nstL]; omega, by simp [cntL, nL]⟩
      unfold pblk at h
      cases hp : plist k r (n + 1) (d + 1) [] with
      | none => rw [hp] at h; cases h
      | some q =>
        rw [hp] at h
        cases q with
        | error e => cases h
        | ok q =>
          obtain ⟨body, l1, n1⟩ := q
          obtain ⟨p1, ys1, e1, e2, g1⟩ := ihl _ _ _ _ _ _ _ (by omega) (by omega) hp
          rw [List.nil_append] at e2
          subst e2
          cases l1 with
          | nil => cases h
          | cons t1 r2 =>
            dsimp only at h
            by_cases h7 : t1.f0 = 7
            · rw [if_pos h7] at h
              by_cases h8 : t.f0 = 2
              case neg => rw [if_neg h8] at h; cases h
              rw [if_pos h8] at h
              cases hp2 : plist k r2 n1 (d + 1) [] with
              | none => rw [hp2] at h; cases h
              | some q =>
                rw [hp2] at h
                cases q with
                | error e => cases h
                | ok q =>
                  obtain ⟨els, r3, n3⟩ := q
                  obtain ⟨p2, ys2, e3, e4, g2⟩ := ihl _ _ _ _ _ _ _ (by omega) (by omega) hp2
                  rw [List.nil_append] at e4
                  subst e4
                  obtain ⟨t3, e5, e6⟩ := hend _ _ _ _ _ (Option.some.inj h)
                  refine ⟨t :: (p1 ++ t1 :: (p2 ++ [t3])), by rw [e1, e3, e5]; simp, done_ _ _ _ p1 p2 e6 g1 g2 (.inl h8) _ ?_⟩
                  refine List.Sublist.cons_cons _ ((List.Sublist.refl p1).append ?_)
                  exact List.Sublist.cons _ (List.sublist_append_left p2 [t3])
            · rw [if_neg h7] at h
              obtain ⟨t3, e5, e6⟩ := hend _ _ _ _ _ (Option.some.inj h)
              refine ⟨t :: (p1 ++ [t3]), by rw [e1, e5]; simp, done_ _ _ _ p1 [] e6 g1 nilG (.inr rfl) _ ?_⟩
              exact List.Sublist.cons_cons _ ((List.Sublist.refl p1).append (by simp))
theorem parse_err : ∀ k, (∀ (l : List S28) (n d : Int) (out : List S39) (a e : Int), plist k l n d out = some (.error (a, e)) → e ≠ 0 ∧ ∃ t ∈ l, a = t.f1) ∧
    (∀ (t : S28) (r : List S28) (n d a e : Int), pnode k t r n d = some (.error (a, e)) → e ≠ 0 ∧ ∃ t' ∈ t :: r, a = t'.f1)
  | 0 => ⟨fun l n d out a e h => by simp [plist] at h, fun t r n d a e h => by simp [pnode] at h⟩
  | k + 1 => by
    obtain ⟨ihl, ihn⟩ := parse_err k
    have suf : ∀ (l : List S28) (n d : Int) (out o : List S39) (l' : List S28) (n' : Int), plist k l n d out = some (.ok (o, l', n')) → ∀ t ∈ l', t ∈ l := fun l n d out o l' n' h t ht => (suffix k).1 _ _ _ _ _ _ _ h t ht
    refine ⟨?_, ?_⟩
    · intro l n d out a e h
      cases l with
      | nil => rw [plist_nil] at h; cases h
      | cons t r =>
        rw [plist_cons] at h
        by_cases h1 : out.length < 100000
        case neg => rw [if_neg h1] at h; cases h
        rw [if_pos h1] at h
        by_cases h2 : t.f0 = 7 ∨ t.f0 = 8
        · rw [if_pos h2] at h; cases h
        rw [if_neg h2] at h
        cases hp : pnode k t r n d with
        | none => rw [hp] at h; cases h
        | some x =>
          rw [hp] at h
          cases x with
          | error e => cases h; exact ihn _ _ _ _ _ _ hp
          | ok q =>
            obtain ⟨x, r', n1⟩ := q
            obtain ⟨h3, t', ht', e'⟩ := ihl _ _ _ _ _ _ h
            exact ⟨h3, t', List.mem_cons_of_mem _ ((suffix k).2 _ _ _ _ _ _ _ hp t' ht'), e'⟩
    · intro t r n d a e h
      rw [pnode_eq] at h
      by_cases h1 : 0 ≤ n ∧ 0 ≤ d
      case neg => rw [if_neg h1] at h; cases h
      rw [if_pos h1] at h
      by_cases h2 : t.f0 = 6 ∧ d > 0
      · rw [if_pos h2] at h; cases h; exact ⟨by decide, t, List.mem_cons_self, rfl⟩
      rw [if_neg h2] at h
      by_cases h3 : opK t.f0 ∧ d ≥ 32
      · rw [if_pos h3] at h; cases h; exact ⟨by decide, t, List.mem_cons_self, rfl⟩
      rw [if_neg h3] at h
      by_cases h4 : n ≥ 4096
      · rw [if_pos h4] at h; cases h; exact ⟨by decide, t, List.mem_cons_self, rfl⟩
      rw [if_neg h4] at h
      by_cases h5 : opK t.f0
      case neg => rw [if_neg h5] at h; cases h
      rw [if_pos h5] at h
      have hend : ∀ (hh : Bool) (body els : List S39) (l1 : List S28) (n1 : Int), (∀ t ∈ l1, t ∈ r) → endB t hh body els l1 n1 = .error (a, e) → e ≠ 0 ∧ ∃ t' ∈ t :: r, a = t'.f1 := by
        intro hh body els l1 n1 hs e
        cases l1 with
        | nil => cases e; exact ⟨by decide, t, List.mem_cons_self, rfl⟩
        | cons t3 r4 =>
          simp only [endB] at e
          by_cases h8 : t3.f0 = 8
          · rw [if_pos h8] at e; cases e
          · rw [if_neg h8] at e; cases e; exact ⟨by decide, t3, List.mem_cons_of_mem _ (hs _ List.mem_cons_self), rfl⟩
      unfold pblk at h
      cases hp : plist k r (n + 1) (d + 1) [] with
      | none => rw [hp] at h; cases h
      | some q =>
        rw [hp] at h
        cases q with
        | error e => cases h; obtain ⟨h3, t', ht', e'⟩ := ihl _ _ _ _ _ _ hp; exact ⟨h3, t', List.mem_cons_of_mem _ ht', e'⟩
        | ok q =>
          obtain ⟨body, l1, n1⟩ := q
          have s1 := suf _ _ _ _ _ _ _ hp
          cases l1 with
          | nil => cases h; exact ⟨by decide, t, List.mem_cons_self, rfl⟩
          | cons t1 r2 =>
            dsimp only at h
            by_cases h7 : t1.f0 = 7
            · rw [if_pos h7] at h
              by_cases h8 : t.f0 = 2
              case neg => rw [if_neg h8] at h; cases h; exact ⟨by decide, t1, List.mem_cons_of_mem _ (s1 _ List.mem_cons_self), rfl⟩
              rw [if_pos h8] at h
              cases hp2 : plist k r2 n1 (d + 1) [] with
              | none => rw [hp2] at h; cases h
              | some q =>
                rw [hp2] at h
                cases q with
                | error e => cases h; obtain ⟨h3, t', ht', e'⟩ := ihl _ _ _ _ _ _ hp2; exact ⟨h3, t', List.mem_cons_of_mem _ (s1 _ (List.mem_cons_of_mem _ ht')), e'⟩
                | ok q =>
                  obtain ⟨els, r3, n3⟩ := q
                  exact hend _ _ _ _ _ (fun x hx => s1 _ (List.mem_cons_of_mem _ (suf _ _ _ _ _ _ _ hp2 x hx))) (Option.some.inj h)
            · rw [if_neg h7] at h
              exact hend _ _ _ _ _ s1 (Option.some.inj h)
where
  suffix : ∀ k, (∀ (l : List S28) (n d : Int) (out o : List S39) (l' : List S28) (n' : Int), plist k l n d out = some (.ok (o, l', n')) → ∀ t ∈ l', t ∈ l) ∧
      (∀ (t : S28) (r : List S28) (n d : Int) (x : S39) (l' : List S28) (n' : Int), pnode k t r n d = some (.ok (x, l', n')) → ∀ t' ∈ l', t' ∈ r)
    | 0 => ⟨fun l n d out o l' n' h => by simp [plist] at h, fun t r n d x l' n' h => by simp [pnode] at h⟩
    | k + 1 => by
      obtain ⟨ihl, ihn⟩ := suffix k
      refine ⟨?_, ?_⟩
      · intro l n d out o l' n' h
        cases l with
        | nil => rw [plist_nil] at h; cases h; exact fun t h => h
        | cons t r =>
          rw [plist_cons] at h
          by_cases h1 : out.length < 100000
          case neg => rw [if_neg h1] at h; cases h
          rw [if_pos h1] at h
          by_cases h2 : t.f0 = 7 ∨ t.f0 = 8
          · rw [if_pos h2] at h; cases h; exact fun t h => h
          rw [if_neg h2] at h
          cases hp : pnode k t r n d with
          | none => rw [hp] at h; cases h
          | some x =>
            rw [hp] at h
            cases x with
            | error e => cases h
            | ok q =>
              obtain ⟨x, r', n1⟩ := q
              exact fun t ht => List.mem_cons_of_mem _ (ihn _ _ _ _ _ _ _ hp t (ihl _ _ _ _ _ _ _ h t ht))
      · intro t r n d x l' n' h
        rw [pnode_eq] at h
        by_cases h1 : 0 ≤ n ∧ 0 ≤ d
        case neg => rw [if_neg h1] at h; cases h
        rw [if_pos h1] at h
        by_cases h2 : t.f0 = 6 ∧ d > 0
        · rw [if_pos h2] at h; cases h
        rw [if_neg h2] at h
        by_cases h3 : opK t.f0 ∧ d ≥ 32
        · rw [if_pos h3] at h; cases h
        rw [if_neg h3] at h
        by_cases h4 : n ≥ 4096
        · rw [if_pos h4] at h; cases h
        rw [if_neg h4] at h
        by_cases h5 : opK t.f0
        case neg => rw [if_neg h5] at h; cases h; exact fun t h => h
        rw [if_pos h5] at h
        have hend : ∀ (hh : Bool) (body els : List S39) (l1 : List S28) (n1 : Int), endB t hh body els l1 n1 = .ok (x, l', n') → ∀ t ∈ l', t ∈ l1 := by
          intro hh body els l1 n1 e
          cases l1 with
          | nil => cases e
          | cons t3 r4 =>
            simp only [endB] at e
            by_cases h8 : t3.f0 = 8
            · rw [if_pos h8] at e; cases e; exact fun t h => List.mem_cons_of_mem _ h
            · rw [if_neg h8] at e; cases e
        unfold pblk at h
        cases hp : plist k r (n + 1) (d + 1) [] with
        | none => rw [hp] at h; cases h
        | some q =>
          rw [hp] at h
          cases q with
          | error e => cases h
          | ok q =>
            obtain ⟨body, l1, n1⟩ := q
            have s1 := ihl _ _ _ _ _ _ _ hp
            cases l1 with
            | nil => cases h
            | cons t1 r2 =>
              dsimp only at h
              by_cases h7 : t1.f0 = 7
              · rw [if_pos h7] at h
                by_cases h8 : t.f0 = 2
                case neg => rw [if_neg h8] at h; cases h
                rw [if_pos h8] at h
                cases hp2 : plist k r2 n1 (d + 1) [] with
                | none => rw [hp2] at h; cases h
                | some q =>
                  rw [hp2] at h
                  cases q with
                  | error e => cases h
                  | ok q =>
                    obtain ⟨els, r3, n3⟩ := q
                    exact fun x hx => s1 _ (List.mem_cons_of_mem _ (ihl _ _ _ _ _ _ _ hp2 x (hend _ _ _ _ _ (Option.some.inj h) x hx)))
              · rw [if_neg h7] at h
                exact fun x hx => s1 _ (hend _ _ _ _ _ (Option.some.inj h) x hx)
theorem parse_good {s : ByteArray} {k : Nat} {r : List S39 × Int × Int} (h : parse_Parse.f k s = some r) (he : r.2.2 = 0) :
    ∃ L n', s.size ≤ 65536 ∧ lexS 0 s.data.toList = .ok L ∧ plist k (L.map tokS) 0 0 [] = some (.ok (r.1, [], n')) ∧ r.2.1 = s.size := by
  unfold parse_Parse.f at h
  rcases lexF_cases s with ⟨L, hs, hL, e⟩ | ⟨n, er, e, hne, h0, h1⟩
  · rw [e] at h
    dsimp only at h
    rw [if_pos rfl] at h
    obtain ⟨res, hp, rfl⟩ := Option.map_eq_some_iff.1 h
    cases res with
    | error q =>
      obtain ⟨a, er⟩ := q
      exact absurd he ((parse_err k).1 _ _ _ _ _ _ hp).1
    | ok q =>
      obtain ⟨o, l', n'⟩ := q
      cases l' with
      | nil => exact ⟨L, n', hs, hL, hp, rfl⟩
      | cons t l => exact absurd he (by simp [parseR])
  · rw [e] at h
    dsimp only at h
    rw [if_neg hne] at h
    cases h
    exact absurd he hne
end Go.Proofs.YtgdpojleejdfaaaDoor.Px
