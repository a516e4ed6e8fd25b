import Derived.Test.YtgdpojleejdfaaaDoorRTNd
/- Plain laws: the parser at tokens that differ in their offsets, and at lists of tokens one after the other. -/
namespace Go.Proofs.YtgdpojleejdfaaaDoor.Px
open Go.RowKit Go.Proofs.YtgdpojleejdfaaaDoorW.PrintWords Go.Proofs.YtgdpojleejdfaaaDoorW.PrintLast Go.Proofs.YtgdpojleejdfaaaDoorW.PrintMore
set_option linter.unusedVariables false
set_option linter.unusedSimpArgs false
/-- A token without its offset. -/
def keyT (t : S28) : Int × ByteArray × ByteArray × Bool := (t.f0, t.f2, t.f3, t.f4)
theorem keyT_eq {t t1 : S28} (h : keyT t1 = keyT t) : t1.f0 = t.f0 ∧ t1.f2 = t.f2 ∧ t1.f3 = t.f3 ∧ t1.f4 = t.f4 := by
  unfold keyT at h; simpa using h
theorem key_cons {l1 : List S28} {t : S28} {r : List S28} (h : l1.map keyT = (t :: r).map keyT) : ∃ t1 r1, l1 = t1 :: r1 ∧ keyT t1 = keyT t ∧ r1.map keyT = r.map keyT := by
  cases l1 with
  | nil => simp at h
  | cons t1 r1 => rw [List.map_cons, List.map_cons] at h; injection h with a b; exact ⟨t1, r1, rfl, a, b⟩
theorem key_nil {l1 : List S28} (h : l1.map keyT = ([] : List S28).map keyT) : l1 = [] := by simpa using h
theorem key_len {l1 l : List S28} (h : l1.map keyT = l.map keyT) : l1.length = l.length := by simpa using congrArg List.length h
theorem hdR_of {x y : S39} (h0 : x.f0 = y.f0) (h2 : x.f2 = y.f2) (h3 : x.f3 = y.f3) (h4 : x.f4 = y.f4) (h5 : x.f5 = y.f5) : hdR false x y = true := by
  unfold hdR; simp [h0, h2, h3, h4, h5]
abbrev SmL (k : Nat) : Prop := ∀ (l : List S28) (n d : Int) (out o : List S39) (l' : List S28) (n' : Int), 0 ≤ n → plist k l n d out = some (.ok (o, l', n')) →
  ∀ (l1 : List S28) (m : Int) (out1 : List S39), l1.map keyT = l.map keyT → 0 ≤ m → m + (n' - n) ≤ 4096 → out1.length + l1.length < 100000 →
    ∃ ys zs l1', o = out ++ ys ∧ plist k l1 m d out1 = some (.ok (out1 ++ zs, l1', m + (n' - n))) ∧ l1'.map keyT = l'.map keyT ∧ eqRL false zs ys = true ∧ n ≤ n' ∧ l'.length ≤ l.length
abbrev SmN (k : Nat) : Prop := ∀ (t : S28) (r : List S28) (n d : Int) (x : S39) (l' : List S28) (n' : Int), 0 ≤ n → pnode k t r n d = some (.ok (x, l', n')) →
  ∀ (t1 : S28) (r1 : List S28) (m : Int), keyT t1 = keyT t → r1.map keyT = r.map keyT → 0 ≤ m → m + (n' - n) ≤ 4096 → r1.length < 99999 →
    ∃ x1 l1', pnode k t1 r1 m d = some (.ok (x1, l1', m + (n' - n))) ∧ l1'.map keyT = l'.map keyT ∧ eqRN false x1 x = true ∧ n < n' ∧ l'.length ≤ r.length
theorem same_key : ∀ k, SmL k ∧ SmN k
  | 0 => ⟨fun l n d out o l' n' _ h => by simp [plist] at h, fun t r n d x l' n' _ h => by simp [pnode] at h⟩
  | k + 1 => by
    obtain ⟨ihl, ihn⟩ := same_key k
    refine ⟨?_, ?_⟩
    · intro l n d out o l' n' hn h l1 m out1 hk hm hle hlen
      cases l with
      | nil =>
        rw [plist_nil] at h; cases h
        obtain rfl := key_nil hk
        exact ⟨[], [], [], by simp, by rw [plist_nil]; simp, rfl, by simp [eqRL], Int.le_refl _, Nat.le_refl _⟩
      | cons t r =>
        obtain ⟨t1, r1, rfl, kt, kr⟩ := key_cons hk
        obtain ⟨k0, k2, k3, k4⟩ := keyT_eq kt
        rw [plist_cons] at h ⊢
        by_cases h1 : out.length < 100000
        case neg => rw [if_neg h1] at h; cases h
        rw [List.length_cons] at hlen
        rw [if_pos h1] at h
        rw [if_pos (by omega), k0]
        by_cases h2 : t.f0 = 7 ∨ t.f0 = 8
        · rw [if_pos h2] at h ⊢; cases h
          exact ⟨[], [], t1 :: r1, by simp, by simp, hk, by simp [eqRL], Int.le_refl _, Nat.le_refl _⟩
        rw [if_neg h2] at h ⊢
        cases hp : pnode k t r n d with
        | none => rw [hp] at h; cases h
        | some x =>
          rw [hp] at h
          cases x with
          | error e => cases h
          | ok q =>
            obtain ⟨x, r', n1⟩ := q
            dsimp only at h
            have hmono : n < n1 ∧ r'.length ≤ r.length := by
              have := ihn t r n d x r' n1 hn hp t r 0 rfl rfl (Int.le_refl _)
              have hc := (parse_cnt k).2 _ _ _ _ _ _ _ hp
              have hx := nN_eq x
              exact ⟨by omega, by
                have := (parse_tot_len k).2 _ _ _ _ _ _ _ hp; exact this⟩
            have hmono2 : n1 ≤ n' := by
              have hc := (parse_cnt k).1 _ _ _ _ _ _ _ h
              obtain ⟨ys, rfl⟩ := plist_out k _ _ _ _ _ _ _ h
              rw [nL_append (out ++ [x]) ys] at hc
              omega
            have hkl := key_len kr
            obtain ⟨x1, l1, a1, a2, a3, _, _⟩ := ihn t r n d x r' n1 hn hp t1 r1 m kt kr hm (by omega) (by omega)
            rw [a1]
            obtain ⟨ys, zs, l1', b1, b2, b3, b4, b5, b6⟩ := ihl r' n1 d (out ++ [x]) o l' n' (by omega) h l1 (m + (n1 - n)) (out1 ++ [x1]) a2 (by omega) (by omega) (by have := key_len a2; rw [List.length_append, List.length_singleton]; omega)
            refine ⟨x :: ys, x1 :: zs, l1', by rw [b1]; simp, ?_, b3, ?_, by omega, by rw [List.length_cons]; omega⟩
            · dsimp only
              rw [b2, List.append_assoc, show m + (n1 - n) + (n' - n1) = m + (n' - n) by omega]; rfl
            · rw [eqRL_cons, a3, b4]; rfl
    · intro t r n d x l' n' hn h t1 r1 m kt kr hm hle hlen
      obtain ⟨k0, k2, k3, k4⟩ := keyT_eq kt
      have hkl := key_len kr
      have hcn := (parse_cnt (k + 1)).2 _ _ _ _ _ _ _ h
      have hx := nN_eq x
      have hll := (parse_tot_len (k + 1)).2 _ _ _ _ _ _ _ h
      rw [pnode_eq] at h ⊢
      by_cases h1 : 0 ≤ n ∧ 0 ≤ d
      case neg => rw [if_neg h1] at h; cases h
      rw [if_pos h1] at h
      rw [if_pos ⟨hm, h1.2⟩, k0]
      by_cases h2 : t.f0 = 6 ∧ d > 0
      · rw [if_pos h2] at h; cases h
      rw [if_neg h2] at h ⊢
      by_cases h3 : opK t.f0 ∧ d ≥ 32
      · rw [if_pos h3] at h; cases h
      rw [if_neg h3] at h ⊢
      by_cases h4 : n ≥ 4096
      · rw [if_pos h4] at h; cases h
      rw [if_neg h4] at h
      rw [if_neg (by omega)]
      by_cases h5 : opK t.f0
      case neg =>
        rw [if_neg h5] at h ⊢; cases h
        refine ⟨_, r1, by rw [show m + (n + 1 - n) = m + 1 by omega], kr, ?_, by omega, Nat.le_refl _⟩
        rw [eqRN_eq, Bool.and_eq_true, Bool.and_eq_true]
        exact ⟨hdR_of rfl k2 k3 k4 rfl, by simp [eqRL], by simp [eqRL]⟩
      rw [if_pos h5] at h ⊢
      have hend : ∀ (hh : Bool) (body els body1 els1 : List S39) (l1 l2 : List S28) (n1 m1 : Int), endB t hh body els l1 n1 = .ok (x, l', n') → l2.map keyT = l1.map keyT → eqRL false body1 body = true → eqRL false els1 els = true →
          ∃ x1 l1', endB t1 hh body1 els1 l2 m1 = .ok (x1, l1', m1) ∧ l1'.map keyT = l'.map keyT ∧ eqRN false x1 x = true ∧ n' = n1 := by
        intro hh body els body1 els1 l1 l2 n1 m1 e hk he1 he2
        cases l1 with
        | nil => cases e
        | cons t3 r4 =>
          obtain ⟨t2, r2, rfl, kt2, kr2⟩ := key_cons hk
          have k8 := (keyT_eq kt2).1
          simp only [endB] at e ⊢
          by_cases h8 : t3.f0 = 8
          · rw [if_pos h8] at e; cases e
            refine ⟨_, r2, by rw [if_pos (k8.trans h8)], kr2, ?_, rfl⟩
            rw [eqRN_eq, Bool.and_eq_true, Bool.and_eq_true]
            exact ⟨hdR_of k0 k2 k3 k4 rfl, he1, he2⟩
          · rw [if_neg h8] at e; cases e
      unfold pblk at h ⊢
      cases hp : plist k r (n + 1) (d + 1) [] with
      | none => rw [hp] at h; cases h
      | some q =>
        rw [hp] at h
        cases q with
        | error e => cases h
        | ok q =>
          obtain ⟨body, l1, n1⟩ := q
          have c1 := (parse_cnt k).1 _ _ _ _ _ _ _ hp
          simp only [nL] at c1
          cases l1 with
          | nil => cases h
          | cons u r2 =>
            dsimp only at h
            have up : n1 ≤ n' := by
              by_cases h7 : u.f0 = 7
              · rw [if_pos h7] at h
                by_cases h8 : t.f0 = 2
                case neg => rw [if_neg h8] at h; cases h
                rw [if_pos h8] at h
                cases hp2 : plist k r2 n1 (d + 1) [] with
                | none => rw [hp2] at h; cases h
                | some q =>
                  rw [hp2] at h
                  cases q with
                  | error e => cases h
                  | ok q =>
                    obtain ⟨els, r3, n3⟩ := q
                    have c2 := (parse_cnt k).1 _ _ _ _ _ _ _ hp2
                    simp only [nL] at c2
                    obtain ⟨_, _, _, _, _, e⟩ := hend true body els body els r3 r3 n3 n3 (Option.some.inj h) rfl (eqRL_refl false _ _ (Nat.lt_succ_self _)) (eqRL_refl false _ _ (Nat.lt_succ_self _))
                    omega
              · rw [if_neg h7] at h
                obtain ⟨_, _, _, _, _, e⟩ := hend false body [] body [] (u :: r2) (u :: r2) n1 n1 (Option.some.inj h) rfl (eqRL_refl false _ _ (Nat.lt_succ_self _)) (by simp [eqRL])
                omega
            obtain ⟨ys, zs, l1', b1, b2, b3, b4, b5, b6⟩ := ihl r (n + 1) (d + 1) [] body (u :: r2) n1 (by omega) hp r1 (m + 1) [] kr (by omega) (by omega) (by simp only [List.length_nil]; omega)
            rw [List.nil_append] at b1
            subst b1
            obtain ⟨u1, w1, rfl, ku, kw⟩ := key_cons b3
            rw [List.nil_append] at b2
            rw [b2]
            dsimp only
            rw [(keyT_eq ku).1]
            by_cases h7 : u.f0 = 7
            · rw [if_pos h7] at h ⊢
              by_cases h8 : t.f0 = 2
              case neg => rw [if_neg h8] at h; cases h
              rw [if_pos h8] at h
              rw [if_pos (k0.trans h8)]
              cases hp2 : plist k r2 n1 (d + 1) [] with
              | none => rw [hp2] at h; cases h
              | some q =>
                rw [hp2] at h
                cases q with
                | error e => cases h
                | ok q =>
                  obtain ⟨els, r3, n3⟩ := q
                  have c2 := (parse_cnt k).1 _ _ _ _ _ _ _ hp2
                  simp only [nL] at c2
                  have e3 : n' = n3 := by
                    obtain ⟨_, _, _, _, _, e⟩ := hend true body els body els r3 r3 n3 n3 (Option.some.inj h) rfl (eqRL_refl false _ _ (Nat.lt_succ_self _)) (eqRL_refl false _ _ (Nat.lt_succ_self _))
                    exact e
                  rw [List.length_cons] at b6
                  obtain ⟨ys2, zs2, l2', d1, d2, d3, d4, d5, d6⟩ := ihl r2 n1 (d + 1) [] els r3 n3 (by omega) hp2 w1 (m + 1 + (n1 - (n + 1))) [] kw (by omega) (by omega) (by have := key_len kw; simp only [List.length_nil]; omega)
                  rw [List.nil_append] at d1
                  subst d1
                  rw [List.nil_append] at d2
                  rw [d2]
                  dsimp only
                  obtain ⟨x1, l3', f1, f2, f3, _⟩ := hend true body els zs zs2 r3 l2' n3 (m + 1 + (n1 - (n + 1)) + (n3 - n1)) (Option.some.inj h) d3 b4 d4
                  refine ⟨x1, l3', ?_, f2, f3, by omega, hll⟩
                  rw [f1, show m + 1 + (n1 - (n + 1)) + (n3 - n1) = m + (n' - n) by omega]
            · rw [if_neg h7] at h ⊢
              obtain ⟨x1, l3', f1, f2, f3, e⟩ := hend false body [] zs [] (u :: r2) (u1 :: w1) n1 (m + 1 + (n1 - (n + 1))) (Option.some.inj h) b3 b4 (by simp [eqRL])
              refine ⟨x1, l3', ?_, f2, f3, by omega, hll⟩
              rw [f1, show m + 1 + (n1 - (n + 1)) = m + (n' - n) by omega]
where
  plist_out : ∀ (k : Nat) (l : List S28) (n d : Int) (out o : List S39) (l' : List S28) (n' : Int), plist k l n d out = some (.ok (o, l', n')) → ∃ ys, o = out ++ ys
    | 0, l, n, d, out, o, l', n', h => by simp [plist] at h
    | k + 1, l, n, d, out, o, l', n', h => by
      cases l with
      | nil => rw [plist_nil] at h; cases h; exact ⟨[], by simp⟩
      | cons t r =>
        rw [plist_cons] at h
        by_cases h1 : out.length < 100000
        case neg => rw [if_neg h1] at h; cases h
        rw [if_pos h1] at h
        by_cases h2 : t.f0 = 7 ∨ t.f0 = 8
        · rw [if_pos h2] at h; cases h; exact ⟨[], by simp⟩
        rw [if_neg h2] at h
        cases hp : pnode k t r n d with
        | none => rw [hp] at h; cases h
        | some x =>
          rw [hp] at h
          cases x with
          | error e => cases h
          | ok q =>
            obtain ⟨x, r', n1⟩ := q
            obtain ⟨ys, e⟩ := plist_out k _ _ _ _ _ _ _ h
            exact ⟨x :: ys, by rw [e]; simp⟩
  parse_tot_len : ∀ k, (∀ (l : List S28) (n d : Int) (out o : List S39) (l' : List S28) (n' : Int), plist k l n d out = some (.ok (o, l', n')) → l'.length ≤ l.length) ∧
      (∀ (t : S28) (r : List S28) (n d : Int) (x : S39) (l' : List S28) (n' : Int), pnode k t r n d = some (.ok (x, l', n')) → l'.length ≤ r.length)
    | 0 => ⟨fun l n d out o l' n' h => by simp [plist] at h, fun t r n d x l' n' h => by simp [pnode] at h⟩
    | k + 1 => by
      obtain ⟨ihl, ihn⟩ := parse_tot_len k
      refine ⟨?_, ?_⟩
      · intro l n d out o l' n' h
        cases l with
        | nil => rw [plist_nil] at h; cases h; exact Nat.le_refl _
        | cons t r =>
          rw [plist_cons] at h
          by_cases h1 : out.length < 100000
          case neg => rw [if_neg h1] at h; cases h
          rw [if_pos h1] at h
          by_cases h2 : t.f0 = 7 ∨ t.f0 = 8
          · rw [if_pos h2] at h; cases h; exact Nat.le_refl _
          rw [if_neg h2] at h
          cases hp : pnode k t r n d with
          | none => rw [hp] at h; cases h
          | some x =>
            rw [hp] at h
            cases x with
            | error e => cases h
            | ok q =>
              obtain ⟨x, r', n1⟩ := q
              have a := ihn _ _ _ _ _ _ _ hp
              have b := ihl _ _ _ _ _ _ _ h
              rw [List.length_cons]; omega
      · intro t r n d x l' n' h
        rw [pnode_eq] at h
        by_cases h1 : 0 ≤ n ∧ 0 ≤ d
        case neg => rw [if_neg h1] at h; cases h
        rw [if_pos h1] at h
        by_cases h2 : t.f0 = 6 ∧ d > 0
        · rw [if_pos h2] at h; cases h
        rw [if_neg h2] at h
        by_cases h3 : opK t.f0 ∧ d ≥ 32
        · rw [if_pos h3] at h; cases h
        rw [if_neg h3] at h
        by_cases h4 : n ≥ 4096
        · rw [if_pos h4] at h; cases h
        rw [if_neg h4] at h
        by_cases h5 : opK t.f0
        case neg => rw [if_neg h5] at h; cases h; exact Nat.le_refl _
        rw [if_pos h5] at h
        unfold pblk at h
        cases hp : plist k r (n + 1) (d + 1) [] with
        | none => rw [hp] at h; cases h
        | some q =>
          rw [hp] at h
          cases q with
          | error e => cases h
          | ok q =>
            obtain ⟨body, l1, n1⟩ := q
            have s1 := ihl _ _ _ _ _ _ _ hp
            cases l1 with
            | nil => cases h
            | cons t1 r2 =>
              rw [List.length_cons] at s1
              dsimp only at h
              by_cases h7 : t1.f0 = 7
              · rw [if_pos h7] at h
                by_cases h8 : t.f0 = 2
                case neg => rw [if_neg h8] at h; cases h
                rw [if_pos h8] at h
                cases hp2 : plist k r2 n1 (d + 1) [] with
                | none => rw [hp2] at h; cases h
                | some q =>
                  rw [hp2] at h
                  cases q with
                  | error e => cases h
                  | ok q =>
                    obtain ⟨els, r3, n3⟩ := q
                    have s2 := ihl _ _ _ _ _ _ _ hp2
                    have := (endB_ok (Option.some.inj h)).1
                    omega
              · rw [if_neg h7] at h
                have := (endB_ok (Option.some.inj h)).1
                rw [List.length_cons] at this
                omega
end Go.Proofs.YtgdpojleejdfaaaDoor.Px
