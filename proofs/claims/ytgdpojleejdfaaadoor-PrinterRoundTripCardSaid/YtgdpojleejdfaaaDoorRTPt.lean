import Derived.Test.YtgdpojleejdfaaaDoorRTPz
import Derived.Test.YtgdpojleejdfaaaDoorRTRq
import Derived.Test.YtgdpojleejdfaaaDoorRTMt
/- Plain laws: the parser ends; the reference's parser answers as the program's. -/
namespace Go.Proofs.YtgdpojleejdfaaaDoor.Px
open Go.RowKit Go.Proofs.YtgdpojleejdfaaaDoorW.PrintWords Go.Proofs.YtgdpojleejdfaaaDoorW.PrintLast Go.Proofs.YtgdpojleejdfaaaDoorW.PrintMore
set_option linter.unusedVariables false
set_option linter.unusedSimpArgs false
abbrev LTot (m : Nat) : Prop := ∀ (l : List S28) (n d : Int) (out : List S39), l.length ≤ m → out.length + l.length < 100000 → 0 ≤ n → 0 ≤ d →
  ∃ res, (∀ k, 2 * m + 1 ≤ k → plist k l n d out = some res) ∧ ∀ o l' n', res = .ok (o, l', n') → l'.length ≤ l.length ∧ n ≤ n'
abbrev NTot (m : Nat) : Prop := ∀ (t : S28) (r : List S28) (n d : Int), r.length + 1 ≤ m → r.length + 1 < 100000 → 0 ≤ n → 0 ≤ d →
  ∃ res, (∀ k, 2 * m ≤ k → pnode k t r n d = some res) ∧ ∀ x l' n', res = .ok (x, l', n') → l'.length ≤ r.length ∧ n ≤ n'
theorem endB_ok {t : S28} {h : Bool} {body els : List S39} {l : List S28} {n : Int} {x : S39} {l' : List S28} {n' : Int} (e : endB t h body els l n = .ok (x, l', n')) : l'.length ≤ l.length ∧ n ≤ n' := by
  cases l with
  | nil => cases e
  | cons t3 r4 =>
    simp only [endB] at e
    by_cases h8 : t3.f0 = 8
    · rw [if_pos h8] at e; cases e; simp
    · rw [if_neg h8] at e; cases e
theorem pblk_tot (m : Nat) (ih : LTot m) (t : S28) (r : List S28) (n d : Int) (hr : r.length ≤ m) (hl : r.length < 100000) (hn : 0 ≤ n) (hd : 0 ≤ d) :
    ∃ res, (∀ k, 2 * m + 1 ≤ k → pblk k t r n d = some res) ∧ ∀ x l' n', res = .ok (x, l', n') → l'.length ≤ r.length ∧ n ≤ n' := by
  obtain ⟨res, h, hp⟩ := ih r n (d + 1) [] hr (by simpa using hl) hn (by omega)
  cases res with
  | error e => exact ⟨.error e, fun k hk => by unfold pblk; rw [h k hk], fun _ _ _ h => by cases h⟩
  | ok q =>
    obtain ⟨body, l1, n1⟩ := q
    obtain ⟨g1, g2⟩ := hp _ _ _ rfl
    cases l1 with
    | nil => exact ⟨.error (t.f1, 7), fun k hk => by unfold pblk; rw [h k hk], fun _ _ _ h => by cases h⟩
    | cons t1 r2 =>
      rw [List.length_cons] at g1
      by_cases h7 : t1.f0 = 7
      · by_cases h2 : t.f0 = 2
        · obtain ⟨res2, h3, hp3⟩ := ih r2 n1 (d + 1) [] (by omega) (by simp only [List.length_nil]; omega) (by omega) (by omega)
          cases res2 with
          | error e => exact ⟨.error e, fun k hk => by unfold pblk; rw [h k hk]; dsimp only; rw [if_pos h7, if_pos h2, h3 k hk], fun _ _ _ h => by cases h⟩
          | ok q =>
            obtain ⟨els, r3, n3⟩ := q
            obtain ⟨g3, g4⟩ := hp3 _ _ _ rfl
            refine ⟨endB t true body els r3 n3, fun k hk => by unfold pblk; rw [h k hk]; dsimp only; rw [if_pos h7, if_pos h2, h3 k hk], fun x l' n' e => ?_⟩
            obtain ⟨a, b⟩ := endB_ok e
            exact ⟨by omega, by omega⟩
        · exact ⟨.error (t1.f1, 13), fun k hk => by unfold pblk; rw [h k hk]; dsimp only; rw [if_pos h7, if_neg h2], fun _ _ _ h => by cases h⟩
      · refine ⟨endB t false body [] (t1 :: r2) n1, fun k hk => by unfold pblk; rw [h k hk]; dsimp only; rw [if_neg h7], fun x l' n' e => ?_⟩
        obtain ⟨a, b⟩ := endB_ok e
        rw [List.length_cons] at a
        exact ⟨by omega, by omega⟩
theorem parse_tot : ∀ m, LTot m ∧ NTot m := by
  intro m
  induction m with
  | zero =>
    refine ⟨?_, ?_⟩
    · intro l n d out hl ho hn hd
      obtain rfl : l = [] := List.length_eq_zero_iff.1 (by omega)
      exact ⟨_, fun k hk => by obtain ⟨k, rfl⟩ : ∃ k', k = k' + 1 := ⟨k - 1, by omega⟩; exact plist_nil _ _ _ _, fun o l' n' h => by cases h; exact ⟨Nat.le_refl _, Int.le_refl _⟩⟩
    · intro t r n d hr; omega
  | succ m ih =>
    have hnode : NTot (m + 1) := by
      intro t r n d hr hr2 hn hd
      have red : ∀ k, 2 * (m + 1) ≤ k → ∃ j, 2 * m + 1 ≤ j ∧ k = j + 1 := fun k hk => ⟨k - 1, by omega, by omega⟩
      by_cases c1 : t.f0 = 6 ∧ d > 0
      · exact ⟨_, fun k hk => by obtain ⟨j, hj, rfl⟩ := red k hk; rw [pnode_eq, if_pos ⟨hn, hd⟩, if_pos c1], fun _ _ _ h => by cases h⟩
      by_cases c2 : opK t.f0 ∧ d ≥ 32
      · exact ⟨_, fun k hk => by obtain ⟨j, hj, rfl⟩ := red k hk; rw [pnode_eq, if_pos ⟨hn, hd⟩, if_neg c1, if_pos c2], fun _ _ _ h => by cases h⟩
      by_cases c3 : n ≥ 4096
      · exact ⟨_, fun k hk => by obtain ⟨j, hj, rfl⟩ := red k hk; rw [pnode_eq, if_pos ⟨hn, hd⟩, if_neg c1, if_neg c2, if_pos c3], fun _ _ _ h => by cases h⟩
      by_cases c4 : opK t.f0
      · obtain ⟨res, h, hp⟩ := pblk_tot m ih.1 t r (n + 1) d (by omega) (by omega) (by omega) hd
        refine ⟨res, fun k hk => ?_, fun x l' n' e => ?_⟩
        · obtain ⟨j, hj, rfl⟩ := red k hk
          rw [pnode_eq, if_pos ⟨hn, hd⟩, if_neg c1, if_neg c2, if_neg c3, if_pos c4]
          exact h j hj
        · obtain ⟨a, b⟩ := hp _ _ _ e
          exact ⟨a, by omega⟩
      · refine ⟨_, fun k hk => by obtain ⟨j, hj, rfl⟩ := red k hk; rw [pnode_eq, if_pos ⟨hn, hd⟩, if_neg c1, if_neg c2, if_neg c3, if_neg c4], fun x l' n' e => ?_⟩
        cases e
        exact ⟨Nat.le_refl _, by omega⟩
    refine ⟨?_, hnode⟩
    intro l n d out hl ho hn hd
    have red : ∀ k, 2 * (m + 1) + 1 ≤ k → ∃ j, 2 * (m + 1) ≤ j ∧ k = j + 1 := fun k hk => ⟨k - 1, by omega, by omega⟩
    cases l with
    | nil => exact ⟨_, fun k hk => by obtain ⟨k, _, rfl⟩ := red k hk; exact plist_nil _ _ _ _, fun o l' n' h => by cases h; exact ⟨Nat.le_refl _, Int.le_refl _⟩⟩
    | cons t r =>
      rw [List.length_cons] at hl ho
      by_cases c : t.f0 = 7 ∨ t.f0 = 8
      · exact ⟨_, fun k hk => by obtain ⟨k, _, rfl⟩ := red k hk; rw [plist_cons, if_pos (by omega), if_pos c], fun o l' n' h => by cases h; exact ⟨Nat.le_refl _, Int.le_refl _⟩⟩
      obtain ⟨res, h, hp⟩ := hnode t r n d hl (by omega) hn hd
      cases res with
      | error e => exact ⟨.error e, fun k hk => by obtain ⟨k, hk2, rfl⟩ := red k hk; rw [plist_cons, if_pos (by omega), if_neg c, h k hk2], fun _ _ _ h => by cases h⟩
      | ok q =>
        obtain ⟨x, r', n'⟩ := q
        obtain ⟨g1, g2⟩ := hp _ _ _ rfl
        obtain ⟨res2, h2, hp2⟩ := ih.1 r' n' d (out ++ [x]) (by omega) (by rw [List.length_append, List.length_singleton]; omega) (by omega) hd
        refine ⟨res2, fun k hk => by obtain ⟨k, hk2, rfl⟩ := red k hk; rw [plist_cons, if_pos (by omega), if_neg c, h k hk2]; exact h2 k (by omega), fun o l' n'' e => ?_⟩
        obtain ⟨a, b⟩ := hp2 _ _ _ e
        exact ⟨by rw [List.length_cons]; omega, by omega⟩
abbrev RR := List S39 × Int × Int × Int × Int
/-- What the reference's list answers where the program's leaves off at an Else or End. -/
def stopR (op : Int) (ie : Bool) (o : List S39) (t : S28) (j n : Int) : RR :=
  if t.f0 = 7 then (if op = 2 ∧ ie = false then (o, 0, 0, j, n) else ([], t.f1, 13, j, n)) else if op < 0 then ([], t.f1, 13, j, n) else (o, 0, 0, j, n)
def refL (L : List T5) (op : Int) (ie : Bool) : PA (List S39) → RR → Prop
  | .error (a, e), r => r.1 = [] ∧ r.2.1 = a ∧ r.2.2.1 = e ∧ e ≠ 0
  | .ok (o, [], n'), r => 0 ≤ n' ∧ r = (o, 0, 0, (L.length : Int), n')
  | .ok (o, t :: l', n'), r => 0 ≤ n' ∧ ∃ j : Nat, ∃ h : j < L.length, t = tokS L[j] ∧ l' = (L.map tokS).drop (j + 1) ∧ (t.f0 = 7 ∨ t.f0 = 8) ∧ r = stopR op ie o t j n'
def refN (L : List T5) : PA S39 → S39 × Int × Int × Int × Int → Prop
  | .error (a, e), r => r.2.1 = a ∧ r.2.2.1 = e ∧ e ≠ 0
  | .ok (x, l', n'), r => 0 ≤ n' ∧ ∃ j : Nat, j ≤ L.length ∧ l' = (L.map tokS).drop j ∧ r = (x, 0, 0, (j : Int), n')
abbrev RlIs (L : List T5) (k : Nat) : Prop := ∀ (i : Nat) (n op : Int) (ie : Bool) (dp : Int) (out : List S39) (res : PA (List S39)), i ≤ L.length → 0 ≤ n → 0 ≤ dp →
  plist k ((L.map tokS).drop i) n dp out = some res → ∃ r, rlist k (L.map tokR) i n op ie dp out = some r ∧ refL L op ie res r
abbrev RnIs (L : List T5) (k : Nat) : Prop := ∀ (i : Nat) (hi : i < L.length) (n dp : Int) (res : PA S39), 0 ≤ n → 0 ≤ dp →
  pnode k (tokS L[i]) ((L.map tokS).drop (i + 1)) n dp = some res → ∃ r, rnode k (L.map tokR) i n dp = some r ∧ refN L res r
theorem drop_at (L : List T5) (i : Nat) (h : i < L.length) : (L.map tokS).drop i = tokS L[i] :: (L.map tokS).drop (i + 1) := by
  rw [List.drop_eq_getElem_cons (by simpa using h), List.getElem_map]
theorem rlist_succ (k : Nat) (l : List S47) (i n op : Int) (ie : Bool) (dp : Int) (out : List S39) : rlist (k + 1) l i n op ie dp out =
    if i < (l.length : Int) then
      if 0 ≤ i ∧ out.length < 100000 then
        if (rd_T47 l i).f0 = 7 then (if op = 2 then (if ie = true then some ([], (rd_T47 l i).f1, 13, i, n) else some (out, 0, 0, i, n)) else some ([], (rd_T47 l i).f1, 13, i, n))
        else if (rd_T47 l i).f0 = 8 then (if op < 0 then some ([], (rd_T47 l i).f1, 13, i, n) else some (out, 0, 0, i, n))
        else (rnode k l i n dp).bind fun r => if r.2.2.1 = 0 then rlist k l r.2.2.2.1 r.2.2.2.2 op ie dp (out ++ [r.1]) else some ([], r.2.1, r.2.2.1, r.2.2.2.1, r.2.2.2.2)
      else none
    else some (out, 0, 0, i, n) := by rw [rlist]
theorem rl_step (L : List T5) (k : Nat) (ihl : RlIs L k) (ihn : RnIs L k) : RlIs L (k + 1) := by
  intro i n op ie dp out res hi hn hdp h
  rw [rlist_succ]
  have hlen : ((L.map tokR).length : Int) = L.length := by simp
  rw [hlen]
  by_cases hlt : i < L.length
  case neg =>
    obtain rfl : i = L.length := by omega
    rw [List.drop_of_length_le (by simp), plist_nil] at h
    cases h
    rw [if_neg (by omega)]
    exact ⟨_, rfl, hn, rfl⟩
  rw [drop_at L i hlt, plist_cons] at h
  by_cases ho : out.length < 100000
  case neg => rw [if_neg ho] at h; cases h
  rw [if_pos ho] at h
  rw [if_pos (by omega), if_pos ⟨by omega, ho⟩, rd_map47 L i hlt]
  by_cases c : (tokS L[i]).f0 = 7 ∨ (tokS L[i]).f0 = 8
  · rw [if_pos c] at h
    cases h
    have hr : ∀ r, r = stopR op ie out (tokS L[i]) i n → refL L op ie (.ok (out, tokS L[i] :: (L.map tokS).drop (i + 1), n)) r := fun r e => ⟨hn, i, hlt, rfl, rfl, c, e⟩
    refine ⟨_, ?_, hr _ rfl⟩
    unfold stopR
    by_cases h7 : (tokS L[i]).f0 = 7
    · rw [if_pos (show (tokR L[i]).f0 = 7 from h7), if_pos h7]
      by_cases h2 : op = 2
      · rw [if_pos h2]
        cases ie
        · rw [if_neg (by simp), if_pos ⟨h2, rfl⟩]
        · rw [if_pos rfl, if_neg (by simp)]; rfl
      · rw [if_neg h2, if_neg (fun h => h2 h.1)]; rfl
    · have h8 : (tokS L[i]).f0 = 8 := c.resolve_left h7
      rw [if_neg (show ¬ (tokR L[i]).f0 = 7 from h7), if_pos (show (tokR L[i]).f0 = 8 from h8), if_neg h7]
      by_cases h2 : op < 0
      · rw [if_pos h2, if_pos h2]; rfl
      · rw [if_neg h2, if_neg h2]
  · rw [if_neg c] at h
    rw [if_neg (show ¬ (tokR L[i]).f0 = 7 from fun h => c (.inl h)), if_neg (show ¬ (tokR L[i]).f0 = 8 from fun h => c (.inr h))]
    cases hp : pnode k (tokS L[i]) ((L.map tokS).drop (i + 1)) n dp with
    | none => rw [hp] at h; cases h
    | some rn =>
      rw [hp] at h
      obtain ⟨q, hq, hR⟩ := ihn i hlt n dp rn hn hdp hp
      rw [hq]
      simp only [Option.bind_some]
      cases rn with
      | error e =>
        obtain ⟨a, er⟩ := e
        cases h
        obtain ⟨h1, h2, h3⟩ := hR
        rw [if_neg (by rw [h2]; exact h3)]
        exact ⟨_, rfl, rfl, h1, h2, h3⟩
      | ok x =>
        obtain ⟨x, l', n'⟩ := x
        obtain ⟨hn', j, hj, rfl, rfl⟩ := hR
        rw [if_pos rfl]
        exact ihl j n' op ie dp (out ++ [x]) res hj hn' hdp h
theorem rn_step (L : List T5) (hL : L.length ≤ 70000) (k : Nat) (ihl : RlIs L k) : RnIs L (k + 1) := by
  intro i hi n dp res hn hdp h
  rw [pnode_eq, if_pos ⟨hn, hdp⟩] at h
  rw [rnode, if_pos ⟨by omega, by simp; omega, by omega, hn, hdp⟩]
  dsimp only
  rw [rd_map47 L i hi]
  by_cases c1 : (tokS L[i]).f0 = 6 ∧ dp > 0
  · rw [if_pos c1] at h; cases h
    rw [if_pos (show (tokR L[i]).f0 = 6 ∧ dp > 0 from c1)]
    exact ⟨_, rfl, rfl, rfl, by decide⟩
  rw [if_neg c1] at h
  rw [if_neg (show ¬ ((tokR L[i]).f0 = 6 ∧ dp > 0) from c1)]
  by_cases c2 : opK (tokS L[i]).f0 ∧ dp ≥ 32
  · rw [if_pos c2] at h; cases h
    rw [if_pos (show ((tokR L[i]).f0 = 2 ∨ (tokR L[i]).f0 = 3 ∨ (tokR L[i]).f0 = 6) ∧ dp ≥ 32 from c2)]
    exact ⟨_, rfl, rfl, rfl, by decide⟩
  rw [if_neg c2] at h
  rw [if_neg (show ¬ (((tokR L[i]).f0 = 2 ∨ (tokR L[i]).f0 = 3 ∨ (tokR L[i]).f0 = 6) ∧ dp ≥ 32) from c2)]
  by_cases c3 : n ≥ 4096
  · rw [if_pos c3] at h; cases h
    rw [if_pos c3]
    exact ⟨_, rfl, rfl, rfl, by decide⟩
  rw [if_neg c3] at h ⊢
  by_cases c4 : opK (tokS L[i]).f0
  case neg =>
    rw [if_neg c4] at h; cases h
    rw [if_neg (show ¬ ((tokR L[i]).f0 = 2 ∨ (tokR L[i]).f0 = 3 ∨ (tokR L[i]).f0 = 6) from c4)]
    exact ⟨_, rfl, by omega, i + 1, hi, rfl, rfl⟩
  rw [if_pos c4] at h
  rw [if_pos (show ((tokR L[i]).f0 = 2 ∨ (tokR L[i]).f0 = 3 ∨ (tokR L[i]).f0 = 6) from c4)]
  have hop : ¬ (tokR L[i]).f0 < 0 := by rcases c4 with h | h | h <;> (have h' : (tokR L[i]).f0 = _ := h; omega)
  unfold pblk at h
  cases hp : plist k ((L.map tokS).drop (i + 1)) (n + 1) (dp + 1) [] with
  | none => rw [hp] at h; cases h
  | some res1 =>
  rw [hp] at h
  obtain ⟨r, hr, hR⟩ := ihl (i + 1) (n + 1) (tokR L[i]).f0 false (dp + 1) [] res1 hi (by omega) (by omega) hp
  rw [show ((i : Int) + 1) = ((i + 1 : Nat) : Int) by omega, hr]
  simp only [Option.bind_some]
  cases res1 with
  | error e =>
    obtain ⟨a, er⟩ := e
    cases h
    obtain ⟨_, h1, h2, h3⟩ := hR
    rw [if_neg (by rw [h2]; exact h3)]
    exact ⟨_, rfl, h1, h2, h3⟩
  | ok q =>
    obtain ⟨body, l1, n1⟩ := q
    cases l1 with
    | nil =>
      cases h
      obtain ⟨hn1, rfl⟩ := hR
      dsimp only
      rw [if_pos rfl, if_neg (by simp)]
      exact ⟨_, rfl, rfl, rfl, by decide⟩
    | cons t1 r2 =>
      obtain ⟨hn1, j, hj, rfl, rfl, hk, rfl⟩ := hR
      dsimp only at h
      unfold stopR
      by_cases h7 : (tokS L[j]).f0 = 7
      · rw [if_pos h7] at h ⊢
        by_cases h2 : (tokS L[i]).f0 = 2
        case neg =>
          rw [if_neg h2] at h; cases h
          rw [if_neg (show ¬ ((tokR L[i]).f0 = 2 ∧ false = false) from fun h => h2 h.1)]
          dsimp only
          rw [if_neg (by decide)]
          exact ⟨_, rfl, rfl, rfl, by decide⟩
        rw [if_pos h2] at h
        rw [if_pos (show ((tokR L[i]).f0 = 2 ∧ false = false) from ⟨h2, rfl⟩)]
        dsimp only
        rw [if_pos rfl, if_pos (by simp; omega), if_pos ⟨by omega, by omega⟩, rd_map47 L j hj, if_pos (show (tokR L[j]).f0 = 7 from h7)]
        cases hp2 : plist k ((L.map tokS).drop (j + 1)) n1 (dp + 1) [] with
        | none => rw [hp2] at h; cases h
        | some res2 =>
        rw [hp2] at h
        obtain ⟨r, hr, hR⟩ := ihl (j + 1) n1 (tokR L[i]).f0 true (dp + 1) [] res2 hj hn1 (by omega) hp2
        rw [show ((j : Int) + 1) = ((j + 1 : Nat) : Int) by omega, hr]
        simp only [Option.bind_some]
        cases res2 with
        | error e =>
          obtain ⟨a, er⟩ := e
          cases h
          obtain ⟨_, h1, h2, h3⟩ := hR
          rw [if_neg (by rw [h2]; exact h3)]
          exact ⟨_, rfl, h1, h2, h3⟩
        | ok q =>
          obtain ⟨els, l3, n3⟩ := q
          cases l3 with
          | nil =>
            cases h
            obtain ⟨hn3, rfl⟩ := hR
            dsimp only
            rw [if_pos rfl, if_pos (by simp)]
            exact ⟨_, rfl, rfl, rfl, by decide⟩
          | cons t3 r4 =>
            obtain ⟨hn3, q, hq, rfl, rfl, hk3, rfl⟩ := hR
            dsimp only [endB] at h
            unfold stopR
            by_cases h73 : (tokS L[q]).f0 = 7
            · rw [if_neg (by omega)] at h; cases h
              rw [if_pos h73, if_neg (show ¬ ((tokR L[i]).f0 = 2 ∧ true = false) by simp)]
              dsimp only
              rw [if_neg (by decide)]
              exact ⟨_, rfl, rfl, rfl, by decide⟩
            · rw [if_pos (hk3.resolve_left h73)] at h; cases h
              rw [if_neg h73, if_neg hop]
              dsimp only
              rw [if_pos rfl, if_neg (by simp; omega), if_pos ⟨by omega, by omega⟩]
              exact ⟨_, rfl, hn3, q + 1, hq, rfl, rfl⟩
      · have h8 := hk.resolve_left h7
        rw [if_neg h7] at h ⊢
        dsimp only [endB] at h
        rw [if_pos h8] at h; cases h
        rw [if_neg hop]
        dsimp only
        rw [if_pos rfl, if_pos (by simp; omega), if_pos ⟨by omega, by omega⟩, rd_map47 L j hj, if_neg (show ¬ (tokR L[j]).f0 = 7 from h7)]
        exact ⟨_, rfl, hn1, j + 1, hj, rfl, rfl⟩
theorem ref_is (L : List T5) (hL : L.length ≤ 70000) : ∀ k, RlIs L k ∧ RnIs L k
  | 0 => ⟨fun i n op ie dp out res _ _ _ h => by simp [plist] at h, fun i hi n dp res _ _ h => by simp [pnode] at h⟩
  | k + 1 => ⟨rl_step L k (ref_is L hL k).1 (ref_is L hL k).2, rn_step L hL k (ref_is L hL k).1⟩
end Go.Proofs.YtgdpojleejdfaaaDoor.Px
