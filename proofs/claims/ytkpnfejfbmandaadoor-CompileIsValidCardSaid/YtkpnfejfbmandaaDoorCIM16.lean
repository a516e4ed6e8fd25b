import Derived.Test.YtkpnfejfbmandaaDoorCIM10
import Derived.Test.YtkpnfejfbmandaaDoorCIM15
import Derived.Test.YtkpnfejfbmandaaDoorCIM3
import Derived.Test.YtkpnfejfbmandaaDoorCIM2
import Derived.Outline
import Derived.Test.YtkpnfejfbmandaaDoorCIM8
/- Plain laws: the parser ends; the reference's parser answers as the program's. -/
namespace Go.Proofs.YtkpnfejfbmandaaDoor.Px
open Go.RowKit Go.Proofs.YtkpnfejfbmandaaDoorW.PrintWords Go.Proofs.YtkpnfejfbmandaaDoorW.PrintLast Go.Proofs.YtkpnfejfbmandaaDoorW.PrintMore
set_option linter.unusedVariables false
set_option linter.unusedSimpArgs false
abbrev LTot (m : Nat) : Prop := ∀ (l : List S76) (n d : Int) (out : List S78), l.length ≤ m → out.length + l.length < 100000 → 0 ≤ n → 0 ≤ d →
  ∃ res, (∀ k, 2 * m + 1 ≤ k → plist k l n d out = some res) ∧ ∀ o l' n', res = .ok (o, l', n') → l'.length ≤ l.length ∧ n ≤ n'
abbrev NTot (m : Nat) : Prop := ∀ (t : S76) (r : List S76) (n d : Int), r.length + 1 ≤ m → r.length + 1 < 100000 → 0 ≤ n → 0 ≤ d →
  ∃ res, (∀ k, 2 * m ≤ k → pnode k t r n d = some res) ∧ ∀ x l' n', res = .ok (x, l', n') → l'.length ≤ r.length ∧ n ≤ n'
theorem endB_ok {t : S76} {h : Bool} {body els : List S78} {l : List S76} {n : Int} {x : S78} {l' : List S76} {n' : Int} (e : endB t h body els l n = .ok (x, l', n')) : l'.length ≤ l.length ∧ n ≤ n' := by
  cases l with
  | nil => cases e
  | cons t3 r4 =>
    simp only [endB] at e
    by_cases h8 : t3.f0 = 8
    · rw [if_pos h8] at e; cases e; simp
    · rw [if_neg h8] at e; cases e
theorem pblk_tot (m : Nat) (ih : LTot m) (t : S76) (r : List S76) (n d : Int) (hr : r.length ≤ m) (hl : r.length < 100000) (hn : 0 ≤ n) (hd : 0 ≤ d) :
    ∃ res, (∀ k, 2 * m + 1 ≤ k → pblk k t r n d = some res) ∧ ∀ x l' n', res = .ok (x, l', n') → l'.length ≤ r.length ∧ n ≤ n' := by
  obtain ⟨res, h, hp⟩ := ih r n (d + 1) [] hr (by simpa using hl) hn (by omega)
  cases res with
  | error e => exact ⟨.error e, fun k hk => by unfold pblk; rw [h k hk], fun _ _ _ h => by cases h⟩
  | ok q =>
    obtain ⟨body, l1, n1⟩ := q
    obtain ⟨g1, g2⟩ := hp _ _ _ rfl
    cases l1 with
    | nil => exact ⟨.error (t.f1, 7), fun k hk => by unfold pblk; rw [h k hk], fun _ _ _ h => by cases h⟩
    | cons t1 r2 =>
      rw [List.length_cons] at g1
      by_cases h7 : t1.f0 = 7
      · by_cases h2 : t.f0 = 2
        · obtain ⟨res2, h3, hp3⟩ := ih r2 n1 (d + 1) [] (by omega) (by simp only [List.length_nil]; omega) (by omega) (by omega)
          cases res2 with
          | error e => exact ⟨.error e, fun k hk => by unfold pblk; rw [h k hk]; dsimp only; rw [if_pos h7, if_pos h2, h3 k hk], fun _ _ _ h => by cases h⟩
          | ok q =>
            obtain ⟨els, r3, n3⟩ := q
            obtain ⟨g3, g4⟩ := hp3 _ _ _ rfl
            refine ⟨endB t true body els r3 n3, fun k hk => by unfold pblk; rw [h k hk]; dsimp only; rw [if_pos h7, if_pos h2, h3 k hk], fun x l' n' e => ?_⟩
            obtain ⟨a, b⟩ := endB_ok e
            exact ⟨by omega, by omega⟩
        · exact ⟨.error (t1.f1, 13), fun k hk => by unfold pblk; rw [h k hk]; dsimp only; rw [if_pos h7, if_neg h2], fun _ _ _ h => by cases h⟩
      · refine ⟨endB t false body [] (t1 :: r2) n1, fun k hk => by unfold pblk; rw [h k hk]; dsimp only; rw [if_neg h7], fun x l' n' e => ?_⟩
        obtain ⟨a, b⟩ := endB_ok e
        rw [List.length_cons] at a
        exact ⟨by omega, by omega⟩
theorem parse_tot : ∀ m, LTot m ∧ NTot m := by
  intro m
  induction m with
  | zero =>
    refine ⟨?_, ?_⟩
    · intro l n d out hl ho hn hd
      obtain rfl : l = [] := List.length_eq_zero_iff.1 (by omega)
      exact ⟨_, fun k hk => by obtain ⟨k, rfl⟩ : ∃ k', k = k' + 1 := ⟨k - 1, by omega⟩; exact plist_nil _ _ _ _, fun o l' n' h => by cases h; exact ⟨Nat.le_refl _, Int.le_refl _⟩⟩
    · intro t r n d hr; omega
  | succ m ih =>
    have hnode : NTot (m + 1) := by
      intro t r n d hr hr2 hn hd
      have red : ∀ k, 2 * (m + 1) ≤ k → ∃ j, 2 * m + 1 ≤ j ∧ k = j + 1 := fun k hk => ⟨k - 1, by omega, by omega⟩
      by_cases c1 : t.f0 = 6 ∧ d > 0
      · exact ⟨_, fun k hk => by obtain ⟨j, hj, rfl⟩ := red k hk; rw [pnode_eq, if_pos ⟨hn, hd⟩, if_pos c1], fun _ _ _ h => by cases h⟩
      by_cases c2 : opK t.f0 ∧ d ≥ 32
      · exact ⟨_, fun k hk => by obtain ⟨j, hj, rfl⟩ := red k hk; rw [pnode_eq, if_pos ⟨hn, hd⟩, if_neg c1, if_pos c2], fun _ _ _ h => by cases h⟩
      by_cases c3 : n ≥ 4096
      · exact ⟨_, fun k hk => by obtain ⟨j, hj, rfl⟩ := red k hk; rw [pnode_eq, if_pos ⟨hn, hd⟩, if_neg c1, if_neg c2, if_pos c3], fun _ _ _ h => by cases h⟩
      by_cases c4 : opK t.f0
      · obtain ⟨res, h, hp⟩ := pblk_tot m ih.1 t r (n + 1) d (by omega) (by omega) (by omega) hd
        refine ⟨res, fun k hk => ?_, fun x l' n' e => ?_⟩
        · obtain ⟨j, hj, rfl⟩ := red k hk
          rw [pnode_eq, if_pos ⟨hn, hd⟩, if_neg c1, if_neg c2, if_neg c3, if_pos c4]
          exact h j hj
        · obtain ⟨a, b⟩ := hp _ _ _ e
          exact ⟨a, by omega⟩
      · refine ⟨_, fun k hk => by obtain ⟨j, hj, rfl⟩ := red k hk; rw [pnode_eq, if_pos ⟨hn, hd⟩, if_neg c1, if_neg c2, if_neg c3, if_neg c4], fun x l' n' e => ?_⟩
        cases e
        exact ⟨Nat.le_refl _, by omega⟩
    refine ⟨?_, hnode⟩
    intro l n d out hl ho hn hd
    have red : ∀ k, 2 * (m + 1) + 1 ≤ k → ∃ j, 2 * (m + 1) ≤ j ∧ k = j + 1 := fun k hk => ⟨k - 1, by omega, by omega⟩
    cases l with
    | nil => exact ⟨_, fun k hk => by obtain ⟨k, _, rfl⟩ := red k hk; exact plist_nil _ _ _ _, fun o l' n' h => by cases h; exact ⟨Nat.le_refl _, Int.le_refl _⟩⟩
    | cons t r =>
      rw [List.length_cons] at hl ho
      by_cases c : t.f0 = 7 ∨ t.f0 = 8
      · exact ⟨_, fun k hk => by obtain ⟨k, _, rfl⟩ := red k hk; rw [plist_cons, if_pos (by omega), if_pos c], fun o l' n' h => by cases h; exact ⟨Nat.le_refl _, Int.le_refl _⟩⟩
      obtain ⟨res, h, hp⟩ := hnode t r n d hl (by omega) hn hd
      cases res with
      | error e => exact ⟨.error e, fun k hk => by obtain ⟨k, hk2, rfl⟩ := red k hk; rw [plist_cons, if_pos (by omega), if_neg c, h k hk2], fun _ _ _ h => by cases h⟩
      | ok q =>
        obtain ⟨x, r', n'⟩ := q
        obtain ⟨g1, g2⟩ := hp _ _ _ rfl
        obtain ⟨res2, h2, hp2⟩ := ih.1 r' n' d (out ++ [x]) (by omega) (by rw [List.length_append, List.length_singleton]; omega) (by omega) hd
        refine ⟨res2, fun k hk => by obtain ⟨k, hk2, rfl⟩ := red k hk; rw [plist_cons, if_pos (by omega), if_neg c, h k hk2]; exact h2 k (by omega), fun o l' n'' e => ?_⟩
        obtain ⟨a, b⟩ := hp2 _ _ _ e
        exact ⟨by rw [List.length_cons]; omega, by omega⟩
abbrev RR := List S78 × Int × Int × Int × Int
def stopR (op : Int) (ie : Bool) (o : List S78) (t : S76) (j n : Int) : RR :=
  if t.f0 = 7 then (if op = 2 ∧ ie = false then (o, 0, 0, j, n) else ([], t.f1, 13, j, n)) else if op < 0 then ([], t.f1, 13, j, n) else (o, 0, 0, j, n)
def refL (L : List T5) (op : Int) (ie : Bool) : PA (List S78) → RR → Prop
  | .error (a, e), r => r.1 = [] ∧ r.2.1 = a ∧ r.2.2.1 = e ∧ e ≠ 0
  | .ok (o, [], n'), r => 0 ≤ n' ∧ r = (o, 0, 0, (L.length : Int), n')
  | .ok (o, t :: l', n'), r => 0 ≤ n' ∧ ∃ j : Nat, ∃ h : j < L.length, t = tokS L[j] ∧ l' = (L.map tokS).drop (j + 1) ∧ (t.f0 = 7 ∨ t.f0 = 8) ∧ r = stopR op ie o t j n'
def refN (L : List T5) : PA S78 → S78 × Int × Int × Int × Int → Prop
  | .error (a, e), r => r.2.1 = a ∧ r.2.2.1 = e ∧ e ≠ 0
  | .ok (x, l', n'), r => 0 ≤ n' ∧ ∃ j : Nat, j ≤ L.length ∧ l' = (L.map tokS).drop j ∧ r = (x, 0, 0, (j : Int), n')
abbrev RlIs (L : List T5) (k : Nat) : Prop := ∀ (i : Nat) (n op : Int) (ie : Bool) (dp : Int) (out : List S78) (res : PA (List S78)), i ≤ L.length → 0 ≤ n → 0 ≤ dp →
  plist k ((L.map tokS).drop i) n dp out = some res → ∃ r, rlist k (L.map tokR) i n op ie dp out = some r ∧ refL L op ie res r
abbrev RnIs (L : List T5) (k : Nat) : Prop := ∀ (i : Nat) (hi : i < L.length) (n dp : Int) (res : PA S78), 0 ≤ n → 0 ≤ dp →
  pnode k (tokS L[i]) ((L.map tokS).drop (i + 1)) n dp = some res → ∃ r, rnode k (L.map tokR) i n dp = some r ∧ refN L res r
theorem drop_at (L : List T5) (i : Nat) (h : i < L.length) : (L.map tokS).drop i = tokS L[i] :: (L.map tokS).drop (i + 1) := by
  rw [List.drop_eq_getElem_cons (by simpa using h), List.getElem_map]
theorem rlist_succ (k : Nat) (l : List S140) (i n op : Int) (ie : Bool) (dp : Int) (out : List S78) : rlist (k + 1) l i n op ie dp out =
    if i < (l.length : Int) then
      if 0 ≤ i ∧ out.length < 100000 then
        if (rd_T140 l i).f0 = 7 then (if op = 2 then (if ie = true then some ([], (rd_T140 l i).f1, 13, i, n) else some (out, 0, 0, i, n)) else some ([], (rd_T140 l i).f1, 13, i, n))
        else if (rd_T140 l i).f0 = 8 then (if op < 0 then some ([], (rd_T140 l i).f1, 13, i, n) else some (out, 0, 0, i, n))
        else (rnode k l i n dp).bind fun r => if r.2.2.1 = 0 then rlist k l r.2.2.2.1 r.2.2.2.2 op ie dp (out ++ [r.1]) else some ([], r.2.1, r.2.2.1, r.2.2.2.1, r.2.2.2.2)
      else none
    else some (out, 0, 0, i, n) := by rw [rlist]
theorem rl_step (L : List T5) (k : Nat) (ihl : RlIs L k) (ihn : RnIs L k) : RlIs L (k + 1) := by
  intro i n op ie dp out res hi hn hdp h
  rw [rlist_succ]
  have hlen : ((L.map tokR).length : Int) = L.length := by simp
  rw [hlen]
  by_cases hlt : i < L.length
  case neg =>
    obtain rfl : i = L.length := by omega
    rw [List.drop_of_length_le (by simp), plist_nil] at h
    cases h
    rw [if_neg (by omega)]
    exact ⟨_, rfl, hn, rfl⟩
  rw [drop_at L i hlt, plist_cons] at h
  by_cases ho : out.length < 100000
  case neg => rw [if_neg ho] at h; cases h
  rw [if_pos ho] at h
  rw [if_pos (by omega), if_pos ⟨by omega, ho⟩, rd_map47 L i hlt]
  by_cases c : (tokS L[i]).f0 = 7 ∨ (tokS L[i]).f0 = 8
  · rw [if_pos c] at h
    cases h
    have hr : ∀ r, r = stopR op ie out (tokS L[i]) i n → refL L op ie (.ok (out, tokS L[i] :: (L.map tokS).drop (i + 1), n)) r := fun r e => ⟨hn, i, hlt, rfl, rfl, c, e⟩
    refine ⟨_, ?_, hr _ rfl⟩
    unfold stopR
    by_cases h7 : (tokS L[i]).f0 = 7
    · rw [if_pos (show (tokR L[i]).f0 = 7 from h7), if_pos h7]
      by_cases h2 : op = 2
      · rw [if_pos h2]
        cases ie
        · rw [if_neg (by simp), if_pos ⟨h2, rfl⟩]
        · rw [if_pos rfl, if_neg (by simp)]; rfl
      · rw [if_neg h2, if_neg (fun h => h2 h.1)]; rfl
    · have h8 : (tokS L[i]).f0 = 8 := c.resolve_left h7
      rw [if_neg (show ¬ (tokR L[i]).f0 = 7 from h7), if_pos (show (tokR L[i]).f0 = 8 from h8), if_neg h7]
      by_cases h2 : op < 0
      · rw [if_pos h2, if_pos h2]; rfl
      · rw [if_neg h2, if_neg h2]
  · rw [if_neg c] at h
    rw [if_neg (show ¬ (tokR L[i]).f0 = 7 from fun h => c (.inl h)), if_neg (show ¬ (tokR L[i]).f0 = 8 from fun h => c (.inr h))]
    cases hp : pnode k (tokS L[i]) ((L.map tokS).drop (i + 1)) n dp with
    | none => rw [hp] at h; cases h
    | some rn =>
      rw [hp] at h
      obtain ⟨q, hq, hR⟩ := ihn i hlt n dp rn hn hdp hp
      rw [hq]
      simp only [Option.bind_some]
      cases rn with
      | error e =>
        obtain ⟨a, er⟩ := e
        cases h
        obtain ⟨h1, h2, h3⟩ := hR
        rw [if_neg (by rw [h2]; exact h3)]
        exact ⟨_, rfl, rfl, h1, h2, h3⟩
      | ok x =>
        obtain ⟨x, l', n'⟩ := x
        obtain ⟨hn', j, hj, rfl, rfl⟩ := hR
        rw [if_pos rfl]
        exact ihl j n' op ie dp (out ++ [x]) res hj hn' hdp h
theorem rn_step (L : List T5) (hL : L.length ≤ 70000) (k : Nat) (ihl : RlIs L k) : RnIs L (k + 1) := by
  intro i hi n dp res hn hdp h
  rw [pnode_eq, if_pos ⟨hn, hdp⟩] at h
  rw [rnode, if_pos ⟨by omega, by simp; omega, by omega, hn, hdp⟩]
  dsimp only
  rw [rd_map47 L i hi]
  by_cases c1 : (tokS L[i]).f0 = 6 ∧ dp > 0
  · rw [if_pos c1] at h; cases h
    rw [if_pos (show (tokR L[i]).f0 = 6 ∧ dp > 0 from c1)]
    exact ⟨_, rfl, rfl, rfl, by decide⟩
  rw [if_neg c1] at h
  rw [if_neg (show ¬ ((tokR L[i]).f0 = 6 ∧ dp > 0) from c1)]
  by_cases c2 : opK (tokS L[i]).f0 ∧ dp ≥ 32
  · rw [if_pos c2] at h; cases h
    rw [if_pos (show ((tokR L[i]).f0 = 2 ∨ (tokR L[i]).f0 = 3 ∨ (tokR L[i]).f0 = 6) ∧ dp ≥ 32 from c2)]
    exact ⟨_, rfl, rfl, rfl, by decide⟩
  rw [if_neg c2] at h
  rw [if_neg (show ¬ (((tokR L[i]).f0 = 2 ∨ (tokR L[i]).f0 = 3 ∨ (tokR L[i]).f0 = 6) ∧ dp ≥ 32) from c2)]
  by_cases c3 : n ≥ 4096
  · rw [if_pos c3] at h; cases h
    rw [if_pos c3]
    exact ⟨_, rfl, rfl, rfl, by decide⟩
  rw [if_neg c3] at h ⊢
  by_cases c4 : opK (tokS L[i]).f0
  case neg =>
    rw [if_neg c4] at h; cases h
    rw [if_neg (show ¬ ((tokR L[i]).f0 = 2 ∨ (tokR L[i]).f0 = 3 ∨ (tokR L[i]).f0 = 6) from c4)]
    exact ⟨_, rfl, by omega, i + 1, hi, rfl, rfl⟩
  rw [if_pos c4] at h
  rw [if_pos (show ((tokR L[i]).f0 = 2 ∨ (tokR L[i]).f0 = 3 ∨ (tokR L[i]).f0 = 6) from c4)]
  have hop : ¬ (tokR L[i]).f0 < 0 := by rcases c4 with h | h | h <;> (have h' : (tokR L[i]).f0 = _ := h; omega)
  unfold pblk at h
  cases hp : plist k ((L.map tokS).drop (i + 1)) (n + 1) (dp + 1) [] with
  | none => rw [hp] at h; cases h
  | some res1 =>
  rw [hp] at h
  obtain ⟨r, hr, hR⟩ := ihl (i + 1) (n + 1) (tokR L[i]).f0 false (dp + 1) [] res1 hi (by omega) (by omega) hp
  rw [show ((i : Int) + 1) = ((i + 1 : Nat) : Int) by omega, hr]
  simp only [Option.bind_some]
  cases res1 with
  | error e =>
    obtain ⟨a, er⟩ := e
    cases h
    obtain ⟨_, h1, h2, h3⟩ := hR
    rw [if_neg (by rw [h2]; exact h3)]
    exact ⟨_, rfl, h1, h2, h3⟩
  | ok q =>
    obtain ⟨body, l1, n1⟩ := q
    cases l1 with
    | nil =>
      cases h
      obtain ⟨hn1, rfl⟩ := hR
      dsimp only
      rw [if_pos rfl, if_neg (by simp)]
      exact ⟨_, rfl, rfl, rfl, by decide⟩
    | cons t1 r2 =>
      obtain ⟨hn1, j, hj, rfl, rfl, hk, rfl⟩ := hR
      dsimp only at h
      unfold stopR
      by_cases h7 : (tokS L[j]).f0 = 7
      · rw [if_pos h7] at h ⊢
        by_cases h2 : (tokS L[i]).f0 = 2
        case neg =>
          rw [if_neg h2] at h; cases h
          rw [if_neg (show ¬ ((tokR L[i]).f0 = 2 ∧ false = false) from fun h => h2 h.1)]
          dsimp only
          rw [if_neg (by decide)]
          exact ⟨_, rfl, rfl, rfl, by decide⟩
        rw [if_pos h2] at h
        rw [if_pos (show ((tokR L[i]).f0 = 2 ∧ false = false) from ⟨h2, rfl⟩)]
        dsimp only
        rw [if_pos rfl, if_pos (by simp; omega), if_pos ⟨by omega, by omega⟩, rd_map47 L j hj, if_pos (show (tokR L[j]).f0 = 7 from h7)]
        cases hp2 : plist k ((L.map tokS).drop (j + 1)) n1 (dp + 1) [] with
        | none => rw [hp2] at h; cases h
        | some res2 =>
        rw [hp2] at h
        obtain ⟨r, hr, hR⟩ := ihl (j + 1) n1 (tokR L[i]).f0 true (dp + 1) [] res2 hj hn1 (by omega) hp2
        rw [show ((j : Int) + 1) = ((j + 1 : Nat) : Int) by omega, hr]
        simp only [Option.bind_some]
        cases res2 with
        | error e =>
          obtain ⟨a, er⟩ := e
          cases h
          obtain ⟨_, h1, h2, h3⟩ := hR
          rw [if_neg (by rw [h2]; exact h3)]
          exact ⟨_, rfl, h1, h2, h3⟩
        | ok q =>
          obtain ⟨els, l3, n3⟩ := q
          cases l3 with
          | nil =>
            cases h
            obtain ⟨hn3, rfl⟩ := hR
            dsimp only
            rw [if_pos rfl, if_pos (by simp)]
            exact ⟨_, rfl, rfl, rfl, by decide⟩
          | cons t3 r4 =>
            obtain ⟨hn3, q, hq, rfl, rfl, hk3, rfl⟩ := hR
            dsimp only [endB] at h
            unfold stopR
            by_cases h73 : (tokS L[q]).f0 = 7
            · rw [if_neg (by omega)] at h; cases h
              rw [if_pos h73, if_neg (show ¬ ((tokR L[i]).f0 = 2 ∧ true = false) by simp)]
              dsimp only
              rw [if_neg (by decide)]
              exact ⟨_, rfl, rfl, rfl, by decide⟩
            · rw [if_pos (hk3.resolve_left h73)] at h; cases h
              rw [if_neg h73, if_neg hop]
              dsimp only
              rw [if_pos rfl, if_neg (by simp; omega), if_pos ⟨by omega, by omega⟩]
              exact ⟨_, rfl, hn3, q + 1, hq, rfl, rfl⟩
      · have h8 := hk.resolve_left h7
        rw [if_neg h7] at h ⊢
        dsimp only [endB] at h
        rw [if_pos h8] at h; cases h
        rw [if_neg hop]
        dsimp only
        rw [if_pos rfl, if_pos (by simp; omega), if_pos ⟨by omega, by omega⟩, rd_map47 L j hj, if_neg (show ¬ (tokR L[j]).f0 = 7 from h7)]
        exact ⟨_, rfl, hn1, j + 1, hj, rfl, rfl⟩
theorem ref_is (L : List T5) (hL : L.length ≤ 70000) : ∀ k, RlIs L k ∧ RnIs L k
  | 0 => ⟨fun i n op ie dp out res _ _ _ h => by simp [plist] at h, fun i hi n dp res _ _ h => by simp [pnode] at h⟩
  | k + 1 => ⟨rl_step L k (ref_is L hL k).1 (ref_is L hL k).2, rn_step L hL k (ref_is L hL k).1⟩
end Go.Proofs.YtkpnfejfbmandaaDoor.Px
namespace Go.Proofs.YtkpnfejfbmandaaDoor.Px
open Go.RowKit Go.Proofs.YtkpnfejfbmandaaDoorW.PrintWords Go.Proofs.YtkpnfejfbmandaaDoorW.PrintLast Go.Proofs.YtkpnfejfbmandaaDoorW.PrintMore
set_option linter.unusedVariables false
set_option linter.unusedSimpArgs false
theorem S78.size6 (x : S78) : SizeOf.sizeOf x.f6 < SizeOf.sizeOf x := by cases x; simp; omega
theorem S78.size7 (x : S78) : SizeOf.sizeOf x.f7 < SizeOf.sizeOf x := by cases x; simp; omega
theorem rd_T78_at (a : List S78) (i : Nat) (h : i < a.length) : rd_T78 a (i : Int) = a[i] := by simp [rd_T78, List.getD_eq_getElem?_getD, h]
end Go.Proofs.YtkpnfejfbmandaaDoor.Px
namespace Go.Proofs.YtkpnfejfbmandaaDoor.Px
open Go.RowKit Go.Proofs.YtkpnfejfbmandaaDoorW.PrintWords Go.Proofs.YtkpnfejfbmandaaDoorW.PrintLast Go.Proofs.YtkpnfejfbmandaaDoorW.PrintMore
set_option linter.unusedVariables false
set_option linter.unusedSimpArgs false
def Ev {α : Type} (f : Nat → Option α) (v : α) : Prop := ∃ K, ∀ k, K ≤ k → f k = some v
theorem Ev.up {α : Type} {f : Nat → Option α} (hm : ∀ k, LeO (f k) (f (k + 1))) {v : α} {K : Nat} (h : f K = some v) : Ev f v := by
  refine ⟨K, fun k hk => ?_⟩
  induction hk with
  | refl => exact h
  | step _ ih => exact hm _ _ ih
theorem Ev.pure {α : Type} (v : α) : Ev (fun _ => some v) v := ⟨0, fun _ _ => rfl⟩
theorem Ev.bind {α β : Type} {f : Nat → Option α} {v : α} {g : Nat → α → Option β} {r : β} (h : Ev f v) (k : Ev (fun n => g n v) r) : Ev (fun n => (f n).bind (g n)) r := by
  obtain ⟨K, hK⟩ := h
  obtain ⟨L, hL⟩ := k
  exact ⟨max K L, fun n hn => by show (f n).bind (g n) = _; rw [hK n (by omega)]; exact hL n (by omega)⟩
theorem Ev.shift {α : Type} {f g : Nat → Option α} {v : α} (h : Ev f v) (e : ∀ k, g (k + 1) = f k) : Ev g v := by
  obtain ⟨K, hK⟩ := h
  exact ⟨K + 1, fun n hn => by
    obtain ⟨n, rfl⟩ : ∃ m, n = m + 1 := ⟨n - 1, by omega⟩
    rw [e]; exact hK n (by omega)⟩
theorem Ev.of {α : Type} {f g : Nat → Option α} {v : α} (h : Ev f v) (e : ∀ k, g k = f k) : Ev g v := by
  obtain ⟨K, hK⟩ := h
  exact ⟨K, fun n hn => by rw [e]; exact hK n hn⟩
theorem Ev.one {α : Type} {f : Nat → Option α} {v : α} (h : Ev f v) : ∃ k, f k = some v := h.imp fun K hK => hK K (Nat.le_refl _)
mutual
def nL : List S78 → Nat
  | [] => 0
  | x :: xs => nN x + nL xs
def nN : S78 → Nat
  | ⟨_, _, _, _, _, _, b, l⟩ => 1 + nL b + nL l
end
theorem nN_eq (x : S78) : nN x = 1 + nL x.f6 + nL x.f7 := by cases x; simp [nN]
theorem nL_cons (x : S78) (xs : List S78) : nL (x :: xs) = nN x + nL xs := by simp [nL]
theorem nL_len : ∀ l : List S78, l.length ≤ nL l
  | [] => by simp [nL]
  | x :: xs => by have := nL_len xs; rw [nL_cons, nN_eq, List.length_cons]; omega
theorem nL_mem : ∀ (l : List S78) (x : S78), x ∈ l → nN x ≤ nL l
  | y :: ys, x, h => by
    rw [nL_cons]
    rcases List.mem_cons.1 h with rfl | h
    · omega
    · have := nL_mem ys x h; omega
theorem nL_append : ∀ (xs ys : List S78), nL (xs ++ ys) = nL xs + nL ys
  | [], ys => by simp [nL]
  | x :: xs, ys => by rw [List.cons_append, nL_cons, nL_cons, nL_append xs ys]; omega
theorem nL_one (x : S78) : nL [x] = nN x := by rw [nL_cons]; simp [nL]
theorem parse_cnt : ∀ k, (∀ l n d out o l' n', plist k l n d out = some (.ok (o, l', n')) → n' = n + (nL o : Int) - nL out ∧ (n ≤ 4096 → n' ≤ 4096)) ∧
    (∀ t r n d x l' n', pnode k t r n d = some (.ok (x, l', n')) → n' = n + (nN x : Int) ∧ (n ≤ 4096 → n' ≤ 4096))
  | 0 => ⟨fun l n d out o l' n' h => by simp [plist] at h, fun t r n d x l' n' h => by simp [pnode] at h⟩
  | k + 1 => by
    obtain ⟨ihl, ihn⟩ := parse_cnt k
    refine ⟨?_, ?_⟩
    · intro l n d out o l' n' h
      cases l with
      | nil => rw [plist_nil] at h; cases h; exact ⟨by omega, fun h => h⟩
      | cons t r =>
        rw [plist_cons] at h
        by_cases h1 : out.length < 100000
        case neg => rw [if_neg h1] at h; cases h
        rw [if_pos h1] at h
        by_cases h2 : t.f0 = 7 ∨ t.f0 = 8
        · rw [if_pos h2] at h; cases h; exact ⟨by omega, fun h => h⟩
        rw [if_neg h2] at h
        cases hp : pnode k t r n d with
        | none => rw [hp] at h; cases h
        | some x =>
          rw [hp] at h
          cases x with
          | error e => cases h
          | ok q =>
            obtain ⟨x, r', n1⟩ := q
            obtain ⟨a1, a2⟩ := ihn _ _ _ _ _ _ _ hp
            obtain ⟨b1, b2⟩ := ihl _ _ _ _ _ _ _ h
            rw [nL_append, nL_one] at b1
            exact ⟨by omega, fun h => b2 (a2 h)⟩
    · intro t r n d x l' n' h
      rw [pnode_eq] at h
      by_cases h1 : 0 ≤ n ∧ 0 ≤ d
      case neg => rw [if_neg h1] at h; cases h
      rw [if_pos h1] at h
      by_cases h2 : t.f0 = 6 ∧ d > 0
      · rw [if_pos h2] at h; cases h
      rw [if_neg h2] at h
      by_cases h3 : opK t.f0 ∧ d ≥ 32
      · rw [if_pos h3] at h; cases h
      rw [if_neg h3] at h
      by_cases h4 : n ≥ 4096
      · rw [if_pos h4] at h; cases h
      rw [if_neg h4] at h
      by_cases h5 : opK t.f0
      case neg =>
        rw [if_neg h5] at h; cases h
        refine ⟨?_, fun _ => by omega⟩
        rw [nN_eq]; simp [nL]
      rw [if_pos h5] at h
      have hend : ∀ (hh : Bool) (body els : List S78) (l1 : List S76) (n1 : Int), endB t hh body els l1 n1 = .ok (x, l', n') → n' = n1 ∧ nN x = 1 + nL body + nL els := by
        intro hh body els l1 n1 e
        cases l1 with
        | nil => cases e
        | cons t3 r4 =>
          simp only [endB] at e
          by_cases h8 : t3.f0 = 8
          · rw [if_pos h8] at e; cases e; exact ⟨rfl, by rw [nN_eq]⟩
          · rw [if_neg h8] at e; cases e
      unfold pblk at h
      cases hp : plist k r (n + 1) (d + 1) [] with
      | none => rw [hp] at h; cases h
      | some q =>
        rw [hp] at h
        cases q with
        | error e => cases h
        | ok q =>
          obtain ⟨body, l1, n1⟩ := q
          obtain ⟨a1, a2⟩ := ihl _ _ _ _ _ _ _ hp
          cases l1 with
          | nil => cases h
          | cons t1 r2 =>
            dsimp only at h
            by_cases h7 : t1.f0 = 7
            · rw [if_pos h7] at h
              by_cases h8 : t.f0 = 2
              case neg => rw [if_neg h8] at h; cases h
              rw [if_pos h8] at h
              cases hp2 : plist k r2 n1 (d + 1) [] with
              | none => rw [hp2] at h; cases h
              | some q =>
                rw [hp2] at h
                cases q with
                | error e => cases h
                | ok q =>
                  obtain ⟨els, r3, n3⟩ := q
                  obtain ⟨b1, b2⟩ := ihl _ _ _ _ _ _ _ hp2
                  obtain ⟨c1, c2⟩ := hend _ _ _ _ _ (Option.some.inj h)
                  simp only [nL] at a1 b1
                  exact ⟨by omega, fun _ => by rw [c1]; exact b2 (a2 (by omega))⟩
            · rw [if_neg h7] at h
              obtain ⟨c1, c2⟩ := hend _ _ _ _ _ (Option.some.inj h)
              simp only [nL] at a1 c2
              exact ⟨by omega, fun _ => by rw [c1]; exact a2 (by omega)⟩
theorem lexS_len : ∀ (n p : Nat) (s : List UInt8) (l : List T5), s.length ≤ n → lexS p s = .ok l → l.length ≤ s.length
  | n, p, s, l, hn, e => by
    cases way s with
    | text _ h =>
      rw [lexS_text h] at e; cases e
      unfold txtT; split
      · simp
      · rename_i h0; have := List.length_pos_iff.2 h0; show 1 ≤ _; omega
    | open_ t r h hr => rw [lexS_open h hr] at e; cases e
    | dir t u r h hu =>
      obtain ⟨dd, l', hd, hl', rfl⟩ := lexS_dirOk h hu e
      cases n with
      | zero => simp at hn
      | succ n =>
        have := lexS_len n _ r l' (by simp at hn; omega) hl'
        have h2 : (txtT p t).length ≤ t.length := by
          unfold txtT; split
          · simp
          · rename_i h0; have := List.length_pos_iff.2 h0; show 1 ≤ _; omega
        simp only [List.length_append, List.length_cons]; omega
theorem lexF_len (s : ByteArray) : (lexF s).2.2 = 0 → (lexF s).1.length ≤ 70000 := by
  rcases lexF_cases s with ⟨L, hs, hL, e⟩ | ⟨n, er, e, he, _⟩
  · intro _; rw [e]; rw [List.length_map]; have := lexS_len _ 0 _ L (Nat.le_refl _) hL; rw [data_length] at this; omega
  · intro h; rw [e] at h; exact absurd h he
theorem parse_ev (s : ByteArray) : ∃ r, Ev (fun k => parse_Parse.f k s) r := by
  by_cases he : (lexF s).2.2 = 0
  · obtain ⟨res, h, _⟩ := (parse_tot (lexF s).1.length).1 (lexF s).1 0 0 [] (Nat.le_refl _) (by have := lexF_len s he; simp; omega) (by decide) (by decide)
    exact ⟨parseR s res, 2 * (lexF s).1.length + 1, fun k hk => by
      show parse_Parse.f k s = _
      unfold parse_Parse.f
      rw [if_pos he, h k hk]; rfl⟩
  · exact ⟨_, 0, fun k hk => by
      show parse_Parse.f k s = _
      unfold parse_Parse.f
      rw [if_neg he]⟩
theorem parse_ref (s : ByteArray) (hs : s.size ≤ 5000) {r : List S78 × Int × Int} (h : Ev (fun k => parse_Parse.f k s) r) : Ev (fun k => tmplpiperef12_Parse.f k s) r := by
  obtain ⟨K0, h0⟩ := h
  obtain ⟨L, N, E, e1, e2, _⟩ := lex_both s hs
  obtain ⟨t, ht, _⟩ := lex_ends s (by omega) (s.size + 2) (s.size + 2 + 5 * s.size + 100) [] 0 (Int.le_refl _) (by omega) (by omega) (Nat.le_refl _) (fun t ht => by cases ht) (by simp)
  have hx := rlex_is s (by omega) _ _ _ _ (Int.le_refl _) (by omega) ht
  rw [Int.toNat_zero, List.drop_zero, e2] at hx
  subst hx
  have hL : Ev (fun k => rlexF k s) (L.map tokR, N, E) := Ev.up (rlexF.mono · s) (K := s.size + 2 + 5 * s.size + 100) (by unfold rlexF; rw [if_neg (by omega)]; exact ht)
  by_cases hE : E = 0
  case neg =>
    have hk := h0 K0 (Nat.le_refl _)
    dsimp only at hk
    unfold parse_Parse.f at hk
    rw [e1] at hk
    dsimp only at hk
    rw [if_neg hE] at hk
    cases hk
    exact Ev.bind hL (Ev.of (Ev.pure _) (fun _ => if_neg hE))
  have hlen : L.length ≤ 70000 := by have h := lexF_len s (by rw [e1]; exact hE); rw [e1] at h; simpa using h
  have hk := h0 K0 (Nat.le_refl _)
  dsimp only at hk
  unfold parse_Parse.f at hk
  rw [e1] at hk
  dsimp only at hk
  rw [if_pos hE] at hk
  obtain ⟨res, hp, hr⟩ := Option.map_eq_some_iff.1 hk
  obtain ⟨q, hq, hR⟩ := (ref_is L hlen K0).1 0 0 (-1) false 0 [] res (Nat.zero_le _) (Int.le_refl _) (Int.le_refl _) (by rw [List.drop_zero]; exact hp)
  have hP : Ev (fun k => rlist k (L.map tokR) 0 0 (-1) false 0 []) q := Ev.up (fun k => (rparse.mono k).1 _ _ _ _ _ _ _) hq
  have fin : ∀ r', (if q.2.2.1 = 0 then some (q.1, (s.size : Int), (0 : Int)) else some ([], q.2.1, q.2.2.1)) = some r' → Ev (fun k => tmplpiperef12_Parse.f k s) r' := fun r' e => by
    refine Ev.bind hL ?_
    refine Ev.of (f := fun k => (rlist k (L.map tokR) 0 0 (-1) false 0 []).bind fun q => if q.2.2.1 = 0 then some (q.1, (s.size : Int), (0 : Int)) else some ([], q.2.1, q.2.2.1)) (Ev.bind hP (Ev.of (Ev.pure _) (fun _ => e))) (fun k => if_pos hE)
  refine fin r ?_
  subst hr
  cases res with
  | error e =>
    obtain ⟨a, er⟩ := e
    obtain ⟨h1, h2, h3, h4⟩ := hR
    rw [if_neg (by rw [h3]; exact h4), h2, h3]; rfl
  | ok x =>
    obtain ⟨o, l', n'⟩ := x
    cases l' with
    | nil =>
      obtain ⟨_, rfl⟩ := hR
      rw [if_pos rfl]; rfl
    | cons t l' =>
      obtain ⟨_, j, hj, rfl, rfl, hk7, rfl⟩ := hR
      unfold stopR
      by_cases h7 : (tokS L[j]).f0 = 7
      · rw [if_pos h7, if_neg (by simp)]
        rfl
      · rw [if_neg h7, if_pos (show (-1 : Int) < 0 by decide)]
        rfl
def lexK : Nat → Nat → List UInt8 → Except (Nat × Int) (List T5)
  | 0, _, _ => .ok []
  | k + 1, p, s =>
    if Lib.index s [123, 123] < 0 then .ok (txtT p s)
    else if Lib.index (s.drop ((Lib.index s [123, 123]).toNat + 2)) [125, 125] < 0 then .error (p + (Lib.index s [123, 123]).toNat, 7)
    else
      let i := (Lib.index s [123, 123]).toNat
      let j := (Lib.index (s.drop (i + 2)) [125, 125]).toNat
      let d := dirF (fieldsG ((s.drop (i + 2)).take j) [])
      if d.1 = 0 then
        match lexK k (p + i + j + 4) ((s.drop (i + 2)).drop (j + 2)) with
        | .error e => .error e
        | .ok l => .ok (txtT p (s.take i) ++ (p + i, d.2) :: l)
      else .error (p + i, d.1)
theorem lexK_is : ∀ (k p : Nat) (s : List UInt8), s.length < k → lexS p s = lexK k p s
  | 0, p, s, h => absurd h (Nat.not_lt_zero _)
  | k + 1, p, s, h => by
    rw [lexS, lexK]
    by_cases h1 : Lib.index s [123, 123] < 0
    · rw [dif_pos h1, if_pos h1]
    rw [dif_neg h1, if_neg h1]
    by_cases h2 : Lib.index (s.drop ((Lib.index s [123, 123]).toNat + 2)) [125, 125] < 0
    · rw [dif_pos h2, if_pos h2]
    rw [dif_neg h2, if_neg h2]
    have r1 := Lib.index_room s [123, 123] (by omega)
    have r2 : ([123, 123] : List UInt8).length = 2 := rfl
    rw [r2] at r1
    have hk := fun p' => lexK_is k p' ((s.drop ((Lib.index s [123, 123]).toNat + 2)).drop ((Lib.index (s.drop ((Lib.index s [123, 123]).toNat + 2)) [125, 125]).toNat + 2)) (by rw [List.length_drop, List.length_drop]; omega)
    dsimp only
    rw [hk]
    rfl
def lexFK (s : ByteArray) : List S76 × Int × Int := if (s.size : Int) > 65536 then ([], 0, 6) else lexR s (lexK (s.data.toList.length + 1) 0 s.data.toList)
theorem lexFK_is (s : ByteArray) : lexF s = lexFK s := by unfold lexF lexFK; rw [lexK_is _ _ _ (Nat.lt_succ_self _)]
theorem parseK_is (k : Nat) (s : ByteArray) : parse_Parse.f k s = if (lexFK s).2.2 = 0 then (plist k (lexFK s).1 0 0 []).map (parseR s) else some ([], (lexFK s).2.1, (lexFK s).2.2) := by unfold parse_Parse.f; rw [lexFK_is]
end Go.Proofs.YtkpnfejfbmandaaDoor.Px
namespace Go.Proofs.YtkpnfejfbmandaaDoor.Px
open Go.RowKit Go.Proofs.YtkpnfejfbmandaaDoorW.PrintWords Go.Proofs.YtkpnfejfbmandaaDoorW.PrintLast Go.Proofs.YtkpnfejfbmandaaDoorW.PrintMore
set_option linter.unusedVariables false
set_option linter.unusedSimpArgs false
theorem parse_any {s : ByteArray} {r : List S78 × Int × Int} (h : Ev (fun k => parse_Parse.f k s) r) (w : World) (hG : GS w) :
    Calls Tryd.prog 10 #[.string s] w fun e w' => ∃ (A : Option Addr) (c : Nat), e = .returned (.tuple #[.slice A r.1.length c, .int .i64 r.2.1, .int .i64 r.2.2]) ∧ Kd.C k78 w' A r.1.length r.1 ∧ r.1.length ≤ c ∧ Below w.heap.size w w' := by
  obtain ⟨K, hK⟩ := h
  refine (parse_Parse.calls K s r.1 r.2.1 r.2.2 w hG (hK K (Nat.le_refl _))).mono ?_
  rintro e w' ⟨v, rfl, HR, HB⟩
  obtain ⟨A, c, rfl⟩ := Kd.R_slice HR
  have q := Kd.R_reads' HR
  exact ⟨A, c, rfl, q.2.2, q.2.1, HB⟩
theorem parse_12 {s : ByteArray} {r : List S78 × Int × Int} (h : parse_Parse.f 12 s = some r) : Ev (fun k => parse_Parse.f k s) r := Ev.up (parse_Parse.mono s) h
end Go.Proofs.YtkpnfejfbmandaaDoor.Px
namespace Go.Proofs.YtkpnfejfbmandaaDoor.Px
open Go.RowKit Go.Proofs.YtkpnfejfbmandaaDoorW.PrintWords Go.Proofs.YtkpnfejfbmandaaDoorW.PrintLast Go.Proofs.YtkpnfejfbmandaaDoorW.PrintMore
set_option linter.unusedVariables false
set_option linter.unusedSimpArgs false
mutual
def smL : List S78 → Prop
  | [] => True
  | x :: xs => smN x ∧ smL xs
def smN : S78 → Prop
  | ⟨_, _, S, _, _, _, b, l⟩ => S.size ≤ 65536 ∧ smL b ∧ smL l
end
theorem AOut.appended {w0 w g v0 v st W p v1 w1} (h : AOut w0 w g v0 v st W) (h1 : Kd.R (Kd.int .i64) 3 w1 w0.heap.size (fun k => k ≠ g) v1 (st.1 ++ [p])) (hB : Below w0.heap.size w0 w1) (hg : W.grownBy w1 v.ownBlock)
    (hr : v1.ownBlock = v.ownBlock ∨ ∃ b, v1.ownBlock = some b ∧ W.heap.size ≤ b) : AOut w0 w g v0 v1 (st.1 ++ [p], st.2) (w1.setCell ⟨g, 0, none⟩ v1) :=
  ⟨⟨blk_set (blk_grown h.st.blk hg (fun e => h.st.own.1 g e.symm rfl)) 0 v1, Kd.R_far h1 (fun _ h => h) _, hB.setCell h.st.ge _, h.st.ge⟩, (keep_tr h.keep (KeepBut.of_grown hg g) h.row).set_ 0 _, by
    rcases hr with e | ⟨b, e, hb⟩
    · rw [e]; exact h.row
    · exact .inr (.inr ⟨b, e, Nat.le_trans h.keep.1 hb⟩)⟩
theorem AOut.set4 {w0 w g v0 v st W k cs} (h : AOut w0 w g v0 v st W) (hb : W.heap[k]? = some (.cells cs 88 (0, 0))) (hk : k ≠ g) (hw : w.heap.size ≤ k) (hw0 : w0.heap.size ≤ w.heap.size) (a b c d : Value) :
    AOut w0 w g v0 v st ((((W.setCell ⟨k, 0, none⟩ a).setCell ⟨k, 1, none⟩ b).setCell ⟨k, 2, none⟩ c).setCell ⟨k, 3, none⟩ d) :=
  (((h.setbox hb (by decide) hk hw hw0 _).setbox (blk_set hb 0 _) (by decide) hk hw hw0 _).setbox (blk_set (blk_set hb 0 _) 1 _) (by decide) hk hw hw0 _).setbox (blk_set (blk_set (blk_set hb 0 _) 1 _) 2 _) (by decide) hk hw hw0 _
abbrev iNode.Con (x : S78) : Prop := ∀ (w0 : World) (g : Nat) (v : Value) (st : IS) (s : HS) (A6 A7 : Option Addr) (c6 c7 : Nat) (w : World), AIn w0 g v st w → Kd.C k78 w0 A6 x.f6.length x.f6 → x.f6.length ≤ c6 → Kd.C k78 w0 A7 x.f7.length x.f7 → x.f7.length ≤ c7 → s.gd → smN x → st.1.length + nN x ≤ 1000000 →
  Calls Tryd.prog 60 #[.pointer (some ⟨g, 0, none⟩), .agg #[.int .i64 s.c, .string s.n, .string s.a, .string s.p], .agg #[.int .i64 x.f0, .int .i64 x.f1, .string x.f2, .string x.f3, .bool x.f4, .bool x.f5, .slice A6 x.f6.length c6, .slice A7 x.f7.length c7]] w fun e w' =>
    e = .returned (.agg #[.int .i64 (iN x s st).1.c, .string (iN x s st).1.n, .string (iN x s st).1.a, .string (iN x s st).1.p]) ∧ ∃ v', AOut w0 w g v v' (iN x s st).2 w'
abbrev iList.Con (l : List S78) : Prop := ∀ (w0 : World) (g : Nat) (v : Value) (st : IS) (s : HS) (A : Option Addr) (c : Nat) (w : World), AIn w0 g v st w → Kd.C k78 w0 A l.length l → l.length ≤ c → s.gd → smL l → st.1.length + nL l ≤ 1000000 →
  Calls Tryd.prog 38 #[.pointer (some ⟨g, 0, none⟩), .agg #[.int .i64 s.c, .string s.n, .string s.a, .string s.p], .slice A l.length c] w fun e w' =>
    e = .returned (.agg #[.int .i64 (iL l s st).1.c, .string (iL l s st).1.n, .string (iL l s st).1.a, .string (iL l s st).1.p]) ∧ ∃ v', AOut w0 w g v v' (iL l s st).2 w'
theorem iN_at (x : S78) (s : HS) (st : IS) : iN x s st =
    if x.f0 = 0 then (runF s x.f2.data.toList, st)
    else if x.f0 = 1 then (s, ((if (escF s).2 then st else failI st x.f1 15).1 ++ [(escF s).1], (if (escF s).2 then st else failI st x.f1 15).2))
    else if x.f0 = 4 then (s, expI st x.f1 s hz 15)
    else if x.f0 = 2 then ((iL x.f6 s st).1, expI (iL x.f7 s (iL x.f6 s st).2).2 x.f1 (iL x.f7 s (iL x.f6 s st).2).1 (iL x.f6 s st).1 16)
    else if x.f0 = 3 then (s, expI (iL x.f6 s st).2 x.f1 (iL x.f6 s st).1 s 16)
    else if x.f0 = 6 then (s, expI (iL x.f6 hz st).2 x.f1 (iL x.f6 hz st).1 hz 16)
    else (s, st) := by cases x; rw [iN]
theorem al3 (w : World) (o1 o2 o3 o4 : Obj) : ((((w.alloc o1).alloc o2).alloc o3).alloc o4).heap[w.heap.size + 1 + 1]? = some o3 := by
  have := blk_alloc (blk_new ((w.alloc o1).alloc o2) o3) o4
  rwa [World.size_alloc, World.size_alloc] at this
set_option maxHeartbeats 4000000 in
set_option maxRecDepth 100000 in
theorem iNode.text (x : S78) (hk : x.f0 = 0) : iNode.Con x := by
  intro w0 g v st s A6 A7 c6 c7 w hS hC6 hc6 hC7 hc7 hs hx hl
  rw [iN_at, if_pos hk]
  rw [hk]
  have hz0 : x.f2.size ≤ 65536 := by cases x; simp only [smN] at hx; exact hx.1
  have hrun := run_any s x.f2 hz0 (fun i => (runF_gd _ hs).ok)
  have hgw := blk_lt hS.blk
  have hw0 := hS.bel.size
  have hS4 := Aside0.mk (fun o1 o2 o3 o4 => (((hS.out.alloc o1).alloc o2).alloc o3).alloc o4)
  clear hS hC6 hC7 hx hl
  go_enter Tryd.func60, Tryd.ntmps60
  go_wp2_with (go_at_call 81; refine (hrun _).mono ?_; rintro e w2 ⟨rfl, hb⟩; have hB := Aside0.mk (blk_below (al3 w _ _ _ _) hb); have c0 : w2.cell? ⟨w.heap.size + 1 + 1, 0, none⟩ = some (.int .i64 0) := (blk_cell hB.out 0).trans rfl; have c1 : w2.cell? ⟨w.heap.size + 1 + 1, 1, none⟩ = some (.string ⟨#[]⟩) := (blk_cell hB.out 1).trans rfl; have c2 : w2.cell? ⟨w.heap.size + 1 + 1, 2, none⟩ = some (.string ⟨#[]⟩) := (blk_cell hB.out 2).trans rfl; have c3 : w2.cell? ⟨w.heap.size + 1 + 1, 3, none⟩ = some (.string ⟨#[]⟩) := (blk_cell hB.out 3).trans rfl; have f0 := blk_frozen hB.out 0; have f1 := blk_frozen hB.out 1; have f2 := blk_frozen hB.out 2; have f3 := blk_frozen hB.out 3; have hS5 := Aside0.mk ((hS4.out _ _ _ _).below hb); clear hb)
  refine ret88 rfl rfl rfl rfl (blk_put4 hB.out rfl _ _ _ _) ⟨rfl, v, hS5.out.set4 hB.out (by omega) (by omega) hw0 _ _ _ _⟩
theorem info3 : (Tryd.prog.info? 3).map (fun i => (i.zero, i.size, i.bytes)) = some (some (.int .i64 0), 1, 8) := by kernel_rfl
def nd8 (x : S78) (v6 v7 : Value) : Array Value := #[.int .i64 x.f0, .int .i64 x.f1, .string x.f2, .string x.f3, .bool x.f4, .bool x.f5, v6, v7]
structure Frm (w : World) (s : HS) (x : S78) (v6 v7 : Value) (W : World) : Prop where
  b0 : W.heap[w.heap.size]? = some (.cells (ag4 s) 88 (0, 0))
  b1 : W.heap[w.heap.size + 1]? = some (.cells (nd8 x v6 v7) 78 (0, 0))
  b2 : W.heap[w.heap.size + 1 + 1]? = some (.cells (ag4 hz) 88 (0, 0))
  b3 : W.heap[w.heap.size + 1 + 1 + 1]? = some (.cells (ag4 hz) 88 (0, 0))
theorem Frm.start (w : World) (s : HS) (x : S78) (v6 v7 : Value) : Frm w s x v6 v7 ((((w.alloc (.cells (ag4 s) 88)).alloc (.cells (nd8 x v6 v7) 78)).alloc (.cells (ag4 hz) 88)).alloc (.cells (ag4 hz) 88)) :=
  ⟨blk_alloc (blk_alloc (blk_alloc (blk_new _ _) _) _) _, blk_alloc (blk_alloc (blk_n1 _ _ _) _) _, al3 _ _ _ _ _, by
    have := blk_new (((w.alloc (.cells (ag4 s) 88)).alloc (.cells (nd8 x v6 v7) 78)).alloc (.cells (ag4 hz) 88)) (.cells (ag4 hz) 88)
    rwa [World.size_alloc, World.size_alloc, World.size_alloc] at this⟩
theorem Frm.below {w s x v6 v7 W W2} (h : Frm w s x v6 v7 W) (hb : Below W.heap.size W W2) : Frm w s x v6 v7 W2 := ⟨blk_below h.b0 hb, blk_below h.b1 hb, blk_below h.b2 hb, blk_below h.b3 hb⟩
theorem Frm.out {w s x v6 v7 W W2 w0 g v0 v st st0} (h : Frm w s x v6 v7 W) (hX : AOut w0 W g v0 v st W2) (h0 : AIn w0 g v0 st0 W) (hg : g < w.heap.size) : Frm w s x v6 v7 W2 :=
  ⟨hX.box h0 h.b0 (by decide) (by omega), hX.box h0 h.b1 (by decide) (by omega), hX.box h0 h.b2 (by decide) (by omega), hX.box h0 h.b3 (by decide) (by omega)⟩
theorem Frm.grown {w s x v6 v7 W W2 w0 g v st} (h : Frm w s x v6 v7 W) (hI : AIn w0 g v st W) (hg : W.grownBy W2 v.ownBlock) : Frm w s x v6 v7 W2 := by
  obtain ⟨inner, ho⟩ := Kd.R_own hI.own
  exact ⟨blk_grown h.b0 hg (own_ne ho h.b0 (by decide)), blk_grown h.b1 hg (own_ne ho h.b1 (by decide)), blk_grown h.b2 hg (own_ne ho h.b2 (by decide)), blk_grown h.b3 hg (own_ne ho h.b3 (by decide))⟩
theorem Frm.al {w s x v6 v7 W} (h : Frm w s x v6 v7 W) (o : Obj) : Frm w s x v6 v7 (W.alloc o) := ⟨blk_alloc h.b0 o, blk_alloc h.b1 o, blk_alloc h.b2 o, blk_alloc h.b3 o⟩
theorem Frm.set {w s x v6 v7 W} (h : Frm w s x v6 v7 W) {g j : Nat} (hg : g < w.heap.size) (u : Value) : Frm w s x v6 v7 (W.setCell ⟨g, j, none⟩ u) :=
  ⟨blk_far h.b0 (by simp; omega) _, blk_far h.b1 (by simp; omega) _, blk_far h.b2 (by simp; omega) _, blk_far h.b3 (by simp; omega) _⟩
structure FrmC (w : World) (s : HS) (x : S78) (v6 v7 : Value) (W : World) : Prop where
  s0 : W.cell? ⟨w.heap.size, 0, none⟩ = some (.int .i64 s.c)
  s1 : W.cell? ⟨w.heap.size, 1, none⟩ = some (.string s.n)
  s2 : W.cell? ⟨w.heap.size, 2, none⟩ = some (.string s.a)
  s3 : W.cell? ⟨w.heap.size, 3, none⟩ = some (.string s.p)
  n0 : W.cell? ⟨w.heap.size + 1, 0, none⟩ = some (.int .i64 x.f0)
  n1 : W.cell? ⟨w.heap.size + 1, 1, none⟩ = some (.int .i64 x.f1)
  n2 : W.cell? ⟨w.heap.size + 1, 2, none⟩ = some (.string x.f2)
  n3 : W.cell? ⟨w.heap.size + 1, 3, none⟩ = some (.string x.f3)
  n4 : W.cell? ⟨w.heap.size + 1, 4, none⟩ = some (.bool x.f4)
  n5 : W.cell? ⟨w.heap.size + 1, 5, none⟩ = some (.bool x.f5)
  n6 : W.cell? ⟨w.heap.size + 1, 6, none⟩ = some v6
  n7 : W.cell? ⟨w.heap.size + 1, 7, none⟩ = some v7
  r0 : W.cell? ⟨w.heap.size + 1 + 1, 0, none⟩ = some (.int .i64 0)
  r1 : W.cell? ⟨w.heap.size + 1 + 1, 1, none⟩ = some (.string ⟨#[]⟩)
  r2 : W.cell? ⟨w.heap.size + 1 + 1, 2, none⟩ = some (.string ⟨#[]⟩)
  r3 : W.cell? ⟨w.heap.size + 1 + 1, 3, none⟩ = some (.string ⟨#[]⟩)
  f0 : W.frozen? ⟨w.heap.size + 1 + 1, 0, none⟩ = false
  f1 : W.frozen? ⟨w.heap.size + 1 + 1, 1, none⟩ = false
  f2 : W.frozen? ⟨w.heap.size + 1 + 1, 2, none⟩ = false
  f3 : W.frozen? ⟨w.heap.size + 1 + 1, 3, none⟩ = false
  z0 : W.cell? ⟨w.heap.size + 1 + 1 + 1, 0, none⟩ = some (.int .i64 0)
  z1 : W.cell? ⟨w.heap.size + 1 + 1 + 1, 1, none⟩ = some (.string ⟨#[]⟩)
  z2 : W.cell? ⟨w.heap.size + 1 + 1 + 1, 2, none⟩ = some (.string ⟨#[]⟩)
  z3 : W.cell? ⟨w.heap.size + 1 + 1 + 1, 3, none⟩ = some (.string ⟨#[]⟩)
theorem Frm.cells {w s x v6 v7 W} (h : Frm w s x v6 v7 W) : FrmC w s x v6 v7 W :=
  ⟨blk_cell h.b0 0, blk_cell h.b0 1, blk_cell h.b0 2, blk_cell h.b0 3, blk_cell h.b1 0, blk_cell h.b1 1, blk_cell h.b1 2, blk_cell h.b1 3, blk_cell h.b1 4, blk_cell h.b1 5, blk_cell h.b1 6, blk_cell h.b1 7, blk_cell h.b2 0, blk_cell h.b2 1, blk_cell h.b2 2, blk_cell h.b2 3, blk_frozen h.b2 0, blk_frozen h.b2 1, blk_frozen h.b2 2, blk_frozen h.b2 3, blk_cell h.b3 0, blk_cell h.b3 1, blk_cell h.b3 2, blk_cell h.b3 3⟩
theorem Frm.lt {w s x v6 v7 W} (h : Frm w s x v6 v7 W) : w.heap.size + 1 + 1 + 1 < W.heap.size := blk_lt h.b3
theorem node_begin {w0 g v st} {w : World} (hS : AIn w0 g v st w) (s : HS) (x : S78) (v6 v7 : Value) : ∃ W4, W4 = ((((w.alloc (.cells (ag4 s) 88)).alloc (.cells (nd8 x v6 v7) 78)).alloc (.cells (ag4 hz) 88)).alloc (.cells (ag4 hz) 88)) ∧ AOut w0 w g v v st W4 ∧ Frm w s x v6 v7 W4 ∧ g < w.heap.size ∧ w0.heap.size ≤ w.heap.size :=
  ⟨_, rfl, (((hS.out.alloc _).alloc _).alloc _).alloc _, Frm.start _ _ _ _ _, blk_lt hS.blk, hS.bel.size⟩
set_option maxHeartbeats 4000000 in
set_option maxRecDepth 100000 in
theorem iNode.print (x : S78) (hk : x.f0 = 1) : iNode.Con x := by
  intro w0 g v st s A6 A7 c6 c7 w hS hC6 hc6 hC7 hc7 hs hx hl
  obtain ⟨W4, e4, hA, hF, hgw, hw0⟩ := node_begin hS s x (.slice A6 x.f6.length c6) (.slice A7 x.f7.length c7)
  have hlen : (st.1.length + 1) * 8 ≤ 140737488355328 := by have : 1 ≤ nN x := by rw [nN_eq]; omega
                                                            omega
  clear hS hC6 hC7 hx hl hc6 hc7
  rw [iN_at, if_neg (by rw [hk]; decide), if_pos hk]
  replace e4 : W4 = ((((w.alloc (.cells #[.int .i64 s.c, .string s.n, .string s.a, .string s.p] 88)).alloc (.cells #[.int .i64 x.f0, .int .i64 x.f1, .string x.f2, .string x.f3, .bool x.f4, .bool x.f5, .slice A6 x.f6.length c6, .slice A7 x.f7.length c7] 78)).alloc (.cells #[.int .i64 0, .string ⟨#[]⟩, .string ⟨#[]⟩, .string ⟨#[]⟩] 88)).alloc (.cells #[.int .i64 0, .string ⟨#[]⟩, .string ⟨#[]⟩, .string ⟨#[]⟩] 88)) := e4
  rw [hk] at e4 ⊢
  generalize x.f6.length = n6 at *
  generalize x.f7.length = n7 at *
  replace hA := Aside0.mk hA
  replace hF := Aside0.mk hF
  have hlt := hF.out.lt
  obtain ⟨⟨c0, c1, c2⟩, k0, k1, k2⟩ := hA.out.st.cells
  obtain ⟨s0, s1, s2, s3, n0, n1, n2, n3, n4, n5, n6', n7', r0, r1, r2, r3, f0, f1, f2, f3, z0, z1, z2, z3⟩ := hF.out.cells
  rw [hk] at n0
  have lt0 : w.heap.size < W4.heap.size := by omega
  have lt1 : w.heap.size + 1 < W4.heap.size := by omega
  have lt2 : w.heap.size + 1 + 1 < W4.heap.size := by omega
  have ltg : g < W4.heap.size := by omega
  cases hok : (escF s).2
  · simp only [Bool.false_eq_true, if_false]
    have hfl : Aside0 ((failI st x.f1 15).1 = st.1) := ⟨by unfold failI; split <;> rfl⟩
    go_enter Tryd.func60, Tryd.ntmps60
    go_upto_region 2 with fail
    rw [← e4]
    clear e4
    go_wp2_with (first | (go_at_call 82; refine (escaper_any s _).mono ?_; rintro e w2 ⟨rfl, o, rfl⟩) | (go_at_call 61; refine (fail_any 1 x.f1 x.f2 x.f3 x.f4 x.f5 _ _ 15 _ (hA.out.st.alloc _)).mono ?_; rintro e w3 ⟨rfl, h3⟩; have hF2 := Aside0.mk ((hF.out.al o).out h3 (hA.out.st.alloc o) hgw); have hB3 := Aside0.mk ((hA.out.alloc o).call h3); clear h3; clear s0 s1 s2 s3 n0 n1 n2 n3 n4 n5 n6' n7' r0 r1 r2 r3 f0 f1 f2 f3 z0 z1 z2 z3 c0 c1 c2 k0 k1 k2; obtain ⟨⟨c0, c1, c2⟩, k0, k1, k2⟩ := hB3.out.st.cells; obtain ⟨s0, s1, s2, s3, n0, n1, n2, n3, n4, n5, n6', n7', r0, r1, r2, r3, f0, f1, f2, f3, z0, z1, z2, z3⟩ := hF2.out.cells; have lt5 := hF2.out.lt; have ltg5 := blk_lt hB3.out.st.blk) | (at_builtin; go_loud (refine Kd.R_append (Kd.int .i64) w0.heap.size rfl _ _ 35 3 _ 8 rfl Tryd.underlying35 info3 rfl (by decide) (by decide) v (failI st x.f1 15).1 (escF s).1 [.int .i64 (escF s).1] (fun k => k ≠ g) (fun k => k ≠ g ∧ some k ≠ v.ownBlock) rfl rfl rfl (fun k hk => hk) (fun k hk e => by have := blk_lt hB3.out.st.blk; omega) hB3.out.st.own hB3.out.st.bel hB3.out.st.bel.size (by rw [hfl.out]; exact hlen) ?_; intro v1 w5 h1 hB1 hg1 hr1; obtain ⟨A1, c1', rfl⟩ := Kd.R_slice h1; have hX := Aside0.mk (hB3.out.appended h1 hB1 hg1 hr1); simp only [List.length_append, List.length_cons, List.length_nil, Nat.zero_add] at hX; have hF3 := Aside0.mk (hF2.out.grown hB3.out.st hg1); have hb3 := blk_grown hB3.out.st.blk hg1 (fun e => (hB3.out.st.own.1 g e.symm) rfl); have c0' := blk_cell hb3 0; have k0' := blk_frozen hb3 0; clear h1 hB1 hg1 hr1 hb3 s0 s1 s2 s3 n0 n1 n2 n3 n4 n5 n6' n7' r0 r1 r2 r3 f0 f1 f2 f3 z0 z1 z2 z3 c0 c1 c2 k0 k1 k2; obtain ⟨s0, s1, s2, s3, -, -, -, -, -, -, -, -, r0, r1, r2, r3, f0, f1, f2, f3, -, -, -, -⟩ := hF3.out.cells)))
    exact ret88 rfl rfl rfl rfl (blk_put4 (hF3.out.set hgw _).b2 rfl _ _ _ _) ⟨rfl, _, hX.out.set4 (hF3.out.set hgw _).b2 (by omega) (by omega) hw0 _ _ _ _⟩
  · simp only [if_true]
    go_enter Tryd.func60, Tryd.ntmps60
    go_upto_region 2 with fail
    rw [← e4]
    clear e4
    go_wp2_with (first | (go_at_call 82; refine (escaper_any s _).mono ?_; rintro e w2 ⟨rfl, o, rfl⟩) | (at_builtin; go_loud (refine Kd.R_append (Kd.int .i64) w0.heap.size rfl _ _ 35 3 _ 8 rfl Tryd.underlying35 info3 rfl (by decide) (by decide) v st.1 (escF s).1 [.int .i64 (escF s).1] (fun k => k ≠ g) (fun k => k ≠ g ∧ some k ≠ v.ownBlock) rfl (by rw [World.size_alloc]; rfl) rfl (fun k hk => hk) (fun k hk e => by have := blk_lt (hA.out.alloc o).st.blk; omega) (hA.out.alloc o).st.own (hA.out.alloc o).st.bel (hA.out.alloc o).st.bel.size hlen ?_; intro v1 w5 h1 hB1 hg1 hr1; obtain ⟨A1, c1', rfl⟩ := Kd.R_slice h1; have hX := Aside0.mk ((hA.out.alloc o).appended h1 hB1 hg1 hr1); simp only [List.length_append, List.length_cons, List.length_nil, Nat.zero_add] at hX; have hF3 := Aside0.mk ((hF.out.al o).grown (hA.out.alloc o).st hg1); have hb3 := blk_grown (hA.out.alloc o).st.blk hg1 (fun e => ((hA.out.alloc o).st.own.1 g e.symm) rfl); have c0' := blk_cell hb3 0; have k0' := blk_frozen hb3 0; clear h1 hB1 hg1 hr1 hb3 s0 s1 s2 s3 n0 n1 n2 n3 n4 n5 n6' n7' r0 r1 r2 r3 f0 f1 f2 f3 z0 z1 z2 z3 c0 c1 c2 k0 k1 k2; obtain ⟨s0, s1, s2, s3, -, -, -, -, -, -, -, -, r0, r1, r2, r3, f0, f1, f2, f3, -, -, -, -⟩ := hF3.out.cells)))
    exact ret88 rfl rfl rfl rfl (blk_put4 (hF3.out.set hgw _).b2 rfl _ _ _ _) ⟨rfl, _, hX.out.set4 (hF3.out.set hgw _).b2 (by omega) (by omega) hw0 _ _ _ _⟩
end Go.Proofs.YtkpnfejfbmandaaDoor.Px
