import Derived.Test.YtkpnfejfbmandaaDoorCU2
import Derived.Test.YtkpnfejfbmandaaDoorCU11
import Derived.Test.YtkpnfejfbmandaaDoorCU5
import Derived.Test.YtkpnfejfbmandaaDoorCU3
import Derived.Test.YtkpnfejfbmandaaDoorCU10
/- Merged texts: Al Of Or Oc Ow Fl. -/
/- tmplpipelaw11's example holds; small laws on lexF. -/
namespace Go.Proofs.YtkpnfejfbmandaaDoor.Px
open Go.RowKit Go.Proofs.YtkpnfejfbmandaaDoorW.PrintWords Go.Proofs.YtkpnfejfbmandaaDoorW.PrintLast Go.Proofs.YtkpnfejfbmandaaDoorW.PrintMore
theorem lexF_small {s : ByteArray} (h : s.size ≤ 65536) : lexF s = lexR s (lexS 0 s.data.toList) := if_neg (by omega)
end Go.Proofs.YtkpnfejfbmandaaDoor.Px
/- Where the tokens of lexS stand. -/
namespace Go.Proofs.YtkpnfejfbmandaaDoor.Px
open Go.RowKit Go.Proofs.YtkpnfejfbmandaaDoorW.PrintWords Go.Proofs.YtkpnfejfbmandaaDoorW.PrintLast Go.Proofs.YtkpnfejfbmandaaDoorW.PrintMore
set_option linter.unusedVariables false
set_option linter.unusedSimpArgs false
/-- The tokens stand behind lo, in D; pt: the one before was a text. -/
def OffsOk (D : List UInt8) : Nat → Bool → List T5 → Prop
  | _, _, [] => True
  | lo, pt, x :: xs => lo ≤ x.1 ∧ x.1 < D.length ∧ (x.2.1 = 0 → pt = false ∧ ∃ r, D.drop x.1 = x.2.2.1 ++ r) ∧ (x.2.1 ≠ 0 → ∃ r, D.drop x.1 = 123 :: r) ∧ OffsOk D (x.1 + 1) (x.2.1 == 0) xs
theorem dirE_ok {k : Int} {s p : List UInt8} {h : Bool} {t : T4} (e : dirE k s p h = (0, t)) : t = (k, s, p, h) ∧ pathL p = true ∧ (named k = true → nameL s = true) := by
  unfold dirE at e
  split at e
  · rename_i hc
    simp only [Prod.mk.injEq, true_and] at e
    exact ⟨e.symm, hc⟩
  · simp at e
theorem dirP_ok {k : Int} {s : List UInt8} {ws : List (List UInt8)} {t : T4} (e : dirP k s ws = (0, t)) : t.1 = k ∧ t.2.1 = s ∧ pathL t.2.2.1 = true ∧ (named k = true → nameL s = true) ∧ (t.2.2.2 = true ↔ ws.length = 1) ∧
    (t.2.2.2 = false → ws = [] ∧ t.2.2.1 = []) ∧ (t.2.2.2 = true → ws = [46 :: t.2.2.1]) ∧ leastOf k ≤ ws.length ∧ ws.length ≤ mostOf k := by
  unfold dirP at e
  split at e
  · simp at e
  · rename_i hc
    have hm1 : mostOf k ≤ 1 := by unfold mostOf; split <;> omega
    match ws, hc, e with
    | [], hc, e =>
      obtain ⟨rfl, h1, h2⟩ := dirE_ok e
      exact ⟨rfl, rfl, h1, h2, by simp, fun _ => ⟨rfl, rfl⟩, fun h => (by cases h), by omega, by omega⟩
    | w :: r, hc, e =>
      have hr : r = [] := List.eq_nil_of_length_eq_zero (by rw [List.length_cons] at hc; omega)
      subst hr
      try dsimp only at e
      split at e
      · rename_i hp
        obtain ⟨rfl, h1, h2⟩ := dirE_ok e
        have hw : w = 46 :: w.drop 1 := by
          cases w with
          | nil => simp [Lib.hasPrefix, List.isPrefixOf] at hp
          | cons a w =>
            simp only [Lib.hasPrefix, List.isPrefixOf, Bool.and_eq_true, beq_iff_eq] at hp
            rw [← hp.1]; rfl
        exact ⟨rfl, rfl, h1, h2, by simp, fun h => (by cases h), fun _ => by rw [← hw], by omega, by omega⟩
      · simp at e
/-- A directive's kind. -/
theorem dirF_kind {ws : List (List UInt8)} {t : T4} (e : dirF ws = (0, t)) : 1 ≤ t.1 ∧ t.1 ≤ 8 := by
  have hK : ∀ k ws, dirK k ws = (0, t) → t.1 = k := fun k ws e => by
    unfold dirK at e
    split at e
    · match ws, e with
      | [], e => simp at e
      | w :: r, e =>
        try dsimp only at e
        split at e
        · simp at e
        · exact (dirP_ok e).1
    · exact (dirP_ok e).1
  unfold dirF at e
  match ws, e with
  | [], e => simp at e
  | w :: r, e =>
    try dsimp only at e
    split at e
    · rename_i k hk
      rw [hK _ _ e]; exact kw_range hk
    · split at e
      · rw [hK _ _ e]; decide
      · simp at e
theorem lexS_dirOk {p : Nat} {t u r : List UInt8} (h : noPair 123 (t ++ [123])) (hu : noPair 125 (u ++ [125])) {l : List T5} (e : lexS p (t ++ 123 :: 123 :: (u ++ 125 :: 125 :: r)) = .ok l) :
    ∃ d l', dirF (fieldsG u []) = (0, d) ∧ lexS (p + t.length + u.length + 4) r = .ok l' ∧ l = txtT p t ++ (p + t.length, d) :: l' := by
  rw [lexS_dir h hu] at e
  generalize dirF (fieldsG u []) = dd at e ⊢
  obtain ⟨d0, d⟩ := dd
  try dsimp only at e
  split at e
  · rename_i h0
    subst h0
    cases hl : lexS (p + t.length + u.length + 4) r with
    | error x => rw [hl] at e; cases e
    | ok l' => rw [hl] at e; cases e; exact ⟨d, l', rfl, rfl, rfl⟩
  · cases e
/-- What the i-th token tells. -/
theorem OffsOk.at_ {D : List UInt8} : ∀ {l : List T5} {lo : Nat} {pt : Bool}, OffsOk D lo pt l → ∀ (i : Nat) (h : i < l.length), l[i].1 < D.length ∧ (l[i].2.1 = 0 → ∃ r, D.drop l[i].1 = l[i].2.2.1 ++ r) ∧ (l[i].2.1 ≠ 0 → ∃ r, D.drop l[i].1 = 123 :: r)
  | x :: xs, lo, pt, h, 0, hi => ⟨h.2.1, fun e => (h.2.2.1 e).2, h.2.2.2.1⟩
  | x :: xs, lo, pt, h, i + 1, hi => h.2.2.2.2.at_ i (by simpa using hi)
theorem OffsOk.next {D : List UInt8} : ∀ {l : List T5} {lo : Nat} {pt : Bool}, OffsOk D lo pt l → ∀ (i : Nat) (h : i + 1 < l.length), l[i].1 < l[i + 1].1 ∧ ¬ (l[i].2.1 = 0 ∧ l[i + 1].2.1 = 0)
  | x :: y :: xs, lo, pt, h, 0, hi => by
    obtain ⟨_, _, _, _, h2⟩ := h
    refine ⟨h2.1, fun e => ?_⟩
    have h3 := (h2.2.2.1 e.2).1
    rw [beq_eq_false_iff_ne] at h3
    exact h3 e.1
  | x :: xs, lo, pt, h, i + 1, hi => h.2.2.2.2.next i (by simpa using hi)
end Go.Proofs.YtkpnfejfbmandaaDoor.Px
/- The canonical source of tokens has these tokens. -/
namespace Go.Proofs.YtkpnfejfbmandaaDoor.Px
open Go.RowKit Go.Proofs.YtkpnfejfbmandaaDoorW.PrintWords Go.Proofs.YtkpnfejfbmandaaDoorW.PrintLast Go.Proofs.YtkpnfejfbmandaaDoorW.PrintMore
set_option linter.unusedVariables false
set_option linter.unusedSimpArgs false
/-- The keyword of a kind; the canonical words of a directive; a token's canonical source. -/
def kwL (k : Int) : List (List UInt8) := match (kwList.find? (fun p => p.2 == k)).map (·.1) with | none => [] | some s => [s]
def wordsOf (d : T4) : List (List UInt8) := kwL d.1 ++ ((if d.2.1 = [] then [] else [d.2.1]) ++ (if d.2.2.2 = true then [46 :: d.2.2.1] else []))
def fmtD (d : T4) : List UInt8 := if d.1 = 0 then d.2.1 else 123 :: 123 :: (Lib.join (wordsOf d) [32] ++ [125, 125])
theorem kwL_of {w : List UInt8} {k : Int} (h : kwKind w = some k) : kwL k = [w] := by
  have h := kwKind_mem h
  simp only [kwList, List.mem_cons, Prod.mk.injEq, List.not_mem_nil, or_false] at h
  rcases h with ⟨rfl, rfl⟩ | ⟨rfl, rfl⟩ | ⟨rfl, rfl⟩ | ⟨rfl, rfl⟩ | ⟨rfl, rfl⟩ | ⟨rfl, rfl⟩ | ⟨rfl, rfl⟩ <;> rfl
theorem kwL_no (k : Int) : ∀ w ∈ kwL k, (125 : UInt8) ∉ w := by
  intro w hw
  unfold kwL at hw
  cases h : kwList.find? (fun p => p.2 == k) with
  | none => rw [h] at hw; cases hw
  | some p =>
    rw [h] at hw
    have hm := List.mem_of_find?_eq_some h
    simp only [Option.map_some, List.mem_singleton] at hw
    rw [hw]
    simp only [kwList, List.mem_cons, List.not_mem_nil, or_false] at hm
    rcases hm with rfl | rfl | rfl | rfl | rfl | rfl | rfl <;> decide
theorem dirP_words {k : Int} {s : List UInt8} {ws : List (List UInt8)} {t : T4} (e : dirP k s ws = (0, t)) (hs : s = [] ↔ named k = false) (w : List (List UInt8)) (hw : kwL k = w) :
    w ++ ((if s = [] then [] else [s]) ++ ws) = wordsOf t ∧ t.1 = k ∧ t.2.1 = s ∧ pathL t.2.2.1 = true := by
  obtain ⟨h1, h2, h3, h4, h5, h6, h7, h8, h9⟩ := dirP_ok e
  refine ⟨?_, h1, h2, h3⟩
  unfold wordsOf
  rw [h1, h2, hw]
  congr 2
  cases hb : t.2.2.2 with
  | false => rw [if_neg (by decide)]; exact (h6 hb).1
  | true => rw [if_pos rfl]; exact h7 hb
theorem nameL_ne {s : List UInt8} (h : nameL s = true) : s ≠ [] := by
  intro e; subst e; simp [nameL] at h
theorem dirK_words {k : Int} {ws : List (List UInt8)} {t : T4} (e : dirK k ws = (0, t)) (w : List (List UInt8)) (hw : kwL k = w) : w ++ ws = wordsOf t ∧ pathL t.2.2.1 = true ∧ (t.2.1 ≠ [] → nameL t.2.1 = true) := by
  unfold dirK at e
  split at e
  · rename_i hn
    match ws, e with
    | [], e => simp at e
    | s :: r, e =>
      try dsimp only at e
      split at e
      · simp at e
      · have hnm := (dirP_ok e).2.2.2.1 hn
        have hs := nameL_ne hnm
        obtain ⟨h1, h2, h3, h4⟩ := dirP_words e ⟨fun h => absurd h hs, fun h => by rw [hn] at h; cases h⟩ w hw
        rw [if_neg hs] at h1
        exact ⟨h1, h4, fun _ => by rw [h3]; exact hnm⟩
  · rename_i hn
    have hn : named k = false := by simpa using hn
    obtain ⟨h1, h2, h3, h4⟩ := dirP_words e ⟨fun _ => hn, fun _ => rfl⟩ w hw
    rw [if_pos rfl] at h1
    exact ⟨h1, h4, fun h => absurd h3 h⟩
/-- The words of a directive are determined by its token. -/
theorem dirF_words {ws : List (List UInt8)} {t : T4} (e : dirF ws = (0, t)) : ws = wordsOf t ∧ pathL t.2.2.1 = true ∧ (t.2.1 ≠ [] → nameL t.2.1 = true) := by
  unfold dirF at e
  match ws, e with
  | [], e => simp at e
  | w :: r, e =>
    try dsimp only at e
    split at e
    · rename_i k hk
      exact dirK_words e [w] (kwL_of hk)
    · split at e
      · exact dirK_words e [] rfl
      · simp at e
theorem nmGo_safe : ∀ {b : Bool} {s : List UInt8}, nmGo b s = true → ∀ x ∈ s, x ≠ 125
  | b, y :: s, h, x, hx => by
    simp only [nmGo, Bool.and_eq_true, Bool.or_eq_true] at h
    rcases List.mem_cons.1 hx with rfl | hx
    · intro e
      subst e
      revert h
      cases b <;> simp [letB, digB] <;> decide
    · exact nmGo_safe h.2 x hx
theorem nameL_safe {s : List UInt8} (h : nameL s = true) : ∀ x ∈ s, x ≠ 125 := by
  unfold nameL at h
  simp only [Bool.and_eq_true] at h
  exact nmGo_safe h.2.2
theorem dotG_mem : ∀ (s cur : List UInt8) (x : UInt8), x ∈ s → x = 46 ∨ ∃ w ∈ dotG s cur, x ∈ w
  | b :: s, cur, x, hx => by
    rw [dotG]
    split
    · rename_i hb
      rcases List.mem_cons.1 hx with rfl | hx
      · exact .inl hb
      · rcases dotG_mem s [] x hx with h | ⟨w, hw, hm⟩
        · exact .inl h
        · exact .inr ⟨w, by simp [hw], hm⟩
    · rcases List.mem_cons.1 hx with rfl | hx
      · exact .inr (dotG_cur s _ x (by simp))
      · exact dotG_mem s _ x hx
where
  dotG_cur : ∀ (s cur : List UInt8) (x : UInt8), x ∈ cur → ∃ w ∈ dotG s cur, x ∈ w
    | [], cur, x, hx => ⟨cur, by simp [dotG], hx⟩
    | b :: s, cur, x, hx => by
      rw [dotG]
      split
      · exact ⟨cur, by simp, hx⟩
      · exact dotG_cur s _ x (by simp [hx])
theorem pathL_safe {s : List UInt8} (h : pathL s = true) : ∀ x ∈ s, x ≠ 125 := by
  intro x hx
  unfold pathL at h
  have hne : s.isEmpty = false := by cases s with | nil => cases hx | cons _ _ => rfl
  rw [hne, Bool.false_or, Bool.and_eq_true, split_dot _ _ (Nat.le_refl _)] at h
  rcases dotG_mem s [] x hx with rfl | ⟨w, hw, hm⟩
  · decide
  · exact nameL_safe (List.all_eq_true.1 h.2 w hw) x hm
theorem wordsOf_no {t : T4} (hp : pathL t.2.2.1 = true) (hn : t.2.1 ≠ [] → nameL t.2.1 = true) : ∀ w ∈ wordsOf t, (125 : UInt8) ∉ w := by
  intro w hw
  unfold wordsOf at hw
  rw [List.mem_append, List.mem_append] at hw
  rcases hw with hw | hw | hw
  · exact kwL_no _ w hw
  · split at hw
    · cases hw
    · rename_i h
      rw [List.mem_singleton.1 hw]
      exact fun hm => nameL_safe (hn h) _ hm rfl
  · split at hw
    · rw [List.mem_singleton.1 hw]
      intro hm
      rcases List.mem_cons.1 hm with h | hm
      · exact absurd h (by decide)
      · exact pathL_safe hp _ hm rfl
    · cases hw
theorem join_cons2L (x y : List UInt8) (r : List (List UInt8)) : Lib.join (x :: y :: r) [32] = x ++ 32 :: Lib.join (y :: r) [32] := by simp [Lib.join, List.intercalate, List.intersperse]
theorem fields_join : ∀ (ws : List (List UInt8)), (∀ w ∈ ws, w ≠ [] ∧ ∀ b ∈ w, b ≠ 32) → fieldsG (Lib.join ws [32]) [] = ws
  | [], _ => by rw [Lib.join_nil]; rfl
  | [w], h => by
    obtain ⟨h1, h2⟩ := h w (by simp)
    rw [Lib.join_one]
    have := fieldsG_skip w [] [] h2
    rw [List.append_nil, List.nil_append] at this
    rw [this]
    simp [fieldsG, wordCons, h1]
  | w :: v :: r, h => by
    obtain ⟨h1, h2⟩ := h w (by simp)
    rw [join_cons2L, fieldsG_skip w _ [] h2, List.nil_append, fieldsG, if_pos rfl, fields_join (v :: r) (fun x hx => h x (by simp at hx ⊢; exact .inr hx))]
    simp [wordCons, h1]
theorem fieldsG_safe : ∀ (u cur : List UInt8), (∀ b ∈ cur, b ≠ 32) → ∀ w ∈ fieldsG u cur, w ≠ [] ∧ ∀ b ∈ w, b ≠ 32
  | [], cur, hc, w, hw => by
    unfold fieldsG wordCons at hw
    split at hw
    · cases hw
    · rename_i h; rw [List.mem_singleton.1 hw]; exact ⟨h, hc⟩
  | b :: u, cur, hc, w, hw => by
    rw [fieldsG] at hw
    split at hw
    · unfold wordCons at hw
      split at hw
      · exact fieldsG_safe u [] (by simp) w hw
      · rename_i h
        rcases List.mem_cons.1 hw with rfl | hw
        · exact ⟨h, hc⟩
        · exact fieldsG_safe u [] (by simp) w hw
    · rename_i hb
      exact fieldsG_safe u _ (fun x hx => by
        rcases List.mem_append.1 hx with hx | hx
        · exact hc x hx
        · rw [List.mem_singleton.1 hx]; exact hb) w hw
theorem fieldsG_len : ∀ (u cur : List UInt8), (Lib.join (fieldsG u cur) [32]).length ≤ u.length + cur.length
  | [], cur => by
    unfold fieldsG wordCons
    split
    · simp [Lib.join_nil]
    · rw [Lib.join_one]; simp
  | b :: u, cur => by
    rw [fieldsG]
    split
    · unfold wordCons
      have ih := fieldsG_len u []
      split
      · simp at ih ⊢; omega
      · cases h : fieldsG u [] with
        | nil => rw [Lib.join_one]; simp
        | cons y r => rw [join_cons2L, ← h]; simp at ih ⊢; omega
    · have ih := fieldsG_len u (cur ++ [b])
      simp at ih ⊢; omega
theorem noPair_notmem {c : UInt8} : ∀ {u : List UInt8}, c ∉ u → noPair c (u ++ [c])
  | [], _ => trivial
  | [a], h => ⟨fun e => h (by rw [e.1]; simp), trivial⟩
  | a :: b :: u, h => ⟨fun e => h (by rw [e.1]; simp), noPair_notmem (u := b :: u) (fun e => h (by simp at e ⊢; exact .inr e))⟩
theorem join_no {c : UInt8} (hc : c ≠ 32) : ∀ (ws : List (List UInt8)), (∀ w ∈ ws, c ∉ w) → c ∉ Lib.join ws [32]
  | [], _ => by rw [Lib.join_nil]; simp
  | [w], h => by rw [Lib.join_one]; exact h w (by simp)
  | w :: v :: r, h => by
    rw [join_cons2L, List.mem_append, List.mem_cons]
    rintro (hm | hm | hm)
    · exact h w (by simp) hm
    · exact hc hm
    · exact join_no hc (v :: r) (fun x hx => h x (by simp at hx ⊢; exact .inr hx)) hm
structure DOk (d : T4) : Prop where
  ne : d.1 ≠ 0
  dir : dirF (fieldsG (Lib.join (wordsOf d) [32]) []) = (0, d)
  no : noPair 125 (Lib.join (wordsOf d) [32] ++ [125])
theorem dOk_of {u : List UInt8} {d : T4} (h : dirF (fieldsG u []) = (0, d)) : DOk d ∧ (Lib.join (wordsOf d) [32]).length ≤ u.length := by
  obtain ⟨h1, h2, h3⟩ := dirF_words h
  have hs := fieldsG_safe u [] (by simp)
  rw [h1] at hs
  refine ⟨⟨by have := dirF_kind h; omega, ?_, noPair_notmem (join_no (by decide) _ (wordsOf_no h2 h3))⟩, ?_⟩
  · rw [fields_join _ hs, ← h1]; exact h
  · have := fieldsG_len u []
    rw [h1] at this
    simpa using this
def CanT : List T5 → Prop
  | [] => True
  | x :: xs => (if x.2.1 = 0 then x.2 = (0, x.2.2.1, [], false) ∧ x.2.2.1 ≠ [] ∧ noPair 123 x.2.2.1 ∧ (xs = [] ∨ (∃ y ys, xs = y :: ys ∧ y.2.1 ≠ 0 ∧ noPair 123 (x.2.2.1 ++ [123]))) else DOk x.2) ∧ CanT xs
def fmtAll (l : List T5) : List UInt8 := l.flatMap fun x => fmtD x.2
theorem noPair_init {c : UInt8} : ∀ {t : List UInt8}, noPair c (t ++ [c]) → noPair c t
  | [], _ => trivial
  | [a], _ => trivial
  | a :: b :: t, h => ⟨h.1, noPair_init (t := b :: t) h.2⟩
theorem lexS_canT : ∀ (n p : Nat) (s : List UInt8) (l : List T5), s.length ≤ n → lexS p s = .ok l → CanT l ∧ (fmtAll l).length ≤ s.length
  | n, p, s, l, hn, e => by
    cases way s with
    | text _ h =>
      rw [lexS_text h] at e
      cases e
      unfold txtT
      split
      · exact ⟨trivial, by simp [fmtAll]⟩
      · rename_i h0
        exact ⟨⟨by rw [if_pos rfl]; exact ⟨rfl, h0, h, .inl rfl⟩, trivial⟩, by simp [fmtAll, fmtD]⟩
    | open_ t r h hr => rw [lexS_open h hr] at e; cases e
    | dir t u r h hu =>
      obtain ⟨d, l', hd, hl', rfl⟩ := lexS_dirOk h hu e
      cases n with
      | zero => simp at hn
      | succ n =>
        obtain ⟨ih, il⟩ := lexS_canT n _ r l' (by simp at hn; omega) hl'
        obtain ⟨hk, hl⟩ := dOk_of hd
        have hdir : CanT ((p + t.length, d) :: l') := ⟨by rw [if_neg hk.ne]; exact hk, ih⟩
        have hlen : (fmtD d).length ≤ u.length + 4 := by unfold fmtD; rw [if_neg hk.ne]; simp; omega
        unfold txtT
        split
        · rename_i h0
          subst h0
          refine ⟨hdir, ?_⟩
          simp only [fmtAll, List.nil_append, List.flatMap_cons, List.length_append, List.length_cons] at il ⊢
          omega
        · rename_i h0
          refine ⟨⟨by rw [if_pos rfl]; exact ⟨rfl, h0, noPair_init h, .inr ⟨_, _, rfl, hk.ne, h⟩⟩, hdir⟩, ?_⟩
          have e0 : (fmtD (0, t, [], false)).length = t.length := by simp [fmtD]
          simp only [fmtAll, List.cons_append, List.nil_append, List.flatMap_cons, List.length_append, List.length_cons] at il ⊢
          rw [e0]
          omega
def retime : Nat → List T5 → List T5
  | _, [] => []
  | p, x :: xs => (p, x.2) :: retime (p + (fmtD x.2).length) xs
theorem retime_parts : ∀ (p : Nat) (l : List T5), (retime p l).map (·.2) = l.map (·.2)
  | _, [] => rfl
  | p, x :: xs => by simp [retime, retime_parts _ xs]
theorem relex_dir (p : Nat) (t : List UInt8) (x : T5) (xs l' : List T5) (ht : noPair 123 (t ++ [123])) (hk : DOk x.2) (h : lexS (p + t.length + (fmtD x.2).length) (fmtAll xs) = .ok l') : lexS p (t ++ fmtAll (x :: xs)) = .ok (txtT p t ++ (p + t.length, x.2) :: l') := by
  have e : t ++ fmtAll (x :: xs) = t ++ 123 :: 123 :: (Lib.join (wordsOf x.2) [32] ++ 125 :: 125 :: fmtAll xs) := by
    simp only [fmtAll, List.flatMap_cons]
    unfold fmtD
    rw [if_neg hk.ne]
    simp
  have hl : (fmtD x.2).length = (Lib.join (wordsOf x.2) [32]).length + 4 := by unfold fmtD; rw [if_neg hk.ne]; simp
  rw [e, lexS_dir ht hk.no, hk.dir]
  dsimp only
  rw [if_pos rfl, show p + t.length + (Lib.join (wordsOf x.2) [32]).length + 4 = p + t.length + (fmtD x.2).length by omega, h]
theorem relex : ∀ (n : Nat) (l : List T5), l.length ≤ n → CanT l → ∀ p, lexS p (fmtAll l) = .ok (retime p l)
  | _, [], _, _, p => by rw [show fmtAll [] = [] from rfl, lexS_text (s := []) trivial]; rfl
  | 0, x :: xs, h, _, p => by simp at h
  | n + 1, x :: xs, h, hc, p => by
    by_cases hk : x.2.1 = 0
    · have h1 := hc.1
      rw [if_pos hk] at h1
      obtain ⟨ex, hne, hnp, hnx⟩ := h1
      have hf : fmtD x.2 = x.2.2.1 := by unfold fmtD; rw [if_pos hk]
      have ht : txtT p x.2.2.1 = [(p, x.2)] := by
        unfold txtT; rw [if_neg hne]; congr 2; exact ex.symm
      rcases hnx with rfl | ⟨y, ys, rfl, hy, hnp2⟩
      · have e : fmtAll [x] = x.2.2.1 := by simp [fmtAll, hf]
        rw [e, lexS_text hnp, ht]; rfl
      · have hc2 := hc.2
        have hyk := hc2.1
        rw [if_neg hy] at hyk
        have ih := relex n ys (by simp at h; omega) hc2.2 (p + x.2.2.1.length + (fmtD y.2).length)
        have e : fmtAll (x :: y :: ys) = x.2.2.1 ++ fmtAll (y :: ys) := by
          show fmtD x.2 ++ fmtAll (y :: ys) = _
          rw [hf]
        rw [e, relex_dir p x.2.2.1 y ys _ hnp2 hyk ih, ht]
        simp [retime, hf]
    · have h1 := hc.1
      rw [if_neg hk] at h1
      have ih := relex n xs (by simpa using h) hc.2 (p + (fmtD x.2).length)
      have := relex_dir p [] x xs _ trivial h1 (by simpa using ih)
      rw [List.nil_append] at this
      rw [this]
      simp [retime, txtT]
end Go.Proofs.YtkpnfejfbmandaaDoor.Px
/- The tokens of two sources in sequence. -/
namespace Go.Proofs.YtkpnfejfbmandaaDoor.Px
open Go.RowKit Go.Proofs.YtkpnfejfbmandaaDoorW.PrintWords Go.Proofs.YtkpnfejfbmandaaDoorW.PrintLast Go.Proofs.YtkpnfejfbmandaaDoorW.PrintMore
set_option linter.unusedVariables false
set_option linter.unusedSimpArgs false
end Go.Proofs.YtkpnfejfbmandaaDoor.Px
/- The walk of tmplpipelaw11.LexOffsets. -/
namespace Go.Proofs.YtkpnfejfbmandaaDoor.Px
open Go.RowKit Go.Proofs.YtkpnfejfbmandaaDoorW.PrintWords Go.Proofs.YtkpnfejfbmandaaDoorW.PrintLast Go.Proofs.YtkpnfejfbmandaaDoorW.PrintMore
set_option linter.unusedVariables false
set_option linter.unusedSimpArgs false
theorem lexS_err : ∀ (n p : Nat) (s : List UInt8) (q : Nat) (e : Int), s.length ≤ n → lexS p s = .error (q, e) → q ≤ p + s.length ∧ e ≠ 0
  | n, p, s, q, e, hn, h => by
    cases way s with
    | text _ hn' => rw [lexS_text hn'] at h; cases h
    | open_ t r hn' hr => rw [lexS_open hn' hr] at h; cases h; exact ⟨by simp <;> omega, by decide⟩
    | dir t u r hn' hu =>
      rw [lexS_dir hn' hu] at h
      split at h
      · cases hl : lexS (p + t.length + u.length + 4) r with
        | ok l => rw [hl] at h; cases h
        | error x =>
          rw [hl] at h
          cases h
          cases n with
          | zero => simp at hn
          | succ n =>
            have := lexS_err n _ r q e (by simp at hn; omega) hl
            exact ⟨by simp <;> omega, this.2⟩
      · rename_i h0
        cases h
        exact ⟨by simp <;> omega, h0⟩
/-- Lex answers or refuses. -/
theorem lexF_cases (s : ByteArray) : (∃ L : List T5, s.size ≤ 65536 ∧ lexS 0 s.data.toList = .ok L ∧ lexF s = (L.map tokS, (s.size : Int), 0)) ∨ (∃ n e, lexF s = ([], n, e) ∧ e ≠ 0 ∧ 0 ≤ n ∧ n ≤ s.size) := by
  by_cases hs : (s.size : Int) > 65536
  · exact .inr ⟨0, 6, if_pos hs, by decide, by omega, by omega⟩
  · rw [lexF_small (by omega)]
    cases h : lexS 0 s.data.toList with
    | ok L => exact .inl ⟨L, by omega, rfl, rfl⟩
    | error x =>
      obtain ⟨q, e⟩ := x
      have := lexS_err _ 0 _ q e (Nat.le_refl _) h
      rw [data_length] at this
      exact .inr ⟨q, e, rfl, this.2, by omega, by omega⟩
/-- What is known of the i-th token of a source. -/
structure TkAt (s : ByteArray) (x : T5) : Prop where
  lt : x.1 < s.size
  txt : x.2.1 = 0 → x.1 + x.2.2.1.length ≤ s.size ∧ s.extract x.1 (x.1 + x.2.2.1.length) = ⟨x.2.2.1.toArray⟩
  dir : x.2.1 ≠ 0 → bt s x.1 = 123
end Go.Proofs.YtkpnfejfbmandaaDoor.Px
/- Canonical sources of tokens as bytes. -/
namespace Go.Proofs.YtkpnfejfbmandaaDoor.Px
open Go.RowKit Go.Proofs.YtkpnfejfbmandaaDoorW.PrintWords Go.Proofs.YtkpnfejfbmandaaDoorW.PrintLast Go.Proofs.YtkpnfejfbmandaaDoorW.PrintMore
set_option linter.unusedVariables false
set_option linter.unusedSimpArgs false
theorem byteList (x : ByteArray) {l : List UInt8} (h : x.data.toList = l) : x = ⟨l.toArray⟩ := by
  obtain ⟨⟨d⟩⟩ := x
  simp only at h
  rw [h]
theorem bytes_size (a : List UInt8) : (⟨a.toArray⟩ : ByteArray).size = a.length := List.size_toArray ..
/-- lex.Format at a token. -/
theorem fmtTok_is (d : T4) : fmtTok d.1 ⟨d.2.1.toArray⟩ ⟨d.2.2.1.toArray⟩ d.2.2.2 = ⟨(fmtD d).toArray⟩ := by
  apply byteList
  unfold fmtTok fmtD
  split
  · rfl
  · have hw : (tokWords d.1 ⟨d.2.1.toArray⟩ ⟨d.2.2.1.toArray⟩ d.2.2.2).map (·.data.toList) = wordsOf d := by
      unfold tokWords wordsOf kwWords kwOf kwL
      rw [ByteArray.toList_eq]
      cases (kwList.find? fun p => p.2 == d.1).map (·.1) with
      | none => by_cases h1 : d.2.1 = [] <;> by_cases h2 : d.2.2.2 = true <;> simp [h1, h2]
      | some s => by_cases h1 : d.2.1 = [] <;> by_cases h2 : d.2.2.2 = true <;> simp [h1, h2]
    unfold joinB
    rw [hw]
    simp
/-- Small tokens. -/
def SmallT (N : Nat) (l : List T5) : Prop := ∀ x ∈ l, x.2.2.1.length ≤ N ∧ x.2.2.2.1.length ≤ N
theorem dirF_small {N : Nat} {ws : List (List UInt8)} {t : T4} (e : dirF ws = (0, t)) (h : ∀ w ∈ ws, w.length ≤ N) : t.2.1.length ≤ N ∧ t.2.2.1.length ≤ N := by
  obtain ⟨h1, h2, h3⟩ := dirF_words e
  have hp : t.2.2.2 = false → t.2.2.1 = [] := by
    have hK : ∀ k ws, dirK k ws = (0, t) → t.2.2.2 = false → t.2.2.1 = [] := fun k ws e => by
      unfold dirK at e
      split at e
      · match ws, e with
        | [], e => simp at e
        | w :: r, e =>
          try dsimp only at e
          split at e
          · simp at e
          · exact fun h => ((dirP_ok e).2.2.2.2.2.1 h).2
      · exact fun h => ((dirP_ok e).2.2.2.2.2.1 h).2
    unfold dirF at e
    match ws, e with
    | [], e => simp at e
    | w :: r, e =>
      try dsimp only at e
      split at e
      · exact hK _ _ e
      · split at e
        · exact hK _ _ e
        · simp at e
  rw [h1] at h
  refine ⟨?_, ?_⟩
  · by_cases hs : t.2.1 = []
    · rw [hs]; exact Nat.zero_le _
    · exact h _ (by unfold wordsOf; rw [if_neg hs]; simp)
  · cases hb : t.2.2.2 with
    | false => rw [hp hb]; exact Nat.zero_le _
    | true =>
      have := h (46 :: t.2.2.1) (by unfold wordsOf; rw [if_pos hb]; simp)
      simp at this; omega
theorem fieldsG_small : ∀ (u cur : List UInt8), ∀ w ∈ fieldsG u cur, w.length ≤ u.length + cur.length
  | [], cur, w, hw => by
    unfold fieldsG wordCons at hw
    split at hw
    · cases hw
    · rw [List.mem_singleton.1 hw]; simp
  | b :: u, cur, w, hw => by
    rw [fieldsG] at hw
    split at hw
    · unfold wordCons at hw
      split at hw
      · have := fieldsG_small u [] w hw; simp at this ⊢; omega
      · rcases List.mem_cons.1 hw with rfl | hw
        · simp
        · have := fieldsG_small u [] w hw; simp at this ⊢; omega
    · have := fieldsG_small u _ w hw; simp at this ⊢; omega
theorem lexS_small (N : Nat) : ∀ (n p : Nat) (s : List UInt8) (l : List T5), s.length ≤ n → s.length ≤ N → lexS p s = .ok l → SmallT N l
  | n, p, s, l, hn, hN, e => by
    cases way s with
    | text _ h =>
      rw [lexS_text h] at e
      cases e
      unfold txtT
      split
      · intro x hx; cases hx
      · intro x hx; rw [List.mem_singleton.1 hx]; exact ⟨hN, Nat.zero_le _⟩
    | open_ t r h hr => rw [lexS_open h hr] at e; cases e
    | dir t u r h hu =>
      obtain ⟨d, l', hd, hl', rfl⟩ := lexS_dirOk h hu e
      cases n with
      | zero => simp at hn
      | succ n =>
        have ih := lexS_small N n _ r l' (by simp at hn; omega) (by simp at hN; omega) hl'
        have hds := dirF_small (N := N) hd (fun w hw => by have := fieldsG_small u [] w hw; simp at this hN; omega)
        intro x hx
        rw [List.mem_append] at hx
        rcases hx with hx | hx
        · unfold txtT at hx
          split at hx
          · cases hx
          · rw [List.mem_singleton.1 hx]; exact ⟨by simp at hN; show t.length ≤ N; omega, Nat.zero_le _⟩
        · rcases List.mem_cons.1 hx with rfl | hx
          · exact hds
          · exact ih x hx
theorem retime_len : ∀ (p : Nat) (l : List T5), (retime p l).length = l.length
  | _, [] => rfl
  | p, x :: xs => by simp [retime, retime_len _ xs]
end Go.Proofs.YtkpnfejfbmandaaDoor.Px

/- Merged texts: Fr Tk Lm Ln. -/
/- The reference's Format is lex.Format. -/
namespace Go.Proofs.YtkpnfejfbmandaaDoor.Px
open Go.RowKit Go.Proofs.YtkpnfejfbmandaaDoorW.PrintWords Go.Proofs.YtkpnfejfbmandaaDoorW.PrintLast Go.Proofs.YtkpnfejfbmandaaDoorW.PrintMore
set_option linter.unusedVariables false
set_option linter.unusedSimpArgs false
/-- A token as the lexer makes it. -/
structure OkTok (x : Int × ByteArray × ByteArray × Bool) : Prop where
  k0 : 0 ≤ x.1
  k8 : x.1 ≤ 8
  s0 : x.1 ≠ 0 → (x.2.1.size = 0 ↔ ¬ (x.1 = 4 ∨ x.1 = 6))
  sn : x.2.1.size ≤ 5000
  pn : x.2.2.1.size ≤ 5000
  h0 : x.1 = 0 → x.2.2.2 = false
end Go.Proofs.YtkpnfejfbmandaaDoor.Px
/- Facts of lexed tokens; the reference lexer's answer. -/
namespace Go.Proofs.YtkpnfejfbmandaaDoor.Px
open Go.RowKit Go.Proofs.YtkpnfejfbmandaaDoorW.PrintWords Go.Proofs.YtkpnfejfbmandaaDoorW.PrintLast Go.Proofs.YtkpnfejfbmandaaDoorW.PrintMore
set_option linter.unusedVariables false
set_option linter.unusedSimpArgs false
/-- Kinds of lexed tokens. -/
structure KOk (d : T4) : Prop where
  k0 : 0 ≤ d.1
  k8 : d.1 ≤ 8
  s0 : d.1 ≠ 0 → (d.2.1 = [] ↔ named d.1 = false)
  h0 : d.1 = 0 → d.2.2.2 = false
end Go.Proofs.YtkpnfejfbmandaaDoor.Px
/- The walk of tmplpipelaw11.LexMatchesReference. -/
namespace Go.Proofs.YtkpnfejfbmandaaDoor.Px
open Go.RowKit Go.Proofs.YtkpnfejfbmandaaDoorW.PrintWords Go.Proofs.YtkpnfejfbmandaaDoorW.PrintLast Go.Proofs.YtkpnfejfbmandaaDoorW.PrintMore
set_option linter.unusedVariables false
set_option linter.unusedSimpArgs false
attribute [local go_sem high] eqA28
end Go.Proofs.YtkpnfejfbmandaaDoor.Px
/- The walk of tmplpipelaw11.LexMatchesReference. -/
namespace Go.Proofs.YtkpnfejfbmandaaDoor.Px
open Go.RowKit Go.Proofs.YtkpnfejfbmandaaDoorW.PrintWords Go.Proofs.YtkpnfejfbmandaaDoorW.PrintLast Go.Proofs.YtkpnfejfbmandaaDoorW.PrintMore
set_option linter.unusedVariables false
set_option linter.unusedSimpArgs false
structure LnI (L : List T5) (A : Option Addr) (B : Option Addr) (w wr : World) : Prop where
  a : Kd.C k76 wr A L.length (L.map tokS)
  b : Kd.C k140 wr B L.length (L.map tokR)
  below : Below w.heap.size w wr
end Go.Proofs.YtkpnfejfbmandaaDoor.Px

/- Plain laws: the parser ends; the reference's parser answers as the program's. -/
namespace Go.Proofs.YtkpnfejfbmandaaDoor.Px
open Go.RowKit Go.Proofs.YtkpnfejfbmandaaDoorW.PrintWords Go.Proofs.YtkpnfejfbmandaaDoorW.PrintLast Go.Proofs.YtkpnfejfbmandaaDoorW.PrintMore
set_option linter.unusedVariables false
set_option linter.unusedSimpArgs false
abbrev LTot (m : Nat) : Prop := ∀ (l : List S76) (n d : Int) (out : List S78), l.length ≤ m → out.length + l.length < 100000 → 0 ≤ n → 0 ≤ d →
  ∃ res, (∀ k, 2 * m + 1 ≤ k → plist k l n d out = some res) ∧ ∀ o l' n', res = .ok (o, l', n') → l'.length ≤ l.length ∧ n ≤ n'
abbrev NTot (m : Nat) : Prop := ∀ (t : S76) (r : List S76) (n d : Int), r.length + 1 ≤ m → r.length + 1 < 100000 → 0 ≤ n → 0 ≤ d →
  ∃ res, (∀ k, 2 * m ≤ k → pnode k t r n d = some res) ∧ ∀ x l' n', res = .ok (x, l', n') → l'.length ≤ r.length ∧ n ≤ n'
theorem endB_ok {t : S76} {h : Bool} {body els : List S78} {l : List S76} {n : Int} {x : S78} {l' : List S76} {n' : Int} (e : endB t h body els l n = .ok (x, l', n')) : l'.length ≤ l.length ∧ n ≤ n' := by
  cases l with
  | nil => cases e
  | cons t3 r4 =>
    simp only [endB] at e
    by_cases h8 : t3.f0 = 8
    · rw [if_pos h8] at e; cases e; simp
    · rw [if_neg h8] at e; cases e
theorem pblk_tot (m : Nat) (ih : LTot m) (t : S76) (r : List S76) (n d : Int) (hr : r.length ≤ m) (hl : r.length < 100000) (hn : 0 ≤ n) (hd : 0 ≤ d) :
    ∃ res, (∀ k, 2 * m + 1 ≤ k → pblk k t r n d = some res) ∧ ∀ x l' n', res = .ok (x, l', n') → l'.length ≤ r.length ∧ n ≤ n' := by
  obtain ⟨res, h, hp⟩ := ih r n (d + 1) [] hr (by simpa using hl) hn (by omega)
  cases res with
  | error e => exact ⟨.error e, fun k hk => by unfold pblk; rw [h k hk], fun _ _ _ h => by cases h⟩
  | ok q =>
    obtain ⟨body, l1, n1⟩ := q
    obtain ⟨g1, g2⟩ := hp _ _ _ rfl
    cases l1 with
    | nil => exact ⟨.error (t.f1, 7), fun k hk => by unfold pblk; rw [h k hk], fun _ _ _ h => by cases h⟩
    | cons t1 r2 =>
      rw [List.length_cons] at g1
      by_cases h7 : t1.f0 = 7
      · by_cases h2 : t.f0 = 2
        · obtain ⟨res2, h3, hp3⟩ := ih r2 n1 (d + 1) [] (by omega) (by simp only [List.length_nil]; omega) (by omega) (by omega)
          cases res2 with
          | error e => exact ⟨.error e, fun k hk => by unfold pblk; rw [h k hk]; dsimp only; rw [if_pos h7, if_pos h2, h3 k hk], fun _ _ _ h => by cases h⟩
          | ok q =>
            obtain ⟨els, r3, n3⟩ := q
            obtain ⟨g3, g4⟩ := hp3 _ _ _ rfl
            refine ⟨endB t true body els r3 n3, fun k hk => by unfold pblk; rw [h k hk]; dsimp only; rw [if_pos h7, if_pos h2, h3 k hk], fun x l' n' e => ?_⟩
            obtain ⟨a, b⟩ := endB_ok e
            exact ⟨by omega, by omega⟩
        · exact ⟨.error (t1.f1, 13), fun k hk => by unfold pblk; rw [h k hk]; dsimp only; rw [if_pos h7, if_neg h2], fun _ _ _ h => by cases h⟩
      · refine ⟨endB t false body [] (t1 :: r2) n1, fun k hk => by unfold pblk; rw [h k hk]; dsimp only; rw [if_neg h7], fun x l' n' e => ?_⟩
        obtain ⟨a, b⟩ := endB_ok e
        rw [List.length_cons] at a
        exact ⟨by omega, by omega⟩
theorem parse_tot : ∀ m, LTot m ∧ NTot m := by
  intro m
  induction m with
  | zero =>
    refine ⟨?_, ?_⟩
    · intro l n d out hl ho hn hd
      obtain rfl : l = [] := List.length_eq_zero_iff.1 (by omega)
      exact ⟨_, fun k hk => by obtain ⟨k, rfl⟩ : ∃ k', k = k' + 1 := ⟨k - 1, by omega⟩; exact plist_nil _ _ _ _, fun o l' n' h => by cases h; exact ⟨Nat.le_refl _, Int.le_refl _⟩⟩
    · intro t r n d hr; omega
  | succ m ih =>
    have hnode : NTot (m + 1) := by
      intro t r n d hr hr2 hn hd
      have red : ∀ k, 2 * (m + 1) ≤ k → ∃ j, 2 * m + 1 ≤ j ∧ k = j + 1 := fun k hk => ⟨k - 1, by omega, by omega⟩
      by_cases c1 : t.f0 = 6 ∧ d > 0
      · exact ⟨_, fun k hk => by obtain ⟨j, hj, rfl⟩ := red k hk; rw [pnode_eq, if_pos ⟨hn, hd⟩, if_pos c1], fun _ _ _ h => by cases h⟩
      by_cases c2 : opK t.f0 ∧ d ≥ 32
      · exact ⟨_, fun k hk => by obtain ⟨j, hj, rfl⟩ := red k hk; rw [pnode_eq, if_pos ⟨hn, hd⟩, if_neg c1, if_pos c2], fun _ _ _ h => by cases h⟩
      by_cases c3 : n ≥ 4096
      · exact ⟨_, fun k hk => by obtain ⟨j, hj, rfl⟩ := red k hk; rw [pnode_eq, if_pos ⟨hn, hd⟩, if_neg c1, if_neg c2, if_pos c3], fun _ _ _ h => by cases h⟩
      by_cases c4 : opK t.f0
      · obtain ⟨res, h, hp⟩ := pblk_tot m ih.1 t r (n + 1) d (by omega) (by omega) (by omega) hd
        refine ⟨res, fun k hk => ?_, fun x l' n' e => ?_⟩
        · obtain ⟨j, hj, rfl⟩ := red k hk
          rw [pnode_eq, if_pos ⟨hn, hd⟩, if_neg c1, if_neg c2, if_neg c3, if_pos c4]
          exact h j hj
        · obtain ⟨a, b⟩ := hp _ _ _ e
          exact ⟨a, by omega⟩
      · refine ⟨_, fun k hk => by obtain ⟨j, hj, rfl⟩ := red k hk; rw [pnode_eq, if_pos ⟨hn, hd⟩, if_neg c1, if_neg c2, if_neg c3, if_neg c4], fun x l' n' e => ?_⟩
        cases e
        exact ⟨Nat.le_refl _, by omega⟩
    refine ⟨?_, hnode⟩
    intro l n d out hl ho hn hd
    have red : ∀ k, 2 * (m + 1) + 1 ≤ k → ∃ j, 2 * (m + 1) ≤ j ∧ k = j + 1 := fun k hk => ⟨k - 1, by omega, by omega⟩
    cases l with
    | nil => exact ⟨_, fun k hk => by obtain ⟨k, _, rfl⟩ := red k hk; exact plist_nil _ _ _ _, fun o l' n' h => by cases h; exact ⟨Nat.le_refl _, Int.le_refl _⟩⟩
    | cons t r =>
      rw [List.length_cons] at hl ho
      by_cases c : t.f0 = 7 ∨ t.f0 = 8
      · exact ⟨_, fun k hk => by obtain ⟨k, _, rfl⟩ := red k hk; rw [plist_cons, if_pos (by omega), if_pos c], fun o l' n' h => by cases h; exact ⟨Nat.le_refl _, Int.le_refl _⟩⟩
      obtain ⟨res, h, hp⟩ := hnode t r n d hl (by omega) hn hd
      cases res with
      | error e => exact ⟨.error e, fun k hk => by obtain ⟨k, hk2, rfl⟩ := red k hk; rw [plist_cons, if_pos (by omega), if_neg c, h k hk2], fun _ _ _ h => by cases h⟩
      | ok q =>
        obtain ⟨x, r', n'⟩ := q
        obtain ⟨g1, g2⟩ := hp _ _ _ rfl
        obtain ⟨res2, h2, hp2⟩ := ih.1 r' n' d (out ++ [x]) (by omega) (by rw [List.length_append, List.length_singleton]; omega) (by omega) hd
        refine ⟨res2, fun k hk => by obtain ⟨k, hk2, rfl⟩ := red k hk; rw [plist_cons, if_pos (by omega), if_neg c, h k hk2]; exact h2 k (by omega), fun o l' n'' e => ?_⟩
        obtain ⟨a, b⟩ := hp2 _ _ _ e
        exact ⟨by rw [List.length_cons]; omega, by omega⟩
end Go.Proofs.YtkpnfejfbmandaaDoor.Px

/- Contract of printer.Equal, slices.EqualFunc at its closure, and the closure. -/
namespace Go.Proofs.YtkpnfejfbmandaaDoor.Px
open Go.RowKit Go.Proofs.YtkpnfejfbmandaaDoorW.PrintWords Go.Proofs.YtkpnfejfbmandaaDoorW.PrintLast Go.Proofs.YtkpnfejfbmandaaDoorW.PrintMore
set_option linter.unusedVariables false
set_option linter.unusedSimpArgs false
theorem S78.size6 (x : S78) : SizeOf.sizeOf x.f6 < SizeOf.sizeOf x := by cases x; simp; omega
theorem S78.size7 (x : S78) : SizeOf.sizeOf x.f7 < SizeOf.sizeOf x := by cases x; simp; omega
theorem rd_T78_at (a : List S78) (i : Nat) (h : i < a.length) : rd_T78 a (i : Int) = a[i] := by simp [rd_T78, List.getD_eq_getElem?_getD, h]
end Go.Proofs.YtkpnfejfbmandaaDoor.Px
