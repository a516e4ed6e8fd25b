import Derived.Test.YtkpnfejfbmandaaDoorCEM1
import Derived.Test.YtkpnfejfbmandaaDoorCEM2
import Derived.Test.YtkpnfejfbmandaaDoorCEM4
import Derived.Outline
import Derived.Test.YtkpnfejfbmandaaDoorCEM3
import Derived.Maps.OwnSet
import Derived.Maps.OwnOps
import Derived.RegionDies
namespace Go.Proofs.YtkpnfejfbmandaaDoor.Px
open Go.RowKit Go.Proofs.YtkpnfejfbmandaaDoorW.PrintWords Go.Proofs.YtkpnfejfbmandaaDoorW.PrintLast Go.Proofs.YtkpnfejfbmandaaDoorW.PrintMore
attribute [local go_sem] max2_int min2_int max_two min_two max_three min_three max_four min_four   -- for this text's walks alone
set_option linter.unusedVariables false
set_option linter.unusedSimpArgs false
theorem eqA28 (d : Nat) (w : World) (x0 y0 : Int) (x1 y1 : Int) (x2 y2 : ByteArray) (x3 y3 : ByteArray) (x4 y4 : Bool) :
    (Op.equalIn (d + 2) 76 (.agg #[.int .i64 x0, .int .i64 x1, .string x2, .string x3, .bool x4]) (.agg #[.int .i64 y0, .int .i64 y1, .string y2, .string y3, .bool y4])).run Tryd.prog w = .ok (x0 == y0 && (x1 == y1 && (x2.toList == y2.toList && (x3.toList == y3.toList && (x4 == y4))))) w := by
  refine eqA_of Tryd.underlying76 (by kernel_rfl) ?_
  refine eqf_cons (by rfl) (by go_simp; rfl) (by go_simp; rfl) (by go_simp) ?_
  refine eqf_cons (by rfl) (by go_simp; rfl) (by go_simp; rfl) (by go_simp) ?_
  refine eqf_cons (by rfl) (by go_simp; rfl) (by go_simp; rfl) (by go_simp) ?_
  refine eqf_cons (by rfl) (by go_simp; rfl) (by go_simp; rfl) (by go_simp) ?_
  exact eqf_last (by rfl) (by go_simp; rfl) (by go_simp; rfl) (by go_simp)
end Go.Proofs.YtkpnfejfbmandaaDoor.Px

/- Merged texts: Al Of Or Oc Ow Fl. -/
/- tmplpipelaw11's example holds; small laws on lexF. -/
namespace Go.Proofs.YtkpnfejfbmandaaDoor.Px
open Go.RowKit Go.Proofs.YtkpnfejfbmandaaDoorW.PrintWords Go.Proofs.YtkpnfejfbmandaaDoorW.PrintLast Go.Proofs.YtkpnfejfbmandaaDoorW.PrintMore
theorem lexF_small {s : ByteArray} (h : s.size ≤ 65536) : lexF s = lexR s (lexS 0 s.data.toList) := if_neg (by omega)
end Go.Proofs.YtkpnfejfbmandaaDoor.Px
/- Where the tokens of lexS stand. -/
namespace Go.Proofs.YtkpnfejfbmandaaDoor.Px
open Go.RowKit Go.Proofs.YtkpnfejfbmandaaDoorW.PrintWords Go.Proofs.YtkpnfejfbmandaaDoorW.PrintLast Go.Proofs.YtkpnfejfbmandaaDoorW.PrintMore
set_option linter.unusedVariables false
set_option linter.unusedSimpArgs false
/-- The tokens stand behind lo, in D; pt: the one before was a text. -/
def OffsOk (D : List UInt8) : Nat → Bool → List T5 → Prop
  | _, _, [] => True
  | lo, pt, x :: xs => lo ≤ x.1 ∧ x.1 < D.length ∧ (x.2.1 = 0 → pt = false ∧ ∃ r, D.drop x.1 = x.2.2.1 ++ r) ∧ (x.2.1 ≠ 0 → ∃ r, D.drop x.1 = 123 :: r) ∧ OffsOk D (x.1 + 1) (x.2.1 == 0) xs
theorem dirE_ok {k : Int} {s p : List UInt8} {h : Bool} {t : T4} (e : dirE k s p h = (0, t)) : t = (k, s, p, h) ∧ pathL p = true ∧ (named k = true → nameL s = true) := by
  unfold dirE at e
  split at e
  · rename_i hc
    simp only [Prod.mk.injEq, true_and] at e
    exact ⟨e.symm, hc⟩
  · simp at e
theorem dirP_ok {k : Int} {s : List UInt8} {ws : List (List UInt8)} {t : T4} (e : dirP k s ws = (0, t)) : t.1 = k ∧ t.2.1 = s ∧ pathL t.2.2.1 = true ∧ (named k = true → nameL s = true) ∧ (t.2.2.2 = true ↔ ws.length = 1) ∧
    (t.2.2.2 = false → ws = [] ∧ t.2.2.1 = []) ∧ (t.2.2.2 = true → ws = [46 :: t.2.2.1]) ∧ leastOf k ≤ ws.length ∧ ws.length ≤ mostOf k := by
  unfold dirP at e
  split at e
  · simp at e
  · rename_i hc
    have hm1 : mostOf k ≤ 1 := by unfold mostOf; split <;> omega
    match ws, hc, e with
    | [], hc, e =>
      obtain ⟨rfl, h1, h2⟩ := dirE_ok e
      exact ⟨rfl, rfl, h1, h2, by simp, fun _ => ⟨rfl, rfl⟩, fun h => (by cases h), by omega, by omega⟩
    | w :: r, hc, e =>
      have hr : r = [] := List.eq_nil_of_length_eq_zero (by rw [List.length_cons] at hc; omega)
      subst hr
      try dsimp only at e
      split at e
      · rename_i hp
        obtain ⟨rfl, h1, h2⟩ := dirE_ok e
        have hw : w = 46 :: w.drop 1 := by
          cases w with
          | nil => simp [Lib.hasPrefix, List.isPrefixOf] at hp
          | cons a w =>
            simp only [Lib.hasPrefix, List.isPrefixOf, Bool.and_eq_true, beq_iff_eq] at hp
            rw [← hp.1]; rfl
        exact ⟨rfl, rfl, h1, h2, by simp, fun h => (by cases h), fun _ => by rw [← hw], by omega, by omega⟩
      · simp at e
/-- A directive's kind. -/
theorem dirF_kind {ws : List (List UInt8)} {t : T4} (e : dirF ws = (0, t)) : 1 ≤ t.1 ∧ t.1 ≤ 8 := by
  have hK : ∀ k ws, dirK k ws = (0, t) → t.1 = k := fun k ws e => by
    unfold dirK at e
    split at e
    · match ws, e with
      | [], e => simp at e
      | w :: r, e =>
        try dsimp only at e
        split at e
        · simp at e
        · exact (dirP_ok e).1
    · exact (dirP_ok e).1
  unfold dirF at e
  match ws, e with
  | [], e => simp at e
  | w :: r, e =>
    try dsimp only at e
    split at e
    · rename_i k hk
      rw [hK _ _ e]; exact kw_range hk
    · split at e
      · rw [hK _ _ e]; decide
      · simp at e
theorem lexS_dirOk {p : Nat} {t u r : List UInt8} (h : noPair 123 (t ++ [123])) (hu : noPair 125 (u ++ [125])) {l : List T5} (e : lexS p (t ++ 123 :: 123 :: (u ++ 125 :: 125 :: r)) = .ok l) :
    ∃ d l', dirF (fieldsG u []) = (0, d) ∧ lexS (p + t.length + u.length + 4) r = .ok l' ∧ l = txtT p t ++ (p + t.length, d) :: l' := by
  rw [lexS_dir h hu] at e
  generalize dirF (fieldsG u []) = dd at e ⊢
  obtain ⟨d0, d⟩ := dd
  try dsimp only at e
  split at e
  · rename_i h0
    subst h0
    cases hl : lexS (p + t.length + u.length + 4) r with
    | error x => rw [hl] at e; cases e
    | ok l' => rw [hl] at e; cases e; exact ⟨d, l', rfl, rfl, rfl⟩
  · cases e
/-- What the i-th token tells. -/
theorem OffsOk.at_ {D : List UInt8} : ∀ {l : List T5} {lo : Nat} {pt : Bool}, OffsOk D lo pt l → ∀ (i : Nat) (h : i < l.length), l[i].1 < D.length ∧ (l[i].2.1 = 0 → ∃ r, D.drop l[i].1 = l[i].2.2.1 ++ r) ∧ (l[i].2.1 ≠ 0 → ∃ r, D.drop l[i].1 = 123 :: r)
  | x :: xs, lo, pt, h, 0, hi => ⟨h.2.1, fun e => (h.2.2.1 e).2, h.2.2.2.1⟩
  | x :: xs, lo, pt, h, i + 1, hi => h.2.2.2.2.at_ i (by simpa using hi)
theorem OffsOk.next {D : List UInt8} : ∀ {l : List T5} {lo : Nat} {pt : Bool}, OffsOk D lo pt l → ∀ (i : Nat) (h : i + 1 < l.length), l[i].1 < l[i + 1].1 ∧ ¬ (l[i].2.1 = 0 ∧ l[i + 1].2.1 = 0)
  | x :: y :: xs, lo, pt, h, 0, hi => by
    obtain ⟨_, _, _, _, h2⟩ := h
    refine ⟨h2.1, fun e => ?_⟩
    have h3 := (h2.2.2.1 e.2).1
    rw [beq_eq_false_iff_ne] at h3
    exact h3 e.1
  | x :: xs, lo, pt, h, i + 1, hi => h.2.2.2.2.next i (by simpa using hi)
end Go.Proofs.YtkpnfejfbmandaaDoor.Px
/- The canonical source of tokens has these tokens. -/
namespace Go.Proofs.YtkpnfejfbmandaaDoor.Px
open Go.RowKit Go.Proofs.YtkpnfejfbmandaaDoorW.PrintWords Go.Proofs.YtkpnfejfbmandaaDoorW.PrintLast Go.Proofs.YtkpnfejfbmandaaDoorW.PrintMore
set_option linter.unusedVariables false
set_option linter.unusedSimpArgs false
/-- The keyword of a kind; the canonical words of a directive; a token's canonical source. -/
def kwL (k : Int) : List (List UInt8) := match (kwList.find? (fun p => p.2 == k)).map (·.1) with | none => [] | some s => [s]
def wordsOf (d : T4) : List (List UInt8) := kwL d.1 ++ ((if d.2.1 = [] then [] else [d.2.1]) ++ (if d.2.2.2 = true then [46 :: d.2.2.1] else []))
def fmtD (d : T4) : List UInt8 := if d.1 = 0 then d.2.1 else 123 :: 123 :: (Lib.join (wordsOf d) [32] ++ [125, 125])
theorem kwL_of {w : List UInt8} {k : Int} (h : kwKind w = some k) : kwL k = [w] := by
  have h := kwKind_mem h
  simp only [kwList, List.mem_cons, Prod.mk.injEq, List.not_mem_nil, or_false] at h
  rcases h with ⟨rfl, rfl⟩ | ⟨rfl, rfl⟩ | ⟨rfl, rfl⟩ | ⟨rfl, rfl⟩ | ⟨rfl, rfl⟩ | ⟨rfl, rfl⟩ | ⟨rfl, rfl⟩ <;> rfl
theorem kwL_no (k : Int) : ∀ w ∈ kwL k, (125 : UInt8) ∉ w := by
  intro w hw
  unfold kwL at hw
  cases h : kwList.find? (fun p => p.2 == k) with
  | none => rw [h] at hw; cases hw
  | some p =>
    rw [h] at hw
    have hm := List.mem_of_find?_eq_some h
    simp only [Option.map_some, List.mem_singleton] at hw
    rw [hw]
    simp only [kwList, List.mem_cons, List.not_mem_nil, or_false] at hm
    rcases hm with rfl | rfl | rfl | rfl | rfl | rfl | rfl <;> decide
theorem dirP_words {k : Int} {s : List UInt8} {ws : List (List UInt8)} {t : T4} (e : dirP k s ws = (0, t)) (hs : s = [] ↔ named k = false) (w : List (List UInt8)) (hw : kwL k = w) :
    w ++ ((if s = [] then [] else [s]) ++ ws) = wordsOf t ∧ t.1 = k ∧ t.2.1 = s ∧ pathL t.2.2.1 = true := by
  obtain ⟨h1, h2, h3, h4, h5, h6, h7, h8, h9⟩ := dirP_ok e
  refine ⟨?_, h1, h2, h3⟩
  unfold wordsOf
  rw [h1, h2, hw]
  congr 2
  cases hb : t.2.2.2 with
  | false => rw [if_neg (by decide)]; exact (h6 hb).1
  | true => rw [if_pos rfl]; exact h7 hb
theorem nameL_ne {s : List UInt8} (h : nameL s = true) : s ≠ [] := by
  intro e; subst e; simp [nameL] at h
theorem dirK_words {k : Int} {ws : List (List UInt8)} {t : T4} (e : dirK k ws = (0, t)) (w : List (List UInt8)) (hw : kwL k = w) : w ++ ws = wordsOf t ∧ pathL t.2.2.1 = true ∧ (t.2.1 ≠ [] → nameL t.2.1 = true) := by
  unfold dirK at e
  split at e
  · rename_i hn
    match ws, e with
    | [], e => simp at e
    | s :: r, e =>
      try dsimp only at e
      split at e
      · simp at e
      · have hnm := (dirP_ok e).2.2.2.1 hn
        have hs := nameL_ne hnm
        obtain ⟨h1, h2, h3, h4⟩ := dirP_words e ⟨fun h => absurd h hs, fun h => by rw [hn] at h; cases h⟩ w hw
        rw [if_neg hs] at h1
        exact ⟨h1, h4, fun _ => by rw [h3]; exact hnm⟩
  · rename_i hn
    have hn : named k = false := by simpa using hn
    obtain ⟨h1, h2, h3, h4⟩ := dirP_words e ⟨fun _ => hn, fun _ => rfl⟩ w hw
    rw [if_pos rfl] at h1
    exact ⟨h1, h4, fun h => absurd h3 h⟩
/-- The words of a directive are determined by its token. -/
theorem dirF_words {ws : List (List UInt8)} {t : T4} (e : dirF ws = (0, t)) : ws = wordsOf t ∧ pathL t.2.2.1 = true ∧ (t.2.1 ≠ [] → nameL t.2.1 = true) := by
  unfold dirF at e
  match ws, e with
  | [], e => simp at e
  | w :: r, e =>
    try dsimp only at e
    split at e
    · rename_i k hk
      exact dirK_words e [w] (kwL_of hk)
    · split at e
      · exact dirK_words e [] rfl
      · simp at e
theorem nmGo_safe : ∀ {b : Bool} {s : List UInt8}, nmGo b s = true → ∀ x ∈ s, x ≠ 125
  | b, y :: s, h, x, hx => by
    simp only [nmGo, Bool.and_eq_true, Bool.or_eq_true] at h
    rcases List.mem_cons.1 hx with rfl | hx
    · intro e
      subst e
      revert h
      cases b <;> simp [letB, digB] <;> decide
    · exact nmGo_safe h.2 x hx
theorem nameL_safe {s : List UInt8} (h : nameL s = true) : ∀ x ∈ s, x ≠ 125 := by
  unfold nameL at h
  simp only [Bool.and_eq_true] at h
  exact nmGo_safe h.2.2
theorem dotG_mem : ∀ (s cur : List UInt8) (x : UInt8), x ∈ s → x = 46 ∨ ∃ w ∈ dotG s cur, x ∈ w
  | b :: s, cur, x, hx => by
    rw [dotG]
    split
    · rename_i hb
      rcases List.mem_cons.1 hx with rfl | hx
      · exact .inl hb
      · rcases dotG_mem s [] x hx with h | ⟨w, hw, hm⟩
        · exact .inl h
        · exact .inr ⟨w, by simp [hw], hm⟩
    · rcases List.mem_cons.1 hx with rfl | hx
      · exact .inr (dotG_cur s _ x (by simp))
      · exact dotG_mem s _ x hx
where
  dotG_cur : ∀ (s cur : List UInt8) (x : UInt8), x ∈ cur → ∃ w ∈ dotG s cur, x ∈ w
    | [], cur, x, hx => ⟨cur, by simp [dotG], hx⟩
    | b :: s, cur, x, hx => by
      rw [dotG]
      split
      · exact ⟨cur, by simp, hx⟩
      · exact dotG_cur s _ x (by simp [hx])
theorem pathL_safe {s : List UInt8} (h : pathL s = true) : ∀ x ∈ s, x ≠ 125 := by
  intro x hx
  unfold pathL at h
  have hne : s.isEmpty = false := by cases s with | nil => cases hx | cons _ _ => rfl
  rw [hne, Bool.false_or, Bool.and_eq_true, split_dot _ _ (Nat.le_refl _)] at h
  rcases dotG_mem s [] x hx with rfl | ⟨w, hw, hm⟩
  · decide
  · exact nameL_safe (List.all_eq_true.1 h.2 w hw) x hm
theorem wordsOf_no {t : T4} (hp : pathL t.2.2.1 = true) (hn : t.2.1 ≠ [] → nameL t.2.1 = true) : ∀ w ∈ wordsOf t, (125 : UInt8) ∉ w := by
  intro w hw
  unfold wordsOf at hw
  rw [List.mem_append, List.mem_append] at hw
  rcases hw with hw | hw | hw
  · exact kwL_no _ w hw
  · split at hw
    · cases hw
    · rename_i h
      rw [List.mem_singleton.1 hw]
      exact fun hm => nameL_safe (hn h) _ hm rfl
  · split at hw
    · rw [List.mem_singleton.1 hw]
      intro hm
      rcases List.mem_cons.1 hm with h | hm
      · exact absurd h (by decide)
      · exact pathL_safe hp _ hm rfl
    · cases hw
theorem join_cons2L (x y : List UInt8) (r : List (List UInt8)) : Lib.join (x :: y :: r) [32] = x ++ 32 :: Lib.join (y :: r) [32] := by simp [Lib.join, List.intercalate, List.intersperse]
theorem fields_join : ∀ (ws : List (List UInt8)), (∀ w ∈ ws, w ≠ [] ∧ ∀ b ∈ w, b ≠ 32) → fieldsG (Lib.join ws [32]) [] = ws
  | [], _ => by rw [Lib.join_nil]; rfl
  | [w], h => by
    obtain ⟨h1, h2⟩ := h w (by simp)
    rw [Lib.join_one]
    have := fieldsG_skip w [] [] h2
    rw [List.append_nil, List.nil_append] at this
    rw [this]
    simp [fieldsG, wordCons, h1]
  | w :: v :: r, h => by
    obtain ⟨h1, h2⟩ := h w (by simp)
    rw [join_cons2L, fieldsG_skip w _ [] h2, List.nil_append, fieldsG, if_pos rfl, fields_join (v :: r) (fun x hx => h x (by simp at hx ⊢; exact .inr hx))]
    simp [wordCons, h1]
theorem fieldsG_safe : ∀ (u cur : List UInt8), (∀ b ∈ cur, b ≠ 32) → ∀ w ∈ fieldsG u cur, w ≠ [] ∧ ∀ b ∈ w, b ≠ 32
  | [], cur, hc, w, hw => by
    unfold fieldsG wordCons at hw
    split at hw
    · cases hw
    · rename_i h; rw [List.mem_singleton.1 hw]; exact ⟨h, hc⟩
  | b :: u, cur, hc, w, hw => by
    rw [fieldsG] at hw
    split at hw
    · unfold wordCons at hw
      split at hw
      · exact fieldsG_safe u [] (by simp) w hw
      · rename_i h
        rcases List.mem_cons.1 hw with rfl | hw
        · exact ⟨h, hc⟩
        · exact fieldsG_safe u [] (by simp) w hw
    · rename_i hb
      exact fieldsG_safe u _ (fun x hx => by
        rcases List.mem_append.1 hx with hx | hx
        · exact hc x hx
        · rw [List.mem_singleton.1 hx]; exact hb) w hw
theorem fieldsG_len : ∀ (u cur : List UInt8), (Lib.join (fieldsG u cur) [32]).length ≤ u.length + cur.length
  | [], cur => by
    unfold fieldsG wordCons
    split
    · simp [Lib.join_nil]
    · rw [Lib.join_one]; simp
  | b :: u, cur => by
    rw [fieldsG]
    split
    · unfold wordCons
      have ih := fieldsG_len u []
      split
      · simp at ih ⊢; omega
      · cases h : fieldsG u [] with
        | nil => rw [Lib.join_one]; simp
        | cons y r => rw [join_cons2L, ← h]; simp at ih ⊢; omega
    · have ih := fieldsG_len u (cur ++ [b])
      simp at ih ⊢; omega
theorem noPair_notmem {c : UInt8} : ∀ {u : List UInt8}, c ∉ u → noPair c (u ++ [c])
  | [], _ => trivial
  | [a], h => ⟨fun e => h (by rw [e.1]; simp), trivial⟩
  | a :: b :: u, h => ⟨fun e => h (by rw [e.1]; simp), noPair_notmem (u := b :: u) (fun e => h (by simp at e ⊢; exact .inr e))⟩
theorem join_no {c : UInt8} (hc : c ≠ 32) : ∀ (ws : List (List UInt8)), (∀ w ∈ ws, c ∉ w) → c ∉ Lib.join ws [32]
  | [], _ => by rw [Lib.join_nil]; simp
  | [w], h => by rw [Lib.join_one]; exact h w (by simp)
  | w :: v :: r, h => by
    rw [join_cons2L, List.mem_append, List.mem_cons]
    rintro (hm | hm | hm)
    · exact h w (by simp) hm
    · exact hc hm
    · exact join_no hc (v :: r) (fun x hx => h x (by simp at hx ⊢; exact .inr hx)) hm
structure DOk (d : T4) : Prop where
  ne : d.1 ≠ 0
  dir : dirF (fieldsG (Lib.join (wordsOf d) [32]) []) = (0, d)
  no : noPair 125 (Lib.join (wordsOf d) [32] ++ [125])
theorem dOk_of {u : List UInt8} {d : T4} (h : dirF (fieldsG u []) = (0, d)) : DOk d ∧ (Lib.join (wordsOf d) [32]).length ≤ u.length := by
  obtain ⟨h1, h2, h3⟩ := dirF_words h
  have hs := fieldsG_safe u [] (by simp)
  rw [h1] at hs
  refine ⟨⟨by have := dirF_kind h; omega, ?_, noPair_notmem (join_no (by decide) _ (wordsOf_no h2 h3))⟩, ?_⟩
  · rw [fields_join _ hs, ← h1]; exact h
  · have := fieldsG_len u []
    rw [h1] at this
    simpa using this
def CanT : List T5 → Prop
  | [] => True
  | x :: xs => (if x.2.1 = 0 then x.2 = (0, x.2.2.1, [], false) ∧ x.2.2.1 ≠ [] ∧ noPair 123 x.2.2.1 ∧ (xs = [] ∨ (∃ y ys, xs = y :: ys ∧ y.2.1 ≠ 0 ∧ noPair 123 (x.2.2.1 ++ [123]))) else DOk x.2) ∧ CanT xs
def fmtAll (l : List T5) : List UInt8 := l.flatMap fun x => fmtD x.2
theorem noPair_init {c : UInt8} : ∀ {t : List UInt8}, noPair c (t ++ [c]) → noPair c t
  | [], _ => trivial
  | [a], _ => trivial
  | a :: b :: t, h => ⟨h.1, noPair_init (t := b :: t) h.2⟩
theorem lexS_canT : ∀ (n p : Nat) (s : List UInt8) (l : List T5), s.length ≤ n → lexS p s = .ok l → CanT l ∧ (fmtAll l).length ≤ s.length
  | n, p, s, l, hn, e => by
    cases way s with
    | text _ h =>
      rw [lexS_text h] at e
      cases e
      unfold txtT
      split
      · exact ⟨trivial, by simp [fmtAll]⟩
      · rename_i h0
        exact ⟨⟨by rw [if_pos rfl]; exact ⟨rfl, h0, h, .inl rfl⟩, trivial⟩, by simp [fmtAll, fmtD]⟩
    | open_ t r h hr => rw [lexS_open h hr] at e; cases e
    | dir t u r h hu =>
      obtain ⟨d, l', hd, hl', rfl⟩ := lexS_dirOk h hu e
      cases n with
      | zero => simp at hn
      | succ n =>
        obtain ⟨ih, il⟩ := lexS_canT n _ r l' (by simp at hn; omega) hl'
        obtain ⟨hk, hl⟩ := dOk_of hd
        have hdir : CanT ((p + t.length, d) :: l') := ⟨by rw [if_neg hk.ne]; exact hk, ih⟩
        have hlen : (fmtD d).length ≤ u.length + 4 := by unfold fmtD; rw [if_neg hk.ne]; simp; omega
        unfold txtT
        split
        · rename_i h0
          subst h0
          refine ⟨hdir, ?_⟩
          simp only [fmtAll, List.nil_append, List.flatMap_cons, List.length_append, List.length_cons] at il ⊢
          omega
        · rename_i h0
          refine ⟨⟨by rw [if_pos rfl]; exact ⟨rfl, h0, noPair_init h, .inr ⟨_, _, rfl, hk.ne, h⟩⟩, hdir⟩, ?_⟩
          have e0 : (fmtD (0, t, [], false)).length = t.length := by simp [fmtD]
          simp only [fmtAll, List.cons_append, List.nil_append, List.flatMap_cons, List.length_append, List.length_cons] at il ⊢
          rw [e0]
          omega
end Go.Proofs.YtkpnfejfbmandaaDoor.Px
/- The tokens of two sources in sequence. -/
namespace Go.Proofs.YtkpnfejfbmandaaDoor.Px
open Go.RowKit Go.Proofs.YtkpnfejfbmandaaDoorW.PrintWords Go.Proofs.YtkpnfejfbmandaaDoorW.PrintLast Go.Proofs.YtkpnfejfbmandaaDoorW.PrintMore
set_option linter.unusedVariables false
set_option linter.unusedSimpArgs false
end Go.Proofs.YtkpnfejfbmandaaDoor.Px
/- The walk of tmplpipelaw11.LexOffsets. -/
namespace Go.Proofs.YtkpnfejfbmandaaDoor.Px
open Go.RowKit Go.Proofs.YtkpnfejfbmandaaDoorW.PrintWords Go.Proofs.YtkpnfejfbmandaaDoorW.PrintLast Go.Proofs.YtkpnfejfbmandaaDoorW.PrintMore
set_option linter.unusedVariables false
set_option linter.unusedSimpArgs false
theorem lexS_err : ∀ (n p : Nat) (s : List UInt8) (q : Nat) (e : Int), s.length ≤ n → lexS p s = .error (q, e) → q ≤ p + s.length ∧ e ≠ 0
  | n, p, s, q, e, hn, h => by
    cases way s with
    | text _ hn' => rw [lexS_text hn'] at h; cases h
    | open_ t r hn' hr => rw [lexS_open hn' hr] at h; cases h; exact ⟨by simp <;> omega, by decide⟩
    | dir t u r hn' hu =>
      rw [lexS_dir hn' hu] at h
      split at h
      · cases hl : lexS (p + t.length + u.length + 4) r with
        | ok l => rw [hl] at h; cases h
        | error x =>
          rw [hl] at h
          cases h
          cases n with
          | zero => simp at hn
          | succ n =>
            have := lexS_err n _ r q e (by simp at hn; omega) hl
            exact ⟨by simp <;> omega, this.2⟩
      · rename_i h0
        cases h
        exact ⟨by simp <;> omega, h0⟩
/-- Lex answers or refuses. -/
theorem lexF_cases (s : ByteArray) : (∃ L : List T5, s.size ≤ 65536 ∧ lexS 0 s.data.toList = .ok L ∧ lexF s = (L.map tokS, (s.size : Int), 0)) ∨ (∃ n e, lexF s = ([], n, e) ∧ e ≠ 0 ∧ 0 ≤ n ∧ n ≤ s.size) := by
  by_cases hs : (s.size : Int) > 65536
  · exact .inr ⟨0, 6, if_pos hs, by decide, by omega, by omega⟩
  · rw [lexF_small (by omega)]
    cases h : lexS 0 s.data.toList with
    | ok L => exact .inl ⟨L, by omega, rfl, rfl⟩
    | error x =>
      obtain ⟨q, e⟩ := x
      have := lexS_err _ 0 _ q e (Nat.le_refl _) h
      rw [data_length] at this
      exact .inr ⟨q, e, rfl, this.2, by omega, by omega⟩
/-- What is known of the i-th token of a source. -/
structure TkAt (s : ByteArray) (x : T5) : Prop where
  lt : x.1 < s.size
  txt : x.2.1 = 0 → x.1 + x.2.2.1.length ≤ s.size ∧ s.extract x.1 (x.1 + x.2.2.1.length) = ⟨x.2.2.1.toArray⟩
  dir : x.2.1 ≠ 0 → bt s x.1 = 123
end Go.Proofs.YtkpnfejfbmandaaDoor.Px
/- Canonical sources of tokens as bytes. -/
namespace Go.Proofs.YtkpnfejfbmandaaDoor.Px
open Go.RowKit Go.Proofs.YtkpnfejfbmandaaDoorW.PrintWords Go.Proofs.YtkpnfejfbmandaaDoorW.PrintLast Go.Proofs.YtkpnfejfbmandaaDoorW.PrintMore
set_option linter.unusedVariables false
set_option linter.unusedSimpArgs false
theorem bytes_size (a : List UInt8) : (⟨a.toArray⟩ : ByteArray).size = a.length := List.size_toArray ..
/-- Small tokens. -/
def SmallT (N : Nat) (l : List T5) : Prop := ∀ x ∈ l, x.2.2.1.length ≤ N ∧ x.2.2.2.1.length ≤ N
theorem dirF_small {N : Nat} {ws : List (List UInt8)} {t : T4} (e : dirF ws = (0, t)) (h : ∀ w ∈ ws, w.length ≤ N) : t.2.1.length ≤ N ∧ t.2.2.1.length ≤ N := by
  obtain ⟨h1, h2, h3⟩ := dirF_words e
  have hp : t.2.2.2 = false → t.2.2.1 = [] := by
    have hK : ∀ k ws, dirK k ws = (0, t) → t.2.2.2 = false → t.2.2.1 = [] := fun k ws e => by
      unfold dirK at e
      split at e
      · match ws, e with
        | [], e => simp at e
        | w :: r, e =>
          try dsimp only at e
          split at e
          · simp at e
          · exact fun h => ((dirP_ok e).2.2.2.2.2.1 h).2
      · exact fun h => ((dirP_ok e).2.2.2.2.2.1 h).2
    unfold dirF at e
    match ws, e with
    | [], e => simp at e
    | w :: r, e =>
      try dsimp only at e
      split at e
      · exact hK _ _ e
      · split at e
        · exact hK _ _ e
        · simp at e
  rw [h1] at h
  refine ⟨?_, ?_⟩
  · by_cases hs : t.2.1 = []
    · rw [hs]; exact Nat.zero_le _
    · exact h _ (by unfold wordsOf; rw [if_neg hs]; simp)
  · cases hb : t.2.2.2 with
    | false => rw [hp hb]; exact Nat.zero_le _
    | true =>
      have := h (46 :: t.2.2.1) (by unfold wordsOf; rw [if_pos hb]; simp)
      simp at this; omega
theorem fieldsG_small : ∀ (u cur : List UInt8), ∀ w ∈ fieldsG u cur, w.length ≤ u.length + cur.length
  | [], cur, w, hw => by
    unfold fieldsG wordCons at hw
    split at hw
    · cases hw
    · rw [List.mem_singleton.1 hw]; simp
  | b :: u, cur, w, hw => by
    rw [fieldsG] at hw
    split at hw
    · unfold wordCons at hw
      split at hw
      · have := fieldsG_small u [] w hw; simp at this ⊢; omega
      · rcases List.mem_cons.1 hw with rfl | hw
        · simp
        · have := fieldsG_small u [] w hw; simp at this ⊢; omega
    · have := fieldsG_small u _ w hw; simp at this ⊢; omega
theorem lexS_small (N : Nat) : ∀ (n p : Nat) (s : List UInt8) (l : List T5), s.length ≤ n → s.length ≤ N → lexS p s = .ok l → SmallT N l
  | n, p, s, l, hn, hN, e => by
    cases way s with
    | text _ h =>
      rw [lexS_text h] at e
      cases e
      unfold txtT
      split
      · intro x hx; cases hx
      · intro x hx; rw [List.mem_singleton.1 hx]; exact ⟨hN, Nat.zero_le _⟩
    | open_ t r h hr => rw [lexS_open h hr] at e; cases e
    | dir t u r h hu =>
      obtain ⟨d, l', hd, hl', rfl⟩ := lexS_dirOk h hu e
      cases n with
      | zero => simp at hn
      | succ n =>
        have ih := lexS_small N n _ r l' (by simp at hn; omega) (by simp at hN; omega) hl'
        have hds := dirF_small (N := N) hd (fun w hw => by have := fieldsG_small u [] w hw; simp at this hN; omega)
        intro x hx
        rw [List.mem_append] at hx
        rcases hx with hx | hx
        · unfold txtT at hx
          split at hx
          · cases hx
          · rw [List.mem_singleton.1 hx]; exact ⟨by simp at hN; show t.length ≤ N; omega, Nat.zero_le _⟩
        · rcases List.mem_cons.1 hx with rfl | hx
          · exact hds
          · exact ih x hx
end Go.Proofs.YtkpnfejfbmandaaDoor.Px

/- Merged texts: Fr Tk Lm Ln. -/
/- The reference's Format is lex.Format. -/
namespace Go.Proofs.YtkpnfejfbmandaaDoor.Px
open Go.RowKit Go.Proofs.YtkpnfejfbmandaaDoorW.PrintWords Go.Proofs.YtkpnfejfbmandaaDoorW.PrintLast Go.Proofs.YtkpnfejfbmandaaDoorW.PrintMore
set_option linter.unusedVariables false
set_option linter.unusedSimpArgs false
/-- A token as the lexer makes it. -/
structure OkTok (x : Int × ByteArray × ByteArray × Bool) : Prop where
  k0 : 0 ≤ x.1
  k8 : x.1 ≤ 8
  s0 : x.1 ≠ 0 → (x.2.1.size = 0 ↔ ¬ (x.1 = 4 ∨ x.1 = 6))
  sn : x.2.1.size ≤ 5000
  pn : x.2.2.1.size ≤ 5000
  h0 : x.1 = 0 → x.2.2.2 = false
end Go.Proofs.YtkpnfejfbmandaaDoor.Px
/- Facts of lexed tokens; the reference lexer's answer. -/
namespace Go.Proofs.YtkpnfejfbmandaaDoor.Px
open Go.RowKit Go.Proofs.YtkpnfejfbmandaaDoorW.PrintWords Go.Proofs.YtkpnfejfbmandaaDoorW.PrintLast Go.Proofs.YtkpnfejfbmandaaDoorW.PrintMore
set_option linter.unusedVariables false
set_option linter.unusedSimpArgs false
/-- Kinds of lexed tokens. -/
structure KOk (d : T4) : Prop where
  k0 : 0 ≤ d.1
  k8 : d.1 ≤ 8
  s0 : d.1 ≠ 0 → (d.2.1 = [] ↔ named d.1 = false)
  h0 : d.1 = 0 → d.2.2.2 = false
end Go.Proofs.YtkpnfejfbmandaaDoor.Px
/- The walk of tmplpipelaw11.LexMatchesReference. -/
namespace Go.Proofs.YtkpnfejfbmandaaDoor.Px
open Go.RowKit Go.Proofs.YtkpnfejfbmandaaDoorW.PrintWords Go.Proofs.YtkpnfejfbmandaaDoorW.PrintLast Go.Proofs.YtkpnfejfbmandaaDoorW.PrintMore
set_option linter.unusedVariables false
set_option linter.unusedSimpArgs false
attribute [local go_sem high] eqA28
end Go.Proofs.YtkpnfejfbmandaaDoor.Px
/- The walk of tmplpipelaw11.LexMatchesReference. -/
namespace Go.Proofs.YtkpnfejfbmandaaDoor.Px
open Go.RowKit Go.Proofs.YtkpnfejfbmandaaDoorW.PrintWords Go.Proofs.YtkpnfejfbmandaaDoorW.PrintLast Go.Proofs.YtkpnfejfbmandaaDoorW.PrintMore
set_option linter.unusedVariables false
set_option linter.unusedSimpArgs false
structure LnI (L : List T5) (A : Option Addr) (B : Option Addr) (w wr : World) : Prop where
  a : Kd.C k76 wr A L.length (L.map tokS)
  b : Kd.C k140 wr B L.length (L.map tokR)
  below : Below w.heap.size w wr
end Go.Proofs.YtkpnfejfbmandaaDoor.Px

/- Plain laws: the parser ends; the reference's parser answers as the program's. -/
namespace Go.Proofs.YtkpnfejfbmandaaDoor.Px
open Go.RowKit Go.Proofs.YtkpnfejfbmandaaDoorW.PrintWords Go.Proofs.YtkpnfejfbmandaaDoorW.PrintLast Go.Proofs.YtkpnfejfbmandaaDoorW.PrintMore
set_option linter.unusedVariables false
set_option linter.unusedSimpArgs false
abbrev LTot (m : Nat) : Prop := ∀ (l : List S76) (n d : Int) (out : List S78), l.length ≤ m → out.length + l.length < 100000 → 0 ≤ n → 0 ≤ d →
  ∃ res, (∀ k, 2 * m + 1 ≤ k → plist k l n d out = some res) ∧ ∀ o l' n', res = .ok (o, l', n') → l'.length ≤ l.length ∧ n ≤ n'
abbrev NTot (m : Nat) : Prop := ∀ (t : S76) (r : List S76) (n d : Int), r.length + 1 ≤ m → r.length + 1 < 100000 → 0 ≤ n → 0 ≤ d →
  ∃ res, (∀ k, 2 * m ≤ k → pnode k t r n d = some res) ∧ ∀ x l' n', res = .ok (x, l', n') → l'.length ≤ r.length ∧ n ≤ n'
theorem endB_ok {t : S76} {h : Bool} {body els : List S78} {l : List S76} {n : Int} {x : S78} {l' : List S76} {n' : Int} (e : endB t h body els l n = .ok (x, l', n')) : l'.length ≤ l.length ∧ n ≤ n' := by
  cases l with
  | nil => cases e
  | cons t3 r4 =>
    simp only [endB] at e
    by_cases h8 : t3.f0 = 8
    · rw [if_pos h8] at e; cases e; simp
    · rw [if_neg h8] at e; cases e
theorem pblk_tot (m : Nat) (ih : LTot m) (t : S76) (r : List S76) (n d : Int) (hr : r.length ≤ m) (hl : r.length < 100000) (hn : 0 ≤ n) (hd : 0 ≤ d) :
    ∃ res, (∀ k, 2 * m + 1 ≤ k → pblk k t r n d = some res) ∧ ∀ x l' n', res = .ok (x, l', n') → l'.length ≤ r.length ∧ n ≤ n' := by
  obtain ⟨res, h, hp⟩ := ih r n (d + 1) [] hr (by simpa using hl) hn (by omega)
  cases res with
  | error e => exact ⟨.error e, fun k hk => by unfold pblk; rw [h k hk], fun _ _ _ h => by cases h⟩
  | ok q =>
    obtain ⟨body, l1, n1⟩ := q
    obtain ⟨g1, g2⟩ := hp _ _ _ rfl
    cases l1 with
    | nil => exact ⟨.error (t.f1, 7), fun k hk => by unfold pblk; rw [h k hk], fun _ _ _ h => by cases h⟩
    | cons t1 r2 =>
      rw [List.length_cons] at g1
      by_cases h7 : t1.f0 = 7
      · by_cases h2 : t.f0 = 2
        · obtain ⟨res2, h3, hp3⟩ := ih r2 n1 (d + 1) [] (by omega) (by simp only [List.length_nil]; omega) (by omega) (by omega)
          cases res2 with
          | error e => exact ⟨.error e, fun k hk => by unfold pblk; rw [h k hk]; dsimp only; rw [if_pos h7, if_pos h2, h3 k hk], fun _ _ _ h => by cases h⟩
          | ok q =>
            obtain ⟨els, r3, n3⟩ := q
            obtain ⟨g3, g4⟩ := hp3 _ _ _ rfl
            refine ⟨endB t true body els r3 n3, fun k hk => by unfold pblk; rw [h k hk]; dsimp only; rw [if_pos h7, if_pos h2, h3 k hk], fun x l' n' e => ?_⟩
            obtain ⟨a, b⟩ := endB_ok e
            exact ⟨by omega, by omega⟩
        · exact ⟨.error (t1.f1, 13), fun k hk => by unfold pblk; rw [h k hk]; dsimp only; rw [if_pos h7, if_neg h2], fun _ _ _ h => by cases h⟩
      · refine ⟨endB t false body [] (t1 :: r2) n1, fun k hk => by unfold pblk; rw [h k hk]; dsimp only; rw [if_neg h7], fun x l' n' e => ?_⟩
        obtain ⟨a, b⟩ := endB_ok e
        rw [List.length_cons] at a
        exact ⟨by omega, by omega⟩
theorem parse_tot : ∀ m, LTot m ∧ NTot m := by
  intro m
  induction m with
  | zero =>
    refine ⟨?_, ?_⟩
    · intro l n d out hl ho hn hd
      obtain rfl : l = [] := List.length_eq_zero_iff.1 (by omega)
      exact ⟨_, fun k hk => by obtain ⟨k, rfl⟩ : ∃ k', k = k' + 1 := ⟨k - 1, by omega⟩; exact plist_nil _ _ _ _, fun o l' n' h => by cases h; exact ⟨Nat.le_refl _, Int.le_refl _⟩⟩
    · intro t r n d hr; omega
  | succ m ih =>
    have hnode : NTot (m + 1) := by
      intro t r n d hr hr2 hn hd
      have red : ∀ k, 2 * (m + 1) ≤ k → ∃ j, 2 * m + 1 ≤ j ∧ k = j + 1 := fun k hk => ⟨k - 1, by omega, by omega⟩
      by_cases c1 : t.f0 = 6 ∧ d > 0
      · exact ⟨_, fun k hk => by obtain ⟨j, hj, rfl⟩ := red k hk; rw [pnode_eq, if_pos ⟨hn, hd⟩, if_pos c1], fun _ _ _ h => by cases h⟩
      by_cases c2 : opK t.f0 ∧ d ≥ 32
      · exact ⟨_, fun k hk => by obtain ⟨j, hj, rfl⟩ := red k hk; rw [pnode_eq, if_pos ⟨hn, hd⟩, if_neg c1, if_pos c2], fun _ _ _ h => by cases h⟩
      by_cases c3 : n ≥ 4096
      · exact ⟨_, fun k hk => by obtain ⟨j, hj, rfl⟩ := red k hk; rw [pnode_eq, if_pos ⟨hn, hd⟩, if_neg c1, if_neg c2, if_pos c3], fun _ _ _ h => by cases h⟩
      by_cases c4 : opK t.f0
      · obtain ⟨res, h, hp⟩ := pblk_tot m ih.1 t r (n + 1) d (by omega) (by omega) (by omega) hd
        refine ⟨res, fun k hk => ?_, fun x l' n' e => ?_⟩
        · obtain ⟨j, hj, rfl⟩ := red k hk
          rw [pnode_eq, if_pos ⟨hn, hd⟩, if_neg c1, if_neg c2, if_neg c3, if_pos c4]
          exact h j hj
        · obtain ⟨a, b⟩ := hp _ _ _ e
          exact ⟨a, by omega⟩
      · refine ⟨_, fun k hk => by obtain ⟨j, hj, rfl⟩ := red k hk; rw [pnode_eq, if_pos ⟨hn, hd⟩, if_neg c1, if_neg c2, if_neg c3, if_neg c4], fun x l' n' e => ?_⟩
        cases e
        exact ⟨Nat.le_refl _, by omega⟩
    refine ⟨?_, hnode⟩
    intro l n d out hl ho hn hd
    have red : ∀ k, 2 * (m + 1) + 1 ≤ k → ∃ j, 2 * (m + 1) ≤ j ∧ k = j + 1 := fun k hk => ⟨k - 1, by omega, by omega⟩
    cases l with
    | nil => exact ⟨_, fun k hk => by obtain ⟨k, _, rfl⟩ := red k hk; exact plist_nil _ _ _ _, fun o l' n' h => by cases h; exact ⟨Nat.le_refl _, Int.le_refl _⟩⟩
    | cons t r =>
      rw [List.length_cons] at hl ho
      by_cases c : t.f0 = 7 ∨ t.f0 = 8
      · exact ⟨_, fun k hk => by obtain ⟨k, _, rfl⟩ := red k hk; rw [plist_cons, if_pos (by omega), if_pos c], fun o l' n' h => by cases h; exact ⟨Nat.le_refl _, Int.le_refl _⟩⟩
      obtain ⟨res, h, hp⟩ := hnode t r n d hl (by omega) hn hd
      cases res with
      | error e => exact ⟨.error e, fun k hk => by obtain ⟨k, hk2, rfl⟩ := red k hk; rw [plist_cons, if_pos (by omega), if_neg c, h k hk2], fun _ _ _ h => by cases h⟩
      | ok q =>
        obtain ⟨x, r', n'⟩ := q
        obtain ⟨g1, g2⟩ := hp _ _ _ rfl
        obtain ⟨res2, h2, hp2⟩ := ih.1 r' n' d (out ++ [x]) (by omega) (by rw [List.length_append, List.length_singleton]; omega) (by omega) hd
        refine ⟨res2, fun k hk => by obtain ⟨k, hk2, rfl⟩ := red k hk; rw [plist_cons, if_pos (by omega), if_neg c, h k hk2]; exact h2 k (by omega), fun o l' n'' e => ?_⟩
        obtain ⟨a, b⟩ := hp2 _ _ _ e
        exact ⟨by rw [List.length_cons]; omega, by omega⟩
end Go.Proofs.YtkpnfejfbmandaaDoor.Px

/- Contract of printer.Equal, slices.EqualFunc at its closure, and the closure. -/
namespace Go.Proofs.YtkpnfejfbmandaaDoor.Px
open Go.RowKit Go.Proofs.YtkpnfejfbmandaaDoorW.PrintWords Go.Proofs.YtkpnfejfbmandaaDoorW.PrintLast Go.Proofs.YtkpnfejfbmandaaDoorW.PrintMore
set_option linter.unusedVariables false
set_option linter.unusedSimpArgs false
theorem S78.size6 (x : S78) : SizeOf.sizeOf x.f6 < SizeOf.sizeOf x := by cases x; simp; omega
theorem S78.size7 (x : S78) : SizeOf.sizeOf x.f7 < SizeOf.sizeOf x := by cases x; simp; omega
theorem rd_T78_at (a : List S78) (i : Nat) (h : i < a.length) : rd_T78 a (i : Int) = a[i] := by simp [rd_T78, List.getD_eq_getElem?_getD, h]
end Go.Proofs.YtkpnfejfbmandaaDoor.Px

/- Plain laws: rounds; the number of nodes; the reference's Equal; what Parse answers. -/
namespace Go.Proofs.YtkpnfejfbmandaaDoor.Px
open Go.RowKit Go.Proofs.YtkpnfejfbmandaaDoorW.PrintWords Go.Proofs.YtkpnfejfbmandaaDoorW.PrintLast Go.Proofs.YtkpnfejfbmandaaDoorW.PrintMore
set_option linter.unusedVariables false
set_option linter.unusedSimpArgs false
/-- From some round on it tells this. -/
def Ev {α : Type} (f : Nat → Option α) (v : α) : Prop := ∃ K, ∀ k, K ≤ k → f k = some v
theorem Ev.up {α : Type} {f : Nat → Option α} (hm : ∀ k, LeO (f k) (f (k + 1))) {v : α} {K : Nat} (h : f K = some v) : Ev f v := by
  refine ⟨K, fun k hk => ?_⟩
  induction hk with
  | refl => exact h
  | step _ ih => exact hm _ _ ih
theorem Ev.pure {α : Type} (v : α) : Ev (fun _ => some v) v := ⟨0, fun _ _ => rfl⟩
theorem Ev.bind {α β : Type} {f : Nat → Option α} {v : α} {g : Nat → α → Option β} {r : β} (h : Ev f v) (k : Ev (fun n => g n v) r) : Ev (fun n => (f n).bind (g n)) r := by
  obtain ⟨K, hK⟩ := h
  obtain ⟨L, hL⟩ := k
  exact ⟨max K L, fun n hn => by show (f n).bind (g n) = _; rw [hK n (by omega)]; exact hL n (by omega)⟩
theorem Ev.shift {α : Type} {f g : Nat → Option α} {v : α} (h : Ev f v) (e : ∀ k, g (k + 1) = f k) : Ev g v := by
  obtain ⟨K, hK⟩ := h
  exact ⟨K + 1, fun n hn => by
    obtain ⟨n, rfl⟩ : ∃ m, n = m + 1 := ⟨n - 1, by omega⟩
    rw [e]; exact hK n (by omega)⟩
theorem Ev.of {α : Type} {f g : Nat → Option α} {v : α} (h : Ev f v) (e : ∀ k, g k = f k) : Ev g v := by
  obtain ⟨K, hK⟩ := h
  exact ⟨K, fun n hn => by rw [e]; exact hK n hn⟩
theorem Ev.one {α : Type} {f : Nat → Option α} {v : α} (h : Ev f v) : ∃ k, f k = some v := h.imp fun K hK => hK K (Nat.le_refl _)
mutual
def nL : List S78 → Nat
  | [] => 0
  | x :: xs => nN x + nL xs
def nN : S78 → Nat
  | ⟨_, _, _, _, _, _, b, l⟩ => 1 + nL b + nL l
end
theorem nN_eq (x : S78) : nN x = 1 + nL x.f6 + nL x.f7 := by cases x; simp [nN]
theorem nL_cons (x : S78) (xs : List S78) : nL (x :: xs) = nN x + nL xs := by simp [nL]
theorem nL_len : ∀ l : List S78, l.length ≤ nL l
  | [] => by simp [nL]
  | x :: xs => by have := nL_len xs; rw [nL_cons, nN_eq, List.length_cons]; omega
theorem nL_mem : ∀ (l : List S78) (x : S78), x ∈ l → nN x ≤ nL l
  | y :: ys, x, h => by
    rw [nL_cons]
    rcases List.mem_cons.1 h with rfl | h
    · omega
    · have := nL_mem ys x h; omega
theorem nL_append : ∀ (xs ys : List S78), nL (xs ++ ys) = nL xs + nL ys
  | [], ys => by simp [nL]
  | x :: xs, ys => by rw [List.cons_append, nL_cons, nL_cons, nL_append xs ys]; omega
theorem nL_one (x : S78) : nL [x] = nN x := by rw [nL_cons]; simp [nL]
/-- Nodes of what is parsed. -/
theorem parse_cnt : ∀ k, (∀ l n d out o l' n', plist k l n d out = some (.ok (o, l', n')) → n' = n + (nL o : Int) - nL out ∧ (n ≤ 4096 → n' ≤ 4096)) ∧
    (∀ t r n d x l' n', pnode k t r n d = some (.ok (x, l', n')) → n' = n + (nN x : Int) ∧ (n ≤ 4096 → n' ≤ 4096))
  | 0 => ⟨fun l n d out o l' n' h => by simp [plist] at h, fun t r n d x l' n' h => by simp [pnode] at h⟩
  | k + 1 => by
    obtain ⟨ihl, ihn⟩ := parse_cnt k
    refine ⟨?_, ?_⟩
    · intro l n d out o l' n' h
      cases l with
      | nil => rw [plist_nil] at h; cases h; exact ⟨by omega, fun h => h⟩
      | cons t r =>
        rw [plist_cons] at h
        by_cases h1 : out.length < 100000
        case neg => rw [if_neg h1] at h; cases h
        rw [if_pos h1] at h
        by_cases h2 : t.f0 = 7 ∨ t.f0 = 8
        · rw [if_pos h2] at h; cases h; exact ⟨by omega, fun h => h⟩
        rw [if_neg h2] at h
        cases hp : pnode k t r n d with
        | none => rw [hp] at h; cases h
        | some x =>
          rw [hp] at h
          cases x with
          | error e => cases h
          | ok q =>
            obtain ⟨x, r', n1⟩ := q
            obtain ⟨a1, a2⟩ := ihn _ _ _ _ _ _ _ hp
            obtain ⟨b1, b2⟩ := ihl _ _ _ _ _ _ _ h
            rw [nL_append, nL_one] at b1
            exact ⟨by omega, fun h => b2 (a2 h)⟩
    · intro t r n d x l' n' h
      rw [pnode_eq] at h
      by_cases h1 : 0 ≤ n ∧ 0 ≤ d
      case neg => rw [if_neg h1] at h; cases h
      rw [if_pos h1] at h
      by_cases h2 : t.f0 = 6 ∧ d > 0
      · rw [if_pos h2] at h; cases h
      rw [if_neg h2] at h
      by_cases h3 : opK t.f0 ∧ d ≥ 32
      · rw [if_pos h3] at h; cases h
      rw [if_neg h3] at h
      by_cases h4 : n ≥ 4096
      · rw [if_pos h4] at h; cases h
      rw [if_neg h4] at h
      by_cases h5 : opK t.f0
      case neg =>
        rw [if_neg h5] at h; cases h
        refine ⟨?_, fun _ => by omega⟩
        rw [nN_eq]; simp [nL]
      rw [if_pos h5] at h
      have hend : ∀ (hh : Bool) (body els : List S78) (l1 : List S76) (n1 : Int), endB t hh body els l1 n1 = .ok (x, l', n') → n' = n1 ∧ nN x = 1 + nL body + nL els := by
        intro hh body els l1 n1 e
        cases l1 with
        | nil => cases e
        | cons t3 r4 =>
          simp only [endB] at e
          by_cases h8 : t3.f0 = 8
          · rw [if_pos h8] at e; cases e; exact ⟨rfl, by rw [nN_eq]⟩
          · rw [if_neg h8] at e; cases e
      unfold pblk at h
      cases hp : plist k r (n + 1) (d + 1) [] with
      | none => rw [hp] at h; cases h
      | some q =>
        rw [hp] at h
        cases q with
        | error e => cases h
        | ok q =>
          obtain ⟨body, l1, n1⟩ := q
          obtain ⟨a1, a2⟩ := ihl _ _ _ _ _ _ _ hp
          cases l1 with
          | nil => cases h
          | cons t1 r2 =>
            dsimp only at h
            by_cases h7 : t1.f0 = 7
            · rw [if_pos h7] at h
              by_cases h8 : t.f0 = 2
              case neg => rw [if_neg h8] at h; cases h
              rw [if_pos h8] at h
              cases hp2 : plist k r2 n1 (d + 1) [] with
              | none => rw [hp2] at h; cases h
              | some q =>
                rw [hp2] at h
                cases q with
                | error e => cases h
                | ok q =>
                  obtain ⟨els, r3, n3⟩ := q
                  obtain ⟨b1, b2⟩ := ihl _ _ _ _ _ _ _ hp2
                  obtain ⟨c1, c2⟩ := hend _ _ _ _ _ (Option.some.inj h)
                  simp only [nL] at a1 b1
                  exact ⟨by omega, fun _ => by rw [c1]; exact b2 (a2 (by omega))⟩
            · rw [if_neg h7] at h
              obtain ⟨c1, c2⟩ := hend _ _ _ _ _ (Option.some.inj h)
              simp only [nL] at a1 c2
              exact ⟨by omega, fun _ => by rw [c1]; exact a2 (by omega)⟩
theorem lexS_len : ∀ (n p : Nat) (s : List UInt8) (l : List T5), s.length ≤ n → lexS p s = .ok l → l.length ≤ s.length
  | n, p, s, l, hn, e => by
    cases way s with
    | text _ h =>
      rw [lexS_text h] at e; cases e
      unfold txtT; split
      · simp
      · rename_i h0; have := List.length_pos_iff.2 h0; show 1 ≤ _; omega
    | open_ t r h hr => rw [lexS_open h hr] at e; cases e
    | dir t u r h hu =>
      obtain ⟨dd, l', hd, hl', rfl⟩ := lexS_dirOk h hu e
      cases n with
      | zero => simp at hn
      | succ n =>
        have := lexS_len n _ r l' (by simp at hn; omega) hl'
        have h2 : (txtT p t).length ≤ t.length := by
          unfold txtT; split
          · simp
          · rename_i h0; have := List.length_pos_iff.2 h0; show 1 ≤ _; omega
        simp only [List.length_append, List.length_cons]; omega
theorem lexF_len (s : ByteArray) : (lexF s).2.2 = 0 → (lexF s).1.length ≤ 70000 := by
  rcases lexF_cases s with ⟨L, hs, hL, e⟩ | ⟨n, er, e, he, _⟩
  · intro _; rw [e]; rw [List.length_map]; have := lexS_len _ 0 _ L (Nat.le_refl _) hL; rw [data_length] at this; omega
  · intro h; rw [e] at h; exact absurd h he
theorem parse_ev (s : ByteArray) : ∃ r, Ev (fun k => parse_Parse.f k s) r := by
  by_cases he : (lexF s).2.2 = 0
  · obtain ⟨res, h, _⟩ := (parse_tot (lexF s).1.length).1 (lexF s).1 0 0 [] (Nat.le_refl _) (by have := lexF_len s he; simp; omega) (by decide) (by decide)
    exact ⟨parseR s res, 2 * (lexF s).1.length + 1, fun k hk => by
      show parse_Parse.f k s = _
      unfold parse_Parse.f
      rw [if_pos he, h k hk]; rfl⟩
  · exact ⟨_, 0, fun k hk => by
      show parse_Parse.f k s = _
      unfold parse_Parse.f
      rw [if_neg he]⟩
/-- The lexer by rounds: it can be reckoned. -/
def lexK : Nat → Nat → List UInt8 → Except (Nat × Int) (List T5)
  | 0, _, _ => .ok []
  | k + 1, p, s =>
    if Lib.index s [123, 123] < 0 then .ok (txtT p s)
    else if Lib.index (s.drop ((Lib.index s [123, 123]).toNat + 2)) [125, 125] < 0 then .error (p + (Lib.index s [123, 123]).toNat, 7)
    else
      let i := (Lib.index s [123, 123]).toNat
      let j := (Lib.index (s.drop (i + 2)) [125, 125]).toNat
      let d := dirF (fieldsG ((s.drop (i + 2)).take j) [])
      if d.1 = 0 then
        match lexK k (p + i + j + 4) ((s.drop (i + 2)).drop (j + 2)) with
        | .error e => .error e
        | .ok l => .ok (txtT p (s.take i) ++ (p + i, d.2) :: l)
      else .error (p + i, d.1)
theorem lexK_is : ∀ (k p : Nat) (s : List UInt8), s.length < k → lexS p s = lexK k p s
  | 0, p, s, h => absurd h (Nat.not_lt_zero _)
  | k + 1, p, s, h => by
    rw [lexS, lexK]
    by_cases h1 : Lib.index s [123, 123] < 0
    · rw [dif_pos h1, if_pos h1]
    rw [dif_neg h1, if_neg h1]
    by_cases h2 : Lib.index (s.drop ((Lib.index s [123, 123]).toNat + 2)) [125, 125] < 0
    · rw [dif_pos h2, if_pos h2]
    rw [dif_neg h2, if_neg h2]
    have r1 := Lib.index_room s [123, 123] (by omega)
    have r2 : ([123, 123] : List UInt8).length = 2 := rfl
    rw [r2] at r1
    have hk := fun p' => lexK_is k p' ((s.drop ((Lib.index s [123, 123]).toNat + 2)).drop ((Lib.index (s.drop ((Lib.index s [123, 123]).toNat + 2)) [125, 125]).toNat + 2)) (by rw [List.length_drop, List.length_drop]; omega)
    dsimp only
    rw [hk]
    rfl
def lexFK (s : ByteArray) : List S76 × Int × Int := if (s.size : Int) > 65536 then ([], 0, 6) else lexR s (lexK (s.data.toList.length + 1) 0 s.data.toList)
theorem lexFK_is (s : ByteArray) : lexF s = lexFK s := by unfold lexF lexFK; rw [lexK_is _ _ _ (Nat.lt_succ_self _)]
theorem parseK_is (k : Nat) (s : ByteArray) : parse_Parse.f k s = if (lexFK s).2.2 = 0 then (plist k (lexFK s).1 0 0 []).map (parseR s) else some ([], (lexFK s).2.1, (lexFK s).2.2) := by unfold parse_Parse.f; rw [lexFK_is]
end Go.Proofs.YtkpnfejfbmandaaDoor.Px

/- parse.Parse where the answer is known; tmplpipelaw12.alive. -/
namespace Go.Proofs.YtkpnfejfbmandaaDoor.Px
open Go.RowKit Go.Proofs.YtkpnfejfbmandaaDoorW.PrintWords Go.Proofs.YtkpnfejfbmandaaDoorW.PrintLast Go.Proofs.YtkpnfejfbmandaaDoorW.PrintMore
set_option linter.unusedVariables false
set_option linter.unusedSimpArgs false
theorem parse_any {s : ByteArray} {r : List S78 × Int × Int} (h : Ev (fun k => parse_Parse.f k s) r) (w : World) (hG : GS w) :
    Calls Tryd.prog 10 #[.string s] w fun e w' => ∃ (A : Option Addr) (c : Nat), e = .returned (.tuple #[.slice A r.1.length c, .int .i64 r.2.1, .int .i64 r.2.2]) ∧ Kd.C k78 w' A r.1.length r.1 ∧ r.1.length ≤ c ∧ Below w.heap.size w w' := by
  obtain ⟨K, hK⟩ := h
  refine (parse_Parse.calls K s r.1 r.2.1 r.2.2 w hG (hK K (Nat.le_refl _))).mono ?_
  rintro e w' ⟨v, rfl, HR, HB⟩
  obtain ⟨A, c, rfl⟩ := Kd.R_slice HR
  have q := Kd.R_reads' HR
  exact ⟨A, c, rfl, q.2.2, q.2.1, HB⟩
theorem parse_12 {s : ByteArray} {r : List S78 × Int × Int} (h : parse_Parse.f 12 s = some r) : Ev (fun k => parse_Parse.f k s) r := Ev.up (parse_Parse.mono s) h
end Go.Proofs.YtkpnfejfbmandaaDoor.Px

/- infer: a node of each kind. -/
namespace Go.Proofs.YtkpnfejfbmandaaDoor.Px
open Go.RowKit Go.Proofs.YtkpnfejfbmandaaDoorW.PrintWords Go.Proofs.YtkpnfejfbmandaaDoorW.PrintLast Go.Proofs.YtkpnfejfbmandaaDoorW.PrintMore
set_option linter.unusedVariables false
set_option linter.unusedSimpArgs false
mutual
/-- Strings of a bounded length, all the way down. -/
def smL : List S78 → Prop
  | [] => True
  | x :: xs => smN x ∧ smL xs
def smN : S78 → Prop
  | ⟨_, _, S, _, _, _, b, l⟩ => S.size ≤ 65536 ∧ smL b ∧ smL l
end
theorem AOut.appended {w0 w g v0 v st W p v1 w1} (h : AOut w0 w g v0 v st W) (h1 : Kd.R (Kd.int .i64) 3 w1 w0.heap.size (fun k => k ≠ g) v1 (st.1 ++ [p])) (hB : Below w0.heap.size w0 w1) (hg : W.grownBy w1 v.ownBlock)
    (hr : v1.ownBlock = v.ownBlock ∨ ∃ b, v1.ownBlock = some b ∧ W.heap.size ≤ b) : AOut w0 w g v0 v1 (st.1 ++ [p], st.2) (w1.setCell ⟨g, 0, none⟩ v1) :=
  ⟨⟨blk_set (blk_grown h.st.blk hg (fun e => h.st.own.1 g e.symm rfl)) 0 v1, Kd.R_far h1 (fun _ h => h) _, hB.setCell h.st.ge _, h.st.ge⟩, (keep_tr h.keep (KeepBut.of_grown hg g) h.row).set_ 0 _, by
    rcases hr with e | ⟨b, e, hb⟩
    · rw [e]; exact h.row
    · exact .inr (.inr ⟨b, e, Nat.le_trans h.keep.1 hb⟩)⟩
theorem AOut.set4 {w0 w g v0 v st W k cs} (h : AOut w0 w g v0 v st W) (hb : W.heap[k]? = some (.cells cs 88 (0, 0))) (hk : k ≠ g) (hw : w.heap.size ≤ k) (hw0 : w0.heap.size ≤ w.heap.size) (a b c d : Value) :
    AOut w0 w g v0 v st ((((W.setCell ⟨k, 0, none⟩ a).setCell ⟨k, 1, none⟩ b).setCell ⟨k, 2, none⟩ c).setCell ⟨k, 3, none⟩ d) :=
  (((h.setbox hb (by decide) hk hw hw0 _).setbox (blk_set hb 0 _) (by decide) hk hw hw0 _).setbox (blk_set (blk_set hb 0 _) 1 _) (by decide) hk hw hw0 _).setbox (blk_set (blk_set (blk_set hb 0 _) 1 _) 2 _) (by decide) hk hw hw0 _
/-- The contract of a node. -/
abbrev iNode.Con (x : S78) : Prop := ∀ (w0 : World) (g : Nat) (v : Value) (st : IS) (s : HS) (A6 A7 : Option Addr) (c6 c7 : Nat) (w : World), AIn w0 g v st w → Kd.C k78 w0 A6 x.f6.length x.f6 → x.f6.length ≤ c6 → Kd.C k78 w0 A7 x.f7.length x.f7 → x.f7.length ≤ c7 → s.gd → smN x → st.1.length + nN x ≤ 1000000 →
  Calls Tryd.prog 60 #[.pointer (some ⟨g, 0, none⟩), .agg #[.int .i64 s.c, .string s.n, .string s.a, .string s.p], .agg #[.int .i64 x.f0, .int .i64 x.f1, .string x.f2, .string x.f3, .bool x.f4, .bool x.f5, .slice A6 x.f6.length c6, .slice A7 x.f7.length c7]] w fun e w' =>
    e = .returned (.agg #[.int .i64 (iN x s st).1.c, .string (iN x s st).1.n, .string (iN x s st).1.a, .string (iN x s st).1.p]) ∧ ∃ v', AOut w0 w g v v' (iN x s st).2 w'
abbrev iList.Con (l : List S78) : Prop := ∀ (w0 : World) (g : Nat) (v : Value) (st : IS) (s : HS) (A : Option Addr) (c : Nat) (w : World), AIn w0 g v st w → Kd.C k78 w0 A l.length l → l.length ≤ c → s.gd → smL l → st.1.length + nL l ≤ 1000000 →
  Calls Tryd.prog 38 #[.pointer (some ⟨g, 0, none⟩), .agg #[.int .i64 s.c, .string s.n, .string s.a, .string s.p], .slice A l.length c] w fun e w' =>
    e = .returned (.agg #[.int .i64 (iL l s st).1.c, .string (iL l s st).1.n, .string (iL l s st).1.a, .string (iL l s st).1.p]) ∧ ∃ v', AOut w0 w g v v' (iL l s st).2 w'
theorem iN_at (x : S78) (s : HS) (st : IS) : iN x s st =
    if x.f0 = 0 then (runF s x.f2.data.toList, st)
    else if x.f0 = 1 then (s, ((if (escF s).2 then st else failI st x.f1 15).1 ++ [(escF s).1], (if (escF s).2 then st else failI st x.f1 15).2))
    else if x.f0 = 4 then (s, expI st x.f1 s hz 15)
    else if x.f0 = 2 then ((iL x.f6 s st).1, expI (iL x.f7 s (iL x.f6 s st).2).2 x.f1 (iL x.f7 s (iL x.f6 s st).2).1 (iL x.f6 s st).1 16)
    else if x.f0 = 3 then (s, expI (iL x.f6 s st).2 x.f1 (iL x.f6 s st).1 s 16)
    else if x.f0 = 6 then (s, expI (iL x.f6 hz st).2 x.f1 (iL x.f6 hz st).1 hz 16)
    else (s, st) := by cases x; rw [iN]
theorem al3 (w : World) (o1 o2 o3 o4 : Obj) : ((((w.alloc o1).alloc o2).alloc o3).alloc o4).heap[w.heap.size + 1 + 1]? = some o3 := by
  have := blk_alloc (blk_new ((w.alloc o1).alloc o2) o3) o4
  rwa [World.size_alloc, World.size_alloc] at this
set_option maxHeartbeats 4000000 in
set_option maxRecDepth 100000 in
theorem iNode.text (x : S78) (hk : x.f0 = 0) : iNode.Con x := by
  intro w0 g v st s A6 A7 c6 c7 w hS hC6 hc6 hC7 hc7 hs hx hl
  rw [iN_at, if_pos hk]
  rw [hk]
  have hz0 : x.f2.size ≤ 65536 := by cases x; simp only [smN] at hx; exact hx.1
  have hrun := run_any s x.f2 hz0 (fun i => (runF_gd _ hs).ok)
  have hgw := blk_lt hS.blk
  have hw0 := hS.bel.size
  have hS4 := Aside0.mk (fun o1 o2 o3 o4 => (((hS.out.alloc o1).alloc o2).alloc o3).alloc o4)
  clear hS hC6 hC7 hx hl
  go_enter Tryd.func60, Tryd.ntmps60
  go_wp2_with (go_at_call 81; refine (hrun _).mono ?_; rintro e w2 ⟨rfl, hb⟩; have hB := Aside0.mk (blk_below (al3 w _ _ _ _) hb); have c0 : w2.cell? ⟨w.heap.size + 1 + 1, 0, none⟩ = some (.int .i64 0) := (blk_cell hB.out 0).trans rfl; have c1 : w2.cell? ⟨w.heap.size + 1 + 1, 1, none⟩ = some (.string ⟨#[]⟩) := (blk_cell hB.out 1).trans rfl; have c2 : w2.cell? ⟨w.heap.size + 1 + 1, 2, none⟩ = some (.string ⟨#[]⟩) := (blk_cell hB.out 2).trans rfl; have c3 : w2.cell? ⟨w.heap.size + 1 + 1, 3, none⟩ = some (.string ⟨#[]⟩) := (blk_cell hB.out 3).trans rfl; have f0 := blk_frozen hB.out 0; have f1 := blk_frozen hB.out 1; have f2 := blk_frozen hB.out 2; have f3 := blk_frozen hB.out 3; have hS5 := Aside0.mk ((hS4.out _ _ _ _).below hb); clear hb)
  refine ret88 rfl rfl rfl rfl (blk_put4 hB.out rfl _ _ _ _) ⟨rfl, v, hS5.out.set4 hB.out (by omega) (by omega) hw0 _ _ _ _⟩
theorem info3 : (Tryd.prog.info? 3).map (fun i => (i.zero, i.size, i.bytes)) = some (some (.int .i64 0), 1, 8) := by kernel_rfl
def nd8 (x : S78) (v6 v7 : Value) : Array Value := #[.int .i64 x.f0, .int .i64 x.f1, .string x.f2, .string x.f3, .bool x.f4, .bool x.f5, v6, v7]
/-- The frame of a node's walk: its four blocks. -/
structure Frm (w : World) (s : HS) (x : S78) (v6 v7 : Value) (W : World) : Prop where
  b0 : W.heap[w.heap.size]? = some (.cells (ag4 s) 88 (0, 0))
  b1 : W.heap[w.heap.size + 1]? = some (.cells (nd8 x v6 v7) 78 (0, 0))
  b2 : W.heap[w.heap.size + 1 + 1]? = some (.cells (ag4 hz) 88 (0, 0))
  b3 : W.heap[w.heap.size + 1 + 1 + 1]? = some (.cells (ag4 hz) 88 (0, 0))
theorem Frm.start (w : World) (s : HS) (x : S78) (v6 v7 : Value) : Frm w s x v6 v7 ((((w.alloc (.cells (ag4 s) 88)).alloc (.cells (nd8 x v6 v7) 78)).alloc (.cells (ag4 hz) 88)).alloc (.cells (ag4 hz) 88)) :=
  ⟨blk_alloc (blk_alloc (blk_alloc (blk_new _ _) _) _) _, blk_alloc (blk_alloc (blk_n1 _ _ _) _) _, al3 _ _ _ _ _, by
    have := blk_new (((w.alloc (.cells (ag4 s) 88)).alloc (.cells (nd8 x v6 v7) 78)).alloc (.cells (ag4 hz) 88)) (.cells (ag4 hz) 88)
    rwa [World.size_alloc, World.size_alloc, World.size_alloc] at this⟩
theorem Frm.below {w s x v6 v7 W W2} (h : Frm w s x v6 v7 W) (hb : Below W.heap.size W W2) : Frm w s x v6 v7 W2 := ⟨blk_below h.b0 hb, blk_below h.b1 hb, blk_below h.b2 hb, blk_below h.b3 hb⟩
theorem Frm.out {w s x v6 v7 W W2 w0 g v0 v st st0} (h : Frm w s x v6 v7 W) (hX : AOut w0 W g v0 v st W2) (h0 : AIn w0 g v0 st0 W) (hg : g < w.heap.size) : Frm w s x v6 v7 W2 :=
  ⟨hX.box h0 h.b0 (by decide) (by omega), hX.box h0 h.b1 (by decide) (by omega), hX.box h0 h.b2 (by decide) (by omega), hX.box h0 h.b3 (by decide) (by omega)⟩
theorem Frm.grown {w s x v6 v7 W W2 w0 g v st} (h : Frm w s x v6 v7 W) (hI : AIn w0 g v st W) (hg : W.grownBy W2 v.ownBlock) : Frm w s x v6 v7 W2 := by
  obtain ⟨inner, ho⟩ := Kd.R_own hI.own
  exact ⟨blk_grown h.b0 hg (own_ne ho h.b0 (by decide)), blk_grown h.b1 hg (own_ne ho h.b1 (by decide)), blk_grown h.b2 hg (own_ne ho h.b2 (by decide)), blk_grown h.b3 hg (own_ne ho h.b3 (by decide))⟩
theorem Frm.al {w s x v6 v7 W} (h : Frm w s x v6 v7 W) (o : Obj) : Frm w s x v6 v7 (W.alloc o) := ⟨blk_alloc h.b0 o, blk_alloc h.b1 o, blk_alloc h.b2 o, blk_alloc h.b3 o⟩
theorem Frm.set {w s x v6 v7 W} (h : Frm w s x v6 v7 W) {g j : Nat} (hg : g < w.heap.size) (u : Value) : Frm w s x v6 v7 (W.setCell ⟨g, j, none⟩ u) :=
  ⟨blk_far h.b0 (by simp; omega) _, blk_far h.b1 (by simp; omega) _, blk_far h.b2 (by simp; omega) _, blk_far h.b3 (by simp; omega) _⟩
structure FrmC (w : World) (s : HS) (x : S78) (v6 v7 : Value) (W : World) : Prop where
  s0 : W.cell? ⟨w.heap.size, 0, none⟩ = some (.int .i64 s.c)
  s1 : W.cell? ⟨w.heap.size, 1, none⟩ = some (.string s.n)
  s2 : W.cell? ⟨w.heap.size, 2, none⟩ = some (.string s.a)
  s3 : W.cell? ⟨w.heap.size, 3, none⟩ = some (.string s.p)
  n0 : W.cell? ⟨w.heap.size + 1, 0, none⟩ = some (.int .i64 x.f0)
  n1 : W.cell? ⟨w.heap.size + 1, 1, none⟩ = some (.int .i64 x.f1)
  n2 : W.cell? ⟨w.heap.size + 1, 2, none⟩ = some (.string x.f2)
  n3 : W.cell? ⟨w.heap.size + 1, 3, none⟩ = some (.string x.f3)
  n4 : W.cell? ⟨w.heap.size + 1, 4, none⟩ = some (.bool x.f4)
  n5 : W.cell? ⟨w.heap.size + 1, 5, none⟩ = some (.bool x.f5)
  n6 : W.cell? ⟨w.heap.size + 1, 6, none⟩ = some v6
  n7 : W.cell? ⟨w.heap.size + 1, 7, none⟩ = some v7
  r0 : W.cell? ⟨w.heap.size + 1 + 1, 0, none⟩ = some (.int .i64 0)
  r1 : W.cell? ⟨w.heap.size + 1 + 1, 1, none⟩ = some (.string ⟨#[]⟩)
  r2 : W.cell? ⟨w.heap.size + 1 + 1, 2, none⟩ = some (.string ⟨#[]⟩)
  r3 : W.cell? ⟨w.heap.size + 1 + 1, 3, none⟩ = some (.string ⟨#[]⟩)
  f0 : W.frozen? ⟨w.heap.size + 1 + 1, 0, none⟩ = false
  f1 : W.frozen? ⟨w.heap.size + 1 + 1, 1, none⟩ = false
  f2 : W.frozen? ⟨w.heap.size + 1 + 1, 2, none⟩ = false
  f3 : W.frozen? ⟨w.heap.size + 1 + 1, 3, none⟩ = false
  z0 : W.cell? ⟨w.heap.size + 1 + 1 + 1, 0, none⟩ = some (.int .i64 0)
  z1 : W.cell? ⟨w.heap.size + 1 + 1 + 1, 1, none⟩ = some (.string ⟨#[]⟩)
  z2 : W.cell? ⟨w.heap.size + 1 + 1 + 1, 2, none⟩ = some (.string ⟨#[]⟩)
  z3 : W.cell? ⟨w.heap.size + 1 + 1 + 1, 3, none⟩ = some (.string ⟨#[]⟩)
theorem Frm.cells {w s x v6 v7 W} (h : Frm w s x v6 v7 W) : FrmC w s x v6 v7 W :=
  ⟨blk_cell h.b0 0, blk_cell h.b0 1, blk_cell h.b0 2, blk_cell h.b0 3, blk_cell h.b1 0, blk_cell h.b1 1, blk_cell h.b1 2, blk_cell h.b1 3, blk_cell h.b1 4, blk_cell h.b1 5, blk_cell h.b1 6, blk_cell h.b1 7, blk_cell h.b2 0, blk_cell h.b2 1, blk_cell h.b2 2, blk_cell h.b2 3, blk_frozen h.b2 0, blk_frozen h.b2 1, blk_frozen h.b2 2, blk_frozen h.b2 3, blk_cell h.b3 0, blk_cell h.b3 1, blk_cell h.b3 2, blk_cell h.b3 3⟩
theorem Frm.lt {w s x v6 v7 W} (h : Frm w s x v6 v7 W) : w.heap.size + 1 + 1 + 1 < W.heap.size := blk_lt h.b3
/-- What a node's walk begins with. -/
theorem node_begin {w0 g v st} {w : World} (hS : AIn w0 g v st w) (s : HS) (x : S78) (v6 v7 : Value) : ∃ W4, W4 = ((((w.alloc (.cells (ag4 s) 88)).alloc (.cells (nd8 x v6 v7) 78)).alloc (.cells (ag4 hz) 88)).alloc (.cells (ag4 hz) 88)) ∧ AOut w0 w g v v st W4 ∧ Frm w s x v6 v7 W4 ∧ g < w.heap.size ∧ w0.heap.size ≤ w.heap.size :=
  ⟨_, rfl, (((hS.out.alloc _).alloc _).alloc _).alloc _, Frm.start _ _ _ _ _, blk_lt hS.blk, hS.bel.size⟩
set_option maxHeartbeats 4000000 in
set_option maxRecDepth 100000 in
theorem iNode.print (x : S78) (hk : x.f0 = 1) : iNode.Con x := by
  intro w0 g v st s A6 A7 c6 c7 w hS hC6 hc6 hC7 hc7 hs hx hl
  obtain ⟨W4, e4, hA, hF, hgw, hw0⟩ := node_begin hS s x (.slice A6 x.f6.length c6) (.slice A7 x.f7.length c7)
  have hlen : (st.1.length + 1) * 8 ≤ 140737488355328 := by have : 1 ≤ nN x := by rw [nN_eq]; omega
                                                            omega
  clear hS hC6 hC7 hx hl hc6 hc7
  rw [iN_at, if_neg (by rw [hk]; decide), if_pos hk]
  replace e4 : W4 = ((((w.alloc (.cells #[.int .i64 s.c, .string s.n, .string s.a, .string s.p] 88)).alloc (.cells #[.int .i64 x.f0, .int .i64 x.f1, .string x.f2, .string x.f3, .bool x.f4, .bool x.f5, .slice A6 x.f6.length c6, .slice A7 x.f7.length c7] 78)).alloc (.cells #[.int .i64 0, .string ⟨#[]⟩, .string ⟨#[]⟩, .string ⟨#[]⟩] 88)).alloc (.cells #[.int .i64 0, .string ⟨#[]⟩, .string ⟨#[]⟩, .string ⟨#[]⟩] 88)) := e4
  rw [hk] at e4 ⊢
  generalize x.f6.length = n6 at *
  generalize x.f7.length = n7 at *
  replace hA := Aside0.mk hA
  replace hF := Aside0.mk hF
  have hlt := hF.out.lt
  obtain ⟨⟨c0, c1, c2⟩, k0, k1, k2⟩ := hA.out.st.cells
  obtain ⟨s0, s1, s2, s3, n0, n1, n2, n3, n4, n5, n6', n7', r0, r1, r2, r3, f0, f1, f2, f3, z0, z1, z2, z3⟩ := hF.out.cells
  rw [hk] at n0
  have lt0 : w.heap.size < W4.heap.size := by omega
  have lt1 : w.heap.size + 1 < W4.heap.size := by omega
  have lt2 : w.heap.size + 1 + 1 < W4.heap.size := by omega
  have ltg : g < W4.heap.size := by omega
  cases hok : (escF s).2
  · simp only [Bool.false_eq_true, if_false]
    have hfl : Aside0 ((failI st x.f1 15).1 = st.1) := ⟨by unfold failI; split <;> rfl⟩
    go_enter Tryd.func60, Tryd.ntmps60
    go_upto_region 2 with fail
    rw [← e4]
    clear e4
    go_wp2_with (first | (go_at_call 82; refine (escaper_any s _).mono ?_; rintro e w2 ⟨rfl, o, rfl⟩) | (go_at_call 61; refine (fail_any 1 x.f1 x.f2 x.f3 x.f4 x.f5 _ _ 15 _ (hA.out.st.alloc _)).mono ?_; rintro e w3 ⟨rfl, h3⟩; have hF2 := Aside0.mk ((hF.out.al o).out h3 (hA.out.st.alloc o) hgw); have hB3 := Aside0.mk ((hA.out.alloc o).call h3); clear h3; clear s0 s1 s2 s3 n0 n1 n2 n3 n4 n5 n6' n7' r0 r1 r2 r3 f0 f1 f2 f3 z0 z1 z2 z3 c0 c1 c2 k0 k1 k2; obtain ⟨⟨c0, c1, c2⟩, k0, k1, k2⟩ := hB3.out.st.cells; obtain ⟨s0, s1, s2, s3, n0, n1, n2, n3, n4, n5, n6', n7', r0, r1, r2, r3, f0, f1, f2, f3, z0, z1, z2, z3⟩ := hF2.out.cells; have lt5 := hF2.out.lt; have ltg5 := blk_lt hB3.out.st.blk) | (at_builtin; go_loud (refine Kd.R_append (Kd.int .i64) w0.heap.size rfl _ _ 35 3 _ 8 rfl Tryd.underlying35 info3 rfl (by decide) (by decide) v (failI st x.f1 15).1 (escF s).1 [.int .i64 (escF s).1] (fun k => k ≠ g) (fun k => k ≠ g ∧ some k ≠ v.ownBlock) rfl rfl rfl (fun k hk => hk) (fun k hk e => by have := blk_lt hB3.out.st.blk; omega) hB3.out.st.own hB3.out.st.bel hB3.out.st.bel.size (by rw [hfl.out]; exact hlen) ?_; intro v1 w5 h1 hB1 hg1 hr1; obtain ⟨A1, c1', rfl⟩ := Kd.R_slice h1; have hX := Aside0.mk (hB3.out.appended h1 hB1 hg1 hr1); simp only [List.length_append, List.length_cons, List.length_nil, Nat.zero_add] at hX; have hF3 := Aside0.mk (hF2.out.grown hB3.out.st hg1); have hb3 := blk_grown hB3.out.st.blk hg1 (fun e => (hB3.out.st.own.1 g e.symm) rfl); have c0' := blk_cell hb3 0; have k0' := blk_frozen hb3 0; clear h1 hB1 hg1 hr1 hb3 s0 s1 s2 s3 n0 n1 n2 n3 n4 n5 n6' n7' r0 r1 r2 r3 f0 f1 f2 f3 z0 z1 z2 z3 c0 c1 c2 k0 k1 k2; obtain ⟨s0, s1, s2, s3, -, -, -, -, -, -, -, -, r0, r1, r2, r3, f0, f1, f2, f3, -, -, -, -⟩ := hF3.out.cells)))
    exact ret88 rfl rfl rfl rfl (blk_put4 (hF3.out.set hgw _).b2 rfl _ _ _ _) ⟨rfl, _, hX.out.set4 (hF3.out.set hgw _).b2 (by omega) (by omega) hw0 _ _ _ _⟩
  · simp only [if_true]
    go_enter Tryd.func60, Tryd.ntmps60
    go_upto_region 2 with fail
    rw [← e4]
    clear e4
    go_wp2_with (first | (go_at_call 82; refine (escaper_any s _).mono ?_; rintro e w2 ⟨rfl, o, rfl⟩) | (at_builtin; go_loud (refine Kd.R_append (Kd.int .i64) w0.heap.size rfl _ _ 35 3 _ 8 rfl Tryd.underlying35 info3 rfl (by decide) (by decide) v st.1 (escF s).1 [.int .i64 (escF s).1] (fun k => k ≠ g) (fun k => k ≠ g ∧ some k ≠ v.ownBlock) rfl (by rw [World.size_alloc]; rfl) rfl (fun k hk => hk) (fun k hk e => by have := blk_lt (hA.out.alloc o).st.blk; omega) (hA.out.alloc o).st.own (hA.out.alloc o).st.bel (hA.out.alloc o).st.bel.size hlen ?_; intro v1 w5 h1 hB1 hg1 hr1; obtain ⟨A1, c1', rfl⟩ := Kd.R_slice h1; have hX := Aside0.mk ((hA.out.alloc o).appended h1 hB1 hg1 hr1); simp only [List.length_append, List.length_cons, List.length_nil, Nat.zero_add] at hX; have hF3 := Aside0.mk ((hF.out.al o).grown (hA.out.alloc o).st hg1); have hb3 := blk_grown (hA.out.alloc o).st.blk hg1 (fun e => ((hA.out.alloc o).st.own.1 g e.symm) rfl); have c0' := blk_cell hb3 0; have k0' := blk_frozen hb3 0; clear h1 hB1 hg1 hr1 hb3 s0 s1 s2 s3 n0 n1 n2 n3 n4 n5 n6' n7' r0 r1 r2 r3 f0 f1 f2 f3 z0 z1 z2 z3 c0 c1 c2 k0 k1 k2; obtain ⟨s0, s1, s2, s3, -, -, -, -, -, -, -, -, r0, r1, r2, r3, f0, f1, f2, f3, -, -, -, -⟩ := hF3.out.cells)))
    exact ret88 rfl rfl rfl rfl (blk_put4 (hF3.out.set hgw _).b2 rfl _ _ _ _) ⟨rfl, _, hX.out.set4 (hF3.out.set hgw _).b2 (by omega) (by omega) hw0 _ _ _ _⟩
end Go.Proofs.YtkpnfejfbmandaaDoor.Px

/- defines.Check: what it computes; a map of names. -/
namespace Go.Proofs.YtkpnfejfbmandaaDoor.Px
open Go.RowKit Go.Proofs.YtkpnfejfbmandaaDoorW.PrintWords Go.Proofs.YtkpnfejfbmandaaDoorW.PrintLast Go.Proofs.YtkpnfejfbmandaaDoorW.PrintMore
open Go.Maps Go.ChangeMaps Go.MapKept
set_option linter.unusedVariables false
set_option linter.unusedSimpArgs false
def inN (ns : List ByteArray) (s : ByteArray) : Bool := ns.any fun n => n.data.toList == s.data.toList
/-- The definitions' names, or the error. -/
def dS : List S78 → List ByteArray → Except (Int × Int) (List ByteArray)
  | [], ns => .ok ns
  | x :: xs, ns => if x.f0 = 6 then (if inN ns x.f2 then .error (x.f1, 12) else if ns.length = 64 then .error (x.f1, 14) else dS xs (ns ++ [x.f2])) else dS xs ns
mutual
/-- The first call of a name that is not defined. -/
def cS : List S78 → List ByteArray → Option Int
  | [], _ => none
  | x :: xs, ns => match cN x ns with
    | some a => some a
    | none => cS xs ns
def cN : S78 → List ByteArray → Option Int
  | ⟨k, at_, S, _, _, _, b, l⟩, ns => if (k == 4 && !inN ns S) = true then some at_ else match cS b ns with
    | some a => some a
    | none => cS l ns
end
def checkF (l : List S78) : Int × Int := match dS l [] with
  | .error e => e
  | .ok ns => match cS l ns with
    | some a => (a, 11)
    | none => (0, 0)
def kS (s : ByteArray) : Lit := .string s.data.toList
/-- Block b is the map of these names. -/
structure MpB (w : World) (b : Nat) (ns : List ByteArray) (n : Nat) (D : DataW Unit) : Prop where
  own : w.ownsMap Tryd.prog 9 (plainElem Tryd.prog 4) b n D
  le : n ≤ ns.length
  size : Maps.size D = ns.length
  at_ : ∀ s : ByteArray, D.atKey (kS s) (.lit (.bool false)) = .lit (.bool (inN ns s))
  has : ∀ s : ByteArray, Maps.has D (kS s) = inN ns s
theorem zero4 (w : World) : (zeroValue 4).run Tryd.prog w = .ok (.bool false) w := by kernel_rfl
set_option maxRecDepth 100000 in
theorem plainBool_inv {v : Value} {x : Bool} {ps : List MemPlace} (h : plainElem (H := Unit) Tryd.prog 4 v = some (.lit (.bool x), ps)) : v = .bool x := by
  unfold plainElem at h
  rw [Tryd.underlying4] at h
  cases v <;> simp at h
  rw [h.1]
set_option maxRecDepth 100000 in
theorem MpB.look {w : World} {b : Nat} {ns : List ByteArray} {n : Nat} {D : DataW Unit} (h : MpB w b ns n D) (s : ByteArray) (hs : s.size ≤ 65536) : (Instr.lookup 82 (.map (some b)) (.string s) false).run Tryd.prog w = .ok (.bool (inN ns s)) w := by
  obtain ⟨v, ps, hr, hv⟩ := h.own.lookup law9 Tryd.underlying82 (zero4 w) (plainElem_bool (H := Unit) Tryd.underlying4 false) (Go.WideMaps.keyOf_string_mk Tryd.underlying9 (show s.size ≤ maxLen by unfold maxLen; omega))
  rw [show (Lit.string s.data.toList) = kS s from rfl, h.at_ s] at hv
  rw [hr, plainBool_inv hv]
theorem MpB.start (w : World) : MpB (w.alloc (.map #[] 0)) w.heap.size [] 0 (.map []) :=
  ⟨World.ownsMap_made _ _ _ _, Nat.le_refl _, rfl, fun s => rfl, fun s => rfl⟩
theorem inN_snoc (ns : List ByteArray) (x s : ByteArray) : inN (ns ++ [x]) s = (inN ns s || x.data.toList == s.data.toList) := by unfold inN; simp
theorem kS_key (s : ByteArray) : WideAt.IsKeyLit (kS s) := by unfold kS; trivial
theorem MpB.put {w w1 : World} {b : Nat} {ns : List ByteArray} {n : Nat} {D : DataW Unit} (h : MpB w b ns n D) (x : ByteArray) (hx : inN ns x = false)
    (h1 : w1.ownsMap Tryd.prog 9 (plainElem Tryd.prog 4) b (n + 1) (D.put (kS x) (.lit (.bool true)))) : MpB w1 b (ns ++ [x]) (n + 1) (D.put (kS x) (.lit (.bool true))) := by
  have ht := h.own.tidy law9
  refine ⟨h1, ?_, ?_, fun s => ?_, fun s => ?_⟩
  · rw [List.length_append]; exact Nat.add_le_add_right h.le 1
  · rw [size_put ht, h.has, hx, h.size, List.length_append]; simp
  · rw [inN_snoc]
    by_cases e : x.data.toList = s.data.toList
    · rw [show kS x = kS s by unfold kS; rw [e], atKey_put_same ht.isMap (kS_key s), beq_iff_eq.mpr e, Bool.or_true]
    · rw [atKey_put_other (fun q => e (by unfold kS at q; simpa using q.symm)), h.at_, beq_eq_false_iff_ne.mpr e, Bool.or_false]
  · rw [inN_snoc]
    by_cases e : x.data.toList = s.data.toList
    · rw [show kS x = kS s by unfold kS; rw [e], has_put_same ht.isMap (kS_key s), beq_iff_eq.mpr e, Bool.or_true]
    · rw [has_put_other (fun q => e (by unfold kS at q; simpa using q.symm)), h.has, beq_eq_false_iff_ne.mpr e, Bool.or_false]
theorem MpB.move {w w1 : World} {b : Nat} {ns : List ByteArray} {n : Nat} {D : DataW Unit} (h : MpB w b ns n D) (hb : w1.heap[b]? = w.heap[b]?) : MpB w1 b ns n D := by
  obtain ⟨⟨es, clock, h1, h2, h3, h4⟩, a1, a2, a3, a4⟩ := h
  exact ⟨⟨es, clock, hb.trans h1, h2, h3, h4⟩, a1, a2, a3, a4⟩
end Go.Proofs.YtkpnfejfbmandaaDoor.Px

/- infer: a node of each other kind. -/
namespace Go.Proofs.YtkpnfejfbmandaaDoor.Px
open Go.RowKit Go.Proofs.YtkpnfejfbmandaaDoorW.PrintWords Go.Proofs.YtkpnfejfbmandaaDoorW.PrintLast Go.Proofs.YtkpnfejfbmandaaDoorW.PrintMore
set_option linter.unusedVariables false
set_option linter.unusedSimpArgs false
theorem Frm.drew {w s x v6 v7 W} (h : Frm w s x v6 v7 W) : Frm w s x v6 v7 W.drew := ⟨h.b0, h.b1, h.b2, h.b3⟩
theorem hzE : hz = ⟨0, ⟨#[]⟩, ⟨#[]⟩, ⟨#[]⟩⟩ := rfl
mutual
theorem iL_gd : ∀ (l : List S78) {s : HS} (st : IS), s.gd → (iL l s st).1.gd
  | [], s, st, h => by rw [iL]; exact h
  | x :: xs, s, st, h => by
    rw [iL]
    split
    · exact iL_gd xs _ (iN_gd x st h)
    · exact h
theorem iN_gd : ∀ (x : S78) {s : HS} (st : IS), s.gd → (iN x s st).1.gd
  | ⟨k, at_, S, _, _, _, b, l⟩, s, st, h => by
    rw [iN]
    split
    · exact runF_gd _ h
    · repeat' split
      all_goals first | exact h | exact iL_gd b _ h
end
theorem failI_1 (st : IS) (a e : Int) : (failI st a e).1 = st.1 := by unfold failI; split <;> rfl
theorem expI_1 (st : IS) (a : Int) (x y : HS) (e : Int) : (expI st a x y e).1 = st.1 := by unfold expI; split; rfl; exact failI_1 _ _ _
mutual
theorem iL_len : ∀ (l : List S78) (s : HS) (st : IS), (iL l s st).2.1.length ≤ st.1.length + nL l
  | [], s, st => by rw [iL]; simp [nL]
  | x :: xs, s, st => by
    rw [iL, nL_cons]
    split
    · have h1 := iN_len x s st
      have h2 := iL_len xs (iN x s st).1 (iN x s st).2
      omega
    · simp only; omega
theorem iN_len : ∀ (x : S78) (s : HS) (st : IS), (iN x s st).2.1.length ≤ st.1.length + nN x
  | ⟨k, at_, S, _, _, _, b, l⟩, s, st => by
    rw [iN, nN_eq]
    have hb := iL_len b s st
    have hz := iL_len b hz st
    have hl := iL_len l s (iL b s st).2
    repeat' split
    all_goals simp only [expI_1, failI_1, List.length_append, List.length_singleton]
    all_goals omega
end
set_option maxHeartbeats 4000000 in
set_option maxRecDepth 100000 in
theorem iNode.call (x : S78) (hk : x.f0 = 4) : iNode.Con x := by
  intro w0 g v st s A6 A7 c6 c7 w hS hC6 hc6 hC7 hc7 hs hx hl
  obtain ⟨W4, e4, hA, hF, hgw, hw0⟩ := node_begin hS s x (.slice A6 x.f6.length c6) (.slice A7 x.f7.length c7)
  clear hS
  rw [iN_at, if_neg (by rw [hk]; decide), if_neg (by rw [hk]; decide), if_pos hk]
  replace e4 : W4 = ((((w.alloc (.cells #[.int .i64 s.c, .string s.n, .string s.a, .string s.p] 88)).alloc (.cells #[.int .i64 x.f0, .int .i64 x.f1, .string x.f2, .string x.f3, .bool x.f4, .bool x.f5, .slice A6 x.f6.length c6, .slice A7 x.f7.length c7] 78)).alloc (.cells #[.int .i64 0, .string ⟨#[]⟩, .string ⟨#[]⟩, .string ⟨#[]⟩] 88)).alloc (.cells #[.int .i64 0, .string ⟨#[]⟩, .string ⟨#[]⟩, .string ⟨#[]⟩] 88)) := e4
  rw [hk] at e4 ⊢
  generalize hn6 : x.f6.length = n6 at *
  generalize hn7 : x.f7.length = n7 at *
  replace hA := Aside0.mk hA
  replace hF := Aside0.mk hF
  have hlt := hF.out.lt
  obtain ⟨⟨c0, c1, c2⟩, k0, k1, k2⟩ := hA.out.st.cells
  obtain ⟨s0, s1, s2, s3, n0, n1, n2, n3, n4, n5, n6', n7', r0, r1, r2, r3, f0, f1, f2, f3, z0, z1, z2, z3⟩ := hF.out.cells
  rw [hk] at n0
  have lt0 : w.heap.size < W4.heap.size := by omega
  have lt1 : w.heap.size + 1 < W4.heap.size := by omega
  have lt2 : w.heap.size + 1 + 1 < W4.heap.size := by omega
  have ltg : g < W4.heap.size := by omega
  go_enter Tryd.func60, Tryd.ntmps60
  go_upto_region 2 with fail
  rw [← e4]
  clear e4
  go_wp2_with (go_at_call 39; refine (expect_any 4 x.f1 x.f2 x.f3 x.f4 x.f5 _ _ s ⟨0, ⟨#[]⟩, ⟨#[]⟩, ⟨#[]⟩⟩ 15 _ hA.out.st).mono ?_; rintro e w3 ⟨rfl, h3⟩; have hF3 := Aside0.mk (hF.out.out h3 hA.out.st hgw); have hB3 := Aside0.mk (hA.out.call h3); clear h3; clear s0 s1 s2 s3 n0 n1 n2 n3 n4 n5 n6' n7' r0 r1 r2 r3 f0 f1 f2 f3 z0 z1 z2 z3 c0 c1 c2 k0 k1 k2; obtain ⟨⟨c0, c1, c2⟩, k0, k1, k2⟩ := hB3.out.st.cells; obtain ⟨s0, s1, s2, s3, n0, n1, n2, n3, n4, n5, n6', n7', r0, r1, r2, r3, f0, f1, f2, f3, z0, z1, z2, z3⟩ := hF3.out.cells; have lt5 := hF3.out.lt; have ltg5 := blk_lt hB3.out.st.blk)
  exact ret88 rfl rfl rfl rfl (blk_put4 hF3.out.b2 rfl _ _ _ _) ⟨rfl, _, hB3.out.set4 hF3.out.b2 (by omega) (by omega) hw0 _ _ _ _⟩
set_option maxHeartbeats 4000000 in
set_option maxRecDepth 100000 in
theorem iNode.other (x : S78) (hk : x.f0 ≠ 0 ∧ x.f0 ≠ 1 ∧ x.f0 ≠ 4 ∧ x.f0 ≠ 2 ∧ x.f0 ≠ 3 ∧ x.f0 ≠ 6) : iNode.Con x := by
  obtain ⟨h0, h1, h4, h2, h3, h6⟩ := hk
  intro w0 g v st s A6 A7 c6 c7 w hS hC6 hc6 hC7 hc7 hs hx hl
  obtain ⟨W4, e4, hA, hF, hgw, hw0⟩ := node_begin hS s x (.slice A6 x.f6.length c6) (.slice A7 x.f7.length c7)
  clear hS
  rw [iN_at, if_neg h0, if_neg h1, if_neg h4, if_neg h2, if_neg h3, if_neg h6]
  replace e4 : W4 = ((((w.alloc (.cells #[.int .i64 s.c, .string s.n, .string s.a, .string s.p] 88)).alloc (.cells #[.int .i64 x.f0, .int .i64 x.f1, .string x.f2, .string x.f3, .bool x.f4, .bool x.f5, .slice A6 x.f6.length c6, .slice A7 x.f7.length c7] 78)).alloc (.cells #[.int .i64 0, .string ⟨#[]⟩, .string ⟨#[]⟩, .string ⟨#[]⟩] 88)).alloc (.cells #[.int .i64 0, .string ⟨#[]⟩, .string ⟨#[]⟩, .string ⟨#[]⟩] 88)) := e4
  generalize hn6 : x.f6.length = n6 at *
  generalize hn7 : x.f7.length = n7 at *
  replace hA := Aside0.mk hA
  replace hF := Aside0.mk hF
  have hlt := hF.out.lt
  obtain ⟨⟨c0, c1, c2⟩, k0, k1, k2⟩ := hA.out.st.cells
  obtain ⟨s0, s1, s2, s3, n0, n1, n2, n3, n4, n5, n6', n7', r0, r1, r2, r3, f0, f1, f2, f3, z0, z1, z2, z3⟩ := hF.out.cells
  have lt0 : w.heap.size < W4.heap.size := by omega
  have lt1 : w.heap.size + 1 < W4.heap.size := by omega
  have lt2 : w.heap.size + 1 + 1 < W4.heap.size := by omega
  have ltg : g < W4.heap.size := by omega
  have b0 : (x.f0 == 0) = false := beq_eq_false_iff_ne.mpr h0
  have b1 : (x.f0 == 1) = false := beq_eq_false_iff_ne.mpr h1
  have b4 : (x.f0 == 4) = false := beq_eq_false_iff_ne.mpr h4
  have b2 : (x.f0 == 2) = false := beq_eq_false_iff_ne.mpr h2
  have b3 : (x.f0 == 3) = false := beq_eq_false_iff_ne.mpr h3
  have b6 : (x.f0 == 6) = false := beq_eq_false_iff_ne.mpr h6
  clear h0 h1 h4 h2 h3 h6
  go_enter Tryd.func60, Tryd.ntmps60
  go_upto_region 2 with fail
  rw [← e4]
  clear e4
  go_wp2
  exact ret88 rfl rfl rfl rfl (blk_put4 hF.out.b2 rfl _ _ _ _) ⟨rfl, _, hA.out.set4 hF.out.b2 (by omega) (by omega) hw0 _ _ _ _⟩
set_option maxHeartbeats 4000000 in
set_option maxRecDepth 100000 in
theorem iNode.range (x : S78) (hk : x.f0 = 3) (hL : iList.Con x.f6) : iNode.Con x := by
  intro w0 g v st s A6 A7 c6 c7 w hS hC6 hc6 hC7 hc7 hs hx hl
  obtain ⟨W4, e4, hA, hF, hgw, hw0⟩ := node_begin hS s x (.slice A6 x.f6.length c6) (.slice A7 x.f7.length c7)
  have hm : smL x.f6 := by cases x; simp only [smN] at hx; exact hx.2.1
  have hl6 : st.1.length + nL x.f6 ≤ 1000000 := by rw [nN_eq] at hl; omega
  have hcl := Aside0.mk (fun W (h : AIn w0 g v st W) => hL w0 g v st s A6 c6 W h hC6 hc6 hs hm hl6)
  clear hL hC6 hC7 hc6 hc7 hx hl hm hl6
  clear hS
  rw [iN_at, if_neg (by rw [hk]; decide), if_neg (by rw [hk]; decide), if_neg (by rw [hk]; decide), if_neg (by rw [hk]; decide), if_pos hk]
  replace e4 : W4 = ((((w.alloc (.cells #[.int .i64 s.c, .string s.n, .string s.a, .string s.p] 88)).alloc (.cells #[.int .i64 x.f0, .int .i64 x.f1, .string x.f2, .string x.f3, .bool x.f4, .bool x.f5, .slice A6 x.f6.length c6, .slice A7 x.f7.length c7] 78)).alloc (.cells #[.int .i64 0, .string ⟨#[]⟩, .string ⟨#[]⟩, .string ⟨#[]⟩] 88)).alloc (.cells #[.int .i64 0, .string ⟨#[]⟩, .string ⟨#[]⟩, .string ⟨#[]⟩] 88)) := e4
  rw [hk] at e4 ⊢
  generalize hn6 : x.f6.length = n6 at *
  generalize hn7 : x.f7.length = n7 at *
  replace hA := Aside0.mk hA
  replace hF := Aside0.mk hF
  have hlt := hF.out.lt
  obtain ⟨⟨c0, c1, c2⟩, k0, k1, k2⟩ := hA.out.st.cells
  obtain ⟨s0, s1, s2, s3, n0, n1, n2, n3, n4, n5, n6', n7', r0, r1, r2, r3, f0, f1, f2, f3, z0, z1, z2, z3⟩ := hF.out.cells
  rw [hk] at n0
  have lt0 : w.heap.size < W4.heap.size := by omega
  have lt1 : w.heap.size + 1 < W4.heap.size := by omega
  have lt2 : w.heap.size + 1 + 1 < W4.heap.size := by omega
  have ltg : g < W4.heap.size := by omega
  generalize iL x.f6 s st = R at *
  obtain ⟨rs, rt⟩ := R
  dsimp only at hcl ⊢
  go_enter Tryd.func60, Tryd.ntmps60
  go_upto_region 2 with fail
  rw [← e4]
  clear e4
  go_wp2
  go_region_held3 (fun w' => w'.cell? ⟨w.heap.size, 0, none⟩ = some (.int .i64 s.c) ∧ w'.cell? ⟨w.heap.size, 1, none⟩ = some (.string s.n) ∧ w'.cell? ⟨w.heap.size, 2, none⟩ = some (.string s.a) ∧ w'.cell? ⟨w.heap.size, 3, none⟩ = some (.string s.p) ∧ w'.cell? ⟨w.heap.size + 1, 0, none⟩ = some (.int .i64 3) ∧ w'.cell? ⟨w.heap.size + 1, 1, none⟩ = some (.int .i64 x.f1) ∧ w'.cell? ⟨w.heap.size + 1, 2, none⟩ = some (.string x.f2) ∧ w'.cell? ⟨w.heap.size + 1, 3, none⟩ = some (.string x.f3) ∧ w'.cell? ⟨w.heap.size + 1, 4, none⟩ = some (.bool x.f4) ∧ w'.cell? ⟨w.heap.size + 1, 5, none⟩ = some (.bool x.f5) ∧ w'.cell? ⟨w.heap.size + 1, 6, none⟩ = some (.slice A6 n6 c6) ∧ w'.cell? ⟨w.heap.size + 1, 7, none⟩ = some (.slice A7 n7 c7) ∧ w'.cell? ⟨w.heap.size + 1 + 1 + 1, 0, none⟩ = some (.int .i64 0) ∧ w'.cell? ⟨w.heap.size + 1 + 1 + 1, 1, none⟩ = some (.string ⟨#[]⟩) ∧ w'.cell? ⟨w.heap.size + 1 + 1 + 1, 2, none⟩ = some (.string ⟨#[]⟩) ∧ w'.cell? ⟨w.heap.size + 1 + 1 + 1, 3, none⟩ = some (.string ⟨#[]⟩)) (exact ⟨s0, s1, s2, s3, n0, n1, n2, n3, n4, n5, n6', n7', z0, z1, z2, z3⟩) (first | (go_at_call 38; (with_reducible refine (hcl.out _ hA.out.st.drew).mono ?_); rintro e w3 ⟨rfl, v1, h3⟩; have hF3 := Aside0.mk (hF.out.drew.out h3 hA.out.st.drew hgw); have hB3 := Aside0.mk (hA.out.drew.call h3); clear h3; clear s0 s1 s2 s3 n0 n1 n2 n3 n4 n5 n6' n7' r0 r1 r2 r3 f0 f1 f2 f3 z0 z1 z2 z3 c0 c1 c2 k0 k1 k2; obtain ⟨⟨c0, c1, c2⟩, k0, k1, k2⟩ := hB3.out.st.cells; obtain ⟨s0, s1, s2, s3, n0, n1, n2, n3, n4, n5, n6', n7', r0, r1, r2, r3, f0, f1, f2, f3, z0, z1, z2, z3⟩ := hF3.out.cells; rw [hk] at n0) | (go_at_call 39; (with_reducible refine (expect_any 3 x.f1 x.f2 x.f3 x.f4 x.f5 _ _ rs s 16 _ hB3.out.st).mono ?_); rintro e w4 ⟨rfl, h4⟩; have hF4 := Aside0.mk (hF3.out.out h4 hB3.out.st hgw); have hB4 := Aside0.mk (hB3.out.call h4); clear h4; clear s0 s1 s2 s3 n0 n1 n2 n3 n4 n5 n6' n7' r0 r1 r2 r3 f0 f1 f2 f3 z0 z1 z2 z3 c0 c1 c2 k0 k1 k2; obtain ⟨⟨c0, c1, c2⟩, k0, k1, k2⟩ := hB4.out.st.cells; obtain ⟨s0, s1, s2, s3, n0, n1, n2, n3, n4, n5, n6', n7', r0, r1, r2, r3, f0, f1, f2, f3, z0, z1, z2, z3⟩ := hF4.out.cells; rw [hk] at n0))
  go_wp2
  exact ret88 rfl rfl rfl rfl (blk_put4 hF4.out.b2 rfl _ _ _ _) ⟨rfl, _, hB4.out.set4 hF4.out.b2 (by omega) (by omega) hw0 _ _ _ _⟩
set_option maxHeartbeats 4000000 in
set_option maxRecDepth 100000 in
theorem iNode.define (x : S78) (hk : x.f0 = 6) (hL : iList.Con x.f6) : iNode.Con x := by
  intro w0 g v st s A6 A7 c6 c7 w hS hC6 hc6 hC7 hc7 hs hx hl
  obtain ⟨W4, e4, hA, hF, hgw, hw0⟩ := node_begin hS s x (.slice A6 x.f6.length c6) (.slice A7 x.f7.length c7)
  have hm : smL x.f6 := by cases x; simp only [smN] at hx; exact hx.2.1
  have hl6 : st.1.length + nL x.f6 ≤ 1000000 := by rw [nN_eq] at hl; omega
  have hcl := Aside0.mk (fun W (h : AIn w0 g v st W) => hL w0 g v st ⟨0, ⟨#[]⟩, ⟨#[]⟩, ⟨#[]⟩⟩ A6 c6 W h hC6 hc6 hz_gd hm hl6)
  clear hL hC6 hC7 hc6 hc7 hx hl hm hl6
  clear hS
  rw [iN_at, if_neg (by rw [hk]; decide), if_neg (by rw [hk]; decide), if_neg (by rw [hk]; decide), if_neg (by rw [hk]; decide), if_neg (by rw [hk]; decide), if_pos hk]
  replace e4 : W4 = ((((w.alloc (.cells #[.int .i64 s.c, .string s.n, .string s.a, .string s.p] 88)).alloc (.cells #[.int .i64 x.f0, .int .i64 x.f1, .string x.f2, .string x.f3, .bool x.f4, .bool x.f5, .slice A6 x.f6.length c6, .slice A7 x.f7.length c7] 78)).alloc (.cells #[.int .i64 0, .string ⟨#[]⟩, .string ⟨#[]⟩, .string ⟨#[]⟩] 88)).alloc (.cells #[.int .i64 0, .string ⟨#[]⟩, .string ⟨#[]⟩, .string ⟨#[]⟩] 88)) := e4
  rw [hk] at e4 ⊢
  generalize hn6 : x.f6.length = n6 at *
  generalize hn7 : x.f7.length = n7 at *
  replace hA := Aside0.mk hA
  replace hF := Aside0.mk hF
  have hlt := hF.out.lt
  obtain ⟨⟨c0, c1, c2⟩, k0, k1, k2⟩ := hA.out.st.cells
  obtain ⟨s0, s1, s2, s3, n0, n1, n2, n3, n4, n5, n6', n7', r0, r1, r2, r3, f0, f1, f2, f3, z0, z1, z2, z3⟩ := hF.out.cells
  rw [hk] at n0
  have lt0 : w.heap.size < W4.heap.size := by omega
  have lt1 : w.heap.size + 1 < W4.heap.size := by omega
  have lt2 : w.heap.size + 1 + 1 < W4.heap.size := by omega
  have ltg : g < W4.heap.size := by omega
  rw [hzE]
  generalize iL x.f6 ⟨0, ⟨#[]⟩, ⟨#[]⟩, ⟨#[]⟩⟩ st = R at *
  obtain ⟨rs, rt⟩ := R
  dsimp only at hcl ⊢
  go_enter Tryd.func60, Tryd.ntmps60
  go_upto_region 2 with fail
  rw [← e4]
  clear e4
  go_wp2
  go_region_held3 (fun w' => w'.cell? ⟨w.heap.size, 0, none⟩ = some (.int .i64 s.c) ∧ w'.cell? ⟨w.heap.size, 1, none⟩ = some (.string s.n) ∧ w'.cell? ⟨w.heap.size, 2, none⟩ = some (.string s.a) ∧ w'.cell? ⟨w.heap.size, 3, none⟩ = some (.string s.p) ∧ w'.cell? ⟨w.heap.size + 1, 0, none⟩ = some (.int .i64 6) ∧ w'.cell? ⟨w.heap.size + 1, 1, none⟩ = some (.int .i64 x.f1) ∧ w'.cell? ⟨w.heap.size + 1, 2, none⟩ = some (.string x.f2) ∧ w'.cell? ⟨w.heap.size + 1, 3, none⟩ = some (.string x.f3) ∧ w'.cell? ⟨w.heap.size + 1, 4, none⟩ = some (.bool x.f4) ∧ w'.cell? ⟨w.heap.size + 1, 5, none⟩ = some (.bool x.f5) ∧ w'.cell? ⟨w.heap.size + 1, 6, none⟩ = some (.slice A6 n6 c6) ∧ w'.cell? ⟨w.heap.size + 1, 7, none⟩ = some (.slice A7 n7 c7) ∧ w'.cell? ⟨w.heap.size + 1 + 1 + 1, 0, none⟩ = some (.int .i64 0) ∧ w'.cell? ⟨w.heap.size + 1 + 1 + 1, 1, none⟩ = some (.string ⟨#[]⟩) ∧ w'.cell? ⟨w.heap.size + 1 + 1 + 1, 2, none⟩ = some (.string ⟨#[]⟩) ∧ w'.cell? ⟨w.heap.size + 1 + 1 + 1, 3, none⟩ = some (.string ⟨#[]⟩)) (exact ⟨s0, s1, s2, s3, n0, n1, n2, n3, n4, n5, n6', n7', z0, z1, z2, z3⟩) (first | (go_at_call 38; (with_reducible refine (hcl.out _ hA.out.st.drew).mono ?_); rintro e w3 ⟨rfl, v1, h3⟩; have hF3 := Aside0.mk (hF.out.drew.out h3 hA.out.st.drew hgw); have hB3 := Aside0.mk (hA.out.drew.call h3); clear h3; clear s0 s1 s2 s3 n0 n1 n2 n3 n4 n5 n6' n7' r0 r1 r2 r3 f0 f1 f2 f3 z0 z1 z2 z3 c0 c1 c2 k0 k1 k2; obtain ⟨⟨c0, c1, c2⟩, k0, k1, k2⟩ := hB3.out.st.cells; obtain ⟨s0, s1, s2, s3, n0, n1, n2, n3, n4, n5, n6', n7', r0, r1, r2, r3, f0, f1, f2, f3, z0, z1, z2, z3⟩ := hF3.out.cells; rw [hk] at n0) | (go_at_call 39; (with_reducible refine (expect_any 6 x.f1 x.f2 x.f3 x.f4 x.f5 _ _ rs ⟨0, ⟨#[]⟩, ⟨#[]⟩, ⟨#[]⟩⟩ 16 _ hB3.out.st).mono ?_); rintro e w4 ⟨rfl, h4⟩; have hF4 := Aside0.mk (hF3.out.out h4 hB3.out.st hgw); have hB4 := Aside0.mk (hB3.out.call h4); clear h4; clear s0 s1 s2 s3 n0 n1 n2 n3 n4 n5 n6' n7' r0 r1 r2 r3 f0 f1 f2 f3 z0 z1 z2 z3 c0 c1 c2 k0 k1 k2; obtain ⟨⟨c0, c1, c2⟩, k0, k1, k2⟩ := hB4.out.st.cells; obtain ⟨s0, s1, s2, s3, n0, n1, n2, n3, n4, n5, n6', n7', r0, r1, r2, r3, f0, f1, f2, f3, z0, z1, z2, z3⟩ := hF4.out.cells; rw [hk] at n0))
  go_wp2
  exact ret88 rfl rfl rfl rfl (blk_put4 hF4.out.b2 rfl _ _ _ _) ⟨rfl, _, hB4.out.set4 hF4.out.b2 (by omega) (by omega) hw0 _ _ _ _⟩
set_option maxHeartbeats 4000000 in
set_option maxRecDepth 100000 in
theorem iNode.ifs (x : S78) (hk : x.f0 = 2) (hL : iList.Con x.f6) (hM : iList.Con x.f7) : iNode.Con x := by
  intro w0 g v st s A6 A7 c6 c7 w hS hC6 hc6 hC7 hc7 hs hx hl
  obtain ⟨W4, e4, hA, hF, hgw, hw0⟩ := node_begin hS s x (.slice A6 x.f6.length c6) (.slice A7 x.f7.length c7)
  have hm : smL x.f6 ∧ smL x.f7 := by cases x; simp only [smN] at hx; exact hx.2
  have hl6 : st.1.length + nL x.f6 + nL x.f7 ≤ 1000000 := by rw [nN_eq] at hl; omega
  have hcl := Aside0.mk (fun W (h : AIn w0 g v st W) => hL w0 g v st s A6 c6 W h hC6 hc6 hs hm.1 (by omega))
  have hg2 := iL_gd x.f6 st hs
  have hle2 := iL_len x.f6 s st
  have hdl := Aside0.mk (fun W v1 (h : AIn w0 g v1 (iL x.f6 s st).2 W) => hM w0 g v1 (iL x.f6 s st).2 s A7 c7 W h hC7 hc7 hs hm.2 (by omega))
  clear hL hM hC6 hC7 hc6 hc7 hx hl hm hl6 hle2 hg2
  clear hS
  rw [iN_at, if_neg (by rw [hk]; decide), if_neg (by rw [hk]; decide), if_neg (by rw [hk]; decide), if_pos hk]
  replace e4 : W4 = ((((w.alloc (.cells #[.int .i64 s.c, .string s.n, .string s.a, .string s.p] 88)).alloc (.cells #[.int .i64 x.f0, .int .i64 x.f1, .string x.f2, .string x.f3, .bool x.f4, .bool x.f5, .slice A6 x.f6.length c6, .slice A7 x.f7.length c7] 78)).alloc (.cells #[.int .i64 0, .string ⟨#[]⟩, .string ⟨#[]⟩, .string ⟨#[]⟩] 88)).alloc (.cells #[.int .i64 0, .string ⟨#[]⟩, .string ⟨#[]⟩, .string ⟨#[]⟩] 88)) := e4
  rw [hk] at e4 ⊢
  generalize hn6 : x.f6.length = n6 at *
  generalize hn7 : x.f7.length = n7 at *
  replace hA := Aside0.mk hA
  replace hF := Aside0.mk hF
  have hlt := hF.out.lt
  obtain ⟨⟨c0, c1, c2⟩, k0, k1, k2⟩ := hA.out.st.cells
  obtain ⟨s0, s1, s2, s3, n0, n1, n2, n3, n4, n5, n6', n7', r0, r1, r2, r3, f0, f1, f2, f3, z0, z1, z2, z3⟩ := hF.out.cells
  rw [hk] at n0
  have lt0 : w.heap.size < W4.heap.size := by omega
  have lt1 : w.heap.size + 1 < W4.heap.size := by omega
  have lt2 : w.heap.size + 1 + 1 < W4.heap.size := by omega
  have ltg : g < W4.heap.size := by omega
  generalize iL x.f6 s st = R at *
  obtain ⟨rs, rt⟩ := R
  dsimp only at hcl hdl ⊢
  generalize iL x.f7 s rt = Q at *
  obtain ⟨qs, qt⟩ := Q
  dsimp only at hdl ⊢
  go_enter Tryd.func60, Tryd.ntmps60
  go_upto_region 2 with fail
  rw [← e4]
  clear e4
  go_wp2_with (go_at_call 38; (with_reducible refine (hcl.out _ hA.out.st).mono ?_); rintro e w3 ⟨rfl, v1, h3⟩; have hF3 := Aside0.mk (hF.out.out h3 hA.out.st hgw); have hB3 := Aside0.mk (hA.out.call h3); clear h3; clear s0 s1 s2 s3 n0 n1 n2 n3 n4 n5 n6' n7' r0 r1 r2 r3 f0 f1 f2 f3 z0 z1 z2 z3 c0 c1 c2 k0 k1 k2; obtain ⟨⟨c0, c1, c2⟩, k0, k1, k2⟩ := hB3.out.st.cells; obtain ⟨s0, s1, s2, s3, n0, n1, n2, n3, n4, n5, n6', n7', r0, r1, r2, r3, f0, f1, f2, f3, z0, z1, z2, z3⟩ := hF3.out.cells; have lt5 := hF3.out.lt; have ltg5 := blk_lt hB3.out.st.blk; rw [hk] at n0)
  obtain ⟨W5, e5⟩ : ∃ W5, W5 = w3.alloc (.cells #[.int .i64 rs.c, .string rs.n, .string rs.a, .string rs.p] 88) := ⟨_, rfl⟩
  rw [← e5]
  have hB5 := Aside0.mk (show AOut w0 w g v v1 rt W5 from by rw [e5]; exact hB3.out.alloc _)
  have hF5 := Aside0.mk (show Frm w s x (.slice A6 n6 c6) (.slice A7 n7 c7) W5 from by rw [e5]; exact hF3.out.al _)
  have hX5 := Aside0.mk (show W5.heap[w3.heap.size]? = some (.cells (ag4 rs) 88 (0, 0)) from by rw [e5]; exact blk_new _ _)
  clear e5 hB3 hF3
  have hqg : w3.heap.size ≠ g := by omega
  clear s0 s1 s2 s3 n0 n1 n2 n3 n4 n5 n6' n7' r0 r1 r2 r3 f0 f1 f2 f3 z0 z1 z2 z3 c0 c1 c2 k0 k1 k2
  obtain ⟨⟨c0, c1, c2⟩, k0, k1, k2⟩ := hB5.out.st.cells
  obtain ⟨s0, s1, s2, s3, n0, n1, n2, n3, n4, n5, n6', n7', r0, r1, r2, r3, f0, f1, f2, f3, z0, z1, z2, z3⟩ := hF5.out.cells
  rw [hk] at n0
  have x0 : W5.cell? ⟨w3.heap.size, 0, none⟩ = some (.int .i64 rs.c) := blk_cell hX5.out 0
  have x1 : W5.cell? ⟨w3.heap.size, 1, none⟩ = some (.string rs.n) := blk_cell hX5.out 1
  have x2 : W5.cell? ⟨w3.heap.size, 2, none⟩ = some (.string rs.a) := blk_cell hX5.out 2
  have x3 : W5.cell? ⟨w3.heap.size, 3, none⟩ = some (.string rs.p) := blk_cell hX5.out 3
  go_region_held3 (fun w' => w'.cell? ⟨w.heap.size, 0, none⟩ = some (.int .i64 s.c) ∧ w'.cell? ⟨w.heap.size, 1, none⟩ = some (.string s.n) ∧ w'.cell? ⟨w.heap.size, 2, none⟩ = some (.string s.a) ∧ w'.cell? ⟨w.heap.size, 3, none⟩ = some (.string s.p) ∧ w'.cell? ⟨w.heap.size + 1, 0, none⟩ = some (.int .i64 2) ∧ w'.cell? ⟨w.heap.size + 1, 1, none⟩ = some (.int .i64 x.f1) ∧ w'.cell? ⟨w.heap.size + 1, 2, none⟩ = some (.string x.f2) ∧ w'.cell? ⟨w.heap.size + 1, 3, none⟩ = some (.string x.f3) ∧ w'.cell? ⟨w.heap.size + 1, 4, none⟩ = some (.bool x.f4) ∧ w'.cell? ⟨w.heap.size + 1, 5, none⟩ = some (.bool x.f5) ∧ w'.cell? ⟨w.heap.size + 1, 6, none⟩ = some (.slice A6 n6 c6) ∧ w'.cell? ⟨w.heap.size + 1, 7, none⟩ = some (.slice A7 n7 c7) ∧ w'.cell? ⟨w3.heap.size, 0, none⟩ = some (.int .i64 rs.c) ∧ w'.cell? ⟨w3.heap.size, 1, none⟩ = some (.string rs.n) ∧ w'.cell? ⟨w3.heap.size, 2, none⟩ = some (.string rs.a) ∧ w'.cell? ⟨w3.heap.size, 3, none⟩ = some (.string rs.p)) (exact ⟨s0, s1, s2, s3, n0, n1, n2, n3, n4, n5, n6', n7', x0, x1, x2, x3⟩) (first | (go_at_call 38; (with_reducible refine (hdl.out _ v1 hB5.out.st.drew).mono ?_); rintro e w6 ⟨rfl, v2, h6⟩; have hF6 := Aside0.mk (hF5.out.drew.out h6 hB5.out.st.drew hgw); have hB6 := Aside0.mk (hB5.out.drew.call h6); have hX6 := Aside0.mk (h6.box hB5.out.st.drew hX5.out (by decide) hqg); clear h6 x0 x1 x2 x3; clear s0 s1 s2 s3 n0 n1 n2 n3 n4 n5 n6' n7' r0 r1 r2 r3 f0 f1 f2 f3 z0 z1 z2 z3 c0 c1 c2 k0 k1 k2; obtain ⟨⟨c0, c1, c2⟩, k0, k1, k2⟩ := hB6.out.st.cells; obtain ⟨s0, s1, s2, s3, n0, n1, n2, n3, n4, n5, n6', n7', r0, r1, r2, r3, f0, f1, f2, f3, z0, z1, z2, z3⟩ := hF6.out.cells; rw [hk] at n0; have x0 : w6.cell? ⟨w3.heap.size, 0, none⟩ = some (.int .i64 rs.c) := blk_cell hX6.out 0; have x1 : w6.cell? ⟨w3.heap.size, 1, none⟩ = some (.string rs.n) := blk_cell hX6.out 1; have x2 : w6.cell? ⟨w3.heap.size, 2, none⟩ = some (.string rs.a) := blk_cell hX6.out 2; have x3 : w6.cell? ⟨w3.heap.size, 3, none⟩ = some (.string rs.p) := blk_cell hX6.out 3) | (go_at_call 39; (with_reducible refine (expect_any 2 x.f1 x.f2 x.f3 x.f4 x.f5 _ _ qs rs 16 _ hB6.out.st).mono ?_); rintro e w7 ⟨rfl, h7⟩; have hF7 := Aside0.mk (hF6.out.out h7 hB6.out.st hgw); have hB7 := Aside0.mk (hB6.out.call h7); have hX7 := Aside0.mk (h7.box hB6.out.st hX6.out (by decide) hqg); clear h7 x0 x1 x2 x3; clear s0 s1 s2 s3 n0 n1 n2 n3 n4 n5 n6' n7' r0 r1 r2 r3 f0 f1 f2 f3 z0 z1 z2 z3 c0 c1 c2 k0 k1 k2; obtain ⟨⟨c0, c1, c2⟩, k0, k1, k2⟩ := hB7.out.st.cells; obtain ⟨s0, s1, s2, s3, n0, n1, n2, n3, n4, n5, n6', n7', r0, r1, r2, r3, f0, f1, f2, f3, z0, z1, z2, z3⟩ := hF7.out.cells; rw [hk] at n0; have x0 : w7.cell? ⟨w3.heap.size, 0, none⟩ = some (.int .i64 rs.c) := blk_cell hX7.out 0; have x1 : w7.cell? ⟨w3.heap.size, 1, none⟩ = some (.string rs.n) := blk_cell hX7.out 1; have x2 : w7.cell? ⟨w3.heap.size, 2, none⟩ = some (.string rs.a) := blk_cell hX7.out 2; have x3 : w7.cell? ⟨w3.heap.size, 3, none⟩ = some (.string rs.p) := blk_cell hX7.out 3))
  go_wp2
  exact ret88 rfl rfl rfl rfl (blk_put4 hF7.out.b2 rfl _ _ _ _) ⟨rfl, _, hB7.out.set4 hF7.out.b2 (by omega) (by omega) hw0 _ _ _ _⟩
end Go.Proofs.YtkpnfejfbmandaaDoor.Px

/- infer: lists of nodes. -/
namespace Go.Proofs.YtkpnfejfbmandaaDoor.Px
open Go.RowKit Go.Proofs.YtkpnfejfbmandaaDoorW.PrintWords Go.Proofs.YtkpnfejfbmandaaDoorW.PrintLast Go.Proofs.YtkpnfejfbmandaaDoorW.PrintMore
set_option linter.unusedVariables false
set_option linter.unusedSimpArgs false
theorem iNode.any (x : S78) (h6 : iList.Con x.f6) (h7 : iList.Con x.f7) : iNode.Con x := by
  by_cases k0 : x.f0 = 0
  · exact iNode.text x k0
  by_cases k1 : x.f0 = 1
  · exact iNode.print x k1
  by_cases k4 : x.f0 = 4
  · exact iNode.call x k4
  by_cases k2 : x.f0 = 2
  · exact iNode.ifs x k2 h6 h7
  by_cases k3 : x.f0 = 3
  · exact iNode.range x k3 h6
  by_cases k6 : x.f0 = 6
  · exact iNode.define x k6 h6
  exact iNode.other x ⟨k0, k1, k4, k2, k3, k6⟩
/-- Where the loop stands. -/
structure ILoop (w0 w : World) (g : Nat) (v : Value) (l : List S78) (R : HS × IS) (i : Nat) (wr : World) (v' : Value) (s : HS) (st : IS) : Prop where
  eq : iL (l.drop i) s st = R
  gd : s.gd
  sm : smL (l.drop i)
  len : st.1.length + nL (l.drop i) ≤ 1000000
  a : AOut w0 w g v v' st wr
  b0 : wr.heap[w.heap.size]? = some (.cells (ag4 s) 88 (0, 0))
  b1 : wr.heap[w.heap.size + 1]? = some (.cells (ag4 hz) 88 (0, 0))
theorem sm_drop : ∀ (l : List S78) (i : Nat), smL l → smL (l.drop i)
  | l, 0, h => h
  | [], i + 1, h => h
  | x :: xs, i + 1, h => sm_drop xs i h.2
set_option maxHeartbeats 4000000 in
set_option maxRecDepth 100000 in
theorem iList.step (l : List S78) (ih : ∀ x ∈ l, iNode.Con x) : iList.Con l := by
  intro w0 g v st s A c w hS hC hc hs hsm hlen
  have hgw := blk_lt hS.blk
  have hw0 := hS.bel.size
  have H0 : ILoop w0 w g v l (iL l s st) 0 ((w.alloc (.cells (ag4 s) 88)).alloc (.cells (ag4 hz) 88)) v s st := ⟨rfl, hs, hsm, hlen, (hS.out.alloc _).alloc _, blk_alloc (blk_new _ _) _, blk_n1 _ _ _⟩
  generalize iL l s st = R at *
  replace ih := Aside0.mk ih
  replace hC := Aside0.mk hC
  replace H0 := Aside0.mk H0
  have hlt : l.length ≤ 1000000 := by have := nL_len l; omega
  clear hS hs hsm hlen
  go_enter Tryd.func38, Tryd.ntmps38
  go_wp2
  go_loopg [11] l.length (fun kq v11 wr => ∃ (i : Nat) (v' : Value) (s1 : HS) (st1 : IS), kq + i = l.length ∧ v11 = .int .i64 i ∧ ILoop w0 w g v l R i wr v' s1 st1)
  case atStart => exact ⟨0, v, s, st, rfl, rfl, H0.out⟩
  case round =>
    clear H0
    obtain ⟨i, v1, sx, tx, hki, rfl, HR⟩ := hrel
    have hrs := HR.a.keep.1
    have hltr := blk_lt HR.b1
    have hlt0 : w.heap.size < wr.heap.size := by omega
    have hgr := blk_lt HR.a.st.blk
    have hng : w.heap.size ≠ g := by omega
    have hng1 : w.heap.size + 1 ≠ g := by omega
    obtain ⟨⟨c0, c1, c2⟩, k0, k1, k2⟩ := HR.a.st.cells
    have s0 : wr.cell? ⟨w.heap.size, 0, none⟩ = some (.int .i64 sx.c) := blk_cell HR.b0 0
    have s1 : wr.cell? ⟨w.heap.size, 1, none⟩ = some (.string sx.n) := blk_cell HR.b0 1
    have s2 : wr.cell? ⟨w.heap.size, 2, none⟩ = some (.string sx.a) := blk_cell HR.b0 2
    have s3 : wr.cell? ⟨w.heap.size, 3, none⟩ = some (.string sx.p) := blk_cell HR.b0 3
    have p0 := blk_frozen HR.b0 0
    have p1 := blk_frozen HR.b0 1
    have p2 := blk_frozen HR.b0 2
    have p3 := blk_frozen HR.b0 3
    have r0 : wr.cell? ⟨w.heap.size + 1, 0, none⟩ = some (.int .i64 0) := blk_cell HR.b1 0
    have r1 : wr.cell? ⟨w.heap.size + 1, 1, none⟩ = some (.string ⟨#[]⟩) := blk_cell HR.b1 1
    have r2 : wr.cell? ⟨w.heap.size + 1, 2, none⟩ = some (.string ⟨#[]⟩) := blk_cell HR.b1 2
    have r3 : wr.cell? ⟨w.heap.size + 1, 3, none⟩ = some (.string ⟨#[]⟩) := blk_cell HR.b1 3
    have f0 := blk_frozen HR.b1 0
    have f1 := blk_frozen HR.b1 1
    have f2 := blk_frozen HR.b1 2
    have f3 := blk_frozen HR.b1 3
    replace HR := Aside0.mk HR
    by_cases hlt2 : i < l.length
    · have hl : decide ((i : Int) < (l.length : Int)) = true := decide_eq_true (by omega)
      have hd : l.drop i = l[i] :: l.drop (i + 1) := List.drop_eq_getElem_cons hlt2
      obtain ⟨ad, A6, c6, A7, c7, hA, x0, x1, x2, x3, x4, x5, x6, x7, l6, g6, l7, g7⟩ := at_T78 hC.out (i : Int) (by omega) (by omega)
      have hrd : rd_T78 l (i : Int) = l[i] := by unfold rd_T78; simp [List.getD, hlt2]
      simp only [Int.toNat_natCast] at x0 x1 x2 x3 x4 x5 x6 x7
      rw [hrd] at x0 x1 x2 x3 x4 x5 x6 x7 l6 g6 l7 g7
      have hin := List.getElem_mem hlt2
      generalize l[i] = x at *
      subst hA
      have up : ∀ {a : Addr} {u : Value}, w0.cell? a = some u → wr.cell? a = some u := fun h => (HR.out.a.st.bel.cell (World.block_lt_of_cell? _ _ h)).trans h
      have hab := World.block_lt_of_cell? _ _ (up x0)
      replace x0 := up x0
      replace x1 := up x1
      replace x2 := up x2
      replace x3 := up x3
      replace x4 := up x4
      replace x5 := up x5
      replace x6 := up x6
      replace x7 := up x7
      replace g6 := Aside0.mk g6
      replace g7 := Aside0.mk g7
      replace hd := Aside0.mk hd
      clear up hrd
      by_cases he : tx.2.2 = 0
      · have he' : (tx.2.2 != 0) = false := by simp [he]
        replace he := Aside0.mk he
        have HE := HR.out.eq
        have HS := HR.out.sm
        have HL := HR.out.len
        rw [hd.out] at HE HS HL
        rw [iL, if_pos he.out] at HE
        rw [nL_cons] at HL
        have hlx := iN_len x sx tx
        have hgx := iN_gd x tx HR.out.gd
        replace HE := Aside0.mk HE
        replace HS := Aside0.mk HS
        generalize hY : iN x sx tx = Y at *
        obtain ⟨sy, ty⟩ := Y
        dsimp only at HE hlx hgx
        replace hY := Aside0.mk hY
        have hcall := Aside0.mk (fun W h => ih.out x hin w0 g v1 tx sx A6 A7 c6 c7 W h g6.out l6 g7.out l7 HR.out.gd HS.out.1 (by omega))
        rw [hY.out] at hcall
        replace hgx := Aside0.mk hgx
        clear ih hC g6 g7
        go_wp2_with (go_at_call 60; refine (hcall.out _ (HR.out.a.st.alloc _)).mono ?_; rintro e w3 ⟨rfl, v2, h3⟩; have hB3 := Aside0.mk ((HR.out.a.alloc _).call h3); have hb0 := Aside0.mk (h3.box (HR.out.a.st.alloc _) (blk_alloc HR.out.b0 _) (by decide) hng); have hb1 := Aside0.mk (h3.box (HR.out.a.st.alloc _) (blk_alloc HR.out.b1 _) (by decide) hng1); clear h3 s0 s1 s2 s3 p0 p1 p2 p3 r0 r1 r2 r3 f0 f1 f2 f3 c0 c1 c2 k0 k1 k2; have s0 : w3.cell? ⟨w.heap.size, 0, none⟩ = some (.int .i64 sx.c) := blk_cell hb0.out 0; have s1 : w3.cell? ⟨w.heap.size, 1, none⟩ = some (.string sx.n) := blk_cell hb0.out 1; have s2 : w3.cell? ⟨w.heap.size, 2, none⟩ = some (.string sx.a) := blk_cell hb0.out 2; have s3 : w3.cell? ⟨w.heap.size, 3, none⟩ = some (.string sx.p) := blk_cell hb0.out 3; have p0 := blk_frozen hb0.out 0; have p1 := blk_frozen hb0.out 1; have p2 := blk_frozen hb0.out 2; have p3 := blk_frozen hb0.out 3)
        go_roundg (gk - 1)
        case measure => omega
        case rel =>
          exact ⟨i + 1, v2, sy, ty, by omega, by simp, ⟨HE.out, hgx.out, HS.out.2, by omega, hB3.out.set4 hb0.out hng (Nat.le_refl _) hw0 _ _ _ _, blk_put4 hb0.out rfl _ _ _ _, (far4 (by omega) _ _ _ _).trans hb1.out⟩⟩
      · have he' : (tx.2.2 != 0) = true := by simp [he]
        have HE := HR.out.eq
        rw [hd.out, iL, if_neg he] at HE
        subst HE
        replace he := Aside0.mk he
        clear ih hC g6 g7 hd
        go_wp2
        exact ret88 rfl rfl rfl rfl (blk_alloc (blk_put4 HR.out.b1 rfl _ _ _ _) _) ⟨rfl, v1, (HR.out.a.set4 HR.out.b1 hng1 (Nat.le_succ _) hw0 _ _ _ _).alloc _⟩
    · have hl : decide ((i : Int) < (l.length : Int)) = false := decide_eq_false (by omega)
      have HE := HR.out.eq
      rw [List.drop_eq_nil_of_le (by omega), iL] at HE
      subst HE
      clear ih hC
      go_wp2
      exact ret88 rfl rfl rfl rfl (blk_put4 HR.out.b1 rfl _ _ _ _) ⟨rfl, v1, HR.out.a.set4 HR.out.b1 hng1 (Nat.le_succ _) hw0 _ _ _ _⟩
theorem infer_all : ∀ (n : Nat), (∀ l : List S78, SizeOf.sizeOf l < n → iList.Con l) := by
  intro n
  induction n with
  | zero => intro l h; exact absurd h (Nat.not_lt_zero _)
  | succ n ih =>
    intro l h
    refine iList.step l fun x hx => ?_
    have h1 := List.sizeOf_lt_of_mem hx
    have h2 : SizeOf.sizeOf x.f6 < SizeOf.sizeOf x ∧ SizeOf.sizeOf x.f7 < SizeOf.sizeOf x := by cases x; simp; omega
    exact iNode.any x (ih _ (by omega)) (ih _ (by omega))
theorem infer_list (l : List S78) : iList.Con l := infer_all _ l (Nat.lt_succ_self _)
end Go.Proofs.YtkpnfejfbmandaaDoor.Px
