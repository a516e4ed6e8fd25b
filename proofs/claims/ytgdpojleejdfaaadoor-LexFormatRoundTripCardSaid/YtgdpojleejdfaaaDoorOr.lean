/- The canonical source of tokens has these tokens. -/
import Derived.Test.YtgdpojleejdfaaaDoorOf
import Derived.Test.YtgdpojleejdfaaaDoorLs
import Derived.Test.YtgdpojleejdfaaaDoorLc
namespace Go.Proofs.YtgdpojleejdfaaaDoor.Px
open Go.RowKit Go.Proofs.YtgdpojleejdfaaaDoorW.PrintWords Go.Proofs.YtgdpojleejdfaaaDoorW.PrintLast Go.Proofs.YtgdpojleejdfaaaDoorW.PrintMore
set_option linter.unusedVariables false
set_option linter.unusedSimpArgs false

/-- The keyword of a kind; the canonical words of a directive; a token's canonical source. -/
def kwL (k : Int) : List (List UInt8) := match (kwList.find? (fun p => p.2 == k)).map (·.1) with | none => [] | some s => [s]
def wordsOf (d : T4) : List (List UInt8) := kwL d.1 ++ ((if d.2.1 = [] then [] else [d.2.1]) ++ (if d.2.2.2 = true then [46 :: d.2.2.1] else []))
def fmtD (d : T4) : List UInt8 := if d.1 = 0 then d.2.1 else 123 :: 123 :: (Lib.join (wordsOf d) [32] ++ [125, 125])
theorem kwL_of {w : List UInt8} {k : Int} (h : kwKind w = some k) : kwL k = [w] := by
  have h := kwKind_mem h
  simp only [kwList, List.mem_cons, Prod.mk.injEq, List.not_mem_nil, or_false] at h
  rcases h with ⟨rfl, rfl⟩ | ⟨rfl, rfl⟩ | ⟨rfl, rfl⟩ | ⟨rfl, rfl⟩ | ⟨rfl, rfl⟩ | ⟨rfl, rfl⟩ | ⟨rfl, rfl⟩ <;> rfl
theorem kwL_no (k : Int) : ∀ w ∈ kwL k, (125 : UInt8) ∉ w := by
  intro w hw
  unfold kwL at hw
  cases h : kwList.find? (fun p => p.2 == k) with
  | none => rw [h] at hw; cases hw
  | some p =>
    rw [h] at hw
    have hm := List.mem_of_find?_eq_some h
    simp only [Option.map_some, List.mem_singleton] at hw
    rw [hw]
    simp only [kwList, List.mem_cons, List.not_mem_nil, or_false] at hm
    rcases hm with rfl | rfl | rfl | rfl | rfl | rfl | rfl <;> decide
theorem dirP_words {k : Int} {s : List UInt8} {ws : List (List UInt8)} {t : T4} (e : dirP k s ws = (0, t)) (hs : s = [] ↔ named k = false) (w : List (List UInt8)) (hw : kwL k = w) :
    w ++ ((if s = [] then [] else [s]) ++ ws) = wordsOf t ∧ t.1 = k ∧ t.2.1 = s ∧ pathL t.2.2.1 = true := by
  obtain ⟨h1, h2, h3, h4, h5, h6, h7, h8, h9⟩ := dirP_ok e
  refine ⟨?_, h1, h2, h3⟩
  unfold wordsOf
  rw [h1, h2, hw]
  congr 2
  cases hb : t.2.2.2 with
  | false => rw [if_neg (by decide)]; exact (h6 hb).1
  | true => rw [if_pos rfl]; exact h7 hb
theorem nameL_ne {s : List UInt8} (h : nameL s = true) : s ≠ [] := by
  intro e; subst e; simp [nameL] at h
theorem dirK_words {k : Int} {ws : List (List UInt8)} {t : T4} (e : dirK k ws = (0, t)) (w : List (List UInt8)) (hw : kwL k = w) : w ++ ws = wordsOf t ∧ pathL t.2.2.1 = true ∧ (t.2.1 ≠ [] → nameL t.2.1 = true) := by
  unfold dirK at e
  split at e
  · rename_i hn
    match ws, e with
    | [], e => simp at e
    | s :: r, e =>
      try dsimp only at e
      split at e
      · simp at e
      · have hnm := (dirP_ok e).2.2.2.1 hn
        have hs := nameL_ne hnm
        obtain ⟨h1, h2, h3, h4⟩ := dirP_words e ⟨fun h => absurd h hs, fun h => by rw [hn] at h; cases h⟩ w hw
        rw [if_neg hs] at h1
        exact ⟨h1, h4, fun _ => by rw [h3]; exact hnm⟩
  · rename_i hn
    have hn : named k = false := by simpa using hn
    obtain ⟨h1, h2, h3, h4⟩ := dirP_words e ⟨fun _ => hn, fun _ => rfl⟩ w hw
    rw [if_pos rfl] at h1
    exact ⟨h1, h4, fun h => absurd h3 h⟩
/-- The words of a directive are determined by its token. -/
theorem dirF_words {ws : List (List UInt8)} {t : T4} (e : dirF ws = (0, t)) : ws = wordsOf t ∧ pathL t.2.2.1 = true ∧ (t.2.1 ≠ [] → nameL t.2.1 = true) := by
  unfold dirF at e
  match ws, e with
  | [], e => simp at e
  | w :: r, e =>
    try dsimp only at e
    split at e
    · rename_i k hk
      exact dirK_words e [w] (kwL_of hk)
    · split at e
      · exact dirK_words e [] rfl
      · simp at e
theorem nmGo_safe : ∀ {b : Bool} {s : List UInt8}, nmGo b s = true → ∀ x ∈ s, x ≠ 125
  | b, y :: s, h, x, hx => by
    simp only [nmGo, Bool.and_eq_true, Bool.or_eq_true] at h
    rcases List.mem_cons.1 hx with rfl | hx
    · intro e
      subst e
      revert h
      cases b <;> simp [letB, digB] <;> decide
    · exact nmGo_safe h.2 x hx
theorem nameL_safe {s : List UInt8} (h : nameL s = true) : ∀ x ∈ s, x ≠ 125 := by
  unfold nameL at h
  simp only [Bool.and_eq_true] at h
  exact nmGo_safe h.2.2
theorem dotG_mem : ∀ (s cur : List UInt8) (x : UInt8), x ∈ s → x = 46 ∨ ∃ w ∈ dotG s cur, x ∈ w
  | b :: s, cur, x, hx => by
    rw [dotG]
    split
    · rename_i hb
      rcases List.mem_cons.1 hx with rfl | hx
      · exact .inl hb
      · rcases dotG_mem s [] x hx with h | ⟨w, hw, hm⟩
        · exact .inl h
        · exact .inr ⟨w, by simp [hw], hm⟩
    · rcases List.mem_cons.1 hx with rfl | hx
      · exact .inr (dotG_cur s _ x (by simp))
      · exact dotG_mem s _ x hx
where
  dotG_cur : ∀ (s cur : List UInt8) (x : UInt8), x ∈ cur → ∃ w ∈ dotG s cur, x ∈ w
    | [], cur, x, hx => ⟨cur, by simp [dotG], hx⟩
    | b :: s, cur, x, hx => by
      rw [dotG]
      split
      · exact ⟨cur, by simp, hx⟩
      · exact dotG_cur s _ x (by simp [hx])
theorem pathL_safe {s : List UInt8} (h : pathL s = true) : ∀ x ∈ s, x ≠ 125 := by
  intro x hx
  unfold pathL at h
  have hne : s.isEmpty = false := by cases s with | nil => cases hx | cons _ _ => rfl
  rw [hne, Bool.false_or, Bool.and_eq_true, split_dot _ _ (Nat.le_refl _)] at h
  rcases dotG_mem s [] x hx with rfl | ⟨w, hw, hm⟩
  · decide
  · exact nameL_safe (List.all_eq_true.1 h.2 w hw) x hm
theorem wordsOf_no {t : T4} (hp : pathL t.2.2.1 = true) (hn : t.2.1 ≠ [] → nameL t.2.1 = true) : ∀ w ∈ wordsOf t, (125 : UInt8) ∉ w := by
  intro w hw
  unfold wordsOf at hw
  rw [List.mem_append, List.mem_append] at hw
  rcases hw with hw | hw | hw
  · exact kwL_no _ w hw
  · split at hw
    · cases hw
    · rename_i h
      rw [List.mem_singleton.1 hw]
      exact fun hm => nameL_safe (hn h) _ hm rfl
  · split at hw
    · rw [List.mem_singleton.1 hw]
      intro hm
      rcases List.mem_cons.1 hm with h | hm
      · exact absurd h (by decide)
      · exact pathL_safe hp _ hm rfl
    · cases hw
/-! Words and spaces. -/
theorem join_cons2L (x y : List UInt8) (r : List (List UInt8)) : Lib.join (x :: y :: r) [32] = x ++ 32 :: Lib.join (y :: r) [32] := by simp [Lib.join, List.intercalate, List.intersperse]
theorem fields_join : ∀ (ws : List (List UInt8)), (∀ w ∈ ws, w ≠ [] ∧ ∀ b ∈ w, b ≠ 32) → fieldsG (Lib.join ws [32]) [] = ws
  | [], _ => by rw [Lib.join_nil]; rfl
  | [w], h => by
    obtain ⟨h1, h2⟩ := h w (by simp)
    rw [Lib.join_one]
    have := fieldsG_skip w [] [] h2
    rw [List.append_nil, List.nil_append] at this
    rw [this]
    simp [fieldsG, wordCons, h1]
  | w :: v :: r, h => by
    obtain ⟨h1, h2⟩ := h w (by simp)
    rw [join_cons2L, fieldsG_skip w _ [] h2, List.nil_append, fieldsG, if_pos rfl, fields_join (v :: r) (fun x hx => h x (by simp at hx ⊢; exact .inr hx))]
    simp [wordCons, h1]
theorem fieldsG_safe : ∀ (u cur : List UInt8), (∀ b ∈ cur, b ≠ 32) → ∀ w ∈ fieldsG u cur, w ≠ [] ∧ ∀ b ∈ w, b ≠ 32
  | [], cur, hc, w, hw => by
    unfold fieldsG wordCons at hw
    split at hw
    · cases hw
    · rename_i h; rw [List.mem_singleton.1 hw]; exact ⟨h, hc⟩
  | b :: u, cur, hc, w, hw => by
    rw [fieldsG] at hw
    split at hw
    · unfold wordCons at hw
      split at hw
      · exact fieldsG_safe u [] (by simp) w hw
      · rename_i h
        rcases List.mem_cons.1 hw with rfl | hw
        · exact ⟨h, hc⟩
        · exact fieldsG_safe u [] (by simp) w hw
    · rename_i hb
      exact fieldsG_safe u _ (fun x hx => by
        rcases List.mem_append.1 hx with hx | hx
        · exact hc x hx
        · rw [List.mem_singleton.1 hx]; exact hb) w hw
theorem fieldsG_len : ∀ (u cur : List UInt8), (Lib.join (fieldsG u cur) [32]).length ≤ u.length + cur.length
  | [], cur => by
    unfold fieldsG wordCons
    split
    · simp [Lib.join_nil]
    · rw [Lib.join_one]; simp
  | b :: u, cur => by
    rw [fieldsG]
    split
    · unfold wordCons
      have ih := fieldsG_len u []
      split
      · simp at ih ⊢; omega
      · cases h : fieldsG u [] with
        | nil => rw [Lib.join_one]; simp
        | cons y r => rw [join_cons2L, ← h]; simp at ih ⊢; omega
    · have ih := fieldsG_len u (cur ++ [b])
      simp at ih ⊢; omega
theorem noPair_notmem {c : UInt8} : ∀ {u : List UInt8}, c ∉ u → noPair c (u ++ [c])
  | [], _ => trivial
  | [a], h => ⟨fun e => h (by rw [e.1]; simp), trivial⟩
  | a :: b :: u, h => ⟨fun e => h (by rw [e.1]; simp), noPair_notmem (u := b :: u) (fun e => h (by simp at e ⊢; exact .inr e))⟩
theorem join_no {c : UInt8} (hc : c ≠ 32) : ∀ (ws : List (List UInt8)), (∀ w ∈ ws, c ∉ w) → c ∉ Lib.join ws [32]
  | [], _ => by rw [Lib.join_nil]; simp
  | [w], h => by rw [Lib.join_one]; exact h w (by simp)
  | w :: v :: r, h => by
    rw [join_cons2L, List.mem_append, List.mem_cons]
    rintro (hm | hm | hm)
    · exact h w (by simp) hm
    · exact hc hm
    · exact join_no hc (v :: r) (fun x hx => h x (by simp at hx ⊢; exact .inr hx)) hm

/-! Canonical tokens. -/
structure DOk (d : T4) : Prop where
  ne : d.1 ≠ 0
  dir : dirF (fieldsG (Lib.join (wordsOf d) [32]) []) = (0, d)
  no : noPair 125 (Lib.join (wordsOf d) [32] ++ [125])
theorem dOk_of {u : List UInt8} {d : T4} (h : dirF (fieldsG u []) = (0, d)) : DOk d ∧ (Lib.join (wordsOf d) [32]).length ≤ u.length := by
  obtain ⟨h1, h2, h3⟩ := dirF_words h
  have hs := fieldsG_safe u [] (by simp)
  rw [h1] at hs
  refine ⟨⟨by have := dirF_kind h; omega, ?_, noPair_notmem (join_no (by decide) _ (wordsOf_no h2 h3))⟩, ?_⟩
  · rw [fields_join _ hs, ← h1]; exact h
  · have := fieldsG_len u []
    rw [h1] at this
    simpa using this
def CanT : List T5 → Prop
  | [] => True
  | x :: xs => (if x.2.1 = 0 then x.2 = (0, x.2.2.1, [], false) ∧ x.2.2.1 ≠ [] ∧ noPair 123 x.2.2.1 ∧ (xs = [] ∨ (∃ y ys, xs = y :: ys ∧ y.2.1 ≠ 0 ∧ noPair 123 (x.2.2.1 ++ [123]))) else DOk x.2) ∧ CanT xs
def fmtAll (l : List T5) : List UInt8 := l.flatMap fun x => fmtD x.2
theorem noPair_init {c : UInt8} : ∀ {t : List UInt8}, noPair c (t ++ [c]) → noPair c t
  | [], _ => trivial
  | [a], _ => trivial
  | a :: b :: t, h => ⟨h.1, noPair_init (t := b :: t) h.2⟩
theorem lexS_canT : ∀ (n p : Nat) (s : List UInt8) (l : List T5), s.length ≤ n → lexS p s = .ok l → CanT l ∧ (fmtAll l).length ≤ s.length
  | n, p, s, l, hn, e => by
    cases way s with
    | text _ h =>
      rw [lexS_text h] at e
      cases e
      unfold txtT
      split
      · exact ⟨trivial, by simp [fmtAll]⟩
      · rename_i h0
        exact ⟨⟨by rw [if_pos rfl]; exact ⟨rfl, h0, h, .inl rfl⟩, trivial⟩, by simp [fmtAll, fmtD]⟩
    | open_ t r h hr => rw [lexS_open h hr] at e; cases e
    | dir t u r h hu =>
      obtain ⟨d, l', hd, hl', rfl⟩ := lexS_dirOk h hu e
      cases n with
      | zero => simp at hn
      | succ n =>
        obtain ⟨ih, il⟩ := lexS_canT n _ r l' (by simp at hn; omega) hl'
        obtain ⟨hk, hl⟩ := dOk_of hd
        have hdir : CanT ((p + t.length, d) :: l') := ⟨by rw [if_neg hk.ne]; exact hk, ih⟩
        have hlen : (fmtD d).length ≤ u.length + 4 := by unfold fmtD; rw [if_neg hk.ne]; simp; omega
        unfold txtT
        split
        · rename_i h0
          subst h0
          refine ⟨hdir, ?_⟩
          simp only [fmtAll, List.nil_append, List.flatMap_cons, List.length_append, List.length_cons] at il ⊢
          omega
        · rename_i h0
          refine ⟨⟨by rw [if_pos rfl]; exact ⟨rfl, h0, noPair_init h, .inr ⟨_, _, rfl, hk.ne, h⟩⟩, hdir⟩, ?_⟩
          have e0 : (fmtD (0, t, [], false)).length = t.length := by simp [fmtD]
          simp only [fmtAll, List.cons_append, List.nil_append, List.flatMap_cons, List.length_append, List.length_cons] at il ⊢
          rw [e0]
          omega
def retime : Nat → List T5 → List T5
  | _, [] => []
  | p, x :: xs => (p, x.2) :: retime (p + (fmtD x.2).length) xs
theorem retime_parts : ∀ (p : Nat) (l : List T5), (retime p l).map (·.2) = l.map (·.2)
  | _, [] => rfl
  | p, x :: xs => by simp [retime, retime_parts _ xs]
theorem fmtAll_parts {l m : List T5} (h : l.map (·.2) = m.map (·.2)) : fmtAll l = fmtAll m := by
  have e : ∀ l : List T5, fmtAll l = (l.map (·.2)).flatMap fmtD := fun l => by simp [fmtAll, List.flatMap_map]
  rw [e, e, h]
theorem relex_dir (p : Nat) (t : List UInt8) (x : T5) (xs l' : List T5) (ht : noPair 123 (t ++ [123])) (hk : DOk x.2) (h : lexS (p + t.length + (fmtD x.2).length) (fmtAll xs) = .ok l') : lexS p (t ++ fmtAll (x :: xs)) = .ok (txtT p t ++ (p + t.length, x.2) :: l') := by
  have e : t ++ fmtAll (x :: xs) = t ++ 123 :: 123 :: (Lib.join (wordsOf x.2) [32] ++ 125 :: 125 :: fmtAll xs) := by
    simp only [fmtAll, List.flatMap_cons]
    unfold fmtD
    rw [if_neg hk.ne]
    simp
  have hl : (fmtD x.2).length = (Lib.join (wordsOf x.2) [32]).length + 4 := by unfold fmtD; rw [if_neg hk.ne]; simp
  rw [e, lexS_dir ht hk.no, hk.dir]
  dsimp only
  rw [if_pos rfl, show p + t.length + (Lib.join (wordsOf x.2) [32]).length + 4 = p + t.length + (fmtD x.2).length by omega, h]
theorem relex : ∀ (n : Nat) (l : List T5), l.length ≤ n → CanT l → ∀ p, lexS p (fmtAll l) = .ok (retime p l)
  | _, [], _, _, p => by rw [show fmtAll [] = [] from rfl, lexS_text (s := []) trivial]; rfl
  | 0, x :: xs, h, _, p => by simp at h
  | n + 1, x :: xs, h, hc, p => by
    by_cases hk : x.2.1 = 0
    · have h1 := hc.1
      rw [if_pos hk] at h1
      obtain ⟨ex, hne, hnp, hnx⟩ := h1
      have hf : fmtD x.2 = x.2.2.1 := by unfold fmtD; rw [if_pos hk]
      have ht : txtT p x.2.2.1 = [(p, x.2)] := by
        unfold txtT; rw [if_neg hne]; congr 2; exact ex.symm
      rcases hnx with rfl | ⟨y, ys, rfl, hy, hnp2⟩
      · have e : fmtAll [x] = x.2.2.1 := by simp [fmtAll, hf]
        rw [e, lexS_text hnp, ht]; rfl
      · have hc2 := hc.2
        have hyk := hc2.1
        rw [if_neg hy] at hyk
        have ih := relex n ys (by simp at h; omega) hc2.2 (p + x.2.2.1.length + (fmtD y.2).length)
        have e : fmtAll (x :: y :: ys) = x.2.2.1 ++ fmtAll (y :: ys) := by
          show fmtD x.2 ++ fmtAll (y :: ys) = _
          rw [hf]
        rw [e, relex_dir p x.2.2.1 y ys _ hnp2 hyk ih, ht]
        simp [retime, hf]
    · have h1 := hc.1
      rw [if_neg hk] at h1
      have ih := relex n xs (by simpa using h) hc.2 (p + (fmtD x.2).length)
      have := relex_dir p [] x xs _ trivial h1 (by simpa using ih)
      rw [List.nil_append] at this
      rw [this]
      simp [retime, txtT]
end Go.Proofs.YtgdpojleejdfaaaDoor.Px
