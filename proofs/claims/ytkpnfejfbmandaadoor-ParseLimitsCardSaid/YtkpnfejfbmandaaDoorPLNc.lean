import Derived.Test.YtkpnfejfbmandaaDoorPLNb
import Derived.Test.YtkpnfejfbmandaaDoorPLPx8
/- Plain laws: what Count, Nest, weight and offsets tell of a list of nodes. -/
namespace Go.Proofs.YtkpnfejfbmandaaDoor.Px
open Go.RowKit Go.Proofs.YtkpnfejfbmandaaDoorW.PrintWords Go.Proofs.YtkpnfejfbmandaaDoorW.PrintLast Go.Proofs.YtkpnfejfbmandaaDoorW.PrintMore
set_option linter.unusedVariables false
set_option linter.unusedSimpArgs false
/-- What is under a node, as Count and Nest see it. -/
def kids (x : S78) : List (List S78) := if x.f0 = 2 then [x.f6, x.f7] else if x.f0 = 3 ∨ x.f0 = 6 then [x.f6] else []
mutual
def cntL : List S78 → Nat
  | [] => 0
  | x :: xs => cntN x + cntL xs
def cntN : S78 → Nat
  | ⟨k, _, _, _, _, _, b, l⟩ => 1 + (if k = 2 then cntL b + cntL l else if k = 3 ∨ k = 6 then cntL b else 0)
end
theorem cntN_eq (x : S78) : cntN x = 1 + (if x.f0 = 2 then cntL x.f6 + cntL x.f7 else if x.f0 = 3 ∨ x.f0 = 6 then cntL x.f6 else 0) := by cases x; simp [cntN]
theorem cntL_cons (x : S78) (xs : List S78) : cntL (x :: xs) = cntN x + cntL xs := by simp [cntL]
mutual
def nstL : List S78 → Nat
  | [] => 0
  | x :: xs => max (nstN x) (nstL xs)
def nstN : S78 → Nat
  | ⟨k, _, _, _, _, _, b, l⟩ => if k = 2 then max (1 + nstL b) (1 + nstL l) else if k = 3 ∨ k = 6 then 1 + nstL b else 0
end
theorem nstN_eq (x : S78) : nstN x = if x.f0 = 2 then max (1 + nstL x.f6) (1 + nstL x.f7) else if x.f0 = 3 ∨ x.f0 = 6 then 1 + nstL x.f6 else 0 := by cases x; simp [nstN]
theorem nstL_cons (x : S78) (xs : List S78) : nstL (x :: xs) = max (nstN x) (nstL xs) := by simp [nstL]
theorem branches_is (x : S78) : parse_branches.f x.f0 x.f1 x.f2 x.f3 x.f4 x.f5 x.f6 x.f7 = some (kids x) := by
  unfold parse_branches.f kids
  by_cases h2 : x.f0 = 2
  · rw [if_pos h2, if_pos h2]
  rw [if_neg h2, if_neg h2]
  by_cases h3 : x.f0 = 3
  · rw [if_pos h3, if_pos (.inl h3)]
  rw [if_neg h3]
  by_cases h6 : x.f0 = 6
  · rw [if_pos h6, if_pos (.inr h6)]
  rw [if_neg h6, if_neg (by rintro (h | h); exact h3 h; exact h6 h)]
/-- The nodes of the kids. -/
def cntK (t : List (List S78)) : Nat := (t.map cntL).sum
theorem cntN_kids (x : S78) : cntN x = 1 + cntK (kids x) := by
  rw [cntN_eq]; unfold kids cntK
  by_cases h2 : x.f0 = 2
  · rw [if_pos h2, if_pos h2]; simp
  rw [if_neg h2, if_neg h2]
  by_cases h3 : x.f0 = 3 ∨ x.f0 = 6
  · rw [if_pos h3, if_pos h3]; simp
  · rw [if_neg h3, if_neg h3]; simp
def nstK (t : List (List S78)) : Nat := (t.map fun l => 1 + nstL l).foldr max 0
theorem nstN_kids (x : S78) : nstN x = nstK (kids x) := by
  rw [nstN_eq]; unfold kids nstK
  by_cases h2 : x.f0 = 2
  · rw [if_pos h2, if_pos h2]; simp
  rw [if_neg h2, if_neg h2]
  by_cases h3 : x.f0 = 3 ∨ x.f0 = 6
  · rw [if_pos h3, if_pos h3]; simp
  · rw [if_neg h3, if_neg h3]; simp
mutual
theorem cnt_le : ∀ l : List S78, cntL l ≤ nL l
  | [] => by simp [cntL]
  | x :: xs => by rw [cntL_cons, nL_cons]; have := cntn_le x; have := cnt_le xs; omega
theorem cntn_le : ∀ x : S78, cntN x ≤ nN x
  | ⟨k, a, s, p, h, e, b, l⟩ => by
    have h1 := cnt_le b; have h2 := cnt_le l
    rw [cntN_eq, nN_eq]
    dsimp only
    split
    · omega
    · split <;> omega
end
mutual
theorem nst_le : ∀ l : List S78, nstL l ≤ nL l
  | [] => by simp [nstL]
  | x :: xs => by rw [nstL_cons, nL_cons]; have := nstn_le x; have := nst_le xs; omega
theorem nstn_le : ∀ x : S78, nstN x ≤ nN x
  | ⟨k, a, s, p, h, e, b, l⟩ => by
    have h1 := nst_le b; have h2 := nst_le l
    rw [nstN_eq, nN_eq]
    dsimp only
    split
    · omega
    · split <;> omega
end
theorem kids_mem {x : S78} {l : List S78} (h : l ∈ kids x) : l = x.f6 ∨ l = x.f7 := by
  unfold kids at h
  split at h
  · simpa using h
  · split at h
    · exact .inl (by simpa using h)
    · simp at h
theorem rd_L6_at (t : List (List S78)) (i : Nat) (h : i < t.length) : rd_L6 t (i : Int) = t[i] := by simp [rd_L6, List.getD_eq_getElem?_getD, h]
theorem getN (l : List S78) (i : Nat) (h : i < l.length) : nN l[i] ≤ nL l := nL_mem l l[i] (List.getElem_mem h)
theorem kids_small {x : S78} (h : nN x ≤ 1000000000) : ∀ l ∈ kids x, nL l ≤ 1000000000 := fun l hl => by
  rw [nN_eq] at h
  rcases kids_mem hl with rfl | rfl <;> omega
theorem cntK_le (x : S78) : cntK (kids x) ≤ nN x := by have := cntn_le x; rw [cntN_kids] at this; omega
abbrev CE (l : List S78) : Prop := nL l ≤ 1000000000 → Ev (fun k => parse_Count.f k l) (cntL l : Int)
/-- One round over the kids. -/
theorem count_kids (x10 : List S78) (x11 x12 : Int) (t : List (List S78)) (ht : ∀ l ∈ t, CE l ∧ nL l ≤ 1000000000) (R : Int) (hx : 0 ≤ x12 ∧ x12 ≤ 1000000000) :
    ∀ (d j : Nat) (x3 : Int), j ≤ t.length → t.length - j = d → t.length ≤ 2 → 0 ≤ x3 → x3 + cntK (t.drop j) ≤ 4000000000 →
      Ev (fun k => parse_Count.l0 k (x3 + cntK (t.drop j)) x10 x11 (x12 + 1)) R → Ev (fun k => parse_Count.l1 k x3 x10 x11 x12 t (t.length : Int) (j : Int)) R := by
  intro d
  induction d with
  | zero =>
    intro j x3 hj hd h2 h3 hb h
    obtain rfl : j = t.length := by omega
    rw [List.drop_length] at h
    simp only [cntK, List.map_nil, List.sum_nil, Int.natCast_zero, Int.add_zero] at h
    exact Ev.shift h (fun k => by rw [parse_Count.l1, if_neg (by omega), w64 (by omega) (by omega)])
  | succ d ih =>
    intro j x3 hj hd h2 h3 hb h
    have hlt : j < t.length := by omega
    have e1 : t.drop j = t[j] :: t.drop (j + 1) := List.drop_eq_getElem_cons hlt
    have ek : cntK (t.drop j) = cntL t[j] + cntK (t.drop (j + 1)) := by rw [e1]; unfold cntK; rw [List.map_cons, List.sum_cons]
    obtain ⟨hc, hn⟩ := ht t[j] (List.getElem_mem hlt)
    have hle := cnt_le t[j]
    refine Ev.shift (f := fun k => (parse_Count.f k (rd_L6 t (j : Int))).bind fun q => parse_Count.l1 k (wrap64 (x3 + q)) x10 x11 x12 t (t.length : Int) (wrap64 ((j : Int) + 1))) ?_ (fun k => by rw [parse_Count.l1, if_pos (by omega), if_pos (by omega), if_pos (by omega)])
    refine Ev.bind (v := (cntL t[j] : Int)) (by rw [rd_L6_at t j hlt]; exact hc hn) ?_
    rw [w64 (by omega) (by omega), w64 (by omega) (by omega), show ((j : Int) + 1) = ((j + 1 : Nat) : Int) by omega]
    refine ih (j + 1) (x3 + cntL t[j]) (by omega) (by omega) h2 (by omega) (by rw [ek] at hb; omega) ?_
    rw [ek] at h
    rw [show x3 + (cntL t[j] : Int) + (cntK (t.drop (j + 1)) : Int) = x3 + ((cntL t[j] + cntK (t.drop (j + 1)) : Nat) : Int) by omega]
    exact h
theorem kids_len (x : S78) : (kids x).length ≤ 2 := by
  unfold kids
  split
  · simp
  · split <;> simp
theorem count_step (l : List S78) (ih : ∀ x ∈ l, CE x.f6 ∧ CE x.f7) : CE l := by
  intro hn
  have hll := nL_len l
  have loop : ∀ (d i : Nat) (x3 : Int), i ≤ l.length → l.length - i = d → 0 ≤ x3 → x3 + cntL (l.drop i) ≤ 2000000000 + (l.length - i : Nat) →
      Ev (fun k => parse_Count.l0 k x3 l (l.length : Int) (i : Int)) (x3 + cntL (l.drop i) - (l.length - i : Nat)) := by
    intro d
    induction d with
    | zero =>
      intro i x3 hi hd h3 hb
      obtain rfl : i = l.length := by omega
      refine ⟨1, fun k hk => ?_⟩
      obtain ⟨k, rfl⟩ : ∃ j, k = j + 1 := ⟨k - 1, by omega⟩
      show parse_Count.l0 (k + 1) _ _ _ _ = _
      rw [parse_Count.l0, if_neg (by omega), List.drop_length]
      simp [cntL]
    | succ d ihd =>
      intro i x3 hi hd h3 hb
      have hlt : i < l.length := by omega
      have e1 : l.drop i = l[i] :: l.drop (i + 1) := List.drop_eq_getElem_cons hlt
      have r1 : rd_T78 l (i : Int) = l[i] := rd_T78_at l i hlt
      obtain ⟨ih6, ih7⟩ := ih l[i] (List.getElem_mem hlt)
      have hg := getN l i hlt
      have hks := kids_small (x := l[i]) (by omega)
      have hck := cntK_le l[i]
      have ec : cntL (l.drop i) = 1 + cntK (kids l[i]) + cntL (l.drop (i + 1)) := by rw [e1, cntL_cons, cntN_kids]
      refine Ev.shift (f := fun k => parse_Count.l1 k x3 l (l.length : Int) (i : Int) (kids l[i]) ((kids l[i]).length : Int) ((0 : Nat) : Int)) ?_ (fun k => by
        rw [parse_Count.l0, if_pos (by omega), if_pos (by omega), if_pos (by omega), r1, branches_is, Option.bind_some]; rfl)
      refine count_kids l _ _ (kids l[i]) (fun q hq => ⟨?_, hks q hq⟩) _ ⟨by omega, by omega⟩ _ 0 x3 (Nat.zero_le _) rfl (kids_len _) h3 (by rw [List.drop_zero]; omega) ?_
      · rcases kids_mem hq with rfl | rfl
        · exact ih6
        · exact ih7
      · rw [List.drop_zero, show ((i : Int) + 1) = ((i + 1 : Nat) : Int) by omega]
        have := ihd (i + 1) (x3 + cntK (kids l[i])) (by omega) (by omega) (by omega) (by rw [ec] at hb; omega)
        rw [show x3 + (cntL (l.drop i) : Int) - ((l.length - i : Nat) : Int) = x3 + (cntK (kids l[i]) : Int) + (cntL (l.drop (i + 1)) : Int) - ((l.length - (i + 1) : Nat) : Int) by rw [ec]; omega]
        exact this
  have hcl := cnt_le l
  obtain ⟨K, hK⟩ := loop l.length 0 l.length (by omega) (by omega) (by omega) (by rw [List.drop_zero]; omega)
  refine ⟨K + 1, fun k hk => ?_⟩
  obtain ⟨k, rfl⟩ : ∃ j, k = j + 1 := ⟨k - 1, by omega⟩
  show parse_Count.f (k + 1) l = _
  rw [parse_Count.f]
  have := hK k (by omega)
  dsimp only at this
  rw [List.drop_zero] at this
  refine this.trans (congrArg some ?_)
  omega
theorem count_all : ∀ (n : Nat) (l : List S78), SizeOf.sizeOf l < n → CE l
  | 0, l, h => absurd h (Nat.not_lt_zero _)
  | n + 1, l, h => count_step l fun x hx => by
      have h1 := List.sizeOf_lt_of_mem hx
      exact ⟨count_all n x.f6 (by have := S78.size6 x; omega), count_all n x.f7 (by have := S78.size7 x; omega)⟩
theorem count_ev (l : List S78) (h : nL l ≤ 1000000000) : Ev (fun k => parse_Count.f k l) (cntL l : Int) := count_all _ l (Nat.lt_succ_self _) h
theorem nstK_cons (l : List S78) (t : List (List S78)) : nstK (l :: t) = max (1 + nstL l) (nstK t) := rfl
abbrev NE (l : List S78) : Prop := nL l ≤ 1000000000 → Ev (fun k => parse_Nest.f k l) (nstL l : Int)
theorem mx_nat (a b : Nat) : mx (a : Int) (b : Int) = ((max a b : Nat) : Int) := by unfold mx; omega
theorem nest_kids (x8 : List S78) (x9 x10 : Int) (t : List (List S78)) (ht : ∀ l ∈ t, NE l ∧ nL l ≤ 1000000000) (R : Int) (hx : 0 ≤ x10 ∧ x10 ≤ 1000000000) :
    ∀ (d j x3 : Nat), j ≤ t.length → t.length - j = d → t.length ≤ 2 →
      Ev (fun k => parse_Nest.l0 k ((max x3 (nstK (t.drop j)) : Nat) : Int) x8 x9 (x10 + 1)) R → Ev (fun k => parse_Nest.l1 k (x3 : Int) x8 x9 x10 t (t.length : Int) (j : Int)) R := by
  intro d
  induction d with
  | zero =>
    intro j x3 hj hd h2 h
    obtain rfl : j = t.length := by omega
    rw [List.drop_length, show max x3 (nstK []) = x3 from Nat.max_eq_left (Nat.zero_le _)] at h
    exact Ev.shift h (fun k => by rw [parse_Nest.l1, if_neg (by omega), w64 (by omega) (by omega)])
  | succ d ih =>
    intro j x3 hj hd h2 h
    have hlt : j < t.length := by omega
    have e1 : t.drop j = t[j] :: t.drop (j + 1) := List.drop_eq_getElem_cons hlt
    obtain ⟨hc, hn⟩ := ht t[j] (List.getElem_mem hlt)
    have hle := nst_le t[j]
    refine Ev.shift (f := fun k => (parse_Nest.f k (rd_L6 t (j : Int))).bind fun q => parse_Nest.l1 k (mx (x3 : Int) (wrap64 (1 + q))) x8 x9 x10 t (t.length : Int) (wrap64 ((j : Int) + 1))) ?_ (fun k => by rw [parse_Nest.l1, if_pos (by omega), if_pos (by omega), if_pos (by omega)])
    refine Ev.bind (v := (nstL t[j] : Int)) (by rw [rd_L6_at t j hlt]; exact hc hn) ?_
    rw [w64 (by omega) (by omega), w64 (by omega) (by omega), show ((j : Int) + 1) = ((j + 1 : Nat) : Int) by omega, show (1 + (nstL t[j] : Int)) = ((1 + nstL t[j] : Nat) : Int) by omega, mx_nat]
    refine ih (j + 1) (max x3 (1 + nstL t[j])) (by omega) (by omega) h2 ?_
    rw [e1, nstK_cons, ← Nat.max_assoc] at h
    exact h
theorem nest_step (l : List S78) (ih : ∀ x ∈ l, NE x.f6 ∧ NE x.f7) : NE l := by
  intro hn
  have hll := nL_len l
  have loop : ∀ (d i x3 : Nat), i ≤ l.length → l.length - i = d →
      Ev (fun k => parse_Nest.l0 k (x3 : Int) l (l.length : Int) (i : Int)) ((max x3 (nstL (l.drop i)) : Nat) : Int) := by
    intro d
    induction d with
    | zero =>
      intro i x3 hi hd
      obtain rfl : i = l.length := by omega
      refine ⟨1, fun k hk => ?_⟩
      obtain ⟨k, rfl⟩ : ∃ j, k = j + 1 := ⟨k - 1, by omega⟩
      show parse_Nest.l0 (k + 1) _ _ _ _ = _
      rw [parse_Nest.l0, if_neg (by omega), List.drop_length]
      simp [nstL]
    | succ d ihd =>
      intro i x3 hi hd
      have hlt : i < l.length := by omega
      have e1 : l.drop i = l[i] :: l.drop (i + 1) := List.drop_eq_getElem_cons hlt
      have r1 : rd_T78 l (i : Int) = l[i] := rd_T78_at l i hlt
      obtain ⟨ih6, ih7⟩ := ih l[i] (List.getElem_mem hlt)
      have hg := getN l i hlt
      have hks := kids_small (x := l[i]) (by omega)
      refine Ev.shift (f := fun k => parse_Nest.l1 k (x3 : Int) l (l.length : Int) (i : Int) (kids l[i]) ((kids l[i]).length : Int) ((0 : Nat) : Int)) ?_ (fun k => by
        rw [parse_Nest.l0, if_pos (by omega), if_pos (by omega), if_pos (by omega), r1, branches_is, Option.bind_some]; rfl)
      refine nest_kids l _ _ (kids l[i]) (fun q hq => ⟨?_, hks q hq⟩) _ ⟨by omega, by omega⟩ _ 0 x3 (Nat.zero_le _) rfl (kids_len _) ?_
      · rcases kids_mem hq with rfl | rfl
        · exact ih6
        · exact ih7
      · rw [List.drop_zero, show ((i : Int) + 1) = ((i + 1 : Nat) : Int) by omega, e1, nstL_cons, nstN_kids, ← Nat.max_assoc]
        exact ihd (i + 1) _ (by omega) (by omega)
  obtain ⟨K, hK⟩ := loop l.length 0 0 (by omega) (by omega)
  refine ⟨K + 1, fun k hk => ?_⟩
  obtain ⟨k, rfl⟩ : ∃ j, k = j + 1 := ⟨k - 1, by omega⟩
  show parse_Nest.f (k + 1) l = _
  rw [parse_Nest.f]
  have := hK k (by omega)
  dsimp only at this
  rw [List.drop_zero, Nat.zero_max] at this
  exact this
theorem nest_all : ∀ (n : Nat) (l : List S78), SizeOf.sizeOf l < n → NE l
  | 0, l, h => absurd h (Nat.not_lt_zero _)
  | n + 1, l, h => nest_step l fun x hx => by
      have h1 := List.sizeOf_lt_of_mem hx
      exact ⟨nest_all n x.f6 (by have := S78.size6 x; omega), nest_all n x.f7 (by have := S78.size7 x; omega)⟩
theorem nest_ev (l : List S78) (h : nL l ≤ 1000000000) : Ev (fun k => parse_Nest.f k l) (nstL l : Int) := nest_all _ l (Nat.lt_succ_self _) h
end Go.Proofs.YtkpnfejfbmandaaDoor.Px
