import Derived.Test.YtkpnfejfbmandaaDoorCIM22
import Derived.Outline
/- compile.Code: the code as a whole, address by address (plain law). -/
namespace Go.Proofs.YtkpnfejfbmandaaDoor.Px
open Go.RowKit Go.Proofs.YtkpnfejfbmandaaDoorW.PrintWords Go.Proofs.YtkpnfejfbmandaaDoorW.PrintLast Go.Proofs.YtkpnfejfbmandaaDoorW.PrintMore
set_option linter.unusedVariables false
set_option linter.unusedSimpArgs false
mutual
def szL : List S78 → Nat
  | [] => 0
  | x :: xs => szN x + szL xs
def szN : S78 → Nat
  | ⟨k, _, _, _, _, f5, b, l⟩ => if k = 0 ∨ k = 1 ∨ k = 4 ∨ k = 5 then 1 else if k = 2 then 1 + szL b + (if f5 then 1 + szL l else 0) else if k = 3 then 2 + szL b else 0
end
mutual
def codL (tg : ByteArray → Int) : List S78 → Nat → List Int → List S40
  | [], _, _ => []
  | x :: xs, a, es => codN tg x a es ++ codL tg xs (a + szN x) (es.drop (eN x))
def codN (tg : ByteArray → Int) : S78 → Nat → List Int → List S40
  | ⟨k, _, S, nm, f4, f5, b, l⟩, a, es =>
    if k = 0 then [⟨0, S, e0, false, 0, 0⟩]
    else if k = 1 then [⟨1, e0, nm, false, rdOf 0 es 0, 0⟩]
    else if k = 2 then
      (if f5 then ⟨2, e0, nm, false, 0, ((a + szL b + 2 : Nat) : Int)⟩ :: (codL tg b (a + 1) es ++ ⟨3, e0, e0, false, 0, ((a + szL b + 2 + szL l : Nat) : Int)⟩ :: codL tg l (a + szL b + 2) (es.drop (eL b)))
      else ⟨2, e0, nm, false, 0, ((a + szL b + 1 : Nat) : Int)⟩ :: codL tg b (a + 1) es)
    else if k = 3 then ⟨4, e0, nm, false, 0, ((a + szL b + 2 : Nat) : Int)⟩ :: (codL tg b (a + 1) es ++ [⟨5, e0, e0, false, 0, ((a + 1 : Nat) : Int)⟩])
    else if k = 4 then [⟨6, e0, nm, f4, 0, tg S⟩]
    else if k = 5 then [⟨8, e0, e0, false, 0, 0⟩]
    else []
end
mutual
def calL : List S78 → Nat → List (Int × ByteArray)
  | [], _ => []
  | x :: xs, a => calN x a ++ calL xs (a + szN x)
def calN : S78 → Nat → List (Int × ByteArray)
  | ⟨k, _, S, _, _, f5, b, l⟩, a =>
    if k = 2 then calL b (a + 1) ++ (if f5 then calL l (a + szL b + 2) else [])
    else if k = 3 then calL b (a + 1)
    else if k = 4 then [((a : Int), S)]
    else []
end
theorem setTo_mid (A B : List S40) (x : S40) (n : Nat) (hn : n = A.length) (q : Int) : setTo (A ++ x :: B) n q = A ++ { x with f5 := q } :: B := by
  subst hn
  exact modify_mid _ x B A
mutual
theorem codL_len (tg : ByteArray → Int) : ∀ (l : List S78) (a : Nat) (es : List Int), (codL tg l a es).length = szL l
  | [], a, es => by simp [codL, szL]
  | x :: xs, a, es => by rw [codL, List.length_append, codN_len tg x, codL_len tg xs, szL]
theorem codN_len (tg : ByteArray → Int) : ∀ (x : S78) (a : Nat) (es : List Int), (codN tg x a es).length = szN x
  | ⟨k, at_, S, nm, f4, f5, b, l⟩, a, es => by
    rw [codN, szN]
    by_cases h0 : k = 0
    · simp [h0]
    by_cases h1 : k = 1
    · simp [h1]
    by_cases h2 : k = 2
    · cases f5
      · simp [h2, codL_len tg b]; omega
      · simp [h2, codL_len tg b, codL_len tg l]; omega
    by_cases h3 : k = 3
    · simp [h3, codL_len tg b]; omega
    by_cases h4 : k = 4
    · simp [h4]
    by_cases h5 : k = 5
    · simp [h5]
    simp [h0, h1, h2, h3, h4, h5]
end
abbrev tg0 : ByteArray → Int := fun _ => 0
mutual
theorem gL_is : ∀ (l : List S78) (C : List S40) (es : List Int) (K : List (Int × ByteArray)), gL l ⟨C, es, K⟩ = ⟨C ++ codL tg0 l C.length es, es.drop (eL l), K ++ calL l C.length⟩
  | [], C, es, K => by simp [gL, codL, eL, calL]
  | x :: xs, C, es, K => by
    rw [gL, gN_is x, gL_is xs, codL, calL, eL, List.length_append, codN_len, List.append_assoc, List.append_assoc, List.drop_drop]
theorem gN_is : ∀ (x : S78) (C : List S40) (es : List Int) (K : List (Int × ByteArray)), gN x ⟨C, es, K⟩ = ⟨C ++ codN tg0 x C.length es, es.drop (eN x), K ++ calN x C.length⟩
  | ⟨k, at_, S, nm, f4, f5, b, l⟩, C, es, K => by
    rw [gN, codN, eN, calN]
    by_cases h0 : k = 0
    · simp [h0, KS.emit]
    by_cases h1 : k = 1
    · simp [h1]
    by_cases h2 : k = 2
    · subst h2
      simp only [show ((2 : Int) = 0) = False by decide, show ((2 : Int) = 1) = False by decide, if_false, if_true]
      have hb := gL_is b (C ++ [⟨2, e0, nm, false, 0, 0⟩]) es K
      cases f5
      · simp only [KS.emit, KS.land, if_false, Bool.false_eq_true] at hb ⊢
        rw [hb]
        dsimp only
        rw [List.append_assoc C [_] _, List.singleton_append, setTo_mid C _ _ _ rfl]
        simp only [List.length_append, List.length_cons, codL_len, List.length_nil, Nat.add_zero, List.append_nil, Nat.zero_add]
        refine congr (congr (congrArg KS.mk ?_) rfl) rfl
        refine congrArg (C ++ ·) (congr (congrArg List.cons (congrArg (S40.mk 2 e0 nm false 0) ?_)) rfl)
        omega
      · simp only [KS.emit, KS.land, if_true] at hb ⊢
        rw [hb]
        dsimp only
        rw [List.append_assoc C [_] _, List.singleton_append, List.append_assoc C _ [_], List.cons_append, setTo_mid C _ _ _ rfl]
        dsimp only
        rw [gL_is l]
        dsimp only
        simp only [List.append_assoc, List.cons_append, List.nil_append]
        rw [show ∀ (u v : S40) (Y Z : List S40), C ++ u :: (Y ++ v :: Z) = (C ++ u :: Y) ++ v :: Z from fun _ _ _ _ => by simp]
        rw [setTo_mid _ _ _ _ (by simp only [List.length_append, List.length_cons, codL_len, List.length_nil]), List.drop_drop]
        simp only [List.length_append, List.length_cons, codL_len, List.length_nil, Nat.add_zero, Nat.zero_add]
        have e1 : C.length + (szL b + 1 + 1) = C.length + szL b + 2 := by omega
        have e2 : C.length + (szL b + 1) + (szL l + 1) = C.length + szL b + 2 + szL l := by omega
        have e3 : C.length + (szL b + (0 + 1) + 1) = C.length + szL b + 2 := by omega
        simp only [List.append_assoc, List.cons_append, e1, e2, e3]
    by_cases h3 : k = 3
    · subst h3
      simp only [show ((3 : Int) = 0) = False by decide, show ((3 : Int) = 1) = False by decide, show ((3 : Int) = 2) = False by decide, if_false, if_true]
      have hb := gL_is b (C ++ [⟨4, e0, nm, false, 0, 0⟩]) es K
      simp only [KS.emit, KS.land] at hb ⊢
      rw [hb]
      dsimp only
      rw [List.append_assoc C [_] _, List.singleton_append, List.append_assoc C _ [_], List.cons_append, setTo_mid C _ _ _ rfl]
      simp only [List.length_append, List.length_cons, codL_len, List.length_nil, Nat.add_zero, List.append_nil, Nat.zero_add]
      refine congr (congr (congrArg KS.mk ?_) rfl) rfl
      refine congrArg (C ++ ·) (congr (congrArg List.cons (congrArg (S40.mk 4 e0 nm false 0) ?_)) ?_)
      · omega
      · exact congrArg (codL tg0 b (C.length + 1) es ++ ·) (congrArg (fun q => [S40.mk 5 e0 e0 false 0 q]) (by omega))
    by_cases h4 : k = 4
    · simp [h4]
    by_cases h5 : k = 5
    · simp [h5, KS.emit]
    simp [h0, h1, h2, h3, h4, h5]
end
def topC (tg : ByteArray → Int) : List S78 → Nat → List Int → List S40
  | [], _, _ => []
  | x :: xs, a, es => codN tg x a (es.take (prN x)) ++ topC tg xs (a + szN x) (es.drop (prN x))
def defC (tg : ByteArray → Int) : List S78 → Nat → List Int → List S40
  | [], _, _ => []
  | x :: xs, a, es => if x.f0 = 6 then codL tg x.f6 a (es.take (prN x)) ++ ⟨7, e0, e0, false, 0, 0⟩ :: defC tg xs (a + szL x.f6 + 1) (es.drop (prN x)) else defC tg xs a (es.drop (prN x))
def defK : List S78 → Nat → List (Int × ByteArray)
  | [], _ => []
  | x :: xs, a => if x.f0 = 6 then calL x.f6 a ++ defK xs (a + szL x.f6 + 1) else defK xs a
def defA : List S78 → Nat → List (ByteArray × Int)
  | [], _ => []
  | x :: xs, a => if x.f0 = 6 then (x.f2, (a : Int)) :: defA xs (a + szL x.f6 + 1) else defA xs a
def defZ : List S78 → Nat
  | [] => 0
  | x :: xs => if x.f0 = 6 then szL x.f6 + 1 + defZ xs else defZ xs
theorem topC_len (tg : ByteArray → Int) : ∀ (l : List S78) (a : Nat) (es : List Int), (topC tg l a es).length = szL l
  | [], a, es => by simp [topC, szL]
  | x :: xs, a, es => by rw [topC, List.length_append, codN_len, topC_len tg xs, szL]
theorem defC_len (tg : ByteArray → Int) : ∀ (l : List S78) (a : Nat) (es : List Int), (defC tg l a es).length = defZ l
  | [], a, es => by simp [defC, defZ]
  | x :: xs, a, es => by
    rw [defC, defZ]
    split
    · rw [List.length_append, List.length_cons, codL_len, defC_len tg xs]; omega
    · exact defC_len tg xs _ _
theorem N6 {tg : ByteArray → Int} {x : S78} (h : x.f0 = 6) (a : Nat) (es : List Int) : codN tg x a es = [] ∧ szN x = 0 ∧ calN x a = [] := by
  cases x
  simp only at h
  subst h
  simp [codN, szN, calN]
theorem topS_is : ∀ (l : List S78) (es : List Int) (C : List S40) (E : List Int) (K : List (Int × ByteArray)), (topS l es ⟨C, E, K⟩).code = C ++ topC tg0 l C.length es ∧ (topS l es ⟨C, E, K⟩).calls = K ++ calL l C.length
  | [], es, C, E, K => by simp [topS, topC, calL]
  | x :: xs, es, C, E, K => by
    rw [topS, topC, calL]
    by_cases h6 : x.f0 = 6
    · rw [if_pos h6]
      obtain ⟨e1, e2, e3⟩ := N6 (tg := tg0) h6 C.length (es.take (prN x))
      rw [e1, e2, e3, Nat.add_zero]
      exact topS_is xs _ C E K
    · rw [if_neg h6, gN_is]
      obtain ⟨h1, h2⟩ := topS_is xs (es.drop (prN x)) (C ++ codN tg0 x C.length (es.take (prN x))) ((es.take (prN x)).drop (eN x)) (K ++ calN x C.length)
      rw [h1, h2, List.length_append, codN_len, List.append_assoc, List.append_assoc]
      exact ⟨rfl, rfl⟩
theorem defS_is : ∀ (l : List S78) (es : List Int) (st : KS) (ad : List (ByteArray × Int)), (defS l es st ad).1.code = st.code ++ defC tg0 l st.code.length es ∧ (defS l es st ad).1.calls = st.calls ++ defK l st.code.length ∧ (defS l es st ad).2 = ad ++ defA l st.code.length
  | [], es, st, ad => by simp [defS, defC, defK, defA]
  | x :: xs, es, st, ad => by
    rw [defS, defC, defK, defA]
    by_cases h6 : x.f0 = 6
    · simp only [if_pos h6]
      rw [gL_is]
      obtain ⟨h1, h2, h3⟩ := defS_is xs (es.drop (prN x)) ((⟨st.code ++ codL tg0 x.f6 st.code.length (es.take (prN x)), (es.take (prN x)).drop (eL x.f6), st.calls ++ calL x.f6 st.code.length⟩ : KS).emit ⟨7, e0, e0, false, 0, 0⟩) (ad ++ [(x.f2, (st.code.length : Int))])
      rw [h1, h2, h3]
      simp only [KS.emit, List.length_append, codL_len, List.length_singleton, List.append_assoc, List.singleton_append]
      exact ⟨by rw [show st.code.length + (szL x.f6 + 1) = st.code.length + szL x.f6 + 1 by omega], by rw [show st.code.length + (szL x.f6 + 1) = st.code.length + szL x.f6 + 1 by omega], by rw [show st.code.length + (szL x.f6 + 1) = st.code.length + szL x.f6 + 1 by omega]⟩
    · simp only [if_neg h6]
      exact defS_is xs _ st ad
def patA (ad : List (ByteArray × Int)) (K : List (Int × ByteArray)) (a : Nat) (C : List S40) : List S40 := C.mapIdx fun i x => match nmA K ((a + i : Nat) : Int) with
  | some s => { x with f5 := adOf ad s }
  | none => x
theorem patA_append (ad K a) (C D : List S40) : patA ad K a (C ++ D) = patA ad K a C ++ patA ad K (a + C.length) D := by
  unfold patA
  rw [List.mapIdx_append]
  congr 1
  apply List.ext_getElem?
  intro i
  rw [List.getElem?_mapIdx, List.getElem?_mapIdx]
  have e : a + (C.length + i) = a + C.length + i := by omega
  have e' : a + (i + C.length) = a + C.length + i := by omega
  simp only [e']
theorem patA_cons (ad K a) (x : S40) (D : List S40) : patA ad K a (x :: D) = patA ad K a [x] ++ patA ad K (a + 1) D := patA_append ad K a [x] D
theorem patA_one (ad : List (ByteArray × Int)) (K : List (Int × ByteArray)) (a : Nat) (x : S40) (h : nmA K (a : Int) = none) : patA ad K a [x] = [x] := by
  simp [patA, h]
theorem patA_call (ad : List (ByteArray × Int)) (K : List (Int × ByteArray)) (a : Nat) (x : S40) (s : ByteArray) (h : nmA K (a : Int) = some s) : patA ad K a [x] = [{ x with f5 := adOf ad s }] := by
  simp [patA, h]
theorem nmA_append (K L : List (Int × ByteArray)) (i : Int) : nmA (K ++ L) i = (nmA L i).or (nmA K i) := by
  unfold nmA
  rw [List.foldl_append]
  suffices ∀ (l : List (Int × ByteArray)) (a : Option ByteArray), l.foldl (fun a p => if p.1 = i then some p.2 else a) a = (l.foldl (fun a p => if p.1 = i then some p.2 else a) none).or a from this L _
  intro l
  induction l with
  | nil => intro a; rfl
  | cons p l ih =>
    intro a
    rw [List.foldl_cons, List.foldl_cons, ih, ih (if p.1 = i then some p.2 else none)]
    by_cases e : p.1 = i
    · rw [if_pos e, if_pos e]
      cases (l.foldl (fun a p => if p.1 = i then some p.2 else a) none) <;> rfl
    · rw [if_neg e, if_neg e]
      cases (l.foldl (fun a p => if p.1 = i then some p.2 else a) none) <;> rfl
mutual
theorem cal_in : ∀ (l : List S78) (a : Nat) (i : Int), (i < a ∨ ((a + szL l : Nat) : Int) ≤ i) → nmA (calL l a) i = none
  | [], a, i, h => by simp [calL, nmA]
  | x :: xs, a, i, h => by
    rw [szL] at h
    rw [calL, nmA_append, cal_in xs (a + szN x) i (by omega), caln_in x a i (by omega)]; rfl
theorem caln_in : ∀ (x : S78) (a : Nat) (i : Int), (i < a ∨ ((a + szN x : Nat) : Int) ≤ i) → nmA (calN x a) i = none
  | ⟨k, at_, S, nm, f4, f5, b, l⟩, a, i, h => by
    rw [calN]
    rw [szN] at h
    by_cases h2 : k = 2
    · subst h2
      rw [if_neg (by decide), if_pos rfl] at h
      rw [if_pos rfl]
      cases f5
      · rw [if_neg (by decide)] at h ⊢
        rw [List.append_nil]
        exact cal_in b _ i (by omega)
      · rw [if_pos rfl] at h ⊢
        rw [nmA_append, cal_in l _ i (by omega), cal_in b _ i (by omega)]; rfl
    rw [if_neg h2]
    by_cases h3 : k = 3
    · subst h3
      rw [if_neg (by decide), if_neg (by decide), if_pos rfl] at h
      rw [if_pos rfl]
      exact cal_in b _ i (by omega)
    rw [if_neg h3]
    by_cases h4 : k = 4
    · subst h4
      rw [if_pos (by decide)] at h
      rw [if_pos rfl]
      have : ¬ (a : Int) = i := by omega
      simp [nmA, this]
    rw [if_neg h4]
    rfl
end
def Knows (K K' : List (Int × ByteArray)) (a n : Nat) : Prop := ∀ i : Nat, a ≤ i → i < a + n → nmA K (i : Int) = nmA K' (i : Int)
theorem Knows.split {K K1 K2 : List (Int × ByteArray)} {a n m : Nat} (h : Knows K (K1 ++ K2) a (n + m)) (h1 : ∀ i : Nat, a + n ≤ i → nmA K1 (i : Int) = none) (h2 : ∀ i : Nat, i < a + n → nmA K2 (i : Int) = none) : Knows K K1 a n ∧ Knows K K2 (a + n) m := by
  refine ⟨fun i hi hn => ?_, fun i hi hn => ?_⟩
  · rw [h i hi (by omega), nmA_append, h2 i hn]; rfl
  · rw [h i (by omega) (by omega), nmA_append, h1 i hi]; cases nmA K2 (i : Int) <;> rfl
mutual
theorem pat_codL (ad : List (ByteArray × Int)) (K : List (Int × ByteArray)) : ∀ (l : List S78) (a : Nat) (es : List Int), Knows K (calL l a) a (szL l) → patA ad K a (codL tg0 l a es) = codL (adOf ad) l a es
  | [], a, es, _ => by simp [codL, patA]
  | x :: xs, a, es, h => by
    rw [calL, szL] at h
    obtain ⟨h1, h2⟩ := h.split (fun i hi => caln_in x a i (by omega)) (fun i hi => cal_in xs _ i (by omega))
    rw [codL, codL, patA_append, codN_len, pat_codN ad K x a es h1, pat_codL ad K xs _ _ h2]
theorem pat_codN (ad : List (ByteArray × Int)) (K : List (Int × ByteArray)) : ∀ (x : S78) (a : Nat) (es : List Int), Knows K (calN x a) a (szN x) → patA ad K a (codN tg0 x a es) = codN (adOf ad) x a es
  | ⟨k, at_, S, nm, f4, f5, b, l⟩, a, es, h => by
    rw [codN, codN]
    rw [calN, szN] at h
    by_cases h0 : k = 0
    · subst h0
      simp only [if_true] at h ⊢
      exact patA_one _ _ _ _ (h a (Nat.le_refl _) (by simp))
    rw [if_neg h0, if_neg h0]
    by_cases h1 : k = 1
    · subst h1
      simp only [if_true] at h ⊢
      exact patA_one _ _ _ _ (h a (Nat.le_refl _) (by simp))
    rw [if_neg h1, if_neg h1]
    by_cases h2 : k = 2
    · subst h2
      simp only [if_true, if_false, show ((2 : Int) = 0 ∨ (2 : Int) = 1 ∨ (2 : Int) = 4 ∨ (2 : Int) = 5) = False from eq_false (by decide)] at h
      rw [if_pos rfl, if_pos rfl]
      cases f5
      · simp only [Bool.false_eq_true, if_false, List.append_nil, Nat.add_zero] at h
        rw [if_neg (by decide), if_neg (by decide), patA_cons, patA_one _ _ _ _ ((h a (Nat.le_refl _) (by omega)).trans (cal_in b _ _ (by omega))), pat_codL ad K b _ _ (fun i hi hn => h i (by omega) (by omega))]
        rfl
      · simp only [if_true] at h
        rw [if_pos rfl, if_pos rfl, patA_cons, patA_one _ _ _ _ ((h a (Nat.le_refl _) (by omega)).trans (by rw [nmA_append, cal_in l _ _ (by omega), cal_in b _ _ (by omega)]; rfl)), patA_append, codL_len,
          pat_codL ad K b _ _ (fun i hi hn => (h i (by omega) (by omega)).trans (by rw [nmA_append, cal_in l _ _ (by omega)]; rfl)), patA_cons,
          patA_one _ _ _ _ ((h (a + 1 + szL b) (by omega) (by omega)).trans (by rw [nmA_append, cal_in l _ _ (by omega), cal_in b _ _ (by omega)]; rfl)),
          show a + 1 + szL b + 1 = a + szL b + 2 by omega,
          pat_codL ad K l _ _ (fun i hi hn => (h i (by omega) (by omega)).trans (by rw [nmA_append, cal_in b _ _ (by omega)]; cases nmA (calL l (a + szL b + 2)) (i : Int) <;> rfl))]
        rfl
    rw [if_neg h2, if_neg h2]
    rw [if_neg h2, if_neg h2] at h
    by_cases h3 : k = 3
    · subst h3
      rw [if_pos rfl, if_neg (by decide), if_pos rfl] at h
      rw [if_pos rfl, if_pos rfl, patA_cons, patA_one _ _ _ _ ((h a (Nat.le_refl _) (by omega)).trans (cal_in b _ _ (by omega))), patA_append, codL_len, pat_codL ad K b _ _ (fun i hi hn => h i (by omega) (by omega)),
        patA_one _ _ _ _ ((h (a + 1 + szL b) (by omega) (by omega)).trans (cal_in b _ _ (by omega)))]
      rfl
    rw [if_neg h3, if_neg h3]
    rw [if_neg h3] at h
    by_cases h4 : k = 4
    · subst h4
      rw [if_pos rfl, if_pos (by decide)] at h
      rw [if_pos rfl, if_pos rfl]
      exact patA_call _ _ _ _ S ((h a (Nat.le_refl _) (by omega)).trans (by simp [nmA]))
    rw [if_neg h4, if_neg h4]
    rw [if_neg h4] at h
    by_cases h5 : k = 5
    · subst h5
      rw [if_pos (by decide)] at h
      rw [if_pos rfl]
      exact patA_one _ _ _ _ (h a (Nat.le_refl _) (by omega))
    rw [if_neg h5]
    rfl
end
theorem defk_in : ∀ (l : List S78) (a : Nat) (i : Int), (i < a ∨ ((a + defZ l : Nat) : Int) ≤ i) → nmA (defK l a) i = none
  | [], a, i, h => rfl
  | x :: xs, a, i, h => by
    rw [defZ] at h
    rw [defK]
    by_cases h6 : x.f0 = 6
    · rw [if_pos h6] at h ⊢
      rw [nmA_append, defk_in xs _ i (by omega), cal_in x.f6 a i (by omega)]; rfl
    · rw [if_neg h6] at h ⊢
      exact defk_in xs a i h
theorem pat_topC (ad K) : ∀ (l : List S78) (a : Nat) (es : List Int), Knows K (calL l a) a (szL l) → patA ad K a (topC tg0 l a es) = topC (adOf ad) l a es
  | [], a, es, _ => by simp [topC, patA]
  | x :: xs, a, es, h => by
    rw [calL, szL] at h
    obtain ⟨h1, h2⟩ := h.split (fun i hi => caln_in x a i (by omega)) (fun i hi => cal_in xs _ i (by omega))
    rw [topC, topC, patA_append, codN_len, pat_codN ad K x a _ h1, pat_topC ad K xs _ _ h2]
theorem pat_defC (ad K) : ∀ (l : List S78) (a : Nat) (es : List Int), Knows K (defK l a) a (defZ l) → patA ad K a (defC tg0 l a es) = defC (adOf ad) l a es
  | [], a, es, _ => by simp [defC, patA]
  | x :: xs, a, es, h => by
    rw [defK, defZ] at h
    rw [defC, defC]
    by_cases h6 : x.f0 = 6
    · rw [if_pos h6, if_pos h6] at h
      rw [if_pos h6, if_pos h6]
      have h' : Knows K (calL x.f6 a ++ defK xs (a + szL x.f6 + 1)) a (szL x.f6 + (1 + defZ xs)) := by rw [← Nat.add_assoc]; exact h
      obtain ⟨h1, h2⟩ := h'.split (fun i hi => cal_in x.f6 a i (by omega)) (fun i hi => defk_in xs _ i (by omega))
      rw [patA_append, codL_len, pat_codL ad K x.f6 a _ h1, patA_cons, patA_one _ _ _ _ ((h2 (a + szL x.f6) (Nat.le_refl _) (by omega)).trans (defk_in xs _ _ (by omega))), pat_defC ad K xs _ _ (fun i hi hn => h2 i (by omega) (by omega))]
      rfl
    · rw [if_neg h6, if_neg h6] at h
      rw [if_neg h6, if_neg h6]
      exact pat_defC ad K xs a _ h
theorem patPt (ad : List (ByteArray × Int)) (x : S40) (q : Option ByteArray) : (if q.isSome = true then { x with f5 := adOf ad (q.getD e0) } else x) = match q with
  | some s => { x with f5 := adOf ad s }
  | none => x := by cases q <;> rfl
def tgO (l : List S78) : ByteArray → Int := adOf (defA l (szL l + 1))
theorem codeS_is (l : List S78) (es : List Int) : codeS l es = topC (tgO l) l 0 es ++ ⟨9, e0, e0, false, 0, 0⟩ :: defC (tgO l) l (szL l + 1) es := by
  obtain ⟨t1, t2⟩ := topS_is l es [] [] []
  generalize hT : topS l es ⟨[], [], []⟩ = T at t1 t2
  obtain ⟨d1, d2, d3⟩ := defS_is l es (T.emit ⟨9, e0, e0, false, 0, 0⟩) []
  have hTl : (T.emit ⟨9, e0, e0, false, 0, 0⟩).code.length = szL l + 1 := by simp [KS.emit, t1, topC_len]
  rw [hTl] at d1 d2 d3
  unfold codeS
  rw [hT]
  generalize defS l es (T.emit ⟨9, e0, e0, false, 0, 0⟩) [] = D at d1 d2 d3
  have hpat : patW D.1.code D.1.calls D.2 (fun i => (nmA D.1.calls i).isSome) = patA D.2 D.1.calls 0 D.1.code := by
    unfold patW patA
    congr 1
    funext i x
    rw [Nat.zero_add]
    exact patPt D.2 x (nmA D.1.calls (i : Int))
  rw [hpat, d1, d2, d3]
  simp only [KS.emit, t1, t2, List.nil_append, List.length_nil, List.append_assoc, List.singleton_append]
  rw [patA_append, topC_len, Nat.zero_add, patA_cons]
  have hk : ∀ i : Nat, nmA (calL l 0 ++ defK l (szL l + 1)) (i : Int) = if i < szL l + 1 then nmA (calL l 0) i else nmA (defK l (szL l + 1)) i := by
    intro i
    rw [nmA_append]
    split
    · rw [defk_in l _ _ (by omega)]; rfl
    · rw [cal_in l 0 i (by omega)]; cases nmA (defK l (szL l + 1)) (i : Int) <;> rfl
  rw [pat_topC _ _ l 0 es (fun i hi hn => by rw [hk, if_pos (by omega)]), patA_one _ _ _ _ (by rw [hk, if_pos (by omega), cal_in l 0 _ (by omega)]), pat_defC _ _ l _ es (fun i hi hn => by rw [hk, if_neg (by omega)])]
  rfl
end Go.Proofs.YtkpnfejfbmandaaDoor.Px
namespace Go.Proofs.YtkpnfejfbmandaaDoor.Px
open Go.RowKit Go.Proofs.YtkpnfejfbmandaaDoorW.PrintWords Go.Proofs.YtkpnfejfbmandaaDoorW.PrintLast Go.Proofs.YtkpnfejfbmandaaDoorW.PrintMore
open Go.Maps Go.ChangeMaps Go.MapKept
set_option linter.unusedVariables false
set_option linter.unusedSimpArgs false
theorem prints1 {x : S78} (h : nN x ≤ 1000000000) {B : Nat} {A6 A7 : Option Addr} {c6 c7 : Nat} (W : World) (hb : W.heap[B]? = some (.cells (nodC x A6 A7 c6 c7) 78 (0, 0))) (l6 : x.f6.length ≤ c6) (g6 : Kd.C k78 W A6 x.f6.length x.f6) (l7 : x.f7.length ≤ c7) (g7 : Kd.C k78 W A7 x.f7.length x.f7) :
    Calls Tryd.prog 56 #[.slice (some ⟨B, 0, none⟩) 1 1] W fun e w' => e = .returned (.int .i64 (prN x)) ∧ Below W.heap.size W w' := by
  rw [← prL_one x]
  exact prints_any (l := [x]) (by rw [nL_one]; exact h) (some ⟨B, 0, none⟩) 1 W (C_box hb l6 g6 l7 g7) (Nat.le_refl _)
structure L1 (w0 : World) (g b1 b2 p : Nat) (l : List S78) (es : List Int) (i : Nat) (vs : List Value) (Ar : Option Addr) (cr : Nat) (W : World) : Prop where
  s : CS w0 g b1 b2 p vs (.slice none 0 0) ⟨[], [], []⟩ none 0 W
  len : vs.length = i
  vs : VsOk w0 l es vs
  rest : Kd.C (Kd.int .i64) w0 Ar (es.drop (prL (l.take i))).length (es.drop (prL (l.take i)))
  le : (es.drop (prL (l.take i))).length ≤ cr
theorem L1.step {w0 g b1 b2 p l es i vs Ar cr W} (h : L1 w0 g b1 b2 p l es i vs Ar cr W) (hi : i < l.length) (hpr : prL l ≤ es.length) (hne : b1 ≠ b2) (hb1 : w0.heap.size ≤ b1) :
    L1 w0 g b1 b2 p l es (i + 1) (vs ++ [.slice Ar (prN l[i]) cr]) (if cr = prN l[i] then Ar else Ar.map (·.add (prN l[i] * 1))) (cr - prN l[i]) (mapW W b1 (escL (vs ++ [.slice Ar (prN l[i]) cr])).toArray (vs.length + 1)) := by
  have hg := mapW_grown h.s.e (escL (vs ++ [.slice Ar (prN l[i]) cr])).toArray (vs.length + 1)
  have ht := prL_take_succ l i hi
  have htl := prL_take_le l (i + 1)
  have hrl : prN l[i] ≤ (es.drop (prL (l.take i))).length := by rw [List.length_drop]; omega
  have hed : es.drop (prL (l.take (i + 1))) = (es.drop (prL (l.take i))).drop (prN l[i]) := by rw [List.drop_drop, ht]
  have hr : rd_T78 l (i : Int) = l[i] := by unfold rd_T78; simp [List.getD, hi]
  have hei : esI l es i = (es.drop (prL (l.take i))).take (prN l[i]) := by unfold esI; rw [hr]
  have heil : (esI l es i).length = prN l[i] := by rw [hei, List.length_take]; omega
  refine ⟨⟨?_, ?_, h.s.e.stored _, ?_⟩, by rw [List.length_append, h.len]; rfl, ?_, ?_, ?_⟩
  · refine ⟨blk_grown h.s.k.blk hg (fun e => (h.s.e.ne_g h.s.k) (by simpa using e.symm)), Kd.R_nil _ _ _ _ _, h.s.k.lf, h.s.k.le, h.s.k.bel.grown hg h.s.k.bel.size (fun k hk => by cases hk; exact hb1), h.s.k.ge⟩
  · exact h.s.m.move (hg.block _ h.s.m.lt (by simpa using hne.symm))
  · refine blk_grown h.s.pb hg ?_
    intro e
    have e1 : p = b1 := by simpa using e
    have h1 : W.heap[b1]? = _ := h.s.e
    rw [← e1, h.s.pb] at h1
    cases h1
  · intro j hj
    rw [List.length_append, List.length_singleton] at hj
    by_cases e : j < vs.length
    · obtain ⟨A, c, h1, h2, h3⟩ := h.vs j e
      exact ⟨A, c, by rw [List.getElem?_append_left e]; exact h1, h2, h3⟩
    · have hvl := h.len
      have ej : j = i := by omega
      rw [ej]
      refine ⟨Ar, cr, ?_, ?_, ?_⟩
      · rw [List.getElem?_append_right (Nat.le_of_eq hvl), hvl, Nat.sub_self, heil]; rfl
      · rw [hei]; exact Kd.C_take h.rest hrl
      · rw [heil]; exact Nat.le_trans hrl h.le
  · rw [hed]
    exact Kd.C_drop h.rest hrl h.le
  · rw [hed, List.length_drop]
    have := h.le
    omega
def MKept (b2 : Nat) (W W2 : World) : Prop := ∀ k es clock, k ≠ b2 → W.heap[k]? = some (.map es clock) → W2.heap[k]? = some (.map es clock)
theorem MKept.of {w0 w : World} {g b1 b2 : Nat} {v v2 : Value} {code A c left code2 A2 c2 left2 W} (hS : KIn w0 g b1 b2 v code A c left w) (hO : KOut w0 w g b1 b2 (some b2) v v2 code2 A2 c2 left2 W) : MKept b2 w W :=
  fun k es clock hne h => (hO.keep.2 k (Array.getElem?_eq_some_iff.1 h).1 (map_ne_g h hS) (by simpa using hne) (map_ne_row h hS)).trans h
theorem MKept.trans {b2 W W2 W3} (h : MKept b2 W W2) (k : MKept b2 W2 W3) : MKept b2 W W3 := fun i es clock hne hi => k i es clock hne (h i es clock hne hi)
theorem MKept.ma {b2 W W2 b ad n D} (h : MKept b2 W W2) (hM : MpA W b ad n D) (hne : b ≠ b2) : MpA W2 b ad n D := by
  obtain ⟨es, clock, h1⟩ := hM.at_blk
  exact hM.move ((h b es clock hne h1).trans h1.symm)
def TopQ (w0 : World) (g b1 b2 p : Nat) (vs : List Value) (W : World) (R : KS) (w' : World) : Prop := (∃ v' A' c', CS w0 g b1 b2 p vs v' R A' c' w') ∧ MKept b2 W w'
theorem top_main (x : S78) {w0 g b1 b2 p vs v st A c W} (h : CS w0 g b1 b2 p vs v st A c W) (hne : b1 ≠ b2) (i : Nat) (esi : List Int) (A' : Option Addr) (c' : Nat) (hv : vs[i]? = some (.slice A' esi.length c')) (hCe : Kd.C (Kd.int .i64) w0 A' esi.length esi) (hle : esi.length ≤ c')
    (B : Nat) (A6 A7 : Option Addr) (c6 c7 : Nat) (hb : W.heap[B]? = some (.cells (nodC x A6 A7 c6 c7) 78 (0, 0))) (hC6 : Kd.C k78 w0 A6 x.f6.length x.f6) (hc6 : x.f6.length ≤ c6) (hC7 : Kd.C k78 w0 A7 x.f7.length x.f7) (hc7 : x.f7.length ≤ c7) (hb2 : w0.heap.size ≤ b2)
    (hsm : smN x) (he : eN x ≤ esi.length) (hlc : st.calls.length + nN x ≤ 1000000) (hlen : st.code.length + 2 * nN x ≤ 1000000) :
    Calls Tryd.prog 57 #[.int .i64 i, .slice (some ⟨B, 0, none⟩) 1 1, .pointer (some ⟨p, 0, none⟩)] W fun e w' => e = .returned (.tuple #[]) ∧ TopQ w0 g b1 b2 p vs W (gN x ⟨st.code, esi, st.calls⟩) w' := by
  refine top_any i _ esi A' c' p W h.k vs h.e hv hCe hle h.pb _ fun W2 hO => ?_
  have hM2 := h.m.kept h.k hO
  have hb' := KOut.boxed h.k hO hb (by decide) (by decide)
  have hcs : CS w0 g b1 b2 p vs v ⟨st.code, esi, st.calls⟩ A' c' W2 := h.call (st2 := ⟨st.code, esi, st.calls⟩) hne (hO.more _) hM2
  refine (list1_any x (gNode.any x (gen_list _) fun hk => gBranch.any x hk (gen_list _) (gen_list _)) w0 g b1 b2 v ⟨st.code, esi, st.calls⟩ A' A6 A7 c' c6 c7 B W2 hO.st hM2 hb2 hb' hC6 hc6 hC7 hc7 hsm he hlc hlen).mono ?_
  rintro e w3 ⟨rfl, v', A2, c2, h3, hM3⟩
  exact ⟨rfl, ⟨v', A2, c2, hcs.call hne h3 hM3⟩, (MKept.of h.k (hO.more _)).trans (MKept.of hO.st h3)⟩
theorem top_def (l : List S78) {w0 g b1 b2 p vs v st A c W} (h : CS w0 g b1 b2 p vs v st A c W) (hne : b1 ≠ b2) (i : Nat) (esi : List Int) (A' : Option Addr) (c' : Nat) (hv : vs[i]? = some (.slice A' esi.length c')) (hCe : Kd.C (Kd.int .i64) w0 A' esi.length esi) (hle : esi.length ≤ c')
    (A6 : Option Addr) (c6 : Nat) (hC6 : Kd.C k78 w0 A6 l.length l) (hc6 : l.length ≤ c6) (hb2 : w0.heap.size ≤ b2)
    (hsm : smL l) (he : eL l ≤ esi.length) (hlc : st.calls.length + nL l ≤ 1000000) (hlen : st.code.length + 2 * nL l ≤ 1000000) :
    Calls Tryd.prog 57 #[.int .i64 i, .slice A6 l.length c6, .pointer (some ⟨p, 0, none⟩)] W fun e w' => e = .returned (.tuple #[]) ∧ TopQ w0 g b1 b2 p vs W (gL l ⟨st.code, esi, st.calls⟩) w' := by
  refine top_any i _ esi A' c' p W h.k vs h.e hv hCe hle h.pb _ fun W2 hO => ?_
  have hM2 := h.m.kept h.k hO
  have hcs : CS w0 g b1 b2 p vs v ⟨st.code, esi, st.calls⟩ A' c' W2 := h.call (st2 := ⟨st.code, esi, st.calls⟩) hne (hO.more _) hM2
  refine (gen_list l w0 g b1 b2 v ⟨st.code, esi, st.calls⟩ A' A6 c' c6 W2 hO.st hM2 hb2 hC6 hc6 hsm he hlc hlen).mono ?_
  rintro e w3 ⟨rfl, v', A2, c2, h3, hM3⟩
  exact ⟨rfl, ⟨v', A2, c2, hcs.call hne h3 hM3⟩, (MKept.of h.k (hO.more _)).trans (MKept.of hO.st h3)⟩
theorem emit_cs {w0 g b1 b2 p vs v st A c W} (h : CS w0 g b1 b2 p vs v st A c W) (hne : b1 ≠ b2) (x : S40) (hl : st.code.length ≤ 1000000) :
    Calls Tryd.prog 59 #[.pointer (some ⟨g, 0, none⟩), .agg #[.int .i64 x.f0, .string x.f1, .string x.f2, .bool x.f3, .int .i64 x.f4, .int .i64 x.f5]] W fun e w' => e = .returned (.int .i64 st.code.length) ∧ TopQ w0 g b1 b2 p vs W (st.emit x) w' := by
  refine (emit_any x W h.k hl).mono ?_
  rintro e w3 ⟨rfl, v', h3⟩
  exact ⟨rfl, ⟨v', A, c, h.call (st2 := st.emit x) hne (h3.more _) (h.m.kept h.k h3)⟩, MKept.of h.k (h3.more _)⟩
end Go.Proofs.YtkpnfejfbmandaaDoor.Px
