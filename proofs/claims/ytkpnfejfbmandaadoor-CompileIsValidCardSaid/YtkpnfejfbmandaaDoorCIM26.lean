import Derived.Test.YtkpnfejfbmandaaDoorCIM23
import Derived.Test.YtkpnfejfbmandaaDoorCIM25
import Derived.Test.YtkpnfejfbmandaaDoorCIM8
import Derived.Test.YtkpnfejfbmandaaDoorCIM19
import Derived.Outline
/- compile: every instruction of the code is in order (plain law). -/
namespace Go.Proofs.YtkpnfejfbmandaaDoor.Px
open Go.RowKit Go.Proofs.YtkpnfejfbmandaaDoorW.PrintWords Go.Proofs.YtkpnfejfbmandaaDoorW.PrintLast Go.Proofs.YtkpnfejfbmandaaDoorW.PrintMore
set_option linter.unusedVariables false
set_option linter.unusedSimpArgs false
abbrev PathOk (p : ByteArray) : Prop := pathL p.data.toList = true ∧ p.size ≤ 65536
inductive InsOk (C : List S40) (i : Nat) : S40 → Prop
  | text (s : ByteArray) (h : s.size ≤ 65536) : InsOk C i ⟨0, s, e0, false, 0, 0⟩
  | print (p : ByteArray) (k : Int) (hp : PathOk p) (h0 : 0 ≤ k) (h1 : k ≤ 4) : InsOk C i ⟨1, e0, p, false, k, 0⟩
  | jif (p : ByteArray) (t : Nat) (hp : PathOk p) (h0 : i < t) (h1 : t < C.length) : InsOk C i ⟨2, e0, p, false, 0, (t : Int)⟩
  | jump (t : Nat) (h0 : i < t) (h1 : t < C.length) : InsOk C i ⟨3, e0, e0, false, 0, (t : Int)⟩
  | range (p : ByteArray) (t : Nat) (hp : PathOk p) (h0 : i < t) (h1 : t < C.length) : InsOk C i ⟨4, e0, p, false, 0, (t : Int)⟩
  | next (t : Nat) (y : S40) (h0 : t < i) (hy : C[t]? = some y) (h4 : y.f0 = 4) (h5 : y.f5 = ((i + 1 : Nat) : Int)) : InsOk C i ⟨5, e0, e0, false, 0, ((t + 1 : Nat) : Int)⟩
  | call (p : ByteArray) (h : Bool) (t : Nat) (y : S40) (hp : PathOk p) (hh : h = false → p = e0) (h1 : t + 1 < C.length) (hy : C[t]? = some y) (h7 : y.f0 = 9 ∨ y.f0 = 7) : InsOk C i ⟨6, e0, p, h, 0, ((t + 1 : Nat) : Int)⟩
  | plain (k : Int) (hk : k = 7 ∨ k = 8 ∨ k = 9) : InsOk C i ⟨k, e0, e0, false, 0, 0⟩
def Seg (C : List S40) (a : Nat) (D : List S40) : Prop := ∀ i, i < D.length → C[a + i]? = D[i]?
theorem Seg.left {C a D E} (h : Seg C a (D ++ E)) : Seg C a D := fun i hi => by rw [h i (by rw [List.length_append]; omega), List.getElem?_append_left hi]
theorem Seg.right {C a D E} (h : Seg C a (D ++ E)) : Seg C (a + D.length) E := fun i hi => by
  rw [Nat.add_assoc, h (D.length + i) (by rw [List.length_append]; omega), List.getElem?_append_right (by omega), Nat.add_sub_cancel_left]
theorem Seg.head {C a x D} (h : Seg C a (x :: D)) : C[a]? = some x := by have := h 0 (by simp); simpa using this
theorem Seg.tail {C a x D} (h : Seg C a (x :: D)) : Seg C (a + 1) D := fun i hi => by
  have := h (i + 1) (by rw [List.length_cons]; omega)
  rw [show a + 1 + i = a + (i + 1) by omega, this, List.getElem?_cons_succ]
theorem Seg.self (C : List S40) : Seg C 0 C := fun i _ => by rw [Nat.zero_add]
def TgOk (C : List S40) (q : Int) : Prop := ∃ t y, q = ((t + 1 : Nat) : Int) ∧ t + 1 < C.length ∧ C[t]? = some y ∧ (y.f0 = 9 ∨ y.f0 = 7)
def AllOk (C : List S40) (a : Nat) (D : List S40) : Prop := ∀ i x, D[i]? = some x → InsOk C (a + i) x
theorem AllOk.nil (C a) : AllOk C a [] := fun i x h => by simp at h
theorem AllOk.append {C a D E} (h : AllOk C a D) (k : AllOk C (a + D.length) E) : AllOk C a (D ++ E) := fun i x hx => by
  by_cases hi : i < D.length
  · exact h i x (by rw [List.getElem?_append_left hi] at hx; exact hx)
  · rw [List.getElem?_append_right (by omega)] at hx
    have := k _ x hx
    rwa [show a + D.length + (i - D.length) = a + i by omega] at this
theorem AllOk.cons {C a x D} (h : InsOk C a x) (k : AllOk C (a + 1) D) : AllOk C a (x :: D) := fun i y hy => by
  cases i with
  | zero => obtain rfl : x = y := by simpa using hy
            exact h
  | succ i =>
    have := k i y (by simpa using hy)
    rwa [show a + 1 + i = a + (i + 1) by omega] at this
theorem AllOk.one {C a x} (h : InsOk C a x) : AllOk C a [x] := AllOk.cons h (AllOk.nil _ _)
def EscOk (es : List Int) : Prop := ∀ e ∈ es, 0 ≤ e ∧ e ≤ 4
theorem EscOk.drop {es : List Int} (h : EscOk es) (n : Nat) : EscOk (es.drop n) := fun e he => h e (List.mem_of_mem_drop he)
theorem EscOk.take {es : List Int} (h : EscOk es) (n : Nat) : EscOk (es.take n) := fun e he => h e (List.mem_of_mem_take he)
theorem EscOk.head {es : List Int} (h : EscOk es) : 0 ≤ rdOf 0 es 0 ∧ rdOf 0 es 0 ≤ 4 := by
  cases es with
  | nil => simp [rdOf]
  | cons e es => exact h e List.mem_cons_self
theorem tk_path {t : S76} (h : Tk t) : PathOk t.f3 := ⟨h.path, h.s3⟩
theorem cS_split {x : S78} {xs : List S78} {ns : List ByteArray} (h : cS (x :: xs) ns = none) : cN x ns = none ∧ cS xs ns = none := by
  rw [cS] at h
  cases hx : cN x ns with
  | none => rw [hx] at h; exact ⟨rfl, h⟩
  | some a => rw [hx] at h; cases h
theorem cN_split {x : S78} {ns : List ByteArray} (h : cN x ns = none) : (x.f0 = 4 → inN ns x.f2 = true) ∧ cS x.f6 ns = none ∧ cS x.f7 ns = none := by
  obtain ⟨k, a, S, nm, f4, f5, b, l⟩ := x
  rw [cN] at h
  dsimp only
  split at h
  · cases h
  · rename_i hq
    cases hb : cS b ns with
    | some a => rw [hb] at h; cases h
    | none =>
      rw [hb] at h
      refine ⟨fun hk => ?_, rfl, h⟩
      subst hk
      simpa using hq
mutual
theorem codL_ok (C : List S40) (tg : ByteArray → Int) (ns : List ByteArray) (hT : ∀ S, inN ns S = true → TgOk C (tg S)) : ∀ {top : Bool} (l : List S78) (a : Nat) (es : List Int), wfL top l → cS l ns = none → EscOk es → Seg C a (codL tg l a es) → a + szL l < C.length → AllOk C a (codL tg l a es)
  | _, [], a, es, _, _, _, _, _ => by rw [codL]; exact AllOk.nil _ _
  | top, x :: xs, a, es, hw, hc, he, hs, hl => by
    rw [codL] at hs ⊢
    rw [szL] at hl
    obtain ⟨c1, c2⟩ := cS_split hc
    refine AllOk.append (codN_ok C tg ns hT x a es hw.1 c1 he hs.left (by omega)) ?_
    have h2 := hs.right
    rw [codN_len] at h2 ⊢
    exact codL_ok C tg ns hT xs _ _ hw.2 c2 (he.drop _) h2 (by omega)
theorem codN_ok (C : List S40) (tg : ByteArray → Int) (ns : List ByteArray) (hT : ∀ S, inN ns S = true → TgOk C (tg S)) : ∀ {top : Bool} (x : S78) (a : Nat) (es : List Int), wfN top x → cN x ns = none → EscOk es → Seg C a (codN tg x a es) → a + szN x < C.length → AllOk C a (codN tg x a es)
  | top, ⟨k, at_, S, nm, f4, f5, b, l⟩, a, es, hw, hc, he, hs, hl => by
    have W := wfN_iff.1 hw
    have tk : PathOk nm := tk_path W.tk
    obtain ⟨c1, c2, c3⟩ := cN_split hc
    dsimp only at c1 c2 c3
    rw [codN] at hs ⊢
    rw [szN] at hl
    by_cases h0 : k = 0
    · rw [if_pos h0] at hs ⊢
      exact AllOk.one (.text S W.tk.s2)
    rw [if_neg h0] at hs ⊢
    by_cases h1 : k = 1
    · rw [if_pos h1] at hs ⊢
      exact AllOk.one (.print nm _ tk he.head.1 he.head.2)
    rw [if_neg h1] at hs ⊢
    by_cases h2 : k = 2
    · rw [if_pos h2] at hs ⊢
      rw [if_neg (by omega), if_pos h2] at hl
      cases f5
      · rw [if_neg (by decide)] at hs ⊢
        rw [if_neg (by decide)] at hl
        refine AllOk.cons (.jif nm _ tk (by omega) (by omega)) ?_
        exact codL_ok C tg ns hT b _ _ W.b c2 he hs.tail (by omega)
      · rw [if_pos rfl] at hs hl ⊢
        have s1 := hs.tail.left
        have s2 := hs.tail.right
        rw [codL_len] at s2
        have s3 := s2.tail
        rw [show a + 1 + szL b + 1 = a + szL b + 2 by omega] at s3
        refine AllOk.cons (.jif nm _ tk (by omega) (by omega)) ?_
        refine AllOk.append (codL_ok C tg ns hT b _ _ W.b c2 he s1 (by omega)) ?_
        rw [codL_len]
        refine AllOk.cons (.jump _ (by omega) (by omega)) ?_
        rw [show a + 1 + szL b + 1 = a + szL b + 2 by omega]
        exact codL_ok C tg ns hT l _ _ W.l c3 (he.drop _) s3 (by omega)
    rw [if_neg h2] at hs ⊢
    by_cases h3 : k = 3
    · rw [if_pos h3] at hs ⊢
      rw [if_neg (by omega), if_neg h2, if_pos h3] at hl
      refine AllOk.cons (.range nm _ tk (by omega) (by omega)) ?_
      refine AllOk.append (codL_ok C tg ns hT b _ _ W.b c2 he hs.tail.left (by omega)) ?_
      rw [codL_len]
      exact AllOk.one (.next a _ (by omega) hs.head rfl (by show ((a + szL b + 2 : Nat) : Int) = _; omega))
    rw [if_neg h3] at hs ⊢
    by_cases h4 : k = 4
    · rw [if_pos h4] at hs ⊢
      obtain ⟨t, y, e1, e2, e3, e4⟩ := hT S (c1 h4)
      rw [e1]
      exact AllOk.one (.call nm f4 t y tk (fun h => W.tk.none_ h) e2 e3 e4)
    rw [if_neg h4] at hs ⊢
    by_cases h5 : k = 5
    · rw [if_pos h5] at hs ⊢
      exact AllOk.one (.plain 8 (by decide))
    rw [if_neg h5] at hs ⊢
    exact AllOk.nil _ _
end
theorem topC_ok (C : List S40) (tg : ByteArray → Int) (ns : List ByteArray) (hT : ∀ S, inN ns S = true → TgOk C (tg S)) : ∀ {top : Bool} (l : List S78) (a : Nat) (es : List Int), wfL top l → cS l ns = none → EscOk es → Seg C a (topC tg l a es) → a + szL l < C.length → AllOk C a (topC tg l a es)
  | _, [], a, es, _, _, _, _, _ => by rw [topC]; exact AllOk.nil _ _
  | top, x :: xs, a, es, hw, hc, he, hs, hl => by
    rw [topC] at hs ⊢
    rw [szL] at hl
    obtain ⟨c1, c2⟩ := cS_split hc
    refine AllOk.append (codN_ok C tg ns hT x a _ hw.1 c1 (he.take _) hs.left (by omega)) ?_
    have h2 := hs.right
    rw [codN_len] at h2 ⊢
    exact topC_ok C tg ns hT xs _ _ hw.2 c2 (he.drop _) h2 (by omega)
theorem defC_ok (C : List S40) (tg : ByteArray → Int) (ns : List ByteArray) (hT : ∀ S, inN ns S = true → TgOk C (tg S)) : ∀ {top : Bool} (l : List S78) (a : Nat) (es : List Int), wfL top l → cS l ns = none → EscOk es → Seg C a (defC tg l a es) → a + defZ l ≤ C.length → AllOk C a (defC tg l a es)
  | _, [], a, es, _, _, _, _, _ => by rw [defC]; exact AllOk.nil _ _
  | top, x :: xs, a, es, hw, hc, he, hs, hl => by
    obtain ⟨c1, c2⟩ := cS_split hc
    rw [defC] at hs ⊢
    rw [defZ] at hl
    by_cases h6 : x.f0 = 6
    · rw [if_pos h6] at hs hl ⊢
      have hx := hw.1
      rw [wfN_iff] at hx
      refine AllOk.append (codL_ok C tg ns hT x.f6 a _ hx.b (cN_split c1).2.1 (he.take _) hs.left (by omega)) ?_
      have h2 := hs.right
      rw [codL_len] at h2 ⊢
      refine AllOk.cons (.plain 7 (by decide)) ?_
      exact defC_ok C tg ns hT xs _ _ hw.2 c2 (he.drop _) h2.tail (by omega)
    · rw [if_neg h6] at hs hl ⊢
      exact defC_ok C tg ns hT xs _ _ hw.2 c2 (he.drop _) hs hl
theorem defA_ok (C : List S40) (tg : ByteArray → Int) : ∀ (l : List S78) (a : Nat) (es : List Int) (y : S40), Seg C (a + 1) (defC tg l (a + 1) es) → a + 1 + defZ l ≤ C.length → C[a]? = some y → (y.f0 = 9 ∨ y.f0 = 7) → ∀ q ∈ defA l (a + 1), TgOk C q.2
  | [], a, es, y, _, _, _, _, q, hq => by rw [defA] at hq; cases hq
  | x :: xs, a, es, y, hs, hl, hy, h7, q, hq => by
    rw [defC] at hs
    rw [defZ] at hl
    rw [defA] at hq
    by_cases h6 : x.f0 = 6
    · rw [if_pos h6] at hs hl hq
      rcases List.mem_cons.1 hq with rfl | hq
      · exact ⟨a, y, rfl, by omega, hy, h7⟩
      · have h2 := hs.right
        rw [codL_len] at h2
        have e : a + 1 + szL x.f6 + 1 = (a + 1 + szL x.f6) + 1 := rfl
        exact defA_ok C tg xs (a + 1 + szL x.f6) (es.drop (prN x)) ⟨7, e0, e0, false, 0, 0⟩ h2.tail (by omega) h2.head (.inr rfl) q hq
    · rw [if_neg h6] at hs hl hq
      exact defA_ok C tg xs a _ y hs hl hy h7 q hq
theorem adOf_mem {ad : List (ByteArray × Int)} {s : ByteArray} (h : ∃ p ∈ ad, p.1.data.toList = s.data.toList) : ∃ p ∈ ad, adOf ad s = p.2 := by
  suffices ∀ (r : List (ByteArray × Int)), (∃ p ∈ r.reverse, p.1.data.toList = s.data.toList) → ∃ p ∈ r.reverse, adOf r.reverse s = p.2 by
    have := this ad.reverse
    rw [List.reverse_reverse] at this
    exact this h
  intro r
  induction r with
  | nil => rintro ⟨p, hp, _⟩; cases hp
  | cons p r ih =>
    rintro ⟨q, hq, hqs⟩
    rw [List.reverse_cons] at hq ⊢
    rw [adOf_snoc]
    by_cases e : p.1.data.toList = s.data.toList
    · exact ⟨p, by simp, by rw [if_pos e]⟩
    · rw [if_neg e]
      rcases List.mem_append.1 hq with hq | hq
      · obtain ⟨p2, h1, h2⟩ := ih ⟨q, hq, hqs⟩
        exact ⟨p2, List.mem_append_left _ h1, h2⟩
      · rw [List.mem_singleton] at hq
        subst hq
        exact absurd hqs e
theorem dS_names : ∀ (l : List S78) (n0 ns : List ByteArray) (a : Nat), dS l n0 = .ok ns → ns = n0 ++ (defA l a).map (·.1)
  | [], n0, ns, a, h => by rw [dS] at h; cases h; simp [defA]
  | x :: xs, n0, ns, a, h => by
    rw [dS] at h
    rw [defA]
    by_cases h6 : x.f0 = 6
    · rw [if_pos h6] at h ⊢
      split at h
      · cases h
      · split at h
        · cases h
        · rw [dS_names xs _ ns (a + szL x.f6 + 1) h]; simp
    · rw [if_neg h6] at h ⊢
      exact dS_names xs n0 ns a h
theorem codeS_len (l : List S78) (es : List Int) : (codeS l es).length = szL l + 1 + defZ l := by
  rw [codeS_is, List.length_append, List.length_cons, topC_len, defC_len]; omega
theorem dS_err : ∀ (l : List S78) (n0 : List ByteArray) (e : Int × Int), dS l n0 = .error e → e.2 ≠ 0
  | [], n0, e, h => by rw [dS] at h; cases h
  | x :: xs, n0, e, h => by
    rw [dS] at h
    split at h
    · split at h
      · cases h; show (12 : Int) ≠ 0; decide
      · split at h
        · cases h; show (14 : Int) ≠ 0; decide
        · exact dS_err xs _ e h
    · exact dS_err xs n0 e h
theorem codeS_ok {l : List S78} {es : List Int} (hw : wfL true l) (hc : (checkF l).2 = 0) (he : EscOk es) : AllOk (codeS l es) 0 (codeS l es) := by
  obtain ⟨ns, h1, h2⟩ : ∃ ns, dS l [] = .ok ns ∧ cS l ns = none := by
    unfold checkF at hc
    cases hd : dS l [] with
    | error e =>
      rw [hd] at hc
      exact absurd hc (dS_err l _ e hd)
    | ok ns =>
      rw [hd] at hc
      refine ⟨ns, rfl, ?_⟩
      cases hs : cS l ns with
      | none => rfl
      | some a => dsimp only at hc; rw [hs] at hc; cases hc
  have hlen := codeS_len l es
  have hseg := Seg.self (codeS l es)
  rw [show Seg (codeS l es) 0 (codeS l es) = Seg (codeS l es) 0 (topC (tgO l) l 0 es ++ ⟨9, e0, e0, false, 0, 0⟩ :: defC (tgO l) l (szL l + 1) es) from congrArg (Seg (codeS l es) 0) (codeS_is l es)] at hseg
  have s2 := hseg.right
  rw [topC_len, Nat.zero_add] at s2
  have hT : ∀ S, inN ns S = true → TgOk (codeS l es) (tgO l S) := by
    intro S hS
    have hn := dS_names l [] ns (szL l + 1) h1
    rw [List.nil_append] at hn
    unfold inN at hS
    rw [hn, List.any_map, List.any_eq_true] at hS
    obtain ⟨p, hp, hpe⟩ := hS
    obtain ⟨p2, hp2, e2⟩ := adOf_mem (ad := defA l (szL l + 1)) (s := S) ⟨p, hp, by simpa using hpe⟩
    unfold tgO
    rw [e2]
    exact defA_ok _ (tgO l) l (szL l) es _ s2.tail (by omega) s2.head (.inl rfl) p2 hp2
  have := AllOk.append (topC_ok _ (tgO l) ns hT l 0 es hw h2 he hseg.left (by omega)) (E := ⟨9, e0, e0, false, 0, 0⟩ :: defC (tgO l) l (szL l + 1) es) (by
    rw [topC_len, Nat.zero_add]
    exact AllOk.cons (.plain 9 (by decide)) (defC_ok _ (tgO l) ns hT l _ es hw h2 he s2.tail (by omega)))
  rwa [← codeS_is] at this
theorem escF_ok (s : HS) : 0 ≤ (escF s).1 ∧ (escF s).1 ≤ 4 := by
  unfold escF
  repeat' split
  all_goals exact ⟨by decide, by decide⟩
theorem failI_esc {st : IS} (h : EscOk st.1) (a e : Int) : EscOk (failI st a e).1 := by unfold failI; split <;> exact h
theorem expI_esc {st : IS} (h : EscOk st.1) (a : Int) (g w : HS) (e : Int) : EscOk (expI st a g w e).1 := by unfold expI; split; exact h; exact failI_esc h _ _
mutual
theorem iL_esc : ∀ (l : List S78) (s : HS) (st : IS), EscOk st.1 → EscOk (iL l s st).2.1
  | [], s, st, h => by rw [iL]; exact h
  | x :: xs, s, st, h => by
    rw [iL]
    split
    · exact iL_esc xs _ _ (iN_esc x s st h)
    · exact h
theorem iN_esc : ∀ (x : S78) (s : HS) (st : IS), EscOk st.1 → EscOk (iN x s st).2.1
  | ⟨k, a, S, p, hh, f5, b, l⟩, s, st, h => by
    rw [iN]
    by_cases h0 : k = 0
    · rw [if_pos h0]; exact h
    rw [if_neg h0]
    by_cases h1 : k = 1
    · rw [if_pos h1]
      intro e he
      rcases List.mem_append.1 he with he | he
      · revert he
        split
        · exact h e
        · exact failI_esc h _ _ e
      · rw [List.mem_singleton] at he
        rw [he]
        exact escF_ok s
    rw [if_neg h1]
    by_cases h4 : k = 4
    · rw [if_pos h4]; exact expI_esc h _ _ _ _
    rw [if_neg h4]
    by_cases h2 : k = 2
    · rw [if_pos h2]; exact expI_esc (iL_esc l _ _ (iL_esc b _ _ h)) _ _ _ _
    rw [if_neg h2]
    by_cases h3 : k = 3
    · rw [if_pos h3]; exact expI_esc (iL_esc b _ _ h) _ _ _ _
    rw [if_neg h3]
    by_cases h6 : k = 6
    · rw [if_pos h6]; exact expI_esc (iL_esc b _ _ h) _ _ _ _
    rw [if_neg h6]; exact h
end
theorem infer_esc (l : List S78) : EscOk (inferF l).1 := by
  have h0 : EscOk (iL l hz ([], 0, 0)).2.1 := iL_esc l _ _ (fun e he => by cases he)
  unfold inferF
  split
  · show EscOk (inferE l).1
    unfold inferE
    split
    · exact h0
    · exact expI_esc h0 _ _ _ _
  · exact fun e he => by cases he
theorem comp_ok {s : ByteArray} {r : List S78 × Int × Int} (h : Ev (fun k => parse_Parse.f k s) r) (he : (compF r).2.2 = 0) : r.2.2 = 0 ∧ (checkF r.1).2 = 0 ∧ (inferF r.1).2.2 = 0 ∧ compF r = (codeS r.1 (inferF r.1).1, 0, 0) ∧ AllOk (compF r).1 0 (compF r).1 := by
  obtain ⟨hw, hn⟩ := parsed_ok h
  unfold compF at he ⊢
  by_cases h1 : r.2.2 = 0
  · rw [if_pos h1] at he ⊢
    unfold codeF at he ⊢
    by_cases h2 : (checkF r.1).2 = 0
    · rw [if_pos h2] at he ⊢
      by_cases h3 : (inferF r.1).2.2 = 0
      · rw [if_pos h3]
        exact ⟨h1, h2, h3, rfl, codeS_ok hw h2 (infer_esc _)⟩
      · rw [if_neg h3] at he; exact absurd he h3
    · rw [if_neg h2] at he; exact absurd he h2
  · rw [if_neg h1] at he; exact absurd he h1
end Go.Proofs.YtkpnfejfbmandaaDoor.Px
namespace Go.Proofs.YtkpnfejfbmandaaDoor.Px
open Go.RowKit Go.Proofs.YtkpnfejfbmandaaDoorW.PrintWords Go.Proofs.YtkpnfejfbmandaaDoorW.PrintLast Go.Proofs.YtkpnfejfbmandaaDoorW.PrintMore
set_option linter.unusedVariables false
set_option linter.unusedSimpArgs false
def fS (k : Int) : Bool := k == 0
def fP (k : Int) : Bool := k == 1 || k == 2 || k == 4 || k == 6
def fE (k : Int) : Bool := k == 1
def fT (k : Int) : Bool := k == 2 || k == 3 || k == 4 || k == 5 || k == 6
def cleanB (x : S40) : Bool := (fS x.f0 || x.f1.toList.isEmpty) && ((fP x.f0 || x.f2.toList.isEmpty) && ((fE x.f0 || x.f4 == 0) && ((fT x.f0 || x.f5 == 0) && ((x.f0 == 6 || !x.f3) && (!(x.f0 == 6) || (x.f3 || x.f2.toList.isEmpty))))))
abbrev clean.Con (k : Int) : Prop := ∀ (x1 x2 : ByteArray) (x3 : Bool) (x4 x5 : Int) (w : World),
  Calls Tryd.prog 62 #[.agg #[.int .i64 k, .string x1, .string x2, .bool x3, .int .i64 x4, .int .i64 x5], .agg #[.bool (fS k), .bool (fP k), .bool (fE k), .bool (fT k)]] w fun e w' => e = .returned (.bool (cleanB ⟨k, x1, x2, x3, x4, x5⟩)) ∧ ∃ o1 o2, w' = (w.alloc o1).alloc o2
set_option maxHeartbeats 4000000 in
set_option maxRecDepth 100000 in
theorem clean.c0 : clean.Con 0 := by
  intro x1 x2 x3 x4 x5 w
  obtain ⟨r, hr⟩ : ∃ r, r = cleanB ⟨0, x1, x2, x3, x4, x5⟩ := ⟨_, rfl⟩
  rw [← hr]
  replace hr := Aside0.mk hr
  rw [show fS 0 = true from rfl, show fP 0 = false from rfl, show fE 0 = false from rfl, show fT 0 = false from rfl]
  go_enter Tryd.func62, Tryd.ntmps62
  go_wp2
  all_goals go_ret
  all_goals exact ⟨by rw [hr.out]; simp [cleanB, fS, fP, fE, fT, *], _, _, rfl⟩
set_option maxHeartbeats 4000000 in
set_option maxRecDepth 100000 in
theorem clean.c1 : clean.Con 1 := by
  intro x1 x2 x3 x4 x5 w
  obtain ⟨r, hr⟩ : ∃ r, r = cleanB ⟨1, x1, x2, x3, x4, x5⟩ := ⟨_, rfl⟩
  rw [← hr]
  replace hr := Aside0.mk hr
  rw [show fS 1 = false from rfl, show fP 1 = true from rfl, show fE 1 = true from rfl, show fT 1 = false from rfl]
  go_enter Tryd.func62, Tryd.ntmps62
  go_wp2
  all_goals go_ret
  all_goals exact ⟨by rw [hr.out]; simp [cleanB, fS, fP, fE, fT, *], _, _, rfl⟩
set_option maxHeartbeats 4000000 in
set_option maxRecDepth 100000 in
theorem clean.c2 : clean.Con 2 := by
  intro x1 x2 x3 x4 x5 w
  obtain ⟨r, hr⟩ : ∃ r, r = cleanB ⟨2, x1, x2, x3, x4, x5⟩ := ⟨_, rfl⟩
  rw [← hr]
  replace hr := Aside0.mk hr
  rw [show fS 2 = false from rfl, show fP 2 = true from rfl, show fE 2 = false from rfl, show fT 2 = true from rfl]
  go_enter Tryd.func62, Tryd.ntmps62
  go_wp2
  all_goals go_ret
  all_goals exact ⟨by rw [hr.out]; simp [cleanB, fS, fP, fE, fT, *], _, _, rfl⟩
set_option maxHeartbeats 4000000 in
set_option maxRecDepth 100000 in
theorem clean.c3 : clean.Con 3 := by
  intro x1 x2 x3 x4 x5 w
  obtain ⟨r, hr⟩ : ∃ r, r = cleanB ⟨3, x1, x2, x3, x4, x5⟩ := ⟨_, rfl⟩
  rw [← hr]
  replace hr := Aside0.mk hr
  rw [show fS 3 = false from rfl, show fP 3 = false from rfl, show fE 3 = false from rfl, show fT 3 = true from rfl]
  go_enter Tryd.func62, Tryd.ntmps62
  go_wp2
  all_goals go_ret
  all_goals exact ⟨by rw [hr.out]; simp [cleanB, fS, fP, fE, fT, *], _, _, rfl⟩
set_option maxHeartbeats 4000000 in
set_option maxRecDepth 100000 in
theorem clean.c4 : clean.Con 4 := by
  intro x1 x2 x3 x4 x5 w
  obtain ⟨r, hr⟩ : ∃ r, r = cleanB ⟨4, x1, x2, x3, x4, x5⟩ := ⟨_, rfl⟩
  rw [← hr]
  replace hr := Aside0.mk hr
  rw [show fS 4 = false from rfl, show fP 4 = true from rfl, show fE 4 = false from rfl, show fT 4 = true from rfl]
  go_enter Tryd.func62, Tryd.ntmps62
  go_wp2
  all_goals go_ret
  all_goals exact ⟨by rw [hr.out]; simp [cleanB, fS, fP, fE, fT, *], _, _, rfl⟩
set_option maxHeartbeats 4000000 in
set_option maxRecDepth 100000 in
theorem clean.c5 : clean.Con 5 := by
  intro x1 x2 x3 x4 x5 w
  obtain ⟨r, hr⟩ : ∃ r, r = cleanB ⟨5, x1, x2, x3, x4, x5⟩ := ⟨_, rfl⟩
  rw [← hr]
  replace hr := Aside0.mk hr
  rw [show fS 5 = false from rfl, show fP 5 = false from rfl, show fE 5 = false from rfl, show fT 5 = true from rfl]
  go_enter Tryd.func62, Tryd.ntmps62
  go_wp2
  all_goals go_ret
  all_goals exact ⟨by rw [hr.out]; simp [cleanB, fS, fP, fE, fT, *], _, _, rfl⟩
set_option maxHeartbeats 4000000 in
set_option maxRecDepth 100000 in
theorem clean.c6 : clean.Con 6 := by
  intro x1 x2 x3 x4 x5 w
  obtain ⟨r, hr⟩ : ∃ r, r = cleanB ⟨6, x1, x2, x3, x4, x5⟩ := ⟨_, rfl⟩
  rw [← hr]
  replace hr := Aside0.mk hr
  rw [show fS 6 = false from rfl, show fP 6 = true from rfl, show fE 6 = false from rfl, show fT 6 = true from rfl]
  go_enter Tryd.func62, Tryd.ntmps62
  go_wp2
  all_goals go_ret
  all_goals exact ⟨by rw [hr.out]; simp [cleanB, fS, fP, fE, fT, *], _, _, rfl⟩
set_option maxHeartbeats 4000000 in
set_option maxRecDepth 100000 in
theorem clean.c7 : clean.Con 7 := by
  intro x1 x2 x3 x4 x5 w
  obtain ⟨r, hr⟩ : ∃ r, r = cleanB ⟨7, x1, x2, x3, x4, x5⟩ := ⟨_, rfl⟩
  rw [← hr]
  replace hr := Aside0.mk hr
  rw [show fS 7 = false from rfl, show fP 7 = false from rfl, show fE 7 = false from rfl, show fT 7 = false from rfl]
  go_enter Tryd.func62, Tryd.ntmps62
  go_wp2
  all_goals go_ret
  all_goals exact ⟨by rw [hr.out]; simp [cleanB, fS, fP, fE, fT, *], _, _, rfl⟩
set_option maxHeartbeats 4000000 in
set_option maxRecDepth 100000 in
theorem clean.c8 : clean.Con 8 := by
  intro x1 x2 x3 x4 x5 w
  obtain ⟨r, hr⟩ : ∃ r, r = cleanB ⟨8, x1, x2, x3, x4, x5⟩ := ⟨_, rfl⟩
  rw [← hr]
  replace hr := Aside0.mk hr
  rw [show fS 8 = false from rfl, show fP 8 = false from rfl, show fE 8 = false from rfl, show fT 8 = false from rfl]
  go_enter Tryd.func62, Tryd.ntmps62
  go_wp2
  all_goals go_ret
  all_goals exact ⟨by rw [hr.out]; simp [cleanB, fS, fP, fE, fT, *], _, _, rfl⟩
set_option maxHeartbeats 4000000 in
set_option maxRecDepth 100000 in
theorem clean.c9 : clean.Con 9 := by
  intro x1 x2 x3 x4 x5 w
  obtain ⟨r, hr⟩ : ∃ r, r = cleanB ⟨9, x1, x2, x3, x4, x5⟩ := ⟨_, rfl⟩
  rw [← hr]
  replace hr := Aside0.mk hr
  rw [show fS 9 = false from rfl, show fP 9 = false from rfl, show fE 9 = false from rfl, show fT 9 = false from rfl]
  go_enter Tryd.func62, Tryd.ntmps62
  go_wp2
  all_goals go_ret
  all_goals exact ⟨by rw [hr.out]; simp [cleanB, fS, fP, fE, fT, *], _, _, rfl⟩
theorem clean_any (x : S40) (h0 : 0 ≤ x.f0) (h9 : x.f0 ≤ 9) (w : World) :
    Calls Tryd.prog 62 #[.agg #[.int .i64 x.f0, .string x.f1, .string x.f2, .bool x.f3, .int .i64 x.f4, .int .i64 x.f5], .agg #[.bool (fS x.f0), .bool (fP x.f0), .bool (fE x.f0), .bool (fT x.f0)]] w fun e w' => e = .returned (.bool (cleanB x)) ∧ ∃ o1 o2, w' = (w.alloc o1).alloc o2 := by
  obtain ⟨k, x1, x2, x3, x4, x5⟩ := x
  dsimp only at h0 h9 ⊢
  obtain rfl | rfl | rfl | rfl | rfl | rfl | rfl | rfl | rfl | rfl : k = 0 ∨ k = 1 ∨ k = 2 ∨ k = 3 ∨ k = 4 ∨ k = 5 ∨ k = 6 ∨ k = 7 ∨ k = 8 ∨ k = 9 := by omega
  · exact clean.c0 x1 x2 x3 x4 x5 w
  · exact clean.c1 x1 x2 x3 x4 x5 w
  · exact clean.c2 x1 x2 x3 x4 x5 w
  · exact clean.c3 x1 x2 x3 x4 x5 w
  · exact clean.c4 x1 x2 x3 x4 x5 w
  · exact clean.c5 x1 x2 x3 x4 x5 w
  · exact clean.c6 x1 x2 x3 x4 x5 w
  · exact clean.c7 x1 x2 x3 x4 x5 w
  · exact clean.c8 x1 x2 x3 x4 x5 w
  · exact clean.c9 x1 x2 x3 x4 x5 w
end Go.Proofs.YtkpnfejfbmandaaDoor.Px
