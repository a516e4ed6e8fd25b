import Derived.Test.YtkpnfejfbmandaaDoorCU24
import Derived.RangeFuncNested
import Derived.RangeFuncBound
import Derived.RangeFuncCalls
import Derived.RangeFuncLeaves
import Derived.Shelf.Abstract
import Derived.OwnWalkIn
import Derived.TacticsInMore
import Derived.LoopNIn
import Derived.LoopIn
import Derived.BigFrameIn
import Derived.Test.YtkpnfejfbmandaaDoorCU5
import Derived.Test.YtkpnfejfbmandaaDoorCU12
import Derived.Test.YtkpnfejfbmandaaDoorCU4
import Derived.Test.YtkpnfejfbmandaaDoorCU3
/- What is compiled hangs on the nodes without their offsets (plain law). -/
namespace Go.Proofs.YtkpnfejfbmandaaDoor.Px
open Go.RowKit Go.Proofs.YtkpnfejfbmandaaDoorW.PrintWords Go.Proofs.YtkpnfejfbmandaaDoorW.PrintLast Go.Proofs.YtkpnfejfbmandaaDoorW.PrintMore
set_option linter.unusedVariables false
set_option linter.unusedSimpArgs false
structure Sm (x y : S78) : Prop where
  f0 : x.f0 = y.f0
  f2 : x.f2 = y.f2
  f3 : x.f3 = y.f3
  f4 : x.f4 = y.f4
  f5 : x.f5 = y.f5
  b : eqRL false x.f6 y.f6 = true
  l : eqRL false x.f7 y.f7 = true
theorem sm_of {x y : S78} (h : eqRN false x y = true) : Sm x y := by
  rw [eqRN_eq] at h
  unfold hdR at h
  simp only [Bool.and_eq_true, beq_iff_eq, decide_eq_true_eq] at h
  obtain ⟨⟨⟨⟨⟨⟨h0, -⟩, h2⟩, h3⟩, h4⟩, h5⟩, h6, h7⟩ := h
  exact ⟨h0, toList_inj h2, toList_inj h3, h4, h5, h6, h7⟩
theorem eqRL_split {x y : S78} {xs ys : List S78} (h : eqRL false (x :: xs) (y :: ys) = true) : eqRN false x y = true ∧ eqRL false xs ys = true := by
  rw [eqRL_cons, Bool.and_eq_true] at h
  exact h
mutual
theorem prL_same : ∀ {l m : List S78}, eqRL false l m = true → prL l = prL m
  | [], [], _ => rfl
  | x :: xs, y :: ys, h => by
    obtain ⟨h1, h2⟩ := eqRL_split h
    rw [prL_cons, prL_cons, prN_same h1, prL_same h2]
  | [], y :: ys, h => by simp [eqRL] at h
  | x :: xs, [], h => by simp [eqRL] at h
theorem prN_same : ∀ {x y : S78}, eqRN false x y = true → prN x = prN y
  | ⟨k, a, S, p, hh, f5, b, l⟩, ⟨k', a', S', p', hh', f5', b', l'⟩, h => by
    obtain ⟨e0, _, _, _, _, e6, e7⟩ := sm_of h
    dsimp only at e0 e6 e7
    rw [prN_eq, prN_eq]
    dsimp only
    rw [e0, prL_same e6, prL_same e7]
end
mutual
theorem gL_same : ∀ {l m : List S78} (st : KS), eqRL false l m = true → gL l st = gL m st
  | [], [], _, _ => rfl
  | x :: xs, y :: ys, st, h => by
    obtain ⟨h1, h2⟩ := eqRL_split h
    rw [gL, gL, gN_same st h1, gL_same _ h2]
  | [], y :: ys, _, h => by simp [eqRL] at h
  | x :: xs, [], _, h => by simp [eqRL] at h
theorem gN_same : ∀ {x y : S78} (st : KS), eqRN false x y = true → gN x st = gN y st
  | ⟨k, a, S, p, hh, f5, b, l⟩, ⟨k', a', S', p', hh', f5', b', l'⟩, st, h => by
    obtain ⟨e0, e2, e3, e4, e5, e6, e7⟩ := sm_of h
    dsimp only at e0 e2 e3 e4 e5 e6 e7
    subst e0 e2 e3 e4 e5
    rw [gN, gN]
    by_cases h0 : k = 0
    · rw [if_pos h0, if_pos h0]
    rw [if_neg h0, if_neg h0]
    by_cases h1 : k = 1
    · rw [if_pos h1, if_pos h1]
    rw [if_neg h1, if_neg h1]
    by_cases h2 : k = 2
    · rw [if_pos h2, if_pos h2, gL_same _ e6, gL_same _ e7]
    rw [if_neg h2, if_neg h2]
    by_cases h3 : k = 3
    · rw [if_pos h3, if_pos h3, gL_same _ e6]
    rw [if_neg h3, if_neg h3]
end
theorem topS_same : ∀ {l m : List S78} (es : List Int) (st : KS), eqRL false l m = true → topS l es st = topS m es st
  | [], [], _, _, _ => rfl
  | x :: xs, y :: ys, es, st, h => by
    obtain ⟨h1, h2⟩ := eqRL_split h
    rw [topS, topS, (sm_of h1).f0, prN_same h1, gN_same _ h1]
    exact topS_same _ _ h2
  | [], y :: ys, _, _, h => by simp [eqRL] at h
  | x :: xs, [], _, _, h => by simp [eqRL] at h
theorem defS_same : ∀ {l m : List S78} (es : List Int) (st : KS) (ad : List (ByteArray × Int)), eqRL false l m = true → defS l es st ad = defS m es st ad
  | [], [], _, _, _, _ => rfl
  | x :: xs, y :: ys, es, st, ad, h => by
    obtain ⟨h1, h2⟩ := eqRL_split h
    have q := sm_of h1
    rw [defS, defS, q.f0, prN_same h1, gL_same _ q.b, q.f2, defS_same _ _ _ h2, defS_same _ _ _ h2]
  | [], y :: ys, _, _, _, h => by simp [eqRL] at h
  | x :: xs, [], _, _, _, h => by simp [eqRL] at h
theorem codeS_same {l m : List S78} (es : List Int) (h : eqRL false l m = true) : codeS l es = codeS m es := by
  unfold codeS
  rw [topS_same es _ h, defS_same es _ _ h]
/-- Two answers of Check's first part that differ in offsets. -/
theorem dS_same : ∀ {l m : List S78} (ns n2 : List ByteArray), eqRL false l m = true → dS l ns = .ok n2 → dS m ns = .ok n2
  | [], [], _, _, _, h => h
  | x :: xs, y :: ys, ns, n2, h, e => by
    obtain ⟨h1, h2⟩ := eqRL_split h
    have q := sm_of h1
    rw [dS] at e ⊢
    rw [← q.f0, ← q.f2]
    by_cases h6 : x.f0 = 6
    · rw [if_pos h6] at e ⊢
      split at e
      · cases e
      · split at e
        · cases e
        · rename_i a b
          rw [if_neg a, if_neg b]
          exact dS_same _ _ h2 e
    · rw [if_neg h6] at e ⊢
      exact dS_same _ _ h2 e
  | [], y :: ys, _, _, h, _ => by simp [eqRL] at h
  | x :: xs, [], _, _, h, _ => by simp [eqRL] at h
mutual
theorem cS_same : ∀ {l m : List S78} (ns : List ByteArray), eqRL false l m = true → cS l ns = none → cS m ns = none
  | [], [], _, _, h => h
  | x :: xs, y :: ys, ns, h, e => by
    obtain ⟨h1, h2⟩ := eqRL_split h
    rw [cS] at e ⊢
    cases hx : cN x ns with
    | some a => rw [hx] at e; cases e
    | none =>
      rw [hx] at e
      rw [cN_same ns h1 hx]
      exact cS_same ns h2 e
  | [], y :: ys, _, h, _ => by simp [eqRL] at h
  | x :: xs, [], _, h, _ => by simp [eqRL] at h
theorem cN_same : ∀ {x y : S78} (ns : List ByteArray), eqRN false x y = true → cN x ns = none → cN y ns = none
  | ⟨k, a, S, p, hh, f5, b, l⟩, ⟨k', a', S', p', hh', f5', b', l'⟩, ns, h, e => by
    obtain ⟨e0, e2, _, _, _, e6, e7⟩ := sm_of h
    dsimp only at e0 e2 e6 e7
    subst e0 e2
    rw [cN] at e ⊢
    split at e
    · cases e
    · rename_i q
      rw [if_neg q]
      cases hb : cS b ns with
      | some a => rw [hb] at e; cases e
      | none =>
        rw [hb] at e
        rw [cS_same ns e6 hb]
        exact cS_same ns e7 e
end
theorem dS_err2 : ∀ (l : List S78) (n0 : List ByteArray) (e : Int × Int), dS l n0 = .error e → e.2 ≠ 0
  | [], n0, e, h => by rw [dS] at h; cases h
  | x :: xs, n0, e, h => by
    rw [dS] at h
    split at h
    · split at h
      · cases h; show (12 : Int) ≠ 0; decide
      · split at h
        · cases h; show (14 : Int) ≠ 0; decide
        · exact dS_err2 xs _ e h
    · exact dS_err2 xs n0 e h
theorem checkF_same {l m : List S78} (h : eqRL false l m = true) (e : (checkF l).2 = 0) : (checkF m).2 = 0 := by
  unfold checkF at e ⊢
  cases hd : dS l [] with
  | error q =>
    exfalso
    rw [hd] at e
    dsimp only at e
    exact dS_err2 l _ q hd e
  | ok ns =>
    rw [hd] at e
    dsimp only at e
    rw [dS_same _ _ h hd]
    dsimp only
    cases hs : cS l ns with
    | some a => rw [hs] at e; cases e
    | none => rw [cS_same ns h hs]
/-- The same escapers, the same error. -/
def IE (s t : IS) : Prop := s.1 = t.1 ∧ s.2.2 = t.2.2
theorem failI_same {s t : IS} (h : IE s t) (a b e : Int) : IE (failI s a e) (failI t b e) := by
  unfold failI
  rw [h.2]
  split
  · exact ⟨h.1, rfl⟩
  · exact h
theorem expI_same {s t : IS} (h : IE s t) (a b : Int) (g w : HS) (e : Int) : IE (expI s a g w e) (expI t b g w e) := by
  unfold expI
  split
  · exact h
  · exact failI_same h _ _ _
mutual
theorem iL_same : ∀ {l m : List S78} (s : HS) (st tt : IS), eqRL false l m = true → IE st tt → (iL l s st).1 = (iL m s tt).1 ∧ IE (iL l s st).2 (iL m s tt).2
  | [], [], s, st, tt, _, h => by rw [iL, iL]; exact ⟨rfl, h⟩
  | x :: xs, y :: ys, s, st, tt, hq, h => by
    obtain ⟨h1, h2⟩ := eqRL_split hq
    rw [iL, iL, ← h.2]
    by_cases e : st.2.2 = 0
    · rw [if_pos e, if_pos e]
      obtain ⟨q1, q2⟩ := iN_same s st tt h1 h
      rw [q1]
      exact iL_same _ _ _ h2 q2
    · rw [if_neg e, if_neg e]
      exact ⟨rfl, h⟩
  | [], y :: ys, _, _, _, h, _ => by simp [eqRL] at h
  | x :: xs, [], _, _, _, h, _ => by simp [eqRL] at h
theorem iN_same : ∀ {x y : S78} (s : HS) (st tt : IS), eqRN false x y = true → IE st tt → (iN x s st).1 = (iN y s tt).1 ∧ IE (iN x s st).2 (iN y s tt).2
  | ⟨k, a, S, p, hh, f5, b, l⟩, ⟨k', a', S', p', hh', f5', b', l'⟩, s, st, tt, hq, h => by
    obtain ⟨e0, e2, _, _, _, e6, e7⟩ := sm_of hq
    dsimp only at e0 e2 e6 e7
    subst e0 e2
    rw [iN, iN]
    by_cases h0 : k = 0
    · rw [if_pos h0, if_pos h0]; exact ⟨rfl, h⟩
    rw [if_neg h0, if_neg h0]
    by_cases h1 : k = 1
    · rw [if_pos h1, if_pos h1]
      refine ⟨rfl, ?_⟩
      split
      · exact ⟨congrArg (· ++ _) h.1, h.2⟩
      · have := failI_same h a a' 15
        exact ⟨congrArg (· ++ _) this.1, this.2⟩
    rw [if_neg h1, if_neg h1]
    by_cases h4 : k = 4
    · rw [if_pos h4, if_pos h4]; exact ⟨rfl, expI_same h _ _ _ _ _⟩
    rw [if_neg h4, if_neg h4]
    by_cases h2 : k = 2
    · rw [if_pos h2, if_pos h2]
      obtain ⟨b1, b2⟩ := iL_same s st tt e6 h
      obtain ⟨c1, c2⟩ := iL_same s _ _ e7 b2
      rw [b1, c1]
      exact ⟨rfl, expI_same c2 _ _ _ _ _⟩
    rw [if_neg h2, if_neg h2]
    by_cases h3 : k = 3
    · rw [if_pos h3, if_pos h3]
      obtain ⟨b1, b2⟩ := iL_same s st tt e6 h
      rw [b1]
      exact ⟨rfl, expI_same b2 _ _ _ _ _⟩
    rw [if_neg h3, if_neg h3]
    by_cases h6 : k = 6
    · rw [if_pos h6, if_pos h6]
      obtain ⟨b1, b2⟩ := iL_same hz st tt e6 h
      rw [b1]
      exact ⟨rfl, expI_same b2 _ _ _ _ _⟩
    rw [if_neg h6, if_neg h6]
    exact ⟨rfl, h⟩
end
theorem inferF_same {l m : List S78} (h : eqRL false l m = true) : IE (inferF l) (inferF m) := by
  have h0 := iL_same hz ([], 0, 0) ([], 0, 0) h ⟨rfl, rfl⟩
  have hE : IE (inferE l) (inferE m) := by
    unfold inferE
    by_cases hn : l = []
    · subst hn
      have hm : m = [] := by
        cases m with
        | nil => rfl
        | cons y ys => simp [eqRL] at h
      subst hm
      rw [dif_pos rfl]
      exact ⟨rfl, rfl⟩
    · have hm : m ≠ [] := by
        rintro rfl
        cases l with
        | nil => exact hn rfl
        | cons y ys => simp [eqRL] at h
      rw [dif_neg hn, dif_neg hm, h0.1]
      exact expI_same h0.2 _ _ _ _ _
  unfold inferF
  rw [hE.2]
  split
  · exact ⟨hE.1, rfl⟩
  · exact ⟨rfl, rfl⟩
/-- Equal templates have the same code. -/
theorem compF_same {l m : List S78} (a b : Int) (h : eqRL false l m = true) (e : (compF (l, a, 0)).2.2 = 0) : compF (m, b, 0) = compF (l, a, 0) := by
  unfold compF at e ⊢
  rw [if_pos rfl] at e
  rw [if_pos rfl, if_pos rfl]
  unfold codeF at e ⊢
  dsimp only at e ⊢
  by_cases hc : (checkF l).2 = 0
  · rw [if_pos hc] at e
    have hi := inferF_same h
    rw [if_pos hc, if_pos (checkF_same h hc), ← hi.2, ← hi.1]
    by_cases hn : (inferF l).2.2 = 0
    · rw [if_pos hn, if_pos hn, codeS_same _ h]
    · rw [if_neg hn] at e; exact absurd e hn
  · rw [if_neg hc] at e; exact absurd e hc
end Go.Proofs.YtkpnfejfbmandaaDoor.Px

/- Contracts of printer.visit, printer.tokens, printer.Format. -/
namespace Go.Proofs.YtkpnfejfbmandaaDoor.Px
open Go.RowKit Go.Proofs.YtkpnfejfbmandaaDoorW.PrintWords Go.Proofs.YtkpnfejfbmandaaDoorW.PrintLast Go.Proofs.YtkpnfejfbmandaaDoorW.PrintMore
set_option linter.unusedVariables false
set_option linter.unusedSimpArgs false
attribute [local go_sem] Oper.semAt_some
theorem wpListIn_off {F : Fence} {n : Nat} {P : Program} {ops : Array Oper} {Q : Exit → Act → World → Prop} {a : Act} {w : World} {rest : List Oper} {o : Oper} (hw : Region.wanted o (yielded ops a.tmps) = false) (hF : ∀ f, F.fn f)
    (h : ∀ K : Act → World → Prop, (∀ a w, wpListIn F n P ops Q rest a w → K a w) → K (a.put o.dst undef) w) : wpListIn F n P ops Q (o :: rest) a w :=
  wpListIn_step fun K hK => by
    rw [if_neg (by rw [hw]; decide)]
    exact ⟨fun f _ => hF f, h K hK⟩
theorem wide_fn (f : FuncId) : Fence.wide.fn f := True.intro
theorem room_of_none {F : Fence} (hd : F.depth = none) (k : Nat) : F.room k := fun d h => by rw [hd] at h; cases h
theorem RoundIn.anyDepth {F : Fence} (hd : F.depth = none) {m m' : Nat} {P : Program} {l : Nat} {f : FuncId} {tmps : Array Value} {assign body : Code} {w : World} {R : Ending → World → Prop}
    (h : RoundIn F m P l f tmps assign body w R) : RoundIn F m' P l f tmps assign body w R := ⟨h.1, fun c cs _ => h.2 c cs (room_of_none hd _)⟩
theorem YieldAt.anyDepth {F : Fence} (hd : F.depth = none) {m : Nat} (m' : Nat) {P : Program} {l : Nat} {args : Array Value} {W : World} {R : Ending → World → Prop} (h : YieldAt F m P l args W R) : YieldAt F m' P l args W R := by
  obtain ⟨fn, tmps, assign, body, hy, hR⟩ := h
  exact ⟨fn, tmps, assign, body, hy, RoundIn.anyDepth hd hR⟩
abbrev VTk := Int × ByteArray × ByteArray × Bool
def tkV (x : VTk) : Value := .agg #[.int .i64 x.1, .int .i64 0, .string x.2.1, .string x.2.2.1, .bool x.2.2.2]
def tkElse : VTk := (7, ⟨#[]⟩, ⟨#[]⟩, false)
def tkEnd : VTk := (8, ⟨#[]⟩, ⟨#[]⟩, false)
mutual
def toksL : List S78 → List VTk
  | [] => []
  | x :: xs => toksN x ++ toksL xs
def toksN : S78 → List VTk
  | ⟨k, _, s, p, h, e, b, l⟩ => (k, s, p, h) :: (if k = 2 ∨ k = 3 ∨ k = 6 then toksL b ++ ((if e = true then tkElse :: toksL l else []) ++ [tkEnd]) else [])
end
theorem toksN_eq (x : S78) : toksN x = (x.f0, x.f2, x.f3, x.f4) :: (if x.f0 = 2 ∨ x.f0 = 3 ∨ x.f0 = 6 then toksL x.f6 ++ ((if x.f5 = true then tkElse :: toksL x.f7 else []) ++ [tkEnd]) else []) := by cases x; simp [toksN]
theorem toksL_cons (x : S78) (xs : List S78) : toksL (x :: xs) = toksN x ++ toksL xs := by simp [toksL]
theorem toksL_append : ∀ (xs ys : List S78), toksL (xs ++ ys) = toksL xs ++ toksL ys
  | [], ys => by simp [toksL]
  | x :: xs, ys => by rw [List.cons_append, toksL_cons, toksL_cons, toksL_append xs ys, List.append_assoc]
/-- Rows of nodes stand. -/
def KT (A B : World) : Prop := A.heap.size ≤ B.heap.size ∧ ∀ (k : Nat) (cs : Array Value) (fr : Nat × Nat), A.heap[k]? = some (Obj.cells cs 78 fr) → B.heap[k]? = some (Obj.cells cs 78 fr)
theorem KT.refl (A : World) : KT A A := ⟨Nat.le_refl _, fun _ _ _ h => h⟩
theorem KT.trans {A B C : World} (h : KT A B) (k : KT B C) : KT A C := ⟨Nat.le_trans h.1 k.1, fun _ _ _ hh => k.2 _ _ _ (h.2 _ _ _ hh)⟩
theorem KT.alloc (A : World) (o : Obj) : KT A (A.alloc o) := ⟨by simp, fun k cs fr h => blk_alloc h o⟩
section
variable (P : VTk → Prop) (w0 : World) (l N : Nat) (J Jx : List VTk → World → Prop)
abbrev YOK : Prop := ∀ m pre x W, P x → Below w0.heap.size w0 W → J pre W → pre.length < N → YieldAt Fence.wide m Tryd.prog l #[tkV x] W fun e W' =>
      (e = .returned (.bool true) ∧ J (pre ++ [x]) W' ∧ Below w0.heap.size w0 W' ∧ KT W W') ∨ (e = .returned (.bool false) ∧ Jx (pre ++ [x]) W')
abbrev visit.Con (a : List S78) : Prop := ∀ (n : Nat) (A : Option Addr) (c : Nat) (pre : List VTk) (W : World), (∀ y ∈ toksL a, P y) → Kd.C k78 w0 A a.length a → a.length ≤ c → Below w0.heap.size w0 W → J pre W → pre.length + (toksL a).length ≤ N →
  CallsIn Fence.wide n Tryd.prog 70 #[.slice A a.length c, .func (.yield l) #[] #[]] W fun e W' =>
    (e = .returned (.bool true) ∧ J (pre ++ toksL a) W' ∧ Below w0.heap.size w0 W' ∧ KT W W') ∨ (e = .returned (.bool false) ∧ ∃ q, Jx q W')
end
def ViRel (w0 W0 : World) (J : List VTk → World → Prop) (a : List S78) (pre : List VTk) (v9 : Value) (wr : World) : Prop :=
  ∃ i : Nat, i ≤ a.length ∧ v9 = .int .i64 i ∧ J (pre ++ toksL (a.take i)) wr ∧ Below w0.heap.size w0 wr ∧ KT W0 wr
set_option maxHeartbeats 2000000 in
set_option maxRecDepth 100000 in
theorem visit_step (P : VTk → Prop) (w0 : World) (l N : Nat) (J Jx : List VTk → World → Prop) (hJ : ∀ pre W o, J pre W → J pre (W.alloc o)) (hY : YOK P w0 l N J Jx) (a : List S78)
    (hx : ∀ x ∈ a, visit.Con P w0 l N J Jx x.f6 ∧ visit.Con P w0 l N J Jx x.f7) : visit.Con P w0 l N J Jx a := by
  intro n A c pre W hP ha hc hB h0 hN
  have hm := Kd.C_max ha
  have HY := Aside0.mk hY
  have HP := Aside0.mk hP
  have HX := Aside0.mk hx
  have HJ := Aside0.mk hJ
  replace ha := Aside0.mk ha
  replace hN := Aside0.mk hN
  have H0 : ViRel w0 W J a pre (.int .i64 0) W := ⟨0, Nat.zero_le _, rfl, by simpa [toksL] using h0, hB, KT.refl _⟩
  clear hP hY hx hJ hB h0
  refine callsIn_of_wp Tryd.func70 rfl trivial ?_ rfl
  simp only [Tryd.ntmps70, List.size_toArray, List.length_cons, List.length_nil, Nat.reduceAdd, Nat.reduceSub, Array.replicate_succ, Array.replicate_zero, List.push_toArray, List.append_toArray, List.nil_append, List.cons_append]
  gi_wp2
  gi_loopw [9] (fun v wr => ViRel w0 W J a pre v wr) (fun v _ => a.length - (intOf v).toNat)
  case atStart => exact H0
  case round =>
    clear H0
    obtain ⟨i, hi, rfl, hj, hB, hK⟩ := hrel
    by_cases hlt : i < a.length
    case neg =>
      obtain rfl : i = a.length := by omega
      rw [List.take_length] at hj
      replace hj := Aside0.mk hj
      replace hB := Aside0.mk hB
      replace hK := Aside0.mk hK
      gi_wp2
      go_ret
      exact .inl ⟨rfl, hj.out, hB.out, hK.out⟩
    have hx := HX.out a[i] (List.getElem_mem hlt)
    have htk : toksL a = toksL (a.take i) ++ (toksN a[i] ++ toksL (a.drop (i + 1))) := by
      have h1 : a = a.take i ++ (a[i] :: a.drop (i + 1)) := by rw [← List.drop_eq_getElem_cons hlt, List.take_append_drop]
      calc toksL a = toksL (a.take i ++ (a[i] :: a.drop (i + 1))) := congrArg toksL h1
        _ = _ := by rw [toksL_append, toksL_cons]
    have htk1 : toksL (a.take (i + 1)) = toksL (a.take i) ++ toksN a[i] := by rw [List.take_succ_eq_append_getElem hlt, toksL_append, toksL_cons]; simp [toksL]
    obtain ⟨ad, A6, c6, A7, c7, rfl, x0, x1, x2, x3, x4, x5, x6, x7, l6, g6, l7, g7⟩ := at_T78 ha.out (i : Int) (by omega) (by omega)
    rw [rd_T78_at a i hlt] at x0 x1 x2 x3 x4 x5 x6 x7 l6 g6 l7 g7
    rw [Int.toNat_natCast] at x0 x1 x2 x3 x4 x5 x6 x7
    have old : ∀ {q : Addr} {v : Value}, w0.cell? q = some v → wr.cell? q = some v := fun h => (hB.cell (World.block_lt_of_cell? _ _ h)).trans h
    replace x0 := old x0
    replace x1 := old x1
    replace x2 := old x2
    replace x3 := old x3
    replace x4 := old x4
    replace x5 := old x5
    replace x6 := old x6
    replace x7 := old x7
    clear old
    have hPN := Aside0.mk (show ∀ y ∈ toksN a[i], P y from fun y hy => HP.out y (by rw [htk]; simp [hy]))
    have hTN := Aside0.mk (toksN_eq a[i])
    have hTK := Aside0.mk htk
    have hT1 := Aside0.mk htk1
    clear htk htk1
    have HX6 := Aside0.mk hx.1
    have HX7 := Aside0.mk hx.2
    clear hx
    generalize a[i] = x at *
    replace g6 := Aside0.mk (And.intro g6 l6)
    replace g7 := Aside0.mk (And.intro g7 l7)
    clear l6 l7
    have hlen : (pre ++ toksL (a.take i)).length + (toksN x).length ≤ N := by
      have := hN.out; rw [hTK.out] at this; simp only [List.length_append] at this ⊢; omega
    have hlen1 : (pre ++ toksL (a.take i)).length < N := by rw [hTN.out] at hlen; simp only [List.length_cons] at hlen; omega
    replace hlen := Aside0.mk hlen
    obtain ⟨W1, hW1⟩ : ∃ W1, W1 = wr.alloc (.cells #[.int .i64 x.f0, .int .i64 x.f1, .string x.f2, .string x.f3, .bool x.f4, .bool x.f5, .slice A6 x.f6.length c6, .slice A7 x.f7.length c7] 78) := ⟨_, rfl⟩
    have hB1 : Below w0.heap.size w0 W1 := by rw [hW1]; exact below_alloc hB _
    have hK1 : KT W W1 := by rw [hW1]; exact hK.trans (KT.alloc _ _)
    have hj1 : J (pre ++ toksL (a.take i)) W1 := by rw [hW1]; exact HJ.out _ _ _ hj
    have hb1 : W1.heap[wr.heap.size]? = some (.cells #[.int .i64 x.f0, .int .i64 x.f1, .string x.f2, .string x.f3, .bool x.f4, .bool x.f5, .slice A6 x.f6.length c6, .slice A7 x.f7.length c7] 78 (0, 0)) := by rw [hW1]; exact blk_new _ _
    obtain ⟨fn, tmps, assign, body, hy, hR⟩ := HY.out (n - 1) _ (x.f0, x.f2, x.f3, x.f4) W1 (hPN.out _ (by rw [hTN.out]; simp)) hB1 hj1 hlen1
    rw [hW1] at hy hR
    dsimp only [tkV] at hy
    replace hR := Aside0.mk hR
    replace hj := Aside0.mk hj1
    replace hB := Aside0.mk hB1
    replace hK := Aside0.mk hK1
    replace hb1 := Aside0.mk hb1
    have HW1 := Aside0.mk hW1
    clear hB1 hj1 hK1 hW1 hlen1
    gi_wp2_with fail
    refine ⟨fun h => (by cases h), ?_⟩
    refine hR.out.mono ?_
    rintro e W2 (⟨rfl, hjW2, hBW2, hKW2⟩ | ⟨rfl, hx⟩)
    case inr =>
      gi_wp2_with (refine wpListIn_off rfl wide_fn (fun _ _ => ?_); go_simp)
      go_ret
      exact .inr ⟨rfl, _, hx⟩
    rw [← HW1.out] at hKW2
    have hKT := hK
    have hbW1 := hb1
    clear hR hy fn tmps assign body hj hB hK hb1 x0 x1 x2 x3 x4 x5 x6 x7
    have hbW2 := hKW2.2 _ _ _ hbW1.out
    have y0_W2 : W2.cell? ⟨wr.heap.size, 0, none⟩ = some (.int .i64 x.f0) := (blk_cell hbW2 0).trans rfl
    have y5_W2 : W2.cell? ⟨wr.heap.size, 5, none⟩ = some (.bool x.f5) := (blk_cell hbW2 5).trans rfl
    have y6_W2 : W2.cell? ⟨wr.heap.size, 6, none⟩ = some (.slice A6 x.f6.length c6) := (blk_cell hbW2 6).trans rfl
    have y7_W2 : W2.cell? ⟨wr.heap.size, 7, none⟩ = some (.slice A7 x.f7.length c7) := (blk_cell hbW2 7).trans rfl
    replace hKT := Aside0.mk (hKT.out.trans hKW2)
    replace hbW2 := Aside0.mk hbW2
    replace hjW2 := Aside0.mk hjW2
    replace hBW2 := Aside0.mk hBW2
    clear hKW2 hbW1
    by_cases hblk : x.f0 = 2 ∨ x.f0 = 3 ∨ x.f0 = 6
    case neg =>
      have hT2 := Aside0.mk (show toksN x = [(x.f0, x.f2, x.f3, x.f4)] by rw [hTN.out, if_neg hblk])
      have e2 : (x.f0 != 2) = true := by rw [bne_iff_ne]; exact fun e => hblk (.inl e)
      have e3 : (x.f0 != 3) = true := by rw [bne_iff_ne]; exact fun e => hblk (.inr (.inl e))
      have e6 : (x.f0 != 6) = true := by rw [bne_iff_ne]; exact fun e => hblk (.inr (.inr e))
      clear hblk
      gi_wp2_with (refine wpListIn_off rfl wide_fn (fun _ _ => ?_); go_simp)
      exact ⟨⟨i + 1, by omega, by go_num, by rw [hT1.out, hT2.out, ← List.append_assoc]; exact hjW2.out, hBW2.out, hKT.out⟩, by simp [intOf]; omega⟩
    have hT2 := Aside0.mk (show toksN x = (x.f0, x.f2, x.f3, x.f4) :: (toksL x.f6 ++ ((if x.f5 = true then tkElse :: toksL x.f7 else []) ++ [tkEnd])) by rw [hTN.out, if_pos hblk])
    have hk : ((x.f0 != 2) = false) ∨ ((x.f0 != 2) = true ∧ (x.f0 != 3) = false) ∨ ((x.f0 != 2) = true ∧ (x.f0 != 3) = true ∧ (x.f0 != 6) = false) := by
      rcases hblk with h | h | h <;> rw [h] <;> decide
    clear hblk
    have hn6 : (pre ++ toksL (a.take i) ++ [(x.f0, x.f2, x.f3, x.f4)]).length + (toksL x.f6).length ≤ N := by
      have := hlen.out; rw [hT2.out] at this; simp only [List.length_append, List.length_cons, List.length_nil] at this ⊢; omega
    replace hn6 := Aside0.mk hn6
    rcases hk with e2 | ⟨e2, e3⟩ | ⟨e2, e3, e6⟩
    all_goals
      gi_wp2_with (refine wpListIn_off rfl wide_fn (fun _ _ => ?_); go_simp)
      refine ⟨trivial, fun h => (by cases h), ?_⟩
      refine (HX6.out (n - 1) A6 c6 _ W2 (fun y hy => hPN.out y (by rw [hT2.out]; simp [hy])) g6.out.1 g6.out.2 hBW2.out hjW2.out hn6.out).mono ?_
      rintro e W3 (⟨rfl, hjW3, hBW3, hKW3⟩ | ⟨rfl, q, hx⟩)
      case inr =>
        gi_wp2_with (refine wpListIn_off rfl wide_fn (fun _ _ => ?_); go_simp)
        gi_wp2_with (refine wpListIn_off rfl wide_fn (fun _ _ => ?_); go_simp)
        go_ret
        exact .inr ⟨rfl, q, hx⟩
      have hbW3 := hKW3.2 _ _ _ hbW2.out
      have y0_W3 : W3.cell? ⟨wr.heap.size, 0, none⟩ = some (.int .i64 x.f0) := (blk_cell hbW3 0).trans rfl
      have y5_W3 : W3.cell? ⟨wr.heap.size, 5, none⟩ = some (.bool x.f5) := (blk_cell hbW3 5).trans rfl
      have y6_W3 : W3.cell? ⟨wr.heap.size, 6, none⟩ = some (.slice A6 x.f6.length c6) := (blk_cell hbW3 6).trans rfl
      have y7_W3 : W3.cell? ⟨wr.heap.size, 7, none⟩ = some (.slice A7 x.f7.length c7) := (blk_cell hbW3 7).trans rfl
      replace hKT := Aside0.mk (hKT.out.trans hKW3)
      replace hbW3 := Aside0.mk hbW3
      replace hjW3 := Aside0.mk hjW3
      replace hBW3 := Aside0.mk hBW3
      clear hKW3 hbW2 hjW2 hBW2 y0_W2 y5_W2 y6_W2 y7_W2
      cases hf5 : x.f5
      case false =>
        have hT3 := Aside0.mk (show toksN x = (x.f0, x.f2, x.f3, x.f4) :: (toksL x.f6 ++ [tkEnd]) by rw [hT2.out, hf5]; simp)
        rw [hf5] at y5_W3
        have hn : (pre ++ toksL (a.take i) ++ [(x.f0, x.f2, x.f3, x.f4)] ++ toksL x.f6).length < N := by
          have := hlen.out; rw [hT3.out] at this; simp only [List.length_append, List.length_cons, List.length_nil] at this ⊢; omega
        obtain ⟨fn, tmps, assign, body, hy, hR⟩ := HY.out (n - 1) _ tkEnd W3 (hPN.out _ (by rw [hT3.out]; simp)) hBW3.out hjW3.out hn
        dsimp only [tkV, tkEnd] at hy
        replace hR := Aside0.mk hR
        clear hn
        gi_wp2_with (refine wpListIn_off rfl wide_fn (fun _ _ => ?_); go_simp)
        refine ⟨fun h => (by cases h), ?_⟩
        refine hR.out.mono ?_
        rintro e W4 (⟨rfl, hjW4, hBW4, hKW4⟩ | ⟨rfl, hx⟩)
        case inr =>
          gi_wp2_with (refine wpListIn_off rfl wide_fn (fun _ _ => ?_); go_simp)
          go_ret
          exact .inr ⟨rfl, _, hx⟩
        replace hKT := Aside0.mk (hKT.out.trans hKW4)
        replace hjW4 := Aside0.mk hjW4
        replace hBW4 := Aside0.mk hBW4
        clear hKW4 hR hy fn tmps assign body
        gi_wp2_with (refine wpListIn_off rfl wide_fn (fun _ _ => ?_); go_simp)
        refine ⟨⟨i + 1, by omega, by go_num, ?_, hBW4.out, hKT.out⟩, by simp [intOf]; omega⟩
        have := hjW4.out
        rw [hT1.out, hT3.out]
        simpa [List.append_assoc] using this
      case true =>
        have hT3 := Aside0.mk (show toksN x = (x.f0, x.f2, x.f3, x.f4) :: (toksL x.f6 ++ (tkElse :: (toksL x.f7 ++ [tkEnd]))) by rw [hT2.out, hf5]; simp)
        rw [hf5] at y5_W3
        have hn : (pre ++ toksL (a.take i) ++ [(x.f0, x.f2, x.f3, x.f4)] ++ toksL x.f6).length < N := by
          have := hlen.out; rw [hT3.out] at this; simp only [List.length_append, List.length_cons, List.length_nil] at this ⊢; omega
        have hn7 : (pre ++ toksL (a.take i) ++ [(x.f0, x.f2, x.f3, x.f4)] ++ toksL x.f6 ++ [tkElse]).length + (toksL x.f7).length ≤ N := by
          have := hlen.out; rw [hT3.out] at this; simp only [List.length_append, List.length_cons, List.length_nil] at this ⊢; omega
        have hn8 : (pre ++ toksL (a.take i) ++ [(x.f0, x.f2, x.f3, x.f4)] ++ toksL x.f6 ++ [tkElse] ++ toksL x.f7).length < N := by
          have := hlen.out; rw [hT3.out] at this; simp only [List.length_append, List.length_cons, List.length_nil] at this ⊢; omega
        replace hn7 := Aside0.mk hn7
        replace hn8 := Aside0.mk hn8
        obtain ⟨fn, tmps, assign, body, hy, hR⟩ := HY.out (n - 1) _ tkElse W3 (hPN.out _ (by rw [hT3.out]; simp)) hBW3.out hjW3.out hn
        dsimp only [tkV, tkElse] at hy
        replace hR := Aside0.mk hR
        clear hn
        gi_wp2_with (refine wpListIn_off rfl wide_fn (fun _ _ => ?_); go_simp)
        refine ⟨fun h => (by cases h), ?_⟩
        refine hR.out.mono ?_
        rintro e W4 (⟨rfl, hjW4, hBW4, hKW4⟩ | ⟨rfl, hx⟩)
        case inr =>
          gi_wp2_with (refine wpListIn_off rfl wide_fn (fun _ _ => ?_); go_simp)
          go_ret
          exact .inr ⟨rfl, _, hx⟩
        clear hR hy fn tmps assign body
        have hbW4 := hKW4.2 _ _ _ hbW3.out
        have y0_W4 : W4.cell? ⟨wr.heap.size, 0, none⟩ = some (.int .i64 x.f0) := (blk_cell hbW4 0).trans rfl
        have y5_W4 : W4.cell? ⟨wr.heap.size, 5, none⟩ = some (.bool x.f5) := (blk_cell hbW4 5).trans rfl
        have y6_W4 : W4.cell? ⟨wr.heap.size, 6, none⟩ = some (.slice A6 x.f6.length c6) := (blk_cell hbW4 6).trans rfl
        have y7_W4 : W4.cell? ⟨wr.heap.size, 7, none⟩ = some (.slice A7 x.f7.length c7) := (blk_cell hbW4 7).trans rfl
        replace hKT := Aside0.mk (hKT.out.trans hKW4)
        replace hbW4 := Aside0.mk hbW4
        replace hjW4 := Aside0.mk hjW4
        replace hBW4 := Aside0.mk hBW4
        clear hKW4 hbW3 hjW3 hBW3 y0_W3 y5_W3 y6_W3 y7_W3
        gi_wp2_with (refine wpListIn_off rfl wide_fn (fun _ _ => ?_); go_simp)
        refine ⟨trivial, fun h => (by cases h), ?_⟩
        refine (HX7.out (n - 1) A7 c7 _ W4 (fun y hy => hPN.out y (by rw [hT3.out]; simp [hy])) g7.out.1 g7.out.2 hBW4.out hjW4.out hn7.out).mono ?_
        rintro e W5 (⟨rfl, hjW5, hBW5, hKW5⟩ | ⟨rfl, q, hx⟩)
        case inr =>
          gi_wp2_with (refine wpListIn_off rfl wide_fn (fun _ _ => ?_); go_simp)
          go_ret
          exact .inr ⟨rfl, q, hx⟩
        replace hKT := Aside0.mk (hKT.out.trans hKW5)
        obtain ⟨fn, tmps, assign, body, hy, hR⟩ := HY.out (n - 1) _ tkEnd W5 (hPN.out _ (by rw [hT3.out]; simp)) hBW5 hjW5 hn8.out
        dsimp only [tkV, tkEnd] at hy
        replace hR := Aside0.mk hR
        replace hjW5 := Aside0.mk hjW5
        replace hBW5 := Aside0.mk hBW5
        gi_wp2_with (refine wpListIn_off rfl wide_fn (fun _ _ => ?_); go_simp)
        refine ⟨fun h => (by cases h), ?_⟩
        refine hR.out.mono ?_
        rintro e W6 (⟨rfl, hjW6, hBW6, hKW6⟩ | ⟨rfl, hx⟩)
        case inr =>
          gi_wp2_with (refine wpListIn_off rfl wide_fn (fun _ _ => ?_); go_simp)
          go_ret
          exact .inr ⟨rfl, _, hx⟩
        replace hKT := Aside0.mk (hKT.out.trans hKW6)
        replace hjW6 := Aside0.mk hjW6
        replace hBW6 := Aside0.mk hBW6
        clear hKW5 hKW6 hR hy fn tmps assign body
        gi_wp2_with (refine wpListIn_off rfl wide_fn (fun _ _ => ?_); go_simp)
        refine ⟨⟨i + 1, by omega, by go_num, ?_, hBW6.out, hKT.out⟩, by simp [intOf]; omega⟩
        have := hjW6.out
        rw [hT1.out, hT3.out]
        simpa [List.append_assoc] using this
end Go.Proofs.YtkpnfejfbmandaaDoor.Px

/- Contract of (*strings.Builder).WriteString at this program. -/
namespace Go.Proofs.YtkpnfejfbmandaaDoor.Px
open Go.RowKit
set_option linter.unusedVariables false
set_option linter.unusedSimpArgs false
theorem wb_ptr : Tryd.prog.underlying 53 = some (.pointer 56) := by kernel_rfl
theorem wb_uns : Tryd.prog.underlying 150 = some .unsafePointer := by kernel_rfl
theorem wb_size : (Tryd.prog.info? 56).map (·.size) = some 2 := by kernel_rfl
theorem wb_lies : liesAt Tryd.prog Tryd.prog.depth 56 (2 / Tryd.prog.cellsOf 56) 0 56 1 = true := by kernel_rfl
theorem wb_byte : (Tryd.prog.info? 5).map (fun i => (i.zero, i.size, i.bytes)) = some (some (.int .u8 0), 1, 1) := by kernel_rfl
set_option maxRecDepth 100000 in
theorem wb_copyCheck_fresh (b : Nat) (w : World) (hc : w.cell? ⟨b, 0, none⟩ = some (.pointer none)) (hs : w.shape? b = some (56, 2)) (hf : w.frozen? ⟨b, 0, none⟩ = false) :
    Calls Tryd.prog 49 #[.pointer (some ⟨b, 0, none⟩)] w fun e w' => e = .returned (.tuple #[]) ∧ w' = w.setCell ⟨b, 0, none⟩ (.pointer (some ⟨b, 0, none⟩)) := by
  obtain ⟨j, hj, hjs⟩ := Option.map_eq_some_iff.1 wb_size
  go_enter Tryd.func49, Tryd.ntmps49
  go_wp2
  rw [Lib.run_to_unsafe w ⟨b, 0, none⟩ wb_ptr wb_uns hj (by rw [hjs]; decide) hs (Nat.zero_lt_succ 1)]
  simp only [Result.andThen]
  rw [Oper.upon_value]
  go_wp2
  rw [run_callFunc_extern Tryd.func73 (by kernel_rfl) (by kernel_rfl) (by kernel_rfl) (e := Extern.AbiNoEscape.same) (by kernel_rfl)]
  rw [Lib.run_noEscape]
  simp only [Result.andThen]
  rw [Oper.upon_value]
  go_wp2
  rw [Lib.run_from_unsafe w ⟨b, 0, none⟩ wb_uns wb_ptr hj hs wb_lies]
  simp only [Result.andThen]
  rw [Oper.upon_value]
  go_wp2
  go_end0
  exact ⟨rfl, rfl⟩
set_option maxRecDepth 100000 in
theorem wb_copyCheck_used (b : Nat) (w : World) (hc : w.cell? ⟨b, 0, none⟩ = some (.pointer (some ⟨b, 0, none⟩))) :
    Calls Tryd.prog 49 #[.pointer (some ⟨b, 0, none⟩)] w fun e w' => e = .returned (.tuple #[]) ∧ w' = w := by
  obtain ⟨j, hj, _⟩ := Option.map_eq_some_iff.1 wb_size
  go_enter Tryd.func49, Tryd.ntmps49
  go_wp2
  rw [Lib.run_neq_ptr_same (w := w) _ wb_ptr hj]
  go_wp2
  go_end0
  exact ⟨rfl, rfl⟩
set_option maxRecDepth 100000 in
theorem wb_copyCheck (B b : Nat) (bs : List Value) (w : World) (h : Lib.IsBuilderF 56 5 B b bs w) :
    Calls Tryd.prog 49 #[.pointer (some ⟨b, 0, none⟩)] w fun e w' => e = .returned (.tuple #[]) ∧ (Lib.BuilderAtF 56 5 B b (.pointer (some ⟨b, 0, none⟩)) bs w' ∧ Below B w w' ∧ Lib.OthersKept 5 (some b) w w') := by
  rcases h with h | h
  · refine (wb_copyCheck_fresh b w h.cell0 h.shape h.frozen0).mono ?_
    rintro e w' ⟨rfl, rfl⟩
    exact ⟨rfl, h.used _, (Below.refl B w).setCell (p := ⟨b, 0, none⟩) h.1 _, (Lib.OthersKept.refl _ _ w).setCell ⟨b, 0, none⟩ rfl _⟩
  · refine (wb_copyCheck_used b w h.cell0).mono ?_
    rintro e w' ⟨rfl, rfl⟩
    exact ⟨rfl, h, Below.refl B _, Lib.OthersKept.refl _ _ _⟩
set_option maxHeartbeats 2000000 in
set_option maxRecDepth 100000 in
theorem wb_WriteString (B b : Nat) (bs : List Value) (s : ByteArray) (w : World) (h : Lib.IsBuilderF 56 5 B b bs w) (hlen : bs.length + s.size ≤ 140737488355328) (hBw : B ≤ w.heap.size) :
    Calls Tryd.prog 27 #[.pointer (some ⟨b, 0, none⟩), .string s] w fun e w' => e = .returned (.tuple #[.int .i64 s.size, .nilIface]) ∧ (Lib.BuilderAtF 56 5 B b (.pointer (some ⟨b, 0, none⟩)) (bs ++ Lib.strCells s) w' ∧ Below B w w' ∧ Lib.OthersKept 5 (some b) w w') := by
  obtain ⟨i0, hi, hz0, hz1, hz2⟩ := info_parts wb_byte
  go_enter Tryd.func27, Tryd.ntmps27
  go_wp2_with fail
  refine (wb_copyCheck B b bs _ h).mono ?_
  rintro e w1 ⟨rfl, h1, hb1, hk1⟩
  obtain ⟨hB, v, hbk, hown, hne⟩ := h1
  have c0 : w1.cell? ⟨b, 0, none⟩ = some (.pointer (some ⟨b, 0, none⟩)) := by rw [Lib.cell_of_heap hbk]; rfl
  have c1 : w1.cell? ⟨b, 1, none⟩ = some v := by rw [Lib.cell_of_heap hbk]; rfl
  go_wp2_with (at_builtin; refine Lib.wpList_append_own_stringF _ rfl _ _ 54 9 rfl B 5 i0 (by kernel_rfl) (by kernel_rfl) hi hz0 hz1 hz2 _ _ _ rfl hown s rfl ?c3 ?c4 ?c5 ?_)
  case c3 => unfold maxLen; omega
  case c4 => omega
  case c5 => have := hb1.size; omega
  intro v' w2 hown' hgrow _
  have hlt : b < w1.heap.size := (Array.getElem?_eq_some_iff.1 hbk).1
  have hb2 : w2.heap[b]? = some (.cells #[.pointer (some ⟨b, 0, none⟩), v] 56 (0, 0)) := by
    rw [hgrow.block b hlt (fun e => hne e.symm)]
    exact hbk
  have d0 : w2.cell? ⟨b, 0, none⟩ = some (.pointer (some ⟨b, 0, none⟩)) := by rw [Lib.cell_of_heap hb2]; rfl
  have d1 : w2.cell? ⟨b, 1, none⟩ = some v := by rw [Lib.cell_of_heap hb2]; rfl
  have f1 : w2.frozen? ⟨b, 1, none⟩ = false := Lib.frozen_of_heap hb2 1
  obtain ⟨ao, n', cap, rfl⟩ : ∃ ao n' cap, v' = .slice ao n' cap := by
    rcases hown'.2 with ⟨hv, _⟩ | ⟨g, cap, cur, fz, hv, _⟩
    · exact ⟨_, _, _, hv⟩
    · exact ⟨_, _, _, hv⟩
  go_wp2
  go_ret2
  refine ⟨rfl, ?_, ?_, (hk1.grown hgrow (Lib.ownsRowF_kind hown)).setCell ⟨b, 1, none⟩ rfl _⟩
  · exact Lib.BuilderAtF.put (T := 56) (e := 5) hB hb2 (bs' := bs ++ Lib.strCells s) (by simpa [Lib.strCells_length] using hown') (by decide)
  · exact (hb1.grown hgrow (by have := hb1.size; omega) (fun k hk => (hown.lt k hk).1)).setCell (p := ⟨b, 1, none⟩) hB _
end Go.Proofs.YtkpnfejfbmandaaDoor.Px
