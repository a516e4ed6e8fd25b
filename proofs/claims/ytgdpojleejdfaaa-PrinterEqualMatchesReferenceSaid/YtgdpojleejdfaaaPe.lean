/- Plain laws: the parsed template is small; the reference's Equal is reflexive; PrinterStripIsolated. -/
import Derived.Test.YtgdpojleejdfaaaPc
import Derived.Test.YtgdpojleejdfaaaSc
import Derived.Test.YtgdpojleejdfaaaPz2
namespace Go.Proofs.Ytgdpojleejdfaaa.Px
open Go.RowKit Go.Proofs.YtgdpojleejdfaaaW.PrintWords Go.Proofs.YtgdpojleejdfaaaW.PrintLast Go.Proofs.YtgdpojleejdfaaaW.PrintMore
set_option linter.unusedVariables false
set_option linter.unusedSimpArgs false

theorem nL_append : ∀ (xs ys : List S29), nL (xs ++ ys) = nL xs + nL ys
  | [], ys => by simp [nL]
  | x :: xs, ys => by rw [List.cons_append, nL_cons, nL_cons, nL_append xs ys]; omega
theorem nL_one (x : S29) : nL [x] = nN x := by rw [nL_cons]; simp [nL]
abbrev nOk (l : List S29) : Prop := nL l ≤ (toksL l).length
theorem parse_nL (l : List S52) : ∀ (k : Nat), (∀ (i nn op : Int) (ie : Bool) (dp : Int) (out : List S29) (r), rlist k l i nn op ie dp out = some r → nOk out → r.2.2.1 = 0 → nOk r.1) ∧ (∀ (i nn dp : Int) (r), rnode k l i nn dp = some r → r.2.2.1 = 0 → nN r.1 ≤ (toksN r.1).length) := by
  intro k
  induction k with
  | zero => exact ⟨fun i nn op ie dp out r h => by simp [rlist] at h, fun i nn dp r h => by simp [rnode] at h⟩
  | succ k ih =>
    obtain ⟨ihl, ihn⟩ := ih
    refine ⟨?_, ?_⟩
    · intro i nn op ie dp out r h ho hr
      rw [rlist_succ] at h
      by_cases c1 : i < (l.length : Int)
      case neg => rw [if_neg c1] at h; cases h; exact ho
      rw [if_pos c1] at h
      by_cases c2 : 0 ≤ i ∧ out.length < 100000
      case neg => rw [if_neg c2] at h; cases h
      rw [if_pos c2] at h
      by_cases c3 : (rd_T52 l i).f0 = 7
      · rw [if_pos c3] at h
        repeat' split at h
        all_goals (cases h; first | exact ho | cases hr)
      rw [if_neg c3] at h
      by_cases c4 : (rd_T52 l i).f0 = 8
      · rw [if_pos c4] at h
        split at h
        all_goals (cases h; first | exact ho | cases hr)
      rw [if_neg c4] at h
      obtain ⟨q, hq, h⟩ := Option.bind_eq_some_iff.1 h
      by_cases c5 : q.2.2.1 = 0
      · rw [if_pos c5] at h
        refine ihl _ _ _ _ _ _ _ h ?_ hr
        have := ihn _ _ _ _ hq c5
        show nL _ ≤ _
        rw [nL_append, nL_one, toksL_append, toksL_one, List.length_append]
        exact Nat.add_le_add ho this
      · rw [if_neg c5] at h
        cases h
        exact absurd hr c5
    · intro i nn dp r h hr
      rw [rnode] at h
      by_cases c0 : 0 ≤ i ∧ i < (l.length : Int) ∧ i ≤ 100000 ∧ 0 ≤ nn ∧ 0 ≤ dp
      case neg => rw [if_neg c0] at h; cases h
      rw [if_pos c0] at h
      dsimp only at h
      generalize rd_T52 l i = t at h
      by_cases c1 : t.f0 = 6 ∧ dp > 0
      · rw [if_pos c1] at h; cases h; cases hr
      rw [if_neg c1] at h
      by_cases c2 : (t.f0 = 2 ∨ t.f0 = 3 ∨ t.f0 = 6) ∧ dp ≥ 32
      · rw [if_pos c2] at h; cases h; cases hr
      rw [if_neg c2] at h
      by_cases c3 : nn ≥ 4096
      · rw [if_pos c3] at h; cases h; cases hr
      rw [if_neg c3] at h
      by_cases hblk : t.f0 = 2 ∨ t.f0 = 3 ∨ t.f0 = 6
      case neg =>
        rw [if_neg hblk] at h
        cases h
        rw [nN_eq, toksN_eq]
        simp [nL]
      rw [if_pos hblk] at h
      obtain ⟨q, hq, h⟩ := Option.bind_eq_some_iff.1 h
      by_cases c5 : q.2.2.1 = 0
      case neg => rw [if_neg c5] at h; cases h; exact absurd hr c5
      rw [if_pos c5] at h
      have n1 : nL q.1 ≤ (toksL q.1).length := ihl _ _ _ _ _ _ _ hq (by simp [nL]) c5
      by_cases c6 : q.2.2.2.1 < (l.length : Int)
      case neg => rw [if_neg c6] at h; cases h; cases hr
      rw [if_pos c6] at h
      by_cases c7 : 0 ≤ q.2.2.2.1 ∧ q.2.2.2.1 ≤ 100000
      case neg => rw [if_neg c7] at h; cases h
      rw [if_pos c7] at h
      by_cases c8 : (rd_T52 l q.2.2.2.1).f0 = 7
      · rw [if_pos c8] at h
        obtain ⟨q2, hq2, h⟩ := Option.bind_eq_some_iff.1 h
        by_cases c9 : q2.2.2.1 = 0
        case neg => rw [if_neg c9] at h; cases h; exact absurd hr c9
        rw [if_pos c9] at h
        have n2 : nL q2.1 ≤ (toksL q2.1).length := ihl _ _ _ _ _ _ _ hq2 (by simp [nL]) c9
        by_cases c10 : q2.2.2.2.1 ≥ (l.length : Int)
        · rw [if_pos c10] at h; cases h; cases hr
        rw [if_neg c10] at h
        by_cases c11 : 0 ≤ q2.2.2.2.1 ∧ q2.2.2.2.1 ≤ 100000
        case neg => rw [if_neg c11] at h; cases h
        rw [if_pos c11] at h
        cases h
        rw [nN_eq, toksN_eq]
        simp only [if_pos hblk, if_true, List.length_cons, List.length_append, List.length_nil]
        omega
      · rw [if_neg c8] at h
        cases h
        rw [nN_eq, toksN_eq]
        simp only [if_pos hblk, Bool.false_eq_true, if_false, List.nil_append, List.length_cons, List.length_append, List.length_nil, nL]
        omega

theorem parsed_nL (s : ByteArray) (k : Nat) (l : List S29) (h : tmplpipelaw13_parsed.f k s = some l) : nOk l := by
  unfold tmplpipelaw13_parsed.f at h
  split at h
  · cases h; simp [nL]
  · obtain ⟨r, hr, h⟩ := Option.bind_eq_some_iff.1 h
    split at h
    · rename_i he
      cases h
      unfold tmplpiperef12_Parse.f at hr
      obtain ⟨t, ht, hr⟩ := Option.bind_eq_some_iff.1 hr
      split at hr
      · obtain ⟨q, hq, hr⟩ := Option.bind_eq_some_iff.1 hr
        split at hr
        · rename_i hz
          cases hr
          exact (parse_nL t.1 k).1 _ _ _ _ _ _ _ hq (by simp [nL]) hz
        · cases hr; simp [nL]
      · cases hr; simp [nL]
    · cases h; simp [nL]

/-- The reference's Equal. -/
def hdR (at_ : Bool) (x y : S29) : Bool := (x.f0 == y.f0) && ((!at_) || (x.f1 == y.f1)) && decide (x.f2.toList = y.f2.toList) && decide (x.f3.toList = y.f3.toList) && (x.f4 == y.f4) && (x.f5 == y.f5)
mutual
def eqRL (at_ : Bool) : List S29 → List S29 → Bool
  | [], [] => true
  | x :: xs, y :: ys => eqRN at_ x y && eqRL at_ xs ys
  | _, _ => false
def eqRN (at_ : Bool) : S29 → S29 → Bool
  | ⟨k, a, s, p, h, e, b, l⟩, y => hdR at_ ⟨k, a, s, p, h, e, [], []⟩ y && (eqRL at_ b y.f6 && eqRL at_ l y.f7)
end
theorem eqRN_eq (at_ : Bool) (x y : S29) : eqRN at_ x y = (hdR at_ x y && (eqRL at_ x.f6 y.f6 && eqRL at_ x.f7 y.f7)) := by cases x; simp [eqRN, hdR]
theorem eqRL_cons (at_ : Bool) (x y : S29) (xs ys : List S29) : eqRL at_ (x :: xs) (y :: ys) = (eqRN at_ x y && eqRL at_ xs ys) := by simp [eqRL]
theorem eqRL_len (at_ : Bool) : ∀ (a b : List S29), a.length ≠ b.length → eqRL at_ a b = false
  | [], [], h => absurd rfl h
  | [], _ :: _, _ => by simp [eqRL]
  | _ :: _, [], _ => by simp [eqRL]
  | x :: xs, y :: ys, h => by rw [eqRL_cons, eqRL_len at_ xs ys (fun e => h (by simp [e])), Bool.and_false]
theorem ref12_l0 (k : Nat) (l m : List S29) (at_ : Bool) (i : Int) (h0 : 0 ≤ i) (h1 : i < (l.length : Int)) (h2 : i < (m.length : Int)) :
    tmplpiperef12_Equal.l0 (k + 1) l m at_ i = tmplpiperef12_Equal.j1 k l m at_ i (!(hdR at_ (rd_T29 l i) (rd_T29 m i))) (rd_T29 l i).f0 (rd_T29 l i).f1 (rd_T29 l i).f2 (rd_T29 l i).f3 (rd_T29 l i).f4 (rd_T29 l i).f5 (rd_T29 l i).f6 (rd_T29 l i).f7 (rd_T29 m i).f0 (rd_T29 m i).f1 (rd_T29 m i).f2 (rd_T29 m i).f3 (rd_T29 m i).f4 (rd_T29 m i).f5 (rd_T29 m i).f6 (rd_T29 m i).f7 := by
  rw [tmplpiperef12_Equal.l0, if_pos h1, if_pos h0, if_pos h2]
  generalize rd_T29 l i = x
  generalize rd_T29 m i = y
  unfold hdR
  by_cases c0 : x.f0 = y.f0
  case neg => rw [if_neg c0]; simp [beq_eq_false_iff_ne.2 c0]
  rw [if_pos c0]
  have tail : (if x.f2.toList = y.f2.toList then (if x.f3.toList = y.f3.toList then (if (x.f4 != y.f4) = true then (tmplpiperef12_Equal.j1 k l m at_ i true x.f0 x.f1 x.f2 x.f3 x.f4 x.f5 x.f6 x.f7 y.f0 y.f1 y.f2 y.f3 y.f4 y.f5 y.f6 y.f7) else (tmplpiperef12_Equal.j1 k l m at_ i (x.f5 != y.f5) x.f0 x.f1 x.f2 x.f3 x.f4 x.f5 x.f6 x.f7 y.f0 y.f1 y.f2 y.f3 y.f4 y.f5 y.f6 y.f7)) else (tmplpiperef12_Equal.j1 k l m at_ i true x.f0 x.f1 x.f2 x.f3 x.f4 x.f5 x.f6 x.f7 y.f0 y.f1 y.f2 y.f3 y.f4 y.f5 y.f6 y.f7)) else (tmplpiperef12_Equal.j1 k l m at_ i true x.f0 x.f1 x.f2 x.f3 x.f4 x.f5 x.f6 x.f7 y.f0 y.f1 y.f2 y.f3 y.f4 y.f5 y.f6 y.f7))
      = tmplpiperef12_Equal.j1 k l m at_ i (!(decide (x.f2.toList = y.f2.toList) && decide (x.f3.toList = y.f3.toList) && (x.f4 == y.f4) && (x.f5 == y.f5))) x.f0 x.f1 x.f2 x.f3 x.f4 x.f5 x.f6 x.f7 y.f0 y.f1 y.f2 y.f3 y.f4 y.f5 y.f6 y.f7 := by
    by_cases c2 : x.f2.toList = y.f2.toList
    case neg => rw [if_neg c2, decide_eq_false c2]; rfl
    by_cases c3 : x.f3.toList = y.f3.toList
    case neg => rw [if_pos c2, if_neg c3, decide_eq_false c3]; simp
    rw [if_pos c2, if_pos c3, decide_eq_true c2, decide_eq_true c3]
    by_cases c4 : x.f4 = y.f4
    · rw [c4]; simp [bne]
    · rw [if_pos (by simpa using c4), beq_eq_false_iff_ne.2 c4]; simp
  cases at_ with
  | false => rw [if_neg (by decide), tail, c0]; simp
  | true =>
    rw [if_pos rfl]
    by_cases c1 : x.f1 = y.f1
    · rw [if_pos c1, tail, c0, c1]; simp
    · rw [if_neg c1, beq_eq_false_iff_ne.2 c1]; simp

abbrev RE (l : List S29) : Prop := ∀ (m : List S29) (at_ : Bool), nL l ≤ 1000000000 → Ev (fun k => tmplpiperef12_Equal.f k l m at_) (eqRL at_ l m)
theorem ref12_step (l : List S29) (ih : ∀ x ∈ l, RE x.f6 ∧ RE x.f7) : RE l := by
  intro m at_ hn
  by_cases hlen : l.length = m.length
  case neg =>
    refine ⟨1, fun k hk => ?_⟩
    obtain ⟨k, rfl⟩ : ∃ j, k = j + 1 := ⟨k - 1, by omega⟩
    show tmplpiperef12_Equal.f (k + 1) l m at_ = _
    rw [tmplpiperef12_Equal.f, if_neg (by omega), eqRL_len at_ l m hlen]
  have hll := nL_len l
  have loop : ∀ (d i : Nat), i ≤ l.length → l.length - i = d → Ev (fun k => tmplpiperef12_Equal.l0 k l m at_ (i : Int)) (eqRL at_ (l.drop i) (m.drop i)) := by
    intro d
    induction d with
    | zero =>
      intro i hi hd
      obtain rfl : i = l.length := by omega
      refine ⟨1, fun k hk => ?_⟩
      obtain ⟨k, rfl⟩ : ∃ j, k = j + 1 := ⟨k - 1, by omega⟩
      show tmplpiperef12_Equal.l0 (k + 1) l m at_ _ = _
      rw [tmplpiperef12_Equal.l0, if_neg (by omega), List.drop_length, hlen, List.drop_length]
      simp [eqRL]
    | succ d ihd =>
      intro i hi hd
      have hlt : i < l.length := by omega
      have hlt2 : i < m.length := by omega
      have e1 : l.drop i = l[i] :: l.drop (i + 1) := List.drop_eq_getElem_cons hlt
      have e2 : m.drop i = m[i] :: m.drop (i + 1) := List.drop_eq_getElem_cons hlt2
      have r1 : rd_T29 l (i : Int) = l[i] := rd_T29_at l i hlt
      have r2 : rd_T29 m (i : Int) = m[i] := rd_T29_at m i hlt2
      obtain ⟨ih6, ih7⟩ := ih l[i] (List.getElem_mem hlt)
      have hnn : nL l[i].f6 ≤ 1000000000 ∧ nL l[i].f7 ≤ 1000000000 := by
        have h1 := nL_mem l l[i] (List.getElem_mem hlt)
        rw [nN_eq] at h1
        omega
      rw [e1, e2, eqRL_cons, eqRN_eq]
      generalize l[i] = x at *
      generalize m[i] = y at *
      have hw : wrap64 ((i : Int) + 1) = ((i + 1 : Nat) : Int) := by rw [w64 (by omega) (by omega)]; rfl
      obtain ⟨K6, h6⟩ := ih6 y.f6 at_ hnn.1
      obtain ⟨K7, h7⟩ := ih7 y.f7 at_ hnn.2
      obtain ⟨K1, h1⟩ := ihd (i + 1) (by omega) (by omega)
      dsimp only at h1 h6 h7
      refine ⟨K6 + K7 + K1 + 2, fun k hk => ?_⟩
      obtain ⟨k, rfl⟩ : ∃ j, k = j + 1 + 1 := ⟨k - 2, by omega⟩
      show tmplpiperef12_Equal.l0 (k + 1 + 1) l m at_ _ = _
      rw [ref12_l0 (k + 1) l m at_ i (by omega) (by omega) (by omega), r1, r2, tmplpiperef12_Equal.j1]
      cases hh : hdR at_ x y with
      | false => simp
      | true =>
        rw [if_neg (by simp), h6 k (by omega), Option.bind_some]
        cases he6 : eqRL at_ x.f6 y.f6 with
        | false => simp
        | true =>
          rw [if_pos rfl, h7 k (by omega), Option.bind_some]
          cases he7 : eqRL at_ x.f7 y.f7 with
          | false => simp
          | true => rw [if_pos rfl, hw, h1 k (by omega)]; simp
  obtain ⟨K, hK⟩ := loop l.length 0 (by omega) (by omega)
  refine ⟨K + 1, fun k hk => ?_⟩
  obtain ⟨k, rfl⟩ : ∃ j, k = j + 1 := ⟨k - 1, by omega⟩
  show tmplpiperef12_Equal.f (k + 1) l m at_ = _
  rw [tmplpiperef12_Equal.f, if_pos (by omega)]
  have := hK k (by omega)
  dsimp only at this
  rw [List.drop_zero, List.drop_zero] at this
  exact this
theorem ref12_equal : ∀ (n : Nat) (l : List S29), SizeOf.sizeOf l < n → RE l
  | 0, l, h => absurd h (Nat.not_lt_zero _)
  | n + 1, l, h => ref12_step l fun x hx => by
      have h1 := List.sizeOf_lt_of_mem hx
      exact ⟨ref12_equal n x.f6 (by have := S29.size6 x; omega), ref12_equal n x.f7 (by have := S29.size7 x; omega)⟩
theorem hdR_refl (at_ : Bool) (x : S29) : hdR at_ x x = true := by unfold hdR; simp
theorem eqRL_refl (at_ : Bool) : ∀ (n : Nat) (a : List S29), SizeOf.sizeOf a < n → eqRL at_ a a = true
  | 0, a, h => absurd h (Nat.not_lt_zero _)
  | n + 1, [], h => by simp [eqRL]
  | n + 1, x :: xs, h => by
    simp only [List.cons.sizeOf_spec] at h
    have h6 := S29.size6 x
    have h7 := S29.size7 x
    rw [eqRL_cons, eqRN_eq, hdR_refl, eqRL_refl at_ n x.f6 (by omega), eqRL_refl at_ n x.f7 (by omega), eqRL_refl at_ n xs (by omega)]
    rfl

end Go.Proofs.Ytgdpojleejdfaaa.Px
