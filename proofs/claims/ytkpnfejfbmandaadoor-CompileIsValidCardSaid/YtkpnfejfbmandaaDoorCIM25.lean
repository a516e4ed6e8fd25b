import Derived.Test.YtkpnfejfbmandaaDoorCIM8
import Derived.Test.YtkpnfejfbmandaaDoorCIM19
import Derived.Outline
import Derived.Test.YtkpnfejfbmandaaDoorCIM22
import Derived.Test.YtkpnfejfbmandaaDoorCIM16
import Derived.Test.YtkpnfejfbmandaaDoorCIM18
import Derived.Test.YtkpnfejfbmandaaDoorCIM24
/- slices.Equal over instructions. -/
namespace Go.Proofs.YtkpnfejfbmandaaDoor.Px
open Go.RowKit Go.Proofs.YtkpnfejfbmandaaDoorW.PrintWords Go.Proofs.YtkpnfejfbmandaaDoorW.PrintLast Go.Proofs.YtkpnfejfbmandaaDoorW.PrintMore
set_option linter.unusedVariables false
set_option linter.unusedSimpArgs false
theorem eqA40 (d : Nat) (w : World) (x0 y0 x4 y4 x5 y5 : Int) (x1 y1 x2 y2 : ByteArray) (x3 y3 : Bool) :
    (Op.equalIn (d + 2) 40 (.agg #[.int .i64 x0, .string x1, .string x2, .bool x3, .int .i64 x4, .int .i64 x5]) (.agg #[.int .i64 y0, .string y1, .string y2, .bool y3, .int .i64 y4, .int .i64 y5])).run Tryd.prog w = .ok (x0 == y0 && (x1.toList == y1.toList && (x2.toList == y2.toList && (x3 == y3 && (x4 == y4 && (x5 == y5)))))) w := by
  refine eqA_of Tryd.underlying40 (by kernel_rfl) ?_
  refine eqf_cons (by rfl) (by go_simp; rfl) (by go_simp; rfl) (by go_simp) ?_
  refine eqf_cons (by rfl) (by go_simp; rfl) (by go_simp; rfl) (by go_simp) ?_
  refine eqf_cons (by rfl) (by go_simp; rfl) (by go_simp; rfl) (by go_simp) ?_
  refine eqf_cons (by rfl) (by go_simp; rfl) (by go_simp; rfl) (by go_simp) ?_
  refine eqf_cons (by rfl) (by go_simp; rfl) (by go_simp; rfl) (by go_simp) ?_
  exact eqf_last (by rfl) (by go_simp; rfl) (by go_simp; rfl) (by go_simp)
attribute [local go_sem high] eqA40
def insB (x y : S40) : Bool := x.f0 == y.f0 && (x.f1.toList == y.f1.toList && (x.f2.toList == y.f2.toList && (x.f3 == y.f3 && (x.f4 == y.f4 && (x.f5 == y.f5)))))
theorem insB_iff (x y : S40) : insB x y = true ↔ x = y := by
  unfold insB
  constructor
  · intro h
    simp only [Bool.and_eq_true, beq_iff_eq] at h
    obtain ⟨a, b, c, d, e, f⟩ := x; obtain ⟨a', b', c', d', e', f'⟩ := y
    obtain ⟨h0, h1, h2, h3, h4, h5⟩ := h
    dsimp only at h0 h1 h2 h3 h4 h5
    subst h0 h3 h4 h5
    rw [toList_inj h1, toList_inj h2]
  · rintro rfl
    simp
set_option maxHeartbeats 4000000 in
set_option maxRecDepth 100000 in
theorem equal_ins (l m : List S40) (A B : Option Addr) (c d : Nat) (w : World) (hA : Kd.C k40 w A l.length l) (hB : Kd.C k40 w B m.length m) :
    Calls Tryd.prog 23 #[.slice A l.length c, .slice B m.length d] w fun e w' => (∃ b, e = .returned (.bool b) ∧ (b = true ↔ l = m)) ∧ Below w.heap.size w w' := by
  have hm63 : l.length ≤ 9223372036854775807 := hA.2.1
  replace hA := Aside0.mk hA
  replace hB := Aside0.mk hB
  by_cases hl : l.length = m.length
  case neg =>
    have hne : ((l.length : Int) != (m.length : Int)) = true := by simp; omega
    have hne2 : ((l.length : Int) == (m.length : Int)) = false := by simp; omega
    go_enter Tryd.func23, Tryd.ntmps23
    go_wp2
    go_ret
    exact ⟨⟨_, rfl, by simp; intro e; exact hl (by rw [e])⟩, Below.refl _ _⟩
  have hne : ((l.length : Int) != (m.length : Int)) = false := by simp; omega
  have hne2 : ((l.length : Int) == (m.length : Int)) = true := by simp; omega
  replace hl := Aside0.mk hl
  go_enter Tryd.func23, Tryd.ntmps23
  go_wp2
  go_loopg [13] l.length (fun kq v13 wr => ∃ i : Nat, kq + i = l.length ∧ v13 = .int .i64 i ∧ Aside0 (∀ j (h1 : j < l.length) (h2 : j < m.length), j < i → l[j] = m[j]) ∧ Aside0 (Below w.heap.size w wr))
  case atStart => exact ⟨0, rfl, rfl, ⟨fun j _ _ h => absurd h (Nat.not_lt_zero _)⟩, ⟨Below.refl _ _⟩⟩
  case round =>
    obtain ⟨i, hki, rfl, HJ, HB⟩ := hrel
    by_cases hlt2 : i < l.length
    · have hll : decide ((i : Int) < (l.length : Int)) = true := decide_eq_true (by omega)
      have hlm : decide ((i : Int) < (m.length : Int)) = true := decide_eq_true (by have := hl.out; omega)
      have hm2 : (i : Int) < (m.length : Int) := by have := hl.out; omega
      obtain ⟨ad, hAe, x0, x1, x2, x3, x4, x5⟩ := at_T40 hA.out (i : Int) (by omega) (by omega)
      obtain ⟨bd, hBe, y0, y1, y2, y3, y4, y5⟩ := at_T40 hB.out (i : Int) (by omega) (by omega)
      have hi2 : i < m.length := by have := hl.out; omega
      have hrd : rd_T40 l (i : Int) = l[i] := by unfold rd_T40; simp [List.getD, hlt2]
      have hrm : rd_T40 m (i : Int) = m[i] := by unfold rd_T40; simp [List.getD, hi2]
      simp only [Int.toNat_natCast] at x0 x1 x2 x3 x4 x5 y0 y1 y2 y3 y4 y5
      rw [hrd] at x0 x1 x2 x3 x4 x5
      rw [hrm] at y0 y1 y2 y3 y4 y5
      have up : ∀ {a : Addr} {u : Value}, w.cell? a = some u → wr.cell? a = some u := fun h => (HB.out.cell (World.block_lt_of_cell? _ _ h)).trans h
      subst hAe hBe
      replace x0 := up x0
      replace x1 := up x1
      replace x2 := up x2
      replace x3 := up x3
      replace x4 := up x4
      replace x5 := up x5
      replace y0 := up y0
      replace y1 := up y1
      replace y2 := up y2
      replace y3 := up y3
      replace y4 := up y4
      replace y5 := up y5
      clear up hrd hrm
      have hE := insB_iff l[i] m[i]
      have hN : ∀ (p : l[i] = m[i]) j (h1 : j < l.length) (h2 : j < m.length), j < i + 1 → l[j] = m[j] := fun p j h1 h2 h3 => by
        by_cases e : j = i
        · subst e; exact p
        · exact HJ.out j h1 h2 (by omega)
      have hF : l[i] ≠ m[i] → l ≠ m := fun h e => h (by simp [e])
      replace hN := Aside0.mk hN
      replace hF := Aside0.mk hF
      unfold insB at hE
      generalize l[i] = x at *
      generalize m[i] = y at *
      cases hq : (x.f0 == y.f0 && (x.f1.toList == y.f1.toList && (x.f2.toList == y.f2.toList && (x.f3 == y.f3 && (x.f4 == y.f4 && (x.f5 == y.f5))))))
      all_goals
        rw [hq] at hE
        replace hE := Aside0.mk hE
        go_wp2
        go_quiet (fail)
        go_wp2
      · go_ret
        exact ⟨⟨_, rfl, by simp; exact hF.out (fun p => by have := hE.out.2 p; cases this)⟩, by repeat (first | exact HB.out | apply pw_below_drewN | apply below_drew1)⟩
      · go_roundg (gk - 1)
        case measure => omega
        case rel => exact ⟨i + 1, by omega, by simp, ⟨hN.out (hE.out.1 (by first | rfl | trivial))⟩, ⟨by repeat (first | exact HB.out | apply pw_below_drewN | apply below_drew1)⟩⟩
    · have hll : decide ((i : Int) < (l.length : Int)) = false := decide_eq_false (by omega)
      go_wp2
      go_ret
      exact ⟨⟨_, rfl, by simp; exact List.ext_getElem hl.out (fun j h1 h2 => HJ.out j h1 h2 (by omega))⟩, HB.out⟩
end Go.Proofs.YtkpnfejfbmandaaDoor.Px
namespace Go.Proofs.YtkpnfejfbmandaaDoor.Px
open Go.RowKit Go.Proofs.YtkpnfejfbmandaaDoorW.PrintWords Go.Proofs.YtkpnfejfbmandaaDoorW.PrintLast Go.Proofs.YtkpnfejfbmandaaDoorW.PrintMore
set_option linter.unusedVariables false
set_option linter.unusedSimpArgs false
mutual
def offL : List S78 → List Int
  | [] => []
  | x :: xs => offN x ++ offL xs
def offN : S78 → List Int
  | ⟨_, a, _, _, _, _, b, l⟩ => a :: (offL b ++ offL l)
end
theorem offN_eq (x : S78) : offN x = x.f1 :: (offL x.f6 ++ offL x.f7) := by cases x; simp [offN]
theorem offL_cons (x : S78) (xs : List S78) : offL (x :: xs) = offN x ++ offL xs := by simp [offL]
structure PGood (d : Int) (pre : List S76) (o : List Int) (nst cnt n : Nat) : Prop where
  sub : o.Sublist (pre.map (·.f1))
  nst : (nst : Int) ≤ 32 - d
  cnt : cnt = n
abbrev PgL (k : Nat) : Prop := ∀ (l : List S76) (n d : Int) (out o : List S78) (l' : List S76) (n' : Int), 0 ≤ d → d ≤ 32 → plist k l n d out = some (.ok (o, l', n')) →
  ∃ pre ys, l = pre ++ l' ∧ o = out ++ ys ∧ PGood d pre (offL ys) (nstL ys) (cntL ys) (nL ys)
abbrev PgN (k : Nat) : Prop := ∀ (t : S76) (r : List S76) (n d : Int) (x : S78) (l' : List S76) (n' : Int), d ≤ 32 → pnode k t r n d = some (.ok (x, l', n')) →
  ∃ pre, t :: r = pre ++ l' ∧ PGood d pre (offN x) (nstN x) (cntN x) (nN x)
theorem pgood : ∀ k, PgL k ∧ PgN k
  | 0 => ⟨fun l n d out o l' n' _ _ h => by simp [plist] at h, fun t r n d x l' n' _ h => by simp [pnode] at h⟩
  | k + 1 => by
    obtain ⟨ihl, ihn⟩ := pgood k
    refine ⟨?_, ?_⟩
    · intro l n d out o l' n' hd0 hd h
      have none_ : ∃ pre ys, l' = pre ++ l' ∧ out = out ++ ys ∧ PGood d pre (offL ys) (nstL ys) (cntL ys) (nL ys) := ⟨[], [], rfl, by simp, by simp [offL], by simp [nstL]; omega, by simp [cntL, nL]⟩
      cases l with
      | nil => rw [plist_nil] at h; cases h; exact none_
      | cons t r =>
        rw [plist_cons] at h
        by_cases h1 : out.length < 100000
        case neg => rw [if_neg h1] at h; cases h
        rw [if_pos h1] at h
        by_cases h2 : t.f0 = 7 ∨ t.f0 = 8
        · rw [if_pos h2] at h; cases h; exact none_
        rw [if_neg h2] at h
        cases hp : pnode k t r n d with
        | none => rw [hp] at h; cases h
        | some x =>
          rw [hp] at h
          cases x with
          | error e => cases h
          | ok q =>
            obtain ⟨x, r', n1⟩ := q
            obtain ⟨p1, e1, g1⟩ := ihn _ _ _ _ _ _ _ hd hp
            obtain ⟨p2, ys, e2, e3, g2⟩ := ihl _ _ _ _ _ _ _ hd0 hd h
            refine ⟨p1 ++ p2, x :: ys, by rw [e1, e2, List.append_assoc], by rw [e3]; simp, ?_, ?_, ?_⟩
            · rw [offL_cons, List.map_append]; exact g1.sub.append g2.sub
            · rw [nstL_cons]; have := g1.nst; have := g2.nst; omega
            · rw [cntL_cons, nL_cons, g1.cnt, g2.cnt]
    · intro t r n d x l' n' hd32 h
      rw [pnode_eq] at h
      by_cases h1 : 0 ≤ n ∧ 0 ≤ d
      case neg => rw [if_neg h1] at h; cases h
      rw [if_pos h1] at h
      by_cases h2 : t.f0 = 6 ∧ d > 0
      · rw [if_pos h2] at h; cases h
      rw [if_neg h2] at h
      by_cases h3 : opK t.f0 ∧ d ≥ 32
      · rw [if_pos h3] at h; cases h
      rw [if_neg h3] at h
      by_cases h4 : n ≥ 4096
      · rw [if_pos h4] at h; cases h
      rw [if_neg h4] at h
      by_cases h5 : opK t.f0
      case neg =>
        rw [if_neg h5] at h; cases h
        have n2 : ¬ t.f0 = 2 := fun e => h5 (.inl e)
        have n3 : ¬ (t.f0 = 3 ∨ t.f0 = 6) := fun e => h5 (.inr e)
        refine ⟨[t], rfl, ?_, ?_, ?_⟩
        · rw [offN_eq]; simp [offL]
        · rw [nstN_eq]; dsimp only; rw [if_neg n2, if_neg n3]; omega
        · rw [cntN_eq, nN_eq]; dsimp only; rw [if_neg n2, if_neg n3]; simp [nL]
      rw [if_pos h5] at h
      have hd : d < 32 := Int.not_le.1 fun e => h3 ⟨h5, e⟩
      have hend : ∀ (hh : Bool) (body els : List S78) (l1 : List S76) (n1 : Int), endB t hh body els l1 n1 = .ok (x, l', n') → ∃ t3, l1 = t3 :: l' ∧ x = ⟨t.f0, t.f1, t.f2, t.f3, t.f4, hh, body, els⟩ := by
        intro hh body els l1 n1 e
        cases l1 with
        | nil => cases e
        | cons t3 r4 =>
          simp only [endB] at e
          by_cases h8 : t3.f0 = 8
          · rw [if_pos h8] at e; cases e; exact ⟨t3, rfl, rfl⟩
          · rw [if_neg h8] at e; cases e
      have done_ : ∀ (hh : Bool) (body els : List S78) (p1 p2 : List S76), x = ⟨t.f0, t.f1, t.f2, t.f3, t.f4, hh, body, els⟩ → PGood (d + 1) p1 (offL body) (nstL body) (cntL body) (nL body) →
          PGood (d + 1) p2 (offL els) (nstL els) (cntL els) (nL els) → (t.f0 = 2 ∨ els = []) → ∀ pre, (t :: (p1 ++ p2)).Sublist pre → PGood d pre (offN x) (nstN x) (cntN x) (nN x) := by
        rintro hh body els p1 p2 rfl g1 g2 hk pre hpre
        refine ⟨?_, ?_, ?_⟩
        · rw [offN_eq]
          dsimp only
          refine List.Sublist.trans ?_ (hpre.map (·.f1))
          rw [List.map_cons, List.map_append]
          exact List.Sublist.cons_cons _ (g1.sub.append g2.sub)
        · rw [nstN_eq]; dsimp only
          have a := g1.nst; have b := g2.nst
          split
          · omega
          · split <;> omega
        · rw [cntN_eq, nN_eq]; dsimp only
          have a := g1.cnt; have b := g2.cnt
          rcases hk with hk | rfl
          · rw [if_pos hk]; omega
          · simp only [cntL, nL] at b ⊢
            by_cases e2 : t.f0 = 2
            · rw [if_pos e2]; omega
            · rw [if_neg e2, if_pos (h5.resolve_left e2)]; omega
      have nilG : PGood (d + 1) [] (offL []) (nstL []) (cntL []) (nL []) := ⟨by simp [offL], by simp [nstL]; omega, by simp [cntL, nL]⟩
      unfold pblk at h
      cases hp : plist k r (n + 1) (d + 1) [] with
      | none => rw [hp] at h; cases h
      | some q =>
        rw [hp] at h
        cases q with
        | error e => cases h
        | ok q =>
          obtain ⟨body, l1, n1⟩ := q
          obtain ⟨p1, ys1, e1, e2, g1⟩ := ihl _ _ _ _ _ _ _ (by omega) (by omega) hp
          rw [List.nil_append] at e2
          subst e2
          cases l1 with
          | nil => cases h
          | cons t1 r2 =>
            dsimp only at h
            by_cases h7 : t1.f0 = 7
            · rw [if_pos h7] at h
              by_cases h8 : t.f0 = 2
              case neg => rw [if_neg h8] at h; cases h
              rw [if_pos h8] at h
              cases hp2 : plist k r2 n1 (d + 1) [] with
              | none => rw [hp2] at h; cases h
              | some q =>
                rw [hp2] at h
                cases q with
                | error e => cases h
                | ok q =>
                  obtain ⟨els, r3, n3⟩ := q
                  obtain ⟨p2, ys2, e3, e4, g2⟩ := ihl _ _ _ _ _ _ _ (by omega) (by omega) hp2
                  rw [List.nil_append] at e4
                  subst e4
                  obtain ⟨t3, e5, e6⟩ := hend _ _ _ _ _ (Option.some.inj h)
                  refine ⟨t :: (p1 ++ t1 :: (p2 ++ [t3])), by rw [e1, e3, e5]; simp, done_ _ _ _ p1 p2 e6 g1 g2 (.inl h8) _ ?_⟩
                  refine List.Sublist.cons_cons _ ((List.Sublist.refl p1).append ?_)
                  exact List.Sublist.cons _ (List.sublist_append_left p2 [t3])
            · rw [if_neg h7] at h
              obtain ⟨t3, e5, e6⟩ := hend _ _ _ _ _ (Option.some.inj h)
              refine ⟨t :: (p1 ++ [t3]), by rw [e1, e5]; simp, done_ _ _ _ p1 [] e6 g1 nilG (.inr rfl) _ ?_⟩
              exact List.Sublist.cons_cons _ ((List.Sublist.refl p1).append (by simp))
theorem lexS_asc : ∀ (n p : Nat) (s : List UInt8) (L : List T5), s.length ≤ n → lexS p s = .ok L → (∀ x ∈ L, p ≤ x.1 ∧ x.1 < p + s.length) ∧ (L.map (·.1)).Pairwise (· < ·)
  | n, p, s, L, hn, e => by
    have htx : ∀ t : List UInt8, (∀ x ∈ txtT p t, x.1 = p ∧ 0 < t.length) ∧ ((txtT p t).map (·.1)).Pairwise (· < ·) := fun t => by
      unfold txtT
      split
      · simp
      · rename_i h0
        have := List.length_pos_iff.2 h0
        exact ⟨fun x hx => by rw [List.mem_singleton] at hx; rw [hx]; exact ⟨rfl, this⟩, by simp⟩
    cases way s with
    | text _ h =>
      rw [lexS_text h] at e; cases e
      exact ⟨fun x hx => by have := (htx s).1 x hx; omega, (htx s).2⟩
    | open_ t r h hr => rw [lexS_open h hr] at e; cases e
    | dir t u r h hu =>
      obtain ⟨dd, l', hd, hl', rfl⟩ := lexS_dirOk h hu e
      cases n with
      | zero => simp at hn
      | succ n =>
        simp only [List.length_append, List.length_cons] at hn ⊢
        obtain ⟨a, b⟩ := lexS_asc n _ r l' (by omega) hl'
        refine ⟨fun x hx => ?_, ?_⟩
        · rcases List.mem_append.1 hx with hx | hx
          · have := (htx t).1 x hx; omega
          · rcases List.mem_cons.1 hx with rfl | hx
            · show p ≤ p + t.length ∧ p + t.length < _; omega
            · have := a x hx; omega
        · rw [List.map_append, List.map_cons, List.pairwise_append]
          refine ⟨(htx t).2, List.pairwise_cons.2 ⟨fun y hy => ?_, b⟩, fun x hx y hy => ?_⟩
          · obtain ⟨z, hz, rfl⟩ := List.mem_map.1 hy
            have := a z hz
            show p + t.length < z.1; omega
          · obtain ⟨w, hw, rfl⟩ := List.mem_map.1 hx
            have h1 := (htx t).1 w hw
            rcases List.mem_cons.1 hy with rfl | hy
            · show w.1 < p + t.length; omega
            · obtain ⟨z, hz, rfl⟩ := List.mem_map.1 hy
              have := a z hz
              show w.1 < z.1; omega
theorem parse_err : ∀ k, (∀ (l : List S76) (n d : Int) (out : List S78) (a e : Int), plist k l n d out = some (.error (a, e)) → e ≠ 0 ∧ ∃ t ∈ l, a = t.f1) ∧
    (∀ (t : S76) (r : List S76) (n d a e : Int), pnode k t r n d = some (.error (a, e)) → e ≠ 0 ∧ ∃ t' ∈ t :: r, a = t'.f1)
  | 0 => ⟨fun l n d out a e h => by simp [plist] at h, fun t r n d a e h => by simp [pnode] at h⟩
  | k + 1 => by
    obtain ⟨ihl, ihn⟩ := parse_err k
    have suf : ∀ (l : List S76) (n d : Int) (out o : List S78) (l' : List S76) (n' : Int), plist k l n d out = some (.ok (o, l', n')) → ∀ t ∈ l', t ∈ l := fun l n d out o l' n' h t ht => (suffix k).1 _ _ _ _ _ _ _ h t ht
    refine ⟨?_, ?_⟩
    · intro l n d out a e h
      cases l with
      | nil => rw [plist_nil] at h; cases h
      | cons t r =>
        rw [plist_cons] at h
        by_cases h1 : out.length < 100000
        case neg => rw [if_neg h1] at h; cases h
        rw [if_pos h1] at h
        by_cases h2 : t.f0 = 7 ∨ t.f0 = 8
        · rw [if_pos h2] at h; cases h
        rw [if_neg h2] at h
        cases hp : pnode k t r n d with
        | none => rw [hp] at h; cases h
        | some x =>
          rw [hp] at h
          cases x with
          | error e => cases h; exact ihn _ _ _ _ _ _ hp
          | ok q =>
            obtain ⟨x, r', n1⟩ := q
            obtain ⟨h3, t', ht', e'⟩ := ihl _ _ _ _ _ _ h
            exact ⟨h3, t', List.mem_cons_of_mem _ ((suffix k).2 _ _ _ _ _ _ _ hp t' ht'), e'⟩
    · intro t r n d a e h
      rw [pnode_eq] at h
      by_cases h1 : 0 ≤ n ∧ 0 ≤ d
      case neg => rw [if_neg h1] at h; cases h
      rw [if_pos h1] at h
      by_cases h2 : t.f0 = 6 ∧ d > 0
      · rw [if_pos h2] at h; cases h; exact ⟨by decide, t, List.mem_cons_self, rfl⟩
      rw [if_neg h2] at h
      by_cases h3 : opK t.f0 ∧ d ≥ 32
      · rw [if_pos h3] at h; cases h; exact ⟨by decide, t, List.mem_cons_self, rfl⟩
      rw [if_neg h3] at h
      by_cases h4 : n ≥ 4096
      · rw [if_pos h4] at h; cases h; exact ⟨by decide, t, List.mem_cons_self, rfl⟩
      rw [if_neg h4] at h
      by_cases h5 : opK t.f0
      case neg => rw [if_neg h5] at h; cases h
      rw [if_pos h5] at h
      have hend : ∀ (hh : Bool) (body els : List S78) (l1 : List S76) (n1 : Int), (∀ t ∈ l1, t ∈ r) → endB t hh body els l1 n1 = .error (a, e) → e ≠ 0 ∧ ∃ t' ∈ t :: r, a = t'.f1 := by
        intro hh body els l1 n1 hs e
        cases l1 with
        | nil => cases e; exact ⟨by decide, t, List.mem_cons_self, rfl⟩
        | cons t3 r4 =>
          simp only [endB] at e
          by_cases h8 : t3.f0 = 8
          · rw [if_pos h8] at e; cases e
          · rw [if_neg h8] at e; cases e; exact ⟨by decide, t3, List.mem_cons_of_mem _ (hs _ List.mem_cons_self), rfl⟩
      unfold pblk at h
      cases hp : plist k r (n + 1) (d + 1) [] with
      | none => rw [hp] at h; cases h
      | some q =>
        rw [hp] at h
        cases q with
        | error e => cases h; obtain ⟨h3, t', ht', e'⟩ := ihl _ _ _ _ _ _ hp; exact ⟨h3, t', List.mem_cons_of_mem _ ht', e'⟩
        | ok q =>
          obtain ⟨body, l1, n1⟩ := q
          have s1 := suf _ _ _ _ _ _ _ hp
          cases l1 with
          | nil => cases h; exact ⟨by decide, t, List.mem_cons_self, rfl⟩
          | cons t1 r2 =>
            dsimp only at h
            by_cases h7 : t1.f0 = 7
            · rw [if_pos h7] at h
              by_cases h8 : t.f0 = 2
              case neg => rw [if_neg h8] at h; cases h; exact ⟨by decide, t1, List.mem_cons_of_mem _ (s1 _ List.mem_cons_self), rfl⟩
              rw [if_pos h8] at h
              cases hp2 : plist k r2 n1 (d + 1) [] with
              | none => rw [hp2] at h; cases h
              | some q =>
                rw [hp2] at h
                cases q with
                | error e => cases h; obtain ⟨h3, t', ht', e'⟩ := ihl _ _ _ _ _ _ hp2; exact ⟨h3, t', List.mem_cons_of_mem _ (s1 _ (List.mem_cons_of_mem _ ht')), e'⟩
                | ok q =>
                  obtain ⟨els, r3, n3⟩ := q
                  exact hend _ _ _ _ _ (fun x hx => s1 _ (List.mem_cons_of_mem _ (suf _ _ _ _ _ _ _ hp2 x hx))) (Option.some.inj h)
            · rw [if_neg h7] at h
              exact hend _ _ _ _ _ s1 (Option.some.inj h)
where
  suffix : ∀ k, (∀ (l : List S76) (n d : Int) (out o : List S78) (l' : List S76) (n' : Int), plist k l n d out = some (.ok (o, l', n')) → ∀ t ∈ l', t ∈ l) ∧
      (∀ (t : S76) (r : List S76) (n d : Int) (x : S78) (l' : List S76) (n' : Int), pnode k t r n d = some (.ok (x, l', n')) → ∀ t' ∈ l', t' ∈ r)
    | 0 => ⟨fun l n d out o l' n' h => by simp [plist] at h, fun t r n d x l' n' h => by simp [pnode] at h⟩
    | k + 1 => by
      obtain ⟨ihl, ihn⟩ := suffix k
      refine ⟨?_, ?_⟩
      · intro l n d out o l' n' h
        cases l with
        | nil => rw [plist_nil] at h; cases h; exact fun t h => h
        | cons t r =>
          rw [plist_cons] at h
          by_cases h1 : out.length < 100000
          case neg => rw [if_neg h1] at h; cases h
          rw [if_pos h1] at h
          by_cases h2 : t.f0 = 7 ∨ t.f0 = 8
          · rw [if_pos h2] at h; cases h; exact fun t h => h
          rw [if_neg h2] at h
          cases hp : pnode k t r n d with
          | none => rw [hp] at h; cases h
          | some x =>
            rw [hp] at h
            cases x with
            | error e => cases h
            | ok q =>
              obtain ⟨x, r', n1⟩ := q
              exact fun t ht => List.mem_cons_of_mem _ (ihn _ _ _ _ _ _ _ hp t (ihl _ _ _ _ _ _ _ h t ht))
      · intro t r n d x l' n' h
        rw [pnode_eq] at h
        by_cases h1 : 0 ≤ n ∧ 0 ≤ d
        case neg => rw [if_neg h1] at h; cases h
        rw [if_pos h1] at h
        by_cases h2 : t.f0 = 6 ∧ d > 0
        · rw [if_pos h2] at h; cases h
        rw [if_neg h2] at h
        by_cases h3 : opK t.f0 ∧ d ≥ 32
        · rw [if_pos h3] at h; cases h
        rw [if_neg h3] at h
        by_cases h4 : n ≥ 4096
        · rw [if_pos h4] at h; cases h
        rw [if_neg h4] at h
        by_cases h5 : opK t.f0
        case neg => rw [if_neg h5] at h; cases h; exact fun t h => h
        rw [if_pos h5] at h
        have hend : ∀ (hh : Bool) (body els : List S78) (l1 : List S76) (n1 : Int), endB t hh body els l1 n1 = .ok (x, l', n') → ∀ t ∈ l', t ∈ l1 := by
          intro hh body els l1 n1 e
          cases l1 with
          | nil => cases e
          | cons t3 r4 =>
            simp only [endB] at e
            by_cases h8 : t3.f0 = 8
            · rw [if_pos h8] at e; cases e; exact fun t h => List.mem_cons_of_mem _ h
            · rw [if_neg h8] at e; cases e
        unfold pblk at h
        cases hp : plist k r (n + 1) (d + 1) [] with
        | none => rw [hp] at h; cases h
        | some q =>
          rw [hp] at h
          cases q with
          | error e => cases h
          | ok q =>
            obtain ⟨body, l1, n1⟩ := q
            have s1 := ihl _ _ _ _ _ _ _ hp
            cases l1 with
            | nil => cases h
            | cons t1 r2 =>
              dsimp only at h
              by_cases h7 : t1.f0 = 7
              · rw [if_pos h7] at h
                by_cases h8 : t.f0 = 2
                case neg => rw [if_neg h8] at h; cases h
                rw [if_pos h8] at h
                cases hp2 : plist k r2 n1 (d + 1) [] with
                | none => rw [hp2] at h; cases h
                | some q =>
                  rw [hp2] at h
                  cases q with
                  | error e => cases h
                  | ok q =>
                    obtain ⟨els, r3, n3⟩ := q
                    exact fun x hx => s1 _ (List.mem_cons_of_mem _ (ihl _ _ _ _ _ _ _ hp2 x (hend _ _ _ _ _ (Option.some.inj h) x hx)))
              · rw [if_neg h7] at h
                exact fun x hx => s1 _ (hend _ _ _ _ _ (Option.some.inj h) x hx)
theorem parse_bad {s : ByteArray} {k : Nat} {r : List S78 × Int × Int} (h : parse_Parse.f k s = some r) (he : r.2.2 ≠ 0) : r.1 = [] ∧ 0 ≤ r.2.1 ∧ r.2.1 ≤ s.size := by
  unfold parse_Parse.f at h
  rcases lexF_cases s with ⟨L, hs, hL, e⟩ | ⟨n, er, e, hne, h0, h1⟩
  · rw [e] at h
    dsimp only at h
    rw [if_pos rfl] at h
    obtain ⟨res, hp, rfl⟩ := Option.map_eq_some_iff.1 h
    have hb : ∀ t ∈ L.map tokS, 0 ≤ t.f1 ∧ t.f1 ≤ s.size := fun t ht => by
      obtain ⟨x, hx, rfl⟩ := List.mem_map.1 ht
      have := (lexS_asc _ 0 _ L (Nat.le_refl _) hL).1 x hx
      rw [data_length] at this
      show (0 : Int) ≤ (x.1 : Int) ∧ (x.1 : Int) ≤ s.size
      omega
    cases res with
    | error q =>
      obtain ⟨a, er⟩ := q
      obtain ⟨_, t, ht, e⟩ := (parse_err k).1 _ _ _ _ _ _ hp
      have := hb t ht
      exact ⟨rfl, by show 0 ≤ a; omega, by show a ≤ _; omega⟩
    | ok q =>
      obtain ⟨o, l', n'⟩ := q
      cases l' with
      | nil => exact absurd rfl he
      | cons t l =>
        have := hb t ((parse_err.suffix k).1 _ _ _ _ _ _ _ hp t List.mem_cons_self)
        exact ⟨rfl, by show 0 ≤ t.f1; omega, by show t.f1 ≤ _; omega⟩
  · rw [e] at h
    dsimp only at h
    rw [if_neg hne] at h
    cases h
    exact ⟨rfl, h0, h1⟩
theorem parse_good {s : ByteArray} {k : Nat} {r : List S78 × Int × Int} (h : parse_Parse.f k s = some r) (he : r.2.2 = 0) :
    ∃ L n', s.size ≤ 65536 ∧ lexS 0 s.data.toList = .ok L ∧ plist k (L.map tokS) 0 0 [] = some (.ok (r.1, [], n')) ∧ r.2.1 = s.size := by
  unfold parse_Parse.f at h
  rcases lexF_cases s with ⟨L, hs, hL, e⟩ | ⟨n, er, e, hne, h0, h1⟩
  · rw [e] at h
    dsimp only at h
    rw [if_pos rfl] at h
    obtain ⟨res, hp, rfl⟩ := Option.map_eq_some_iff.1 h
    cases res with
    | error q =>
      obtain ⟨a, er⟩ := q
      exact absurd he ((parse_err k).1 _ _ _ _ _ _ hp).1
    | ok q =>
      obtain ⟨o, l', n'⟩ := q
      cases l' with
      | nil => exact ⟨L, n', hs, hL, hp, rfl⟩
      | cons t l => exact absurd he (by simp [parseR])
  · rw [e] at h
    dsimp only at h
    rw [if_neg hne] at h
    cases h
    exact absurd he hne
end Go.Proofs.YtkpnfejfbmandaaDoor.Px
namespace Go.Proofs.YtkpnfejfbmandaaDoor.Px
open Go.RowKit Go.Proofs.YtkpnfejfbmandaaDoorW.PrintWords Go.Proofs.YtkpnfejfbmandaaDoorW.PrintLast Go.Proofs.YtkpnfejfbmandaaDoorW.PrintMore
set_option linter.unusedVariables false
set_option linter.unusedSimpArgs false
structure TkD (d : T4) : Prop where
  k0 : 0 ≤ d.1
  k8 : d.1 ≤ 8
  path : pathL d.2.2.1 = true
  none_ : d.2.2.2 = false → d.2.2.1 = []
  has : 1 ≤ d.1 → d.1 ≤ 3 → d.2.2.2 = true
  no : d.2.2.2 = true → 1 ≤ d.1 ∧ d.1 ≤ 4
  nm : d.1 ≠ 0 → d.1 ≠ 4 → d.1 ≠ 6 → d.2.1 = []
theorem tkD_P {k : Int} {s : List UInt8} {ws : List (List UInt8)} {t : T4} (e : dirP k s ws = (0, t)) (hk : 1 ≤ k ∧ k ≤ 8) (hs : k ≠ 4 → k ≠ 6 → s = []) : TkD t := by
  obtain ⟨h1, h2, h3, h4, h5, h6, h7, h8, h9⟩ := dirP_ok e
  refine ⟨by omega, by omega, h3, fun h => (h6 h).2, fun a b => ?_, fun h => ?_, fun a b c => ?_⟩
  · rw [h5]
    have hle : leastOf k = 1 := by unfold leastOf; rw [if_pos (by omega)]
    have hmo : mostOf k ≤ 1 := by unfold mostOf; split <;> omega
    omega
  · have hl := h5.1 h
    have hmo : mostOf k = 1 := by
      unfold mostOf at h9 ⊢; split
      · rfl
      · rename_i hn; rw [if_neg hn] at h9; omega
    unfold mostOf at hmo
    split at hmo
    · omega
    · cases hmo
  · rw [h2]; exact hs (by omega) (by omega)
theorem tkD_K {k : Int} {ws : List (List UInt8)} {t : T4} (e : dirK k ws = (0, t)) (hk : 1 ≤ k ∧ k ≤ 8) : TkD t := by
  unfold dirK at e
  split at e
  · rename_i hn
    match ws, e with
    | [], e => simp at e
    | s :: r, e =>
      try dsimp only at e
      split at e
      · simp at e
      · refine tkD_P e hk fun a b => ?_
        unfold named at hn
        simp at hn
        omega
  · exact tkD_P e hk fun _ _ => rfl
theorem kw_kind {w : List UInt8} {k : Int} (h : kwKind w = some k) : 1 ≤ k ∧ k ≤ 8 := by
  unfold kwKind at h
  obtain ⟨p, hp, rfl⟩ := Option.map_eq_some_iff.1 h
  have := List.mem_of_find?_eq_some hp
  revert this
  generalize p = q
  unfold kwList
  intro hm
  simp only [List.mem_cons, List.not_mem_nil, or_false] at hm
  rcases hm with rfl | rfl | rfl | rfl | rfl | rfl | rfl <;> decide
theorem tkD_F {ws : List (List UInt8)} {t : T4} (e : dirF ws = (0, t)) : TkD t := by
  unfold dirF at e
  match ws, e with
  | [], e => simp at e
  | w :: r, e =>
    try dsimp only at e
    split at e
    · rename_i k hk
      exact tkD_K e (kw_kind hk)
    · split at e
      · exact tkD_K e ⟨by decide, by decide⟩
      · simp at e
theorem lexS_tkD : ∀ (n p : Nat) (s : List UInt8) (l : List T5), s.length ≤ n → lexS p s = .ok l → ∀ x ∈ l, TkD x.2
  | n, p, s, l, hn, e => by
    have htx : ∀ p t, ∀ x ∈ txtT p t, TkD x.2 := fun p t x hx => by
      unfold txtT at hx
      split at hx
      · cases hx
      · rw [List.mem_singleton.1 hx]
        exact ⟨Int.le_refl _, (by decide : (0 : Int) ≤ 8), rfl, fun _ => rfl, fun h => absurd h (by show ¬ (1 : Int) ≤ 0; decide), fun h => (by cases h), fun h => absurd rfl h⟩
    cases way s with
    | text _ h => rw [lexS_text h] at e; cases e; exact htx _ _
    | open_ t r h hr => rw [lexS_open h hr] at e; cases e
    | dir t u r h hu =>
      obtain ⟨d, l', hd, hl', rfl⟩ := lexS_dirOk h hu e
      cases n with
      | zero => simp at hn
      | succ n =>
        have ih := lexS_tkD n _ r l' (by simp at hn; omega) hl'
        intro x hx
        rcases List.mem_append.1 hx with hx | hx
        · exact htx _ _ x hx
        · rcases List.mem_cons.1 hx with rfl | hx
          · exact tkD_F hd
          · exact ih x hx
structure Tk (t : S76) : Prop where
  k0 : 0 ≤ t.f0
  k8 : t.f0 ≤ 8
  path : pathL t.f3.data.toList = true
  none_ : t.f4 = false → t.f3 = ⟨#[]⟩
  has : 1 ≤ t.f0 → t.f0 ≤ 3 → t.f4 = true
  no : t.f4 = true → 1 ≤ t.f0 ∧ t.f0 ≤ 4
  nm : t.f0 ≠ 0 → t.f0 ≠ 4 → t.f0 ≠ 6 → t.f2 = ⟨#[]⟩
  s2 : t.f2.size ≤ 65536
  s3 : t.f3.size ≤ 65536
theorem tk_all {s : ByteArray} {L : List T5} (hs : s.size ≤ 65536) (h : lexS 0 s.data.toList = .ok L) : ∀ t ∈ L.map tokS, Tk t := by
  intro t ht
  obtain ⟨x, hx, rfl⟩ := List.mem_map.1 ht
  have h1 := lexS_tkD _ 0 _ L (Nat.le_refl _) h x hx
  have h2 := lexS_small 65536 _ 0 _ L (Nat.le_refl _) (by rw [data_length]; exact hs) h x hx
  refine ⟨h1.k0, h1.k8, ?_, fun e => ?_, h1.has, h1.no, fun a b c => ?_, ?_, ?_⟩
  · exact h1.path
  · show (⟨x.2.2.2.1.toArray⟩ : ByteArray) = _
    rw [h1.none_ e]
  · show (⟨x.2.2.1.toArray⟩ : ByteArray) = _
    rw [h1.nm a b c]
  · show (⟨x.2.2.1.toArray⟩ : ByteArray).size ≤ _
    rw [bytes_size]; exact h2.1
  · show (⟨x.2.2.2.1.toArray⟩ : ByteArray).size ≤ _
    rw [bytes_size]; exact h2.2
def hdT (x : S78) : S76 := ⟨x.f0, x.f1, x.f2, x.f3, x.f4⟩
mutual
def wfL (top : Bool) : List S78 → Prop
  | [] => True
  | x :: xs => wfN top x ∧ wfL top xs
def wfN (top : Bool) : S78 → Prop
  | ⟨k, a, s, p, h, e, b, l⟩ => Tk ⟨k, a, s, p, h⟩ ∧ k ≤ 6 ∧ (k = 6 → top = true) ∧ (opK k ∨ b = []) ∧ (e = true → k = 2) ∧ (e = false → l = []) ∧ wfL false b ∧ wfL false l
end
theorem wfL_nil {top : Bool} : wfL top [] := by simp [wfL]
theorem wfL_one {top : Bool} {x : S78} (h : wfN top x) : wfL top [x] := by simp [wfL, h]
theorem wfL_append {top : Bool} : ∀ {xs ys : List S78}, wfL top (xs ++ ys) ↔ wfL top xs ∧ wfL top ys
  | [], ys => by simp [wfL]
  | x :: xs, ys => by simp only [List.cons_append, wfL, wfL_append (xs := xs), and_assoc]
structure WfN (top : Bool) (x : S78) : Prop where
  tk : Tk (hdT x)
  k6 : x.f0 ≤ 6
  def_ : x.f0 = 6 → top = true
  leaf : opK x.f0 ∨ x.f6 = []
  els : x.f5 = true → x.f0 = 2
  noels : x.f5 = false → x.f7 = []
  b : wfL false x.f6
  l : wfL false x.f7
theorem wfN_iff {top : Bool} {x : S78} : wfN top x ↔ WfN top x := by
  cases x
  simp only [wfN]
  exact ⟨fun ⟨a, b, c, d, e, f, g, h⟩ => ⟨a, b, c, d, e, f, g, h⟩, fun ⟨a, b, c, d, e, f, g, h⟩ => ⟨a, b, c, d, e, f, g, h⟩⟩
abbrev PwL (k : Nat) : Prop := ∀ (l : List S76) (n d : Int) (out o : List S78) (l' : List S76) (n' : Int), 0 ≤ d → (∀ t ∈ l, Tk t) → wfL (d == 0) out → plist k l n d out = some (.ok (o, l', n')) → wfL (d == 0) o ∧ ∀ t ∈ l', Tk t
abbrev PwN (k : Nat) : Prop := ∀ (t : S76) (r : List S76) (n d : Int) (x : S78) (l' : List S76) (n' : Int), 0 ≤ d → Tk t → t.f0 ≤ 6 → (∀ t ∈ r, Tk t) → pnode k t r n d = some (.ok (x, l', n')) → wfN (d == 0) x ∧ ∀ t ∈ l', Tk t
theorem pwf : ∀ k, PwL k ∧ PwN k
  | 0 => ⟨fun l n d out o l' n' _ _ _ h => by simp [plist] at h, fun t r n d x l' n' _ _ _ _ h => by simp [pnode] at h⟩
  | k + 1 => by
    obtain ⟨ihl, ihn⟩ := pwf k
    refine ⟨?_, ?_⟩
    · intro l n d out o l' n' hd hT ho h
      cases l with
      | nil => rw [plist_nil] at h; cases h; exact ⟨ho, hT⟩
      | cons t r =>
        rw [plist_cons] at h
        by_cases h1 : out.length < 100000
        case neg => rw [if_neg h1] at h; cases h
        rw [if_pos h1] at h
        by_cases h2 : t.f0 = 7 ∨ t.f0 = 8
        · rw [if_pos h2] at h; cases h; exact ⟨ho, hT⟩
        rw [if_neg h2] at h
        have ht := hT t List.mem_cons_self
        cases hp : pnode k t r n d with
        | none => rw [hp] at h; cases h
        | some x =>
          rw [hp] at h
          cases x with
          | error e => cases h
          | ok q =>
            obtain ⟨x, r', n1⟩ := q
            obtain ⟨w1, T1⟩ := ihn _ _ _ _ _ _ _ hd ht (by have := ht.k8; omega) (fun t ht => hT t (List.mem_cons_of_mem _ ht)) hp
            exact ihl _ _ _ _ _ _ _ hd T1 (wfL_append.2 ⟨ho, wfL_one w1⟩) h
    · intro t r n d x l' n' hd ht ht6 hT h
      rw [pnode_eq] at h
      by_cases h1 : 0 ≤ n ∧ 0 ≤ d
      case neg => rw [if_neg h1] at h; cases h
      rw [if_pos h1] at h
      by_cases h2 : t.f0 = 6 ∧ d > 0
      · rw [if_pos h2] at h; cases h
      rw [if_neg h2] at h
      have hdef : t.f0 = 6 → (d == 0) = true := fun e => beq_iff_eq.2 (by have := h1.2; omega)
      by_cases h3 : opK t.f0 ∧ d ≥ 32
      · rw [if_pos h3] at h; cases h
      rw [if_neg h3] at h
      by_cases h4 : n ≥ 4096
      · rw [if_pos h4] at h; cases h
      rw [if_neg h4] at h
      by_cases h5 : opK t.f0
      case neg =>
        rw [if_neg h5] at h; cases h
        exact ⟨wfN_iff.2 ⟨ht, ht6, hdef, .inr rfl, fun h => (by cases h), fun _ => rfl, wfL_nil, wfL_nil⟩, hT⟩
      rw [if_pos h5] at h
      have hd1 : (d + 1 == 0) = false := beq_eq_false_iff_ne.2 (by omega)
      have hend : ∀ (hh : Bool) (body els : List S78) (l1 : List S76) (n1 : Int), endB t hh body els l1 n1 = .ok (x, l', n') → ∃ t3, l1 = t3 :: l' ∧ x = ⟨t.f0, t.f1, t.f2, t.f3, t.f4, hh, body, els⟩ := by
        intro hh body els l1 n1 e
        cases l1 with
        | nil => cases e
        | cons t3 r4 =>
          simp only [endB] at e
          by_cases h8 : t3.f0 = 8
          · rw [if_pos h8] at e; cases e; exact ⟨t3, rfl, rfl⟩
          · rw [if_neg h8] at e; cases e
      unfold pblk at h
      cases hp : plist k r (n + 1) (d + 1) [] with
      | none => rw [hp] at h; cases h
      | some q =>
        rw [hp] at h
        cases q with
        | error e => cases h
        | ok q =>
          obtain ⟨body, l1, n1⟩ := q
          obtain ⟨w1, T1⟩ := ihl _ _ _ _ _ _ _ (by omega) hT wfL_nil hp
          rw [hd1] at w1
          cases l1 with
          | nil => cases h
          | cons t1 r2 =>
            dsimp only at h
            by_cases h7 : t1.f0 = 7
            · rw [if_pos h7] at h
              by_cases h8 : t.f0 = 2
              case neg => rw [if_neg h8] at h; cases h
              rw [if_pos h8] at h
              cases hp2 : plist k r2 n1 (d + 1) [] with
              | none => rw [hp2] at h; cases h
              | some q =>
                rw [hp2] at h
                cases q with
                | error e => cases h
                | ok q =>
                  obtain ⟨els, r3, n3⟩ := q
                  obtain ⟨w2, T2⟩ := ihl _ _ _ _ _ _ _ (by omega) (fun t ht => T1 t (List.mem_cons_of_mem _ ht)) wfL_nil hp2
                  rw [hd1] at w2
                  obtain ⟨t3, rfl, rfl⟩ := hend _ _ _ _ _ (Option.some.inj h)
                  exact ⟨wfN_iff.2 ⟨ht, ht6, hdef, .inl h5, fun _ => h8, fun h => (by cases h), w1, w2⟩, fun t ht => T2 t (List.mem_cons_of_mem _ ht)⟩
            · rw [if_neg h7] at h
              obtain ⟨t3, e3, rfl⟩ := hend _ _ _ _ _ (Option.some.inj h)
              refine ⟨wfN_iff.2 ⟨ht, ht6, hdef, .inl h5, fun h => (by cases h), fun _ => rfl, w1, wfL_nil⟩, fun t ht => ?_⟩
              exact T1 t (by rw [e3]; exact List.mem_cons_of_mem _ ht)
theorem parse_wf {s : ByteArray} {k : Nat} {r : List S78 × Int × Int} (h : parse_Parse.f k s = some r) : wfL true r.1 := by
  by_cases he : r.2.2 = 0
  · obtain ⟨L, n', hs, hL, hp, _⟩ := parse_good h he
    exact ((pwf k).1 _ _ _ _ _ _ _ (Int.le_refl _) (tk_all hs hL) wfL_nil hp).1
  · rw [(parse_bad h he).1]; exact wfL_nil
mutual
theorem wfL_sm : ∀ {top : Bool} {l : List S78}, wfL top l → smL l
  | _, [], _ => trivial
  | top, x :: xs, h => ⟨wfN_sm h.1, wfL_sm h.2⟩
theorem wfN_sm : ∀ {top : Bool} {x : S78}, wfN top x → smN x
  | top, ⟨k, a, s, p, hh, e, b, l⟩, h => ⟨h.1.s2, wfL_sm h.2.2.2.2.2.2.1, wfL_sm h.2.2.2.2.2.2.2⟩
end
end Go.Proofs.YtkpnfejfbmandaaDoor.Px
namespace Go.Proofs.YtkpnfejfbmandaaDoor.Px
open Go.RowKit Go.Proofs.YtkpnfejfbmandaaDoorW.PrintWords Go.Proofs.YtkpnfejfbmandaaDoorW.PrintLast Go.Proofs.YtkpnfejfbmandaaDoorW.PrintMore
set_option linter.unusedVariables false
set_option linter.unusedSimpArgs false
theorem failI_ok {st : IS} {a e : Int} (he : e ≠ 0) (h : (failI st a e).2.2 = 0) : False := by
  unfold failI at h
  split at h
  · exact he h
  · rename_i hn
    exact hn (by rw [h]; rfl)
theorem expI_ok {st : IS} {a : Int} {g w : HS} {e : Int} (he : e ≠ 0) (h : (expI st a g w e).2.2 = 0) : hsE g w = true ∧ expI st a g w e = st := by
  unfold expI at h ⊢
  split
  · rename_i hq; exact ⟨hq, rfl⟩
  · rename_i hn
    rw [if_neg hn] at h
    exact (failI_ok he h).elim
mutual
theorem iL_prs : ∀ {top : Bool} {l : List S78} {s : HS} {st : IS}, wfL top l → (iL l s st).2.2.2 = 0 → st.2.2 = 0 ∧ (iL l s st).2.1.length = st.1.length + prL l
  | _, [], s, st, _, h => by rw [iL] at h ⊢; exact ⟨h, by simp [prL]⟩
  | top, x :: xs, s, st, hw, h => by
    rw [iL] at h ⊢
    by_cases e : st.2.2 = 0
    · rw [if_pos e] at h ⊢
      obtain ⟨h1, h2⟩ := iL_prs hw.2 h
      obtain ⟨_, h4⟩ := iN_prs hw.1 h1
      refine ⟨e, ?_⟩
      rw [h2, h4, prL_cons]; omega
    · rw [if_neg e] at h
      exact absurd h e
theorem iN_prs : ∀ {top : Bool} {x : S78} {s : HS} {st : IS}, wfN top x → (iN x s st).2.2.2 = 0 → st.2.2 = 0 ∧ (iN x s st).2.1.length = st.1.length + prN x
  | top, ⟨k, a, S, p, hh, f5, b, l⟩, s, st, hw, h => by
    have W := wfN_iff.1 hw
    have hno : k ≠ 2 → l = [] := fun hk => W.noels (by
      cases hf : f5 with
      | false => rfl
      | true => exact absurd (W.els hf) hk)
    rw [iN] at h ⊢
    rw [prN_eq]
    dsimp only
    by_cases h0 : k = 0
    · rw [if_pos h0] at h ⊢
      have hb : b = [] := W.leaf.resolve_left (by show ¬ opK k; unfold opK; omega)
      have hl := hno (by omega)
      subst hb hl
      exact ⟨h, by simp [prL, h0]⟩
    rw [if_neg h0] at h ⊢
    by_cases h1 : k = 1
    · rw [if_pos h1] at h ⊢
      have hb : b = [] := W.leaf.resolve_left (by show ¬ opK k; unfold opK; omega)
      have hl := hno (by omega)
      subst hb hl
      dsimp only at h ⊢
      split at h
      · rename_i hq
        rw [if_pos hq]
        exact ⟨h, by simp [prL, h1]⟩
      · exact (failI_ok (by decide) h).elim
    rw [if_neg h1] at h ⊢
    by_cases h4 : k = 4
    · rw [if_pos h4] at h ⊢
      have hb : b = [] := W.leaf.resolve_left (by show ¬ opK k; unfold opK; omega)
      have hl := hno (by omega)
      subst hb hl
      obtain ⟨_, e⟩ := expI_ok (by decide) h
      dsimp only at e h ⊢
      rw [e] at h ⊢
      exact ⟨h, by simp [prL, h1]⟩
    rw [if_neg h4] at h ⊢
    by_cases h2 : k = 2
    · rw [if_pos h2] at h ⊢
      obtain ⟨_, e⟩ := expI_ok (by decide) h
      dsimp only at e h ⊢
      rw [e] at h ⊢
      obtain ⟨q1, q2⟩ := iL_prs W.l h
      obtain ⟨q3, q4⟩ := iL_prs W.b q1
      refine ⟨q3, ?_⟩
      rw [q2, q4, if_neg h1]
      dsimp only
      omega
    rw [if_neg h2] at h ⊢
    have hl := hno h2
    subst hl
    by_cases h3 : k = 3
    · rw [if_pos h3] at h ⊢
      obtain ⟨_, e⟩ := expI_ok (by decide) h
      dsimp only at e h ⊢
      rw [e] at h ⊢
      obtain ⟨q3, q4⟩ := iL_prs W.b h
      refine ⟨q3, ?_⟩
      rw [q4, if_neg h1]
      simp [prL]
    rw [if_neg h3] at h ⊢
    by_cases h6 : k = 6
    · rw [if_pos h6] at h ⊢
      obtain ⟨_, e⟩ := expI_ok (by decide) h
      dsimp only at e h ⊢
      rw [e] at h ⊢
      obtain ⟨q3, q4⟩ := iL_prs W.b h
      refine ⟨q3, ?_⟩
      rw [q4, if_neg h1]
      simp [prL]
    rw [if_neg h6] at h ⊢
    have hb : b = [] := W.leaf.resolve_left (by show ¬ opK k; unfold opK; omega)
    subst hb
    exact ⟨h, by rw [if_neg h1]; simp [prL]⟩
end
theorem infer_len {top : Bool} {l : List S78} (hw : wfL top l) (h : (inferF l).2.2 = 0) : (inferF l).1.length = prL l := by
  have hE : (inferE l).2.2 = 0 := by
    unfold inferF at h
    split at h
    · assumption
    · exact h
  unfold inferF
  rw [if_pos hE]
  show (inferE l).1.length = _
  unfold inferE at hE ⊢
  split at hE
  · rename_i hn
    rw [dif_pos hn]
    have := (iL_prs hw hE).2
    simpa using this
  · rename_i hn
    rw [dif_neg hn]
    obtain ⟨_, e⟩ := expI_ok (by decide) hE
    rw [e] at hE ⊢
    have := (iL_prs hw hE).2
    simpa using this
end Go.Proofs.YtkpnfejfbmandaaDoor.Px
namespace Go.Proofs.YtkpnfejfbmandaaDoor.Px
open Go.RowKit Go.Proofs.YtkpnfejfbmandaaDoorW.PrintWords Go.Proofs.YtkpnfejfbmandaaDoorW.PrintLast Go.Proofs.YtkpnfejfbmandaaDoorW.PrintMore
set_option linter.unusedVariables false
set_option linter.unusedSimpArgs false
def compF (r : List S78 × Int × Int) : List S40 × Int × Int := if r.2.2 = 0 then codeF r.1 else ([], r.2.1, r.2.2)
theorem parsed_ok {s : ByteArray} {r : List S78 × Int × Int} (h : Ev (fun k => parse_Parse.f k s) r) : wfL true r.1 ∧ nL r.1 ≤ 4096 := by
  obtain ⟨k, hk⟩ := h.one
  refine ⟨parse_wf hk, ?_⟩
  by_cases he : r.2.2 = 0
  · obtain ⟨L, n', hs, hL, hp, _⟩ := parse_good hk he
    have := (parse_cnt k).1 _ _ _ _ _ _ _ hp
    simp only [nL] at this
    have h1 := this.2 (by omega)
    have h2 := this.1
    omega
  · rw [(parse_bad hk he).1]; simp [nL]
theorem code_ok {l : List S78} (hw : wfL true l) (hn : nL l ≤ 4096) (A : Option Addr) (c : Nat) (w : World) (hC : Kd.C k78 w A l.length l) (hc : l.length ≤ c) :
    Calls Tryd.prog 35 #[.slice A l.length c] w fun e w' => ∃ v, e = .returned (.tuple #[v, .int .i64 (codeF l).2.1, .int .i64 (codeF l).2.2]) ∧ Kd.R k40 40 w' w.heap.size (fun _ => True) v (codeF l).1 ∧ Below w.heap.size w w' :=
  code_any l A c w hC hc (wfL_sm hw) (by omega) (fun h => Nat.le_of_eq (infer_len hw h).symm)
set_option maxHeartbeats 1000000 in
set_option maxRecDepth 100000 in
theorem compile_any {s : ByteArray} {r : List S78 × Int × Int} (h : Ev (fun k => parse_Parse.f k s) r) (w : World) (hG : GS w) :
    Calls Tryd.prog 15 #[.string s] w fun e w' => ∃ v, e = .returned (.tuple #[v, .int .i64 (compF r).2.1, .int .i64 (compF r).2.2]) ∧ Kd.R k40 40 w' w.heap.size (fun _ => True) v (compF r).1 ∧ Below w.heap.size w w' := by
  obtain ⟨hw, hn⟩ := parsed_ok h
  have hpa := Aside0.mk (parse_any h w hG)
  have hco := Aside0.mk (fun A c W hC hc => code_ok hw hn A c W hC hc)
  obtain ⟨q, hq⟩ : ∃ q, q = compF r := ⟨_, rfl⟩
  rw [← hq]
  unfold compF at hq
  clear h hG hw hn
  obtain ⟨l, a, e⟩ := r
  dsimp only at hpa hco hq
  by_cases he : e = 0
  · have he' : (e != 0) = false := by simp [he]
    rw [if_pos he] at hq
    rw [← hq] at hco
    replace hq := Aside0.mk hq
    replace he := Aside0.mk he
    go_enter Tryd.func15, Tryd.ntmps15
    go_wp2_with (first | (go_at_call 10; refine hpa.out.mono ?_; rintro ee w1 ⟨A, c, rfl, hC, hc, HB⟩; replace HB := Aside0.mk HB; replace hC := Aside0.mk hC) | (go_at_call 35; refine (hco.out _ _ _ hC.out hc).mono ?_; rintro ee w2 ⟨v, rfl, HR, HB2⟩; replace HR := Aside0.mk HR; replace HB2 := Aside0.mk HB2))
    go_ret3
    exact ⟨_, rfl, Kd.R_lower HR.out HB.out.size, below_step HB.out HB2.out⟩
  · have he' : (e != 0) = true := by simp [he]
    rw [if_neg he] at hq
    replace hq := Aside0.mk hq
    replace he := Aside0.mk he
    go_enter Tryd.func15, Tryd.ntmps15
    go_wp2_with (go_at_call 10; refine hpa.out.mono ?_; rintro ee w1 ⟨A, c, rfl, hC, hc, HB⟩; replace HB := Aside0.mk HB; replace hC := Aside0.mk hC)
    go_ret3
    rw [hq.out]
    exact ⟨_, rfl, Kd.R_nil _ _ _ _ _, HB.out⟩
def al17l : List S78 := [⟨0, 0, ⟨#[97]⟩, ⟨#[]⟩, false, false, [], []⟩, ⟨2, 1, ⟨#[]⟩, ⟨#[116]⟩, true, false, [⟨0, 10, ⟨#[98]⟩, ⟨#[]⟩, false, false, [], []⟩], []⟩]
def al17c : List S40 := [⟨0, ⟨#[97]⟩, ⟨#[]⟩, false, 0, 0⟩, ⟨2, ⟨#[]⟩, ⟨#[116]⟩, false, 0, 3⟩, ⟨0, ⟨#[98]⟩, ⟨#[]⟩, false, 0, 0⟩, ⟨9, ⟨#[]⟩, ⟨#[]⟩, false, 0, 0⟩]
theorem al17a : parse_Parse.f 12 ⟨#[97, 123, 123, 105, 102, 32, 46, 116, 125, 125, 98, 123, 123, 101, 110, 100, 125, 125]⟩ = some (al17l, 18, 0) := by
  rw [parseK_is]; kernel_rfl
theorem al17b : codeF al17l = (al17c, 0, 0) := by kernel_rfl
end Go.Proofs.YtkpnfejfbmandaaDoor.Px
