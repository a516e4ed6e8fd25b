import Derived.Test.YtkpnfejfbmandaaDoorCIM11
import Derived.Test.YtkpnfejfbmandaaDoorCIM14
import Derived.Test.YtkpnfejfbmandaaDoorCIM2
import Derived.Test.YtkpnfejfbmandaaDoorCIM5
import Derived.Test.YtkpnfejfbmandaaDoorCIM3
/- Contract of the reference's Parse. -/
namespace Go.Proofs.YtkpnfejfbmandaaDoor.Px
open Go.RowKit Go.Proofs.YtkpnfejfbmandaaDoorW.PrintWords Go.Proofs.YtkpnfejfbmandaaDoorW.PrintLast Go.Proofs.YtkpnfejfbmandaaDoorW.PrintMore
set_option linter.unusedVariables false
set_option linter.unusedSimpArgs false
theorem rparse.all (k : Nat) : rlist.Con k ∧ rnode.Con k := by
  induction k using Nat.strongRecOn with
  | _ k ih => exact ⟨rlist.step k (fun m h => (ih m h).2), rnode.step k (fun m h => (ih m h).1)⟩
def tmplpiperef12_Parse.f (k : Nat) (s : ByteArray) : Option (List S78 × Int × Int) :=
  (rlexF k s).bind fun r => if r.2.2 = 0 then (rlist k r.1 0 0 (-1) false 0 []).bind fun q => if q.2.2.1 = 0 then some (q.1, s.size, 0) else some ([], q.2.1, q.2.2.1) else some ([], r.2.1, r.2.2)
theorem rlexL.mono : ∀ k s out p, LeO (rlexL k s out p) (rlexL (k + 1) s out p)
  | 0, _, _, _ => fun r h => by simp [rlexL] at h
  | k + 1, s, out, p => by
    unfold rlexL
    repeat' first
      | (with_reducible exact rlexL.mono k _ _ _)
      | (with_reducible exact tmplpiperef11_find.mono _ _ _ _)
      | (with_reducible exact tmplpiperef11_words.mono _ _)
      | (with_reducible exact tmplpiperef11_form.mono _ _)
      | (with_reducible exact LeO.refl _)
      | (with_reducible exact LeO.none _)
      | (with_reducible refine LeO.ite ?_ ?_)
      | (with_reducible refine LeO.bind ?_ (fun _ => ?_))
theorem rlexF.mono (k : Nat) (s : ByteArray) : LeO (rlexF k s) (rlexF (k + 1) s) := LeO.ite (LeO.refl _) (rlexL.mono k s _ _)
theorem rparse.mono : ∀ k, (∀ l i n op ie dp out, LeO (rlist k l i n op ie dp out) (rlist (k + 1) l i n op ie dp out)) ∧ (∀ l i n dp, LeO (rnode k l i n dp) (rnode (k + 1) l i n dp))
  | 0 => ⟨fun _ _ _ _ _ _ _ r h => by simp [rlist] at h, fun _ _ _ _ r h => by simp [rnode] at h⟩
  | k + 1 => by
    obtain ⟨ih1, ih2⟩ := rparse.mono k
    refine ⟨fun l i n op ie dp out => ?_, fun l i n dp => ?_⟩
    · unfold rlist
      repeat' first
        | (with_reducible exact ih1 _ _ _ _ _ _ _)
        | (with_reducible exact ih2 _ _ _ _)
        | (with_reducible exact LeO.refl _)
        | (with_reducible exact LeO.none _)
        | (with_reducible refine LeO.ite ?_ ?_)
        | (with_reducible refine LeO.bind ?_ (fun _ => ?_))
    · unfold rnode
      dsimp only
      repeat' first
        | (with_reducible exact ih1 _ _ _ _ _ _ _)
        | (with_reducible exact ih2 _ _ _ _)
        | (with_reducible exact LeO.refl _)
        | (with_reducible exact LeO.none _)
        | (with_reducible refine LeO.ite ?_ ?_)
        | (with_reducible refine LeO.bind ?_ (fun _ => ?_))
set_option maxHeartbeats 1000000 in
set_option maxRecDepth 100000 in
theorem tmplpiperef12_Parse.calls (k : Nat) (s : ByteArray) (r1 : List S78) (r2 r3 : Int) (w : World) (h : tmplpiperef12_Parse.f k s = some (r1, r2, r3)) :
    Calls Tryd.prog 20 #[.string s] w fun e w' => ∃ v0_ : Value, e = .returned (.tuple #[v0_, .int .i64 r2, .int .i64 r3]) ∧ Kd.R k78 78 w' w.heap.size (fun _ => True) v0_ r1 ∧ Below w.heap.size w w' := by
  unfold tmplpiperef12_Parse.f at h
  obtain ⟨⟨l, q2, q3⟩, hl, H⟩ := Option.bind_eq_some_iff.1 h
  clear h
  have HL := Aside0.mk (rlexF.calls k s l q2 q3 w hl)
  clear hl
  replace H := Aside0.mk H
  go_enter Tryd.func20, Tryd.ntmps20
  go_wp2_with fail
  refine HL.out.mono ?_
  rintro e w1 ⟨v, rfl, RL, HB⟩
  obtain ⟨A, c, rfl⟩ := Kd.R_slice RL
  obtain ⟨_, hc, RC⟩ := Kd.R_reads' RL
  replace RC := Aside0.mk RC
  replace HB := Aside0.mk HB
  clear HL RL
  by_cases h3 : q3 = 0
  case neg =>
    have H2 := H.out; clear H
    rw [if_neg h3] at H2
    have h3' : (q3 != 0) = true := by simp [h3]
    clear h3
    simp only [Option.some.injEq, Prod.mk.injEq] at H2
    obtain ⟨rfl, rfl, rfl⟩ := H2
    go_wp2
    go_ret3
    exact ⟨_, rfl, Kd.R_nil _ _ _ _ _, HB.out⟩
  have H2 := H.out; clear H
  rw [if_pos h3] at H2
  have h3' : (q3 != 0) = false := by simp [h3]
  clear h3
  obtain ⟨⟨r, p2, p3, i', n'⟩, hp, H⟩ := Option.bind_eq_some_iff.1 H2
  clear H2
  replace hp := Aside0.mk hp
  replace H := Aside0.mk H
  replace hc := Aside0.mk hc
  go_wp2_with fail
  have HS : Stp w1 (w1.alloc (.cells (stC A c l 0 0) 98)) w1.heap.size 98 (stC A c l 0 0) (w1.alloc (.cells (stC A c l 0 0) 98)) := Stp.start (blk_new _ _) (below_alloc (Below.refl _ _) _) (Nat.le_refl _)
  refine ((rparse.all k).1 w1.heap.size A c l 0 0 (-1) false 0 r p2 p3 i' n' w1 _ HS RC.out hc.out hp.out).mono ?_
  rintro e w2 ⟨v, rfl, RR, S2⟩
  obtain ⟨A1, c1, rfl⟩ := Kd.R_slice RR
  replace RR := Aside0.mk (Kd.R_lower (base' := w.heap.size) RR (Nat.le_trans HB.out.size (by simp)))
  replace HB := Aside0.mk (below_step HB.out S2.bel)
  clear S2 HS hp RC
  by_cases h5 : p3 = 0
  case neg =>
    have H2 := H.out; clear H
    rw [if_neg h5] at H2
    have h5' : (p3 != 0) = true := by simp [h5]
    clear h5
    simp only [Option.some.injEq, Prod.mk.injEq] at H2
    obtain ⟨rfl, rfl, rfl⟩ := H2
    go_wp2
    go_ret3
    exact ⟨_, rfl, Kd.R_nil _ _ _ _ _, HB.out⟩
  have H2 := H.out; clear H
  rw [if_pos h5] at H2
  have h5' : (p3 != 0) = false := by simp [h5]
  clear h5
  simp only [Option.some.injEq, Prod.mk.injEq] at H2
  obtain ⟨rfl, rfl, rfl⟩ := H2
  go_wp2
  go_ret3
  exact ⟨_, rfl, RR.out, HB.out⟩
end Go.Proofs.YtkpnfejfbmandaaDoor.Px
namespace Go.Proofs.YtkpnfejfbmandaaDoor.Px
open Go.RowKit Go.Proofs.YtkpnfejfbmandaaDoorW.PrintWords Go.Proofs.YtkpnfejfbmandaaDoorW.PrintLast Go.Proofs.YtkpnfejfbmandaaDoorW.PrintMore
attribute [local go_sem] max2_int min2_int max_two min_two max_three min_three max_four min_four   -- for this text's walks alone
set_option linter.unusedVariables false
set_option linter.unusedSimpArgs false
theorem eqA28 (d : Nat) (w : World) (x0 y0 : Int) (x1 y1 : Int) (x2 y2 : ByteArray) (x3 y3 : ByteArray) (x4 y4 : Bool) :
    (Op.equalIn (d + 2) 76 (.agg #[.int .i64 x0, .int .i64 x1, .string x2, .string x3, .bool x4]) (.agg #[.int .i64 y0, .int .i64 y1, .string y2, .string y3, .bool y4])).run Tryd.prog w = .ok (x0 == y0 && (x1 == y1 && (x2.toList == y2.toList && (x3.toList == y3.toList && (x4 == y4))))) w := by
  refine eqA_of Tryd.underlying76 (by kernel_rfl) ?_
  refine eqf_cons (by rfl) (by go_simp; rfl) (by go_simp; rfl) (by go_simp) ?_
  refine eqf_cons (by rfl) (by go_simp; rfl) (by go_simp; rfl) (by go_simp) ?_
  refine eqf_cons (by rfl) (by go_simp; rfl) (by go_simp; rfl) (by go_simp) ?_
  refine eqf_cons (by rfl) (by go_simp; rfl) (by go_simp; rfl) (by go_simp) ?_
  exact eqf_last (by rfl) (by go_simp; rfl) (by go_simp; rfl) (by go_simp)
end Go.Proofs.YtkpnfejfbmandaaDoor.Px
namespace Go.Proofs.YtkpnfejfbmandaaDoor.Px
open Go.RowKit Go.Proofs.YtkpnfejfbmandaaDoorW.PrintWords Go.Proofs.YtkpnfejfbmandaaDoorW.PrintLast Go.Proofs.YtkpnfejfbmandaaDoorW.PrintMore
theorem lexF_small {s : ByteArray} (h : s.size ≤ 65536) : lexF s = lexR s (lexS 0 s.data.toList) := if_neg (by omega)
end Go.Proofs.YtkpnfejfbmandaaDoor.Px
namespace Go.Proofs.YtkpnfejfbmandaaDoor.Px
open Go.RowKit Go.Proofs.YtkpnfejfbmandaaDoorW.PrintWords Go.Proofs.YtkpnfejfbmandaaDoorW.PrintLast Go.Proofs.YtkpnfejfbmandaaDoorW.PrintMore
set_option linter.unusedVariables false
set_option linter.unusedSimpArgs false
def OffsOk (D : List UInt8) : Nat → Bool → List T5 → Prop
  | _, _, [] => True
  | lo, pt, x :: xs => lo ≤ x.1 ∧ x.1 < D.length ∧ (x.2.1 = 0 → pt = false ∧ ∃ r, D.drop x.1 = x.2.2.1 ++ r) ∧ (x.2.1 ≠ 0 → ∃ r, D.drop x.1 = 123 :: r) ∧ OffsOk D (x.1 + 1) (x.2.1 == 0) xs
theorem dirE_ok {k : Int} {s p : List UInt8} {h : Bool} {t : T4} (e : dirE k s p h = (0, t)) : t = (k, s, p, h) ∧ pathL p = true ∧ (named k = true → nameL s = true) := by
  unfold dirE at e
  split at e
  · rename_i hc
    simp only [Prod.mk.injEq, true_and] at e
    exact ⟨e.symm, hc⟩
  · simp at e
theorem dirP_ok {k : Int} {s : List UInt8} {ws : List (List UInt8)} {t : T4} (e : dirP k s ws = (0, t)) : t.1 = k ∧ t.2.1 = s ∧ pathL t.2.2.1 = true ∧ (named k = true → nameL s = true) ∧ (t.2.2.2 = true ↔ ws.length = 1) ∧
    (t.2.2.2 = false → ws = [] ∧ t.2.2.1 = []) ∧ (t.2.2.2 = true → ws = [46 :: t.2.2.1]) ∧ leastOf k ≤ ws.length ∧ ws.length ≤ mostOf k := by
  unfold dirP at e
  split at e
  · simp at e
  · rename_i hc
    have hm1 : mostOf k ≤ 1 := by unfold mostOf; split <;> omega
    match ws, hc, e with
    | [], hc, e =>
      obtain ⟨rfl, h1, h2⟩ := dirE_ok e
      exact ⟨rfl, rfl, h1, h2, by simp, fun _ => ⟨rfl, rfl⟩, fun h => (by cases h), by omega, by omega⟩
    | w :: r, hc, e =>
      have hr : r = [] := List.eq_nil_of_length_eq_zero (by rw [List.length_cons] at hc; omega)
      subst hr
      try dsimp only at e
      split at e
      · rename_i hp
        obtain ⟨rfl, h1, h2⟩ := dirE_ok e
        have hw : w = 46 :: w.drop 1 := by
          cases w with
          | nil => simp [Lib.hasPrefix, List.isPrefixOf] at hp
          | cons a w =>
            simp only [Lib.hasPrefix, List.isPrefixOf, Bool.and_eq_true, beq_iff_eq] at hp
            rw [← hp.1]; rfl
        exact ⟨rfl, rfl, h1, h2, by simp, fun h => (by cases h), fun _ => by rw [← hw], by omega, by omega⟩
      · simp at e
theorem dirF_kind {ws : List (List UInt8)} {t : T4} (e : dirF ws = (0, t)) : 1 ≤ t.1 ∧ t.1 ≤ 8 := by
  have hK : ∀ k ws, dirK k ws = (0, t) → t.1 = k := fun k ws e => by
    unfold dirK at e
    split at e
    · match ws, e with
      | [], e => simp at e
      | w :: r, e =>
        try dsimp only at e
        split at e
        · simp at e
        · exact (dirP_ok e).1
    · exact (dirP_ok e).1
  unfold dirF at e
  match ws, e with
  | [], e => simp at e
  | w :: r, e =>
    try dsimp only at e
    split at e
    · rename_i k hk
      rw [hK _ _ e]; exact kw_range hk
    · split at e
      · rw [hK _ _ e]; decide
      · simp at e
theorem lexS_dirOk {p : Nat} {t u r : List UInt8} (h : noPair 123 (t ++ [123])) (hu : noPair 125 (u ++ [125])) {l : List T5} (e : lexS p (t ++ 123 :: 123 :: (u ++ 125 :: 125 :: r)) = .ok l) :
    ∃ d l', dirF (fieldsG u []) = (0, d) ∧ lexS (p + t.length + u.length + 4) r = .ok l' ∧ l = txtT p t ++ (p + t.length, d) :: l' := by
  rw [lexS_dir h hu] at e
  generalize dirF (fieldsG u []) = dd at e ⊢
  obtain ⟨d0, d⟩ := dd
  try dsimp only at e
  split at e
  · rename_i h0
    subst h0
    cases hl : lexS (p + t.length + u.length + 4) r with
    | error x => rw [hl] at e; cases e
    | ok l' => rw [hl] at e; cases e; exact ⟨d, l', rfl, rfl, rfl⟩
  · cases e
theorem OffsOk.at_ {D : List UInt8} : ∀ {l : List T5} {lo : Nat} {pt : Bool}, OffsOk D lo pt l → ∀ (i : Nat) (h : i < l.length), l[i].1 < D.length ∧ (l[i].2.1 = 0 → ∃ r, D.drop l[i].1 = l[i].2.2.1 ++ r) ∧ (l[i].2.1 ≠ 0 → ∃ r, D.drop l[i].1 = 123 :: r)
  | x :: xs, lo, pt, h, 0, hi => ⟨h.2.1, fun e => (h.2.2.1 e).2, h.2.2.2.1⟩
  | x :: xs, lo, pt, h, i + 1, hi => h.2.2.2.2.at_ i (by simpa using hi)
theorem OffsOk.next {D : List UInt8} : ∀ {l : List T5} {lo : Nat} {pt : Bool}, OffsOk D lo pt l → ∀ (i : Nat) (h : i + 1 < l.length), l[i].1 < l[i + 1].1 ∧ ¬ (l[i].2.1 = 0 ∧ l[i + 1].2.1 = 0)
  | x :: y :: xs, lo, pt, h, 0, hi => by
    obtain ⟨_, _, _, _, h2⟩ := h
    refine ⟨h2.1, fun e => ?_⟩
    have h3 := (h2.2.2.1 e.2).1
    rw [beq_eq_false_iff_ne] at h3
    exact h3 e.1
  | x :: xs, lo, pt, h, i + 1, hi => h.2.2.2.2.next i (by simpa using hi)
end Go.Proofs.YtkpnfejfbmandaaDoor.Px
namespace Go.Proofs.YtkpnfejfbmandaaDoor.Px
open Go.RowKit Go.Proofs.YtkpnfejfbmandaaDoorW.PrintWords Go.Proofs.YtkpnfejfbmandaaDoorW.PrintLast Go.Proofs.YtkpnfejfbmandaaDoorW.PrintMore
set_option linter.unusedVariables false
set_option linter.unusedSimpArgs false
def kwL (k : Int) : List (List UInt8) := match (kwList.find? (fun p => p.2 == k)).map (·.1) with | none => [] | some s => [s]
def wordsOf (d : T4) : List (List UInt8) := kwL d.1 ++ ((if d.2.1 = [] then [] else [d.2.1]) ++ (if d.2.2.2 = true then [46 :: d.2.2.1] else []))
def fmtD (d : T4) : List UInt8 := if d.1 = 0 then d.2.1 else 123 :: 123 :: (Lib.join (wordsOf d) [32] ++ [125, 125])
theorem kwL_of {w : List UInt8} {k : Int} (h : kwKind w = some k) : kwL k = [w] := by
  have h := kwKind_mem h
  simp only [kwList, List.mem_cons, Prod.mk.injEq, List.not_mem_nil, or_false] at h
  rcases h with ⟨rfl, rfl⟩ | ⟨rfl, rfl⟩ | ⟨rfl, rfl⟩ | ⟨rfl, rfl⟩ | ⟨rfl, rfl⟩ | ⟨rfl, rfl⟩ | ⟨rfl, rfl⟩ <;> rfl
theorem kwL_no (k : Int) : ∀ w ∈ kwL k, (125 : UInt8) ∉ w := by
  intro w hw
  unfold kwL at hw
  cases h : kwList.find? (fun p => p.2 == k) with
  | none => rw [h] at hw; cases hw
  | some p =>
    rw [h] at hw
    have hm := List.mem_of_find?_eq_some h
    simp only [Option.map_some, List.mem_singleton] at hw
    rw [hw]
    simp only [kwList, List.mem_cons, List.not_mem_nil, or_false] at hm
    rcases hm with rfl | rfl | rfl | rfl | rfl | rfl | rfl <;> decide
theorem dirP_words {k : Int} {s : List UInt8} {ws : List (List UInt8)} {t : T4} (e : dirP k s ws = (0, t)) (hs : s = [] ↔ named k = false) (w : List (List UInt8)) (hw : kwL k = w) :
    w ++ ((if s = [] then [] else [s]) ++ ws) = wordsOf t ∧ t.1 = k ∧ t.2.1 = s ∧ pathL t.2.2.1 = true := by
  obtain ⟨h1, h2, h3, h4, h5, h6, h7, h8, h9⟩ := dirP_ok e
  refine ⟨?_, h1, h2, h3⟩
  unfold wordsOf
  rw [h1, h2, hw]
  congr 2
  cases hb : t.2.2.2 with
  | false => rw [if_neg (by decide)]; exact (h6 hb).1
  | true => rw [if_pos rfl]; exact h7 hb
theorem nameL_ne {s : List UInt8} (h : nameL s = true) : s ≠ [] := by
  intro e; subst e; simp [nameL] at h
theorem dirK_words {k : Int} {ws : List (List UInt8)} {t : T4} (e : dirK k ws = (0, t)) (w : List (List UInt8)) (hw : kwL k = w) : w ++ ws = wordsOf t ∧ pathL t.2.2.1 = true ∧ (t.2.1 ≠ [] → nameL t.2.1 = true) := by
  unfold dirK at e
  split at e
  · rename_i hn
    match ws, e with
    | [], e => simp at e
    | s :: r, e =>
      try dsimp only at e
      split at e
      · simp at e
      · have hnm := (dirP_ok e).2.2.2.1 hn
        have hs := nameL_ne hnm
        obtain ⟨h1, h2, h3, h4⟩ := dirP_words e ⟨fun h => absurd h hs, fun h => by rw [hn] at h; cases h⟩ w hw
        rw [if_neg hs] at h1
        exact ⟨h1, h4, fun _ => by rw [h3]; exact hnm⟩
  · rename_i hn
    have hn : named k = false := by simpa using hn
    obtain ⟨h1, h2, h3, h4⟩ := dirP_words e ⟨fun _ => hn, fun _ => rfl⟩ w hw
    rw [if_pos rfl] at h1
    exact ⟨h1, h4, fun h => absurd h3 h⟩
theorem dirF_words {ws : List (List UInt8)} {t : T4} (e : dirF ws = (0, t)) : ws = wordsOf t ∧ pathL t.2.2.1 = true ∧ (t.2.1 ≠ [] → nameL t.2.1 = true) := by
  unfold dirF at e
  match ws, e with
  | [], e => simp at e
  | w :: r, e =>
    try dsimp only at e
    split at e
    · rename_i k hk
      exact dirK_words e [w] (kwL_of hk)
    · split at e
      · exact dirK_words e [] rfl
      · simp at e
theorem nmGo_safe : ∀ {b : Bool} {s : List UInt8}, nmGo b s = true → ∀ x ∈ s, x ≠ 125
  | b, y :: s, h, x, hx => by
    simp only [nmGo, Bool.and_eq_true, Bool.or_eq_true] at h
    rcases List.mem_cons.1 hx with rfl | hx
    · intro e
      subst e
      revert h
      cases b <;> simp [letB, digB] <;> decide
    · exact nmGo_safe h.2 x hx
theorem nameL_safe {s : List UInt8} (h : nameL s = true) : ∀ x ∈ s, x ≠ 125 := by
  unfold nameL at h
  simp only [Bool.and_eq_true] at h
  exact nmGo_safe h.2.2
theorem dotG_mem : ∀ (s cur : List UInt8) (x : UInt8), x ∈ s → x = 46 ∨ ∃ w ∈ dotG s cur, x ∈ w
  | b :: s, cur, x, hx => by
    rw [dotG]
    split
    · rename_i hb
      rcases List.mem_cons.1 hx with rfl | hx
      · exact .inl hb
      · rcases dotG_mem s [] x hx with h | ⟨w, hw, hm⟩
        · exact .inl h
        · exact .inr ⟨w, by simp [hw], hm⟩
    · rcases List.mem_cons.1 hx with rfl | hx
      · exact .inr (dotG_cur s _ x (by simp))
      · exact dotG_mem s _ x hx
where
  dotG_cur : ∀ (s cur : List UInt8) (x : UInt8), x ∈ cur → ∃ w ∈ dotG s cur, x ∈ w
    | [], cur, x, hx => ⟨cur, by simp [dotG], hx⟩
    | b :: s, cur, x, hx => by
      rw [dotG]
      split
      · exact ⟨cur, by simp, hx⟩
      · exact dotG_cur s _ x (by simp [hx])
theorem pathL_safe {s : List UInt8} (h : pathL s = true) : ∀ x ∈ s, x ≠ 125 := by
  intro x hx
  unfold pathL at h
  have hne : s.isEmpty = false := by cases s with | nil => cases hx | cons _ _ => rfl
  rw [hne, Bool.false_or, Bool.and_eq_true, split_dot _ _ (Nat.le_refl _)] at h
  rcases dotG_mem s [] x hx with rfl | ⟨w, hw, hm⟩
  · decide
  · exact nameL_safe (List.all_eq_true.1 h.2 w hw) x hm
theorem wordsOf_no {t : T4} (hp : pathL t.2.2.1 = true) (hn : t.2.1 ≠ [] → nameL t.2.1 = true) : ∀ w ∈ wordsOf t, (125 : UInt8) ∉ w := by
  intro w hw
  unfold wordsOf at hw
  rw [List.mem_append, List.mem_append] at hw
  rcases hw with hw | hw | hw
  · exact kwL_no _ w hw
  · split at hw
    · cases hw
    · rename_i h
      rw [List.mem_singleton.1 hw]
      exact fun hm => nameL_safe (hn h) _ hm rfl
  · split at hw
    · rw [List.mem_singleton.1 hw]
      intro hm
      rcases List.mem_cons.1 hm with h | hm
      · exact absurd h (by decide)
      · exact pathL_safe hp _ hm rfl
    · cases hw
theorem join_cons2L (x y : List UInt8) (r : List (List UInt8)) : Lib.join (x :: y :: r) [32] = x ++ 32 :: Lib.join (y :: r) [32] := by simp [Lib.join, List.intercalate, List.intersperse]
theorem fields_join : ∀ (ws : List (List UInt8)), (∀ w ∈ ws, w ≠ [] ∧ ∀ b ∈ w, b ≠ 32) → fieldsG (Lib.join ws [32]) [] = ws
  | [], _ => by rw [Lib.join_nil]; rfl
  | [w], h => by
    obtain ⟨h1, h2⟩ := h w (by simp)
    rw [Lib.join_one]
    have := fieldsG_skip w [] [] h2
    rw [List.append_nil, List.nil_append] at this
    rw [this]
    simp [fieldsG, wordCons, h1]
  | w :: v :: r, h => by
    obtain ⟨h1, h2⟩ := h w (by simp)
    rw [join_cons2L, fieldsG_skip w _ [] h2, List.nil_append, fieldsG, if_pos rfl, fields_join (v :: r) (fun x hx => h x (by simp at hx ⊢; exact .inr hx))]
    simp [wordCons, h1]
theorem fieldsG_safe : ∀ (u cur : List UInt8), (∀ b ∈ cur, b ≠ 32) → ∀ w ∈ fieldsG u cur, w ≠ [] ∧ ∀ b ∈ w, b ≠ 32
  | [], cur, hc, w, hw => by
    unfold fieldsG wordCons at hw
    split at hw
    · cases hw
    · rename_i h; rw [List.mem_singleton.1 hw]; exact ⟨h, hc⟩
  | b :: u, cur, hc, w, hw => by
    rw [fieldsG] at hw
    split at hw
    · unfold wordCons at hw
      split at hw
      · exact fieldsG_safe u [] (by simp) w hw
      · rename_i h
        rcases List.mem_cons.1 hw with rfl | hw
        · exact ⟨h, hc⟩
        · exact fieldsG_safe u [] (by simp) w hw
    · rename_i hb
      exact fieldsG_safe u _ (fun x hx => by
        rcases List.mem_append.1 hx with hx | hx
        · exact hc x hx
        · rw [List.mem_singleton.1 hx]; exact hb) w hw
theorem fieldsG_len : ∀ (u cur : List UInt8), (Lib.join (fieldsG u cur) [32]).length ≤ u.length + cur.length
  | [], cur => by
    unfold fieldsG wordCons
    split
    · simp [Lib.join_nil]
    · rw [Lib.join_one]; simp
  | b :: u, cur => by
    rw [fieldsG]
    split
    · unfold wordCons
      have ih := fieldsG_len u []
      split
      · simp at ih ⊢; omega
      · cases h : fieldsG u [] with
        | nil => rw [Lib.join_one]; simp
        | cons y r => rw [join_cons2L, ← h]; simp at ih ⊢; omega
    · have ih := fieldsG_len u (cur ++ [b])
      simp at ih ⊢; omega
theorem noPair_notmem {c : UInt8} : ∀ {u : List UInt8}, c ∉ u → noPair c (u ++ [c])
  | [], _ => trivial
  | [a], h => ⟨fun e => h (by rw [e.1]; simp), trivial⟩
  | a :: b :: u, h => ⟨fun e => h (by rw [e.1]; simp), noPair_notmem (u := b :: u) (fun e => h (by simp at e ⊢; exact .inr e))⟩
theorem join_no {c : UInt8} (hc : c ≠ 32) : ∀ (ws : List (List UInt8)), (∀ w ∈ ws, c ∉ w) → c ∉ Lib.join ws [32]
  | [], _ => by rw [Lib.join_nil]; simp
  | [w], h => by rw [Lib.join_one]; exact h w (by simp)
  | w :: v :: r, h => by
    rw [join_cons2L, List.mem_append, List.mem_cons]
    rintro (hm | hm | hm)
    · exact h w (by simp) hm
    · exact hc hm
    · exact join_no hc (v :: r) (fun x hx => h x (by simp at hx ⊢; exact .inr hx)) hm
structure DOk (d : T4) : Prop where
  ne : d.1 ≠ 0
  dir : dirF (fieldsG (Lib.join (wordsOf d) [32]) []) = (0, d)
  no : noPair 125 (Lib.join (wordsOf d) [32] ++ [125])
theorem dOk_of {u : List UInt8} {d : T4} (h : dirF (fieldsG u []) = (0, d)) : DOk d ∧ (Lib.join (wordsOf d) [32]).length ≤ u.length := by
  obtain ⟨h1, h2, h3⟩ := dirF_words h
  have hs := fieldsG_safe u [] (by simp)
  rw [h1] at hs
  refine ⟨⟨by have := dirF_kind h; omega, ?_, noPair_notmem (join_no (by decide) _ (wordsOf_no h2 h3))⟩, ?_⟩
  · rw [fields_join _ hs, ← h1]; exact h
  · have := fieldsG_len u []
    rw [h1] at this
    simpa using this
def CanT : List T5 → Prop
  | [] => True
  | x :: xs => (if x.2.1 = 0 then x.2 = (0, x.2.2.1, [], false) ∧ x.2.2.1 ≠ [] ∧ noPair 123 x.2.2.1 ∧ (xs = [] ∨ (∃ y ys, xs = y :: ys ∧ y.2.1 ≠ 0 ∧ noPair 123 (x.2.2.1 ++ [123]))) else DOk x.2) ∧ CanT xs
def fmtAll (l : List T5) : List UInt8 := l.flatMap fun x => fmtD x.2
theorem noPair_init {c : UInt8} : ∀ {t : List UInt8}, noPair c (t ++ [c]) → noPair c t
  | [], _ => trivial
  | [a], _ => trivial
  | a :: b :: t, h => ⟨h.1, noPair_init (t := b :: t) h.2⟩
theorem lexS_canT : ∀ (n p : Nat) (s : List UInt8) (l : List T5), s.length ≤ n → lexS p s = .ok l → CanT l ∧ (fmtAll l).length ≤ s.length
  | n, p, s, l, hn, e => by
    cases way s with
    | text _ h =>
      rw [lexS_text h] at e
      cases e
      unfold txtT
      split
      · exact ⟨trivial, by simp [fmtAll]⟩
      · rename_i h0
        exact ⟨⟨by rw [if_pos rfl]; exact ⟨rfl, h0, h, .inl rfl⟩, trivial⟩, by simp [fmtAll, fmtD]⟩
    | open_ t r h hr => rw [lexS_open h hr] at e; cases e
    | dir t u r h hu =>
      obtain ⟨d, l', hd, hl', rfl⟩ := lexS_dirOk h hu e
      cases n with
      | zero => simp at hn
      | succ n =>
        obtain ⟨ih, il⟩ := lexS_canT n _ r l' (by simp at hn; omega) hl'
        obtain ⟨hk, hl⟩ := dOk_of hd
        have hdir : CanT ((p + t.length, d) :: l') := ⟨by rw [if_neg hk.ne]; exact hk, ih⟩
        have hlen : (fmtD d).length ≤ u.length + 4 := by unfold fmtD; rw [if_neg hk.ne]; simp; omega
        unfold txtT
        split
        · rename_i h0
          subst h0
          refine ⟨hdir, ?_⟩
          simp only [fmtAll, List.nil_append, List.flatMap_cons, List.length_append, List.length_cons] at il ⊢
          omega
        · rename_i h0
          refine ⟨⟨by rw [if_pos rfl]; exact ⟨rfl, h0, noPair_init h, .inr ⟨_, _, rfl, hk.ne, h⟩⟩, hdir⟩, ?_⟩
          have e0 : (fmtD (0, t, [], false)).length = t.length := by simp [fmtD]
          simp only [fmtAll, List.cons_append, List.nil_append, List.flatMap_cons, List.length_append, List.length_cons] at il ⊢
          rw [e0]
          omega
end Go.Proofs.YtkpnfejfbmandaaDoor.Px
namespace Go.Proofs.YtkpnfejfbmandaaDoor.Px
open Go.RowKit Go.Proofs.YtkpnfejfbmandaaDoorW.PrintWords Go.Proofs.YtkpnfejfbmandaaDoorW.PrintLast Go.Proofs.YtkpnfejfbmandaaDoorW.PrintMore
set_option linter.unusedVariables false
set_option linter.unusedSimpArgs false
end Go.Proofs.YtkpnfejfbmandaaDoor.Px
namespace Go.Proofs.YtkpnfejfbmandaaDoor.Px
open Go.RowKit Go.Proofs.YtkpnfejfbmandaaDoorW.PrintWords Go.Proofs.YtkpnfejfbmandaaDoorW.PrintLast Go.Proofs.YtkpnfejfbmandaaDoorW.PrintMore
set_option linter.unusedVariables false
set_option linter.unusedSimpArgs false
theorem lexS_err : ∀ (n p : Nat) (s : List UInt8) (q : Nat) (e : Int), s.length ≤ n → lexS p s = .error (q, e) → q ≤ p + s.length ∧ e ≠ 0
  | n, p, s, q, e, hn, h => by
    cases way s with
    | text _ hn' => rw [lexS_text hn'] at h; cases h
    | open_ t r hn' hr => rw [lexS_open hn' hr] at h; cases h; exact ⟨by simp <;> omega, by decide⟩
    | dir t u r hn' hu =>
      rw [lexS_dir hn' hu] at h
      split at h
      · cases hl : lexS (p + t.length + u.length + 4) r with
        | ok l => rw [hl] at h; cases h
        | error x =>
          rw [hl] at h
          cases h
          cases n with
          | zero => simp at hn
          | succ n =>
            have := lexS_err n _ r q e (by simp at hn; omega) hl
            exact ⟨by simp <;> omega, this.2⟩
      · rename_i h0
        cases h
        exact ⟨by simp <;> omega, h0⟩
theorem lexF_cases (s : ByteArray) : (∃ L : List T5, s.size ≤ 65536 ∧ lexS 0 s.data.toList = .ok L ∧ lexF s = (L.map tokS, (s.size : Int), 0)) ∨ (∃ n e, lexF s = ([], n, e) ∧ e ≠ 0 ∧ 0 ≤ n ∧ n ≤ s.size) := by
  by_cases hs : (s.size : Int) > 65536
  · exact .inr ⟨0, 6, if_pos hs, by decide, by omega, by omega⟩
  · rw [lexF_small (by omega)]
    cases h : lexS 0 s.data.toList with
    | ok L => exact .inl ⟨L, by omega, rfl, rfl⟩
    | error x =>
      obtain ⟨q, e⟩ := x
      have := lexS_err _ 0 _ q e (Nat.le_refl _) h
      rw [data_length] at this
      exact .inr ⟨q, e, rfl, this.2, by omega, by omega⟩
structure TkAt (s : ByteArray) (x : T5) : Prop where
  lt : x.1 < s.size
  txt : x.2.1 = 0 → x.1 + x.2.2.1.length ≤ s.size ∧ s.extract x.1 (x.1 + x.2.2.1.length) = ⟨x.2.2.1.toArray⟩
  dir : x.2.1 ≠ 0 → bt s x.1 = 123
end Go.Proofs.YtkpnfejfbmandaaDoor.Px
namespace Go.Proofs.YtkpnfejfbmandaaDoor.Px
open Go.RowKit Go.Proofs.YtkpnfejfbmandaaDoorW.PrintWords Go.Proofs.YtkpnfejfbmandaaDoorW.PrintLast Go.Proofs.YtkpnfejfbmandaaDoorW.PrintMore
set_option linter.unusedVariables false
set_option linter.unusedSimpArgs false
theorem bytes_size (a : List UInt8) : (⟨a.toArray⟩ : ByteArray).size = a.length := List.size_toArray ..
def SmallT (N : Nat) (l : List T5) : Prop := ∀ x ∈ l, x.2.2.1.length ≤ N ∧ x.2.2.2.1.length ≤ N
theorem dirF_small {N : Nat} {ws : List (List UInt8)} {t : T4} (e : dirF ws = (0, t)) (h : ∀ w ∈ ws, w.length ≤ N) : t.2.1.length ≤ N ∧ t.2.2.1.length ≤ N := by
  obtain ⟨h1, h2, h3⟩ := dirF_words e
  have hp : t.2.2.2 = false → t.2.2.1 = [] := by
    have hK : ∀ k ws, dirK k ws = (0, t) → t.2.2.2 = false → t.2.2.1 = [] := fun k ws e => by
      unfold dirK at e
      split at e
      · match ws, e with
        | [], e => simp at e
        | w :: r, e =>
          try dsimp only at e
          split at e
          · simp at e
          · exact fun h => ((dirP_ok e).2.2.2.2.2.1 h).2
      · exact fun h => ((dirP_ok e).2.2.2.2.2.1 h).2
    unfold dirF at e
    match ws, e with
    | [], e => simp at e
    | w :: r, e =>
      try dsimp only at e
      split at e
      · exact hK _ _ e
      · split at e
        · exact hK _ _ e
        · simp at e
  rw [h1] at h
  refine ⟨?_, ?_⟩
  · by_cases hs : t.2.1 = []
    · rw [hs]; exact Nat.zero_le _
    · exact h _ (by unfold wordsOf; rw [if_neg hs]; simp)
  · cases hb : t.2.2.2 with
    | false => rw [hp hb]; exact Nat.zero_le _
    | true =>
      have := h (46 :: t.2.2.1) (by unfold wordsOf; rw [if_pos hb]; simp)
      simp at this; omega
theorem fieldsG_small : ∀ (u cur : List UInt8), ∀ w ∈ fieldsG u cur, w.length ≤ u.length + cur.length
  | [], cur, w, hw => by
    unfold fieldsG wordCons at hw
    split at hw
    · cases hw
    · rw [List.mem_singleton.1 hw]; simp
  | b :: u, cur, w, hw => by
    rw [fieldsG] at hw
    split at hw
    · unfold wordCons at hw
      split at hw
      · have := fieldsG_small u [] w hw; simp at this ⊢; omega
      · rcases List.mem_cons.1 hw with rfl | hw
        · simp
        · have := fieldsG_small u [] w hw; simp at this ⊢; omega
    · have := fieldsG_small u _ w hw; simp at this ⊢; omega
theorem lexS_small (N : Nat) : ∀ (n p : Nat) (s : List UInt8) (l : List T5), s.length ≤ n → s.length ≤ N → lexS p s = .ok l → SmallT N l
  | n, p, s, l, hn, hN, e => by
    cases way s with
    | text _ h =>
      rw [lexS_text h] at e
      cases e
      unfold txtT
      split
      · intro x hx; cases hx
      · intro x hx; rw [List.mem_singleton.1 hx]; exact ⟨hN, Nat.zero_le _⟩
    | open_ t r h hr => rw [lexS_open h hr] at e; cases e
    | dir t u r h hu =>
      obtain ⟨d, l', hd, hl', rfl⟩ := lexS_dirOk h hu e
      cases n with
      | zero => simp at hn
      | succ n =>
        have ih := lexS_small N n _ r l' (by simp at hn; omega) (by simp at hN; omega) hl'
        have hds := dirF_small (N := N) hd (fun w hw => by have := fieldsG_small u [] w hw; simp at this hN; omega)
        intro x hx
        rw [List.mem_append] at hx
        rcases hx with hx | hx
        · unfold txtT at hx
          split at hx
          · cases hx
          · rw [List.mem_singleton.1 hx]; exact ⟨by simp at hN; show t.length ≤ N; omega, Nat.zero_le _⟩
        · rcases List.mem_cons.1 hx with rfl | hx
          · exact hds
          · exact ih x hx
end Go.Proofs.YtkpnfejfbmandaaDoor.Px
namespace Go.Proofs.YtkpnfejfbmandaaDoor.Px
open Go.RowKit Go.Proofs.YtkpnfejfbmandaaDoorW.PrintWords Go.Proofs.YtkpnfejfbmandaaDoorW.PrintLast Go.Proofs.YtkpnfejfbmandaaDoorW.PrintMore
set_option linter.unusedVariables false
set_option linter.unusedSimpArgs false
structure OkTok (x : Int × ByteArray × ByteArray × Bool) : Prop where
  k0 : 0 ≤ x.1
  k8 : x.1 ≤ 8
  s0 : x.1 ≠ 0 → (x.2.1.size = 0 ↔ ¬ (x.1 = 4 ∨ x.1 = 6))
  sn : x.2.1.size ≤ 5000
  pn : x.2.2.1.size ≤ 5000
  h0 : x.1 = 0 → x.2.2.2 = false
end Go.Proofs.YtkpnfejfbmandaaDoor.Px
namespace Go.Proofs.YtkpnfejfbmandaaDoor.Px
open Go.RowKit Go.Proofs.YtkpnfejfbmandaaDoorW.PrintWords Go.Proofs.YtkpnfejfbmandaaDoorW.PrintLast Go.Proofs.YtkpnfejfbmandaaDoorW.PrintMore
set_option linter.unusedVariables false
set_option linter.unusedSimpArgs false
theorem dirK_named {k : Int} {ws : List (List UInt8)} {t : T4} (e : dirK k ws = (0, t)) : t.2.1 = [] ↔ named t.1 = false := by
  unfold dirK at e
  split at e
  · rename_i hn
    match ws, e with
    | [], e => simp at e
    | s :: r, e =>
      try dsimp only at e
      split at e
      · simp at e
      · obtain ⟨h1, h2, _, h4, _⟩ := dirP_ok e
        have hs := nameL_ne (h4 hn)
        rw [h1, h2, hn]
        exact ⟨fun h => absurd h hs, fun h => by cases h⟩
  · rename_i hn
    obtain ⟨h1, h2, _⟩ := dirP_ok e
    rw [h1, h2]
    exact ⟨fun _ => by simpa using hn, fun _ => rfl⟩
theorem dirF_named {ws : List (List UInt8)} {t : T4} (e : dirF ws = (0, t)) : t.2.1 = [] ↔ named t.1 = false := by
  unfold dirF at e
  match ws, e with
  | [], e => simp at e
  | w :: r, e =>
    try dsimp only at e
    split at e
    · exact dirK_named e
    · split at e
      · exact dirK_named e
      · simp at e
structure KOk (d : T4) : Prop where
  k0 : 0 ≤ d.1
  k8 : d.1 ≤ 8
  s0 : d.1 ≠ 0 → (d.2.1 = [] ↔ named d.1 = false)
  h0 : d.1 = 0 → d.2.2.2 = false
theorem lexS_kOk : ∀ (n p : Nat) (s : List UInt8) (l : List T5), s.length ≤ n → lexS p s = .ok l → ∀ x ∈ l, KOk x.2
  | n, p, s, l, hn, e => by
    have htx : ∀ p t, ∀ x ∈ txtT p t, KOk x.2 := fun p t x hx => by
      unfold txtT at hx
      split at hx
      · cases hx
      · rw [List.mem_singleton.1 hx]
        exact ⟨Int.le_refl _, (by decide : (0 : Int) ≤ 8), fun h => absurd rfl h, fun _ => rfl⟩
    cases way s with
    | text _ h => rw [lexS_text h] at e; cases e; exact htx _ _
    | open_ t r h hr => rw [lexS_open h hr] at e; cases e
    | dir t u r h hu =>
      obtain ⟨d, l', hd, hl', rfl⟩ := lexS_dirOk h hu e
      cases n with
      | zero => simp at hn
      | succ n =>
        have ih := lexS_kOk n _ r l' (by simp at hn; omega) hl'
        intro x hx
        rcases List.mem_append.1 hx with hx | hx
        · exact htx _ _ x hx
        · rcases List.mem_cons.1 hx with rfl | hx
          · have h := dirF_kind hd
            exact ⟨by show 0 ≤ d.1; omega, h.2, fun _ => dirF_named hd, fun h0 => by have h1 : d.1 = 0 := h0; omega⟩
          · exact ih x hx
end Go.Proofs.YtkpnfejfbmandaaDoor.Px
namespace Go.Proofs.YtkpnfejfbmandaaDoor.Px
open Go.RowKit Go.Proofs.YtkpnfejfbmandaaDoorW.PrintWords Go.Proofs.YtkpnfejfbmandaaDoorW.PrintLast Go.Proofs.YtkpnfejfbmandaaDoorW.PrintMore
set_option linter.unusedVariables false
set_option linter.unusedSimpArgs false
attribute [local go_sem high] eqA28
theorem rd_map47 (L : List T5) (i : Nat) (h : i < L.length) : rd_T140 (L.map tokR) (i : Int) = tokR L[i] := by
  simp [rd_T140, List.getD_eq_getElem?_getD, h]
end Go.Proofs.YtkpnfejfbmandaaDoor.Px
namespace Go.Proofs.YtkpnfejfbmandaaDoor.Px
open Go.RowKit Go.Proofs.YtkpnfejfbmandaaDoorW.PrintWords Go.Proofs.YtkpnfejfbmandaaDoorW.PrintLast Go.Proofs.YtkpnfejfbmandaaDoorW.PrintMore
set_option linter.unusedVariables false
set_option linter.unusedSimpArgs false
theorem lex_both (s : ByteArray) (hs : s.size ≤ 5000) : ∃ (L : List T5) (N E : Int), lexF s = (L.map tokS, N, E) ∧ outR s [] (lexS 0 s.data.toList) = (L.map tokR, N, E) ∧ (∀ x ∈ L, KOk x.2 ∧ x.2.2.1.length ≤ 5000 ∧ x.2.2.2.1.length ≤ 5000) := by
  rw [lexF_small (by omega)]
  cases h : lexS 0 s.data.toList with
  | ok L =>
    refine ⟨L, s.size, 0, rfl, by simp [outR], fun x hx => ?_⟩
    have h1 := lexS_kOk _ 0 _ L (Nat.le_refl _) h x hx
    have h2 := lexS_small 5000 _ 0 _ L (Nat.le_refl _) (by rw [data_length]; exact hs) h x hx
    exact ⟨h1, h2.1, h2.2⟩
  | error x =>
    obtain ⟨q, e⟩ := x
    exact ⟨[], q, e, rfl, rfl, fun x hx => by cases hx⟩
structure LnI (L : List T5) (A : Option Addr) (B : Option Addr) (w wr : World) : Prop where
  a : Kd.C k76 wr A L.length (L.map tokS)
  b : Kd.C k140 wr B L.length (L.map tokR)
  below : Below w.heap.size w wr
end Go.Proofs.YtkpnfejfbmandaaDoor.Px
