/- Plain laws: Strip, zero, the two Equals; PrinterEqualMatchesReference. -/
import Derived.Test.YtgdpojleejdfaaaPq
import Derived.Test.YtgdpojleejdfaaaPe
import Derived.Test.YtgdpojleejdfaaaPz3
namespace Go.Proofs.Ytgdpojleejdfaaa.Px
open Go.RowKit Go.Proofs.YtgdpojleejdfaaaW.PrintWords Go.Proofs.YtgdpojleejdfaaaW.PrintLast Go.Proofs.YtgdpojleejdfaaaW.PrintMore
set_option linter.unusedVariables false
set_option linter.unusedSimpArgs false

theorem hdR_false (x y : S29) : hdR false x y = (x.f0 == y.f0 && decide (x.f2.toList = y.f2.toList) && decide (x.f3.toList = y.f3.toList) && x.f4 == y.f4 && x.f5 == y.f5) := by unfold hdR; simp
theorem eqRL_false : ∀ (n : Nat) (a b : List S29), SizeOf.sizeOf a < n → eqRL false a b = eqList a b
  | 0, a, b, h => absurd h (Nat.not_lt_zero _)
  | n + 1, [], [], h => by simp [eqRL, eqList]
  | n + 1, [], _ :: _, h => by simp [eqRL, eqList]
  | n + 1, _ :: _, [], h => by simp [eqRL, eqList]
  | n + 1, x :: xs, y :: ys, h => by
    simp only [List.cons.sizeOf_spec] at h
    have h6 := S29.size6 x
    have h7 := S29.size7 x
    rw [eqRL_cons, eqList_cons1, eqRN_eq, eqNode_eq, hdR_false, eqRL_false n x.f6 y.f6 (by omega), eqRL_false n x.f7 y.f7 (by omega), eqRL_false n xs ys (by omega)]
    simp only [Bool.and_assoc]
theorem stripN_f (x : S29) : (stripN x).f0 = x.f0 ∧ (stripN x).f1 = 0 ∧ (stripN x).f2 = x.f2 ∧ (stripN x).f3 = x.f3 ∧ (stripN x).f4 = x.f4 ∧ (stripN x).f5 = x.f5 ∧ (stripN x).f6 = stripL x.f6 ∧ (stripN x).f7 = stripL x.f7 := by rw [stripN_eq]; exact ⟨rfl, rfl, rfl, rfl, rfl, rfl, rfl, rfl⟩
theorem stripL_cons (x : S29) (xs : List S29) : stripL (x :: xs) = stripN x :: stripL xs := by simp [stripL]
theorem eq_strip : ∀ (n : Nat) (a : List S29), SizeOf.sizeOf a < n → eqList a (stripL a) = true
  | 0, a, h => absurd h (Nat.not_lt_zero _)
  | n + 1, [], h => by simp [eqList, stripL]
  | n + 1, x :: xs, h => by
    simp only [List.cons.sizeOf_spec] at h
    have h6 := S29.size6 x
    have h7 := S29.size7 x
    obtain ⟨a0, a1, a2, a3, a4, a5, a6, a7⟩ := stripN_f x
    rw [stripL_cons]
    exact (eqList_cons_iff _ _ _ _).2 ⟨(eqNode_iff _ _).2 ⟨a0.symm, a2.symm, a3.symm, a4.symm, a5.symm, by rw [a6]; exact eq_strip n _ (by omega), by rw [a7]; exact eq_strip n _ (by omega)⟩, eq_strip n xs (by omega)⟩

abbrev ZE (l : List S29) : Prop := nL l ≤ 1000000000 → Ev (fun k => tmplpipelaw13_zero.f k (stripL l)) 0
theorem zero_step (l : List S29) (ih : ∀ x ∈ l, ZE x.f6 ∧ ZE x.f7) : ZE l := by
  intro hn
  have hll := nL_len l
  have hsl := stripL_len l
  have loop : ∀ (d i : Nat), i ≤ l.length → l.length - i = d → Ev (fun k => tmplpipelaw13_zero.l0 k 0 (stripL l) ((stripL l).length : Int) (i : Int)) 0 := by
    intro d
    induction d with
    | zero =>
      intro i hi hd
      refine ⟨1, fun k hk => ?_⟩
      obtain ⟨k, rfl⟩ : ∃ j, k = j + 1 := ⟨k - 1, by omega⟩
      show tmplpipelaw13_zero.l0 (k + 1) _ _ _ _ = _
      rw [tmplpipelaw13_zero.l0, if_neg (by omega)]
    | succ d ihd =>
      intro i hi hd
      have hlt : i < l.length := by omega
      have r1 : rd_T29 (stripL l) (i : Int) = stripN l[i] := by
        have h2 : i < (stripL l).length := by omega
        rw [rd_T29_at _ i h2]
        have := stripL_get l i
        rw [List.getElem?_eq_getElem h2, List.getElem?_eq_getElem hlt] at this
        exact Option.some.inj this
      obtain ⟨ih6, ih7⟩ := ih l[i] (List.getElem_mem hlt)
      have hnn : nL l[i].f6 ≤ 1000000000 ∧ nL l[i].f7 ≤ 1000000000 := by
        have h1 := nL_mem l l[i] (List.getElem_mem hlt)
        rw [nN_eq] at h1
        omega
      generalize l[i] = x at *
      have hw : wrap64 ((i : Int) + 1) = ((i + 1 : Nat) : Int) := by rw [w64 (by omega) (by omega)]; rfl
      have hw0 : wrap64 (0 + wrap64 (0 + 0)) = 0 := by simp [wrap64]
      obtain ⟨a0, a1, a2, a3, a4, a5, a6, a7⟩ := stripN_f x
      obtain ⟨K6, h6⟩ := ih6 hnn.1
      obtain ⟨K7, h7⟩ := ih7 hnn.2
      obtain ⟨K1, h1⟩ := ihd (i + 1) (by omega) (by omega)
      dsimp only at h1 h6 h7
      refine ⟨K6 + K7 + K1 + 2, fun k hk => ?_⟩
      obtain ⟨k, rfl⟩ : ∃ j, k = j + 1 := ⟨k - 1, by omega⟩
      show tmplpipelaw13_zero.l0 (k + 1) _ _ _ _ = _
      rw [tmplpipelaw13_zero.l0, if_pos (by omega), if_pos (by omega), if_pos (by omega), r1, if_pos a1, a6, a7, h6 k (by omega), Option.bind_some, h7 k (by omega), Option.bind_some, hw0, hw, h1 k (by omega)]
  obtain ⟨K, hK⟩ := loop l.length 0 (by omega) (by omega)
  refine ⟨K + 1, fun k hk => ?_⟩
  obtain ⟨k, rfl⟩ : ∃ j, k = j + 1 := ⟨k - 1, by omega⟩
  show tmplpipelaw13_zero.f (k + 1) _ = _
  rw [tmplpipelaw13_zero.f]
  exact hK k (by omega)
theorem zero_strip : ∀ (n : Nat) (l : List S29), SizeOf.sizeOf l < n → ZE l
  | 0, l, h => absurd h (Nat.not_lt_zero _)
  | n + 1, l, h => zero_step l fun x hx => by
      have h1 := List.sizeOf_lt_of_mem hx
      exact ⟨zero_strip n x.f6 (by have := S29.size6 x; omega), zero_strip n x.f7 (by have := S29.size7 x; omega)⟩
theorem FB_beq {l m : List S29} (hl : Can (toksL l) ∧ ShL l) (hm : Can (toksL m) ∧ ShL m) : ((FB l).toList == (FB m).toList) = eqList l m := by
  cases h : eqList l m with
  | true => rw [eqFB h]; exact beq_self_eq_true _
  | false =>
    rw [beq_eq_false_iff_ne]
    intro e
    rw [FB_inj hl hm (tl_inj e)] at h
    cases h
theorem pure_equal : tmplpipelaw13_PrinterEqualMatchesReference.Pure := by
  intro a0 a1 _ _
  obtain ⟨l, ⟨K1, h1⟩, okl⟩ := parsed_total a0
  obtain ⟨m, ⟨K2, h2⟩, okm⟩ := parsed_total a1
  have nl : nL l ≤ 1000000000 := Nat.le_trans (parsed_nL a0 K1 l (h1 K1 (Nat.le_refl _))) (Nat.le_trans okl.2 (by omega))
  have cl := parsed_can a0 K1 l (h1 K1 (Nat.le_refl _))
  have cm := parsed_can a1 K2 m (h2 K2 (Nat.le_refl _))
  obtain ⟨K3, h3⟩ := alive_ev
  obtain ⟨K4, h4⟩ := ref12_equal _ l (Nat.lt_succ_self _) (stripL l) false nl
  obtain ⟨K5, h5⟩ := ref12_equal _ l (Nat.lt_succ_self _) l true nl
  obtain ⟨K6, h6⟩ := ref12_equal _ l (Nat.lt_succ_self _) m false nl
  obtain ⟨K7, h7⟩ := zero_strip _ l (Nat.lt_succ_self _) nl
  rw [eqRL_refl true _ l (Nat.lt_succ_self _)] at h5
  rw [eqRL_false _ l _ (Nat.lt_succ_self _), eq_strip _ l (Nat.lt_succ_self _)] at h4
  rw [eqRL_false _ l _ (Nat.lt_succ_self _)] at h6
  have hs : printer_Strip.f l = some (stripL l) := by unfold printer_Strip.f; exact if_pos nl
  dsimp only at h1 h2 h3 h4 h5 h6 h7
  refine ⟨K1 + K2 + K3 + K4 + K5 + K6 + K7 + 1, ?_⟩
  obtain ⟨k, hk⟩ : ∃ k, K1 + K2 + K3 + K4 + K5 + K6 + K7 = k := ⟨_, rfl⟩
  rw [hk]
  unfold tmplpipelaw13_PrinterEqualMatchesReference.f
  rw [h1 (k + 1) (by omega), Option.bind_some, h2 (k + 1) (by omega), Option.bind_some, hs, Option.bind_some, h7 (k + 1) (by omega), Option.bind_some, if_pos rfl, h4 (k + 1) (by omega), Option.bind_some, if_pos rfl,
    Option.bind_some, h5 (k + 1) (by omega), Option.bind_some, tmplpipelaw13_PrinterEqualMatchesReference.j0, if_neg (by decide), h3 k (by omega), Option.bind_some, if_pos rfl]
  simp only [printer_Equal.f, Option.bind_some]
  rw [h6 k (by omega)]
  simp only [Option.bind_some, beq_self_eq_true, if_true, eq_strip _ l (Nat.lt_succ_self _), printer_format okl, printer_format okm, FB_beq cl cm]
end Go.Proofs.Ytgdpojleejdfaaa.Px
