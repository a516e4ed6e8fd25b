import Derived.Test.YtgdpojleejdfaaaDoorPONc
import Derived.Test.YtgdpojleejdfaaaDoorPORc
namespace Go.Proofs.YtgdpojleejdfaaaDoor.Px
open Go.RowKit Go.Proofs.YtgdpojleejdfaaaDoorW.PrintWords Go.Proofs.YtgdpojleejdfaaaDoorW.PrintLast Go.Proofs.YtgdpojleejdfaaaDoorW.PrintMore
set_option linter.unusedVariables false
set_option linter.unusedSimpArgs false

theorem block_is (a : Int) : tmplpiperef12_block.f a = some (decide (a = 2 ∨ a = 3 ∨ a = 6)) := by
  unfold tmplpiperef12_block.f
  by_cases h2 : a = 2
  · simp [h2]
  by_cases h3 : a = 3
  · simp [h3]
  by_cases h6 : a = 6
  · simp [h6]
  simp [h2, h3, h6]
/-! The reference's Count and Nest. -/
abbrev CR (l : List S39) : Prop := nL l ≤ 1000000000 → Ev (fun k => tmplpiperef12_Count.f k l) (cntL l : Int)
theorem rcount_step (l : List S39) (ih : ∀ x ∈ l, CR x.f6 ∧ CR x.f7) : CR l := by
  intro hn
  have hll := nL_len l
  have loop : ∀ (d i x3 : Nat), i ≤ l.length → l.length - i = d → x3 + cntL (l.drop i) ≤ 3000000000 →
      Ev (fun k => tmplpiperef12_Count.l0 k l (x3 : Int) (i : Int)) ((x3 + cntL (l.drop i) : Nat) : Int) := by
    intro d
    induction d with
    | zero =>
      intro i x3 hi hd hb
      obtain rfl : i = l.length := by omega
      refine ⟨1, fun k hk => ?_⟩
      obtain ⟨k, rfl⟩ : ∃ j, k = j + 1 := ⟨k - 1, by omega⟩
      show tmplpiperef12_Count.l0 (k + 1) _ _ _ = _
      rw [tmplpiperef12_Count.l0, if_neg (by omega), List.drop_length]
      simp [cntL]
    | succ d ihd =>
      intro i x3 hi hd hb
      have hlt : i < l.length := by omega
      have e1 : l.drop i = l[i] :: l.drop (i + 1) := List.drop_eq_getElem_cons hlt
      have r1 : rd_T39 l (i : Int) = l[i] := rd_T39_at l i hlt
      obtain ⟨ih6, ih7⟩ := ih l[i] (List.getElem_mem hlt)
      have hg := getN l i hlt
      rw [nN_eq] at hg
      have hc6 := cnt_le l[i].f6
      have hc7 := cnt_le l[i].f7
      rw [e1, cntL_cons, cntN_eq] at hb ⊢
      have hi1 : (i : Int) + 1 = ((i + 1 : Nat) : Int) := by omega
      have nx := ihd (i + 1)
      refine Ev.shift (f := fun k => if decide (l[i].f0 = 2 ∨ l[i].f0 = 3 ∨ l[i].f0 = 6) = true then ((tmplpiperef12_Count.f k l[i].f6).bind fun t248 => (if l[i].f0 = 2 then ((tmplpiperef12_Count.f k l[i].f7).bind fun t251 => (tmplpiperef12_Count.l0 k l (wrap64 ((wrap64 ((wrap64 ((x3 : Int) + 1)) + t248)) + t251)) (wrap64 ((i : Int) + 1)))) else (tmplpiperef12_Count.l0 k l (wrap64 ((wrap64 ((x3 : Int) + 1)) + t248)) (wrap64 ((i : Int) + 1))))) else (if l[i].f0 = 2 then ((tmplpiperef12_Count.f k l[i].f7).bind fun t254 => (tmplpiperef12_Count.l0 k l (wrap64 ((wrap64 ((x3 : Int) + 1)) + t254)) (wrap64 ((i : Int) + 1)))) else (tmplpiperef12_Count.l0 k l (wrap64 ((x3 : Int) + 1)) (wrap64 ((i : Int) + 1))))) ?_ (fun k => by
        rw [tmplpiperef12_Count.l0, if_pos (by omega), if_pos (by omega), r1, block_is, Option.bind_some])
      by_cases h2 : l[i].f0 = 2
      · refine Ev.of (f := fun k => (tmplpiperef12_Count.f k l[i].f6).bind fun t248 => (tmplpiperef12_Count.f k l[i].f7).bind fun t251 => (tmplpiperef12_Count.l0 k l (wrap64 ((wrap64 ((wrap64 ((x3 : Int) + 1)) + t248)) + t251)) (wrap64 ((i : Int) + 1)))) ?_ (fun k => by simp [h2])
        rw [if_pos h2] at hb ⊢
        refine Ev.bind (ih6 (by omega)) (Ev.bind (ih7 (by omega)) ?_)
        rw [w64 (n := (x3 : Int) + 1) (by omega) (by omega), w64 (n := (x3 : Int) + 1 + (cntL l[i].f6 : Int)) (by omega) (by omega), w64 (by omega) (by omega), w64 (by omega) (by omega), hi1, show (x3 : Int) + 1 + (cntL l[i].f6 : Int) + (cntL l[i].f7 : Int) = ((x3 + 1 + cntL l[i].f6 + cntL l[i].f7 : Nat) : Int) by omega, show x3 + (1 + (cntL l[i].f6 + cntL l[i].f7) + cntL (l.drop (i + 1))) = x3 + 1 + cntL l[i].f6 + cntL l[i].f7 + cntL (l.drop (i + 1)) by omega]
        exact nx _ (by omega) (by omega) (by omega)
      · rw [if_neg h2] at hb ⊢
        by_cases h3 : l[i].f0 = 3 ∨ l[i].f0 = 6
        · refine Ev.of (f := fun k => (tmplpiperef12_Count.f k l[i].f6).bind fun t248 => (tmplpiperef12_Count.l0 k l (wrap64 ((wrap64 ((x3 : Int) + 1)) + t248)) (wrap64 ((i : Int) + 1)))) ?_ (fun k => by simp [h2, h3])
          rw [if_pos h3] at hb ⊢
          refine Ev.bind (ih6 (by omega)) ?_
          rw [w64 (n := (x3 : Int) + 1) (by omega) (by omega), w64 (by omega) (by omega), w64 (by omega) (by omega), hi1, show (x3 : Int) + 1 + (cntL l[i].f6 : Int) = ((x3 + 1 + cntL l[i].f6 : Nat) : Int) by omega, show x3 + (1 + cntL l[i].f6 + cntL (l.drop (i + 1))) = x3 + 1 + cntL l[i].f6 + cntL (l.drop (i + 1)) by omega]
          exact nx _ (by omega) (by omega) (by omega)
        · refine Ev.of (f := fun k => tmplpiperef12_Count.l0 k l (wrap64 ((x3 : Int) + 1)) (wrap64 ((i : Int) + 1))) ?_ (fun k => by simp [h2, h3])
          rw [if_neg h3] at hb ⊢
          rw [w64 (by omega) (by omega), w64 (by omega) (by omega), hi1, show (x3 : Int) + 1 = ((x3 + 1 : Nat) : Int) by omega, show x3 + (1 + 0 + cntL (l.drop (i + 1))) = x3 + 1 + cntL (l.drop (i + 1)) by omega]
          exact nx _ (by omega) (by omega) (by omega)
  have hcl := cnt_le l
  obtain ⟨K, hK⟩ := loop l.length 0 0 (by omega) (by omega) (by rw [List.drop_zero]; omega)
  refine ⟨K + 1, fun k hk => ?_⟩
  obtain ⟨k, rfl⟩ : ∃ j, k = j + 1 := ⟨k - 1, by omega⟩
  show tmplpiperef12_Count.f (k + 1) l = _
  rw [tmplpiperef12_Count.f]
  have := hK k (by omega)
  dsimp only at this
  rw [List.drop_zero, Nat.zero_add] at this
  exact this
theorem rcount_all : ∀ (n : Nat) (l : List S39), SizeOf.sizeOf l < n → CR l
  | 0, l, h => absurd h (Nat.not_lt_zero _)
  | n + 1, l, h => rcount_step l fun x hx => by
      have h1 := List.sizeOf_lt_of_mem hx
      exact ⟨rcount_all n x.f6 (by have := S39.size6 x; omega), rcount_all n x.f7 (by have := S39.size7 x; omega)⟩
theorem rcount_ev (l : List S39) (h : nL l ≤ 1000000000) : Ev (fun k => tmplpiperef12_Count.f k l) (cntL l : Int) := rcount_all _ l (Nat.lt_succ_self _) h

abbrev NR (l : List S39) : Prop := nL l ≤ 1000000000 → Ev (fun k => tmplpiperef12_Nest.f k l) (nstL l : Int)
theorem rnest_step (l : List S39) (ih : ∀ x ∈ l, NR x.f6 ∧ NR x.f7) : NR l := by
  intro hn
  have hll := nL_len l
  have loop : ∀ (d i x3 : Nat), i ≤ l.length → l.length - i = d →
      Ev (fun k => tmplpiperef12_Nest.l0 k l (x3 : Int) (i : Int)) ((max x3 (nstL (l.drop i)) : Nat) : Int) := by
    intro d
    induction d with
    | zero =>
      intro i x3 hi hd
      obtain rfl : i = l.length := by omega
      refine ⟨1, fun k hk => ?_⟩
      obtain ⟨k, rfl⟩ : ∃ j, k = j + 1 := ⟨k - 1, by omega⟩
      show tmplpiperef12_Nest.l0 (k + 1) _ _ _ = _
      rw [tmplpiperef12_Nest.l0, if_neg (by omega), List.drop_length]
      simp [nstL]
    | succ d ihd =>
      intro i x3 hi hd
      have hlt : i < l.length := by omega
      have e1 : l.drop i = l[i] :: l.drop (i + 1) := List.drop_eq_getElem_cons hlt
      have r1 : rd_T39 l (i : Int) = l[i] := rd_T39_at l i hlt
      obtain ⟨ih6, ih7⟩ := ih l[i] (List.getElem_mem hlt)
      have hg := getN l i hlt
      rw [nN_eq] at hg
      have hc6 := nst_le l[i].f6
      have hc7 := nst_le l[i].f7
      rw [e1, nstL_cons, nstN_eq]
      have hw : wrap64 ((i : Int) + 1) = ((i + 1 : Nat) : Int) := by rw [w64 (by omega) (by omega)]; rfl
      have nx := ihd (i + 1)
      have up : ∀ m : Nat, Ev (fun k => if (m : Int) > (x3 : Int) then tmplpiperef12_Nest.l0 k l (m : Int) ((i + 1 : Nat) : Int) else tmplpiperef12_Nest.l0 k l (x3 : Int) ((i + 1 : Nat) : Int)) ((max x3 (max m (nstL (l.drop (i + 1)))) : Nat) : Int) := fun m => by
        by_cases hm : (m : Int) > (x3 : Int)
        · rw [show max x3 (max m (nstL (l.drop (i + 1)))) = max m (nstL (l.drop (i + 1))) by omega]
          exact Ev.of (nx m (by omega) (by omega)) (fun k => if_pos hm)
        · rw [show max x3 (max m (nstL (l.drop (i + 1)))) = max x3 (nstL (l.drop (i + 1))) by omega]
          exact Ev.of (nx x3 (by omega) (by omega)) (fun k => if_neg hm)
      refine Ev.shift (f := fun k => if decide (l[i].f0 = 2 ∨ l[i].f0 = 3 ∨ l[i].f0 = 6) = true then ((tmplpiperef12_Nest.f k l[i].f6).bind fun t209 => (if l[i].f0 = 2 then ((tmplpiperef12_Nest.f k l[i].f7).bind fun t212 => (if (mx (wrap64 (1 + t209)) (wrap64 (1 + t212))) > (x3 : Int) then (tmplpiperef12_Nest.l0 k l (mx (wrap64 (1 + t209)) (wrap64 (1 + t212))) (wrap64 ((i : Int) + 1))) else (tmplpiperef12_Nest.l0 k l (x3 : Int) (wrap64 ((i : Int) + 1))))) else (if (wrap64 (1 + t209)) > (x3 : Int) then (tmplpiperef12_Nest.l0 k l (wrap64 (1 + t209)) (wrap64 ((i : Int) + 1))) else (tmplpiperef12_Nest.l0 k l (x3 : Int) (wrap64 ((i : Int) + 1)))))) else (tmplpiperef12_Nest.l0 k l (x3 : Int) (wrap64 ((i : Int) + 1)))) ?_ (fun k => by
        rw [tmplpiperef12_Nest.l0, if_pos (by omega), if_pos (by omega), r1, block_is, Option.bind_some])
      by_cases h2 : l[i].f0 = 2
      · refine Ev.of (f := fun k => (tmplpiperef12_Nest.f k l[i].f6).bind fun t209 => (tmplpiperef12_Nest.f k l[i].f7).bind fun t212 => (if (mx (wrap64 (1 + t209)) (wrap64 (1 + t212))) > (x3 : Int) then (tmplpiperef12_Nest.l0 k l (mx (wrap64 (1 + t209)) (wrap64 (1 + t212))) (wrap64 ((i : Int) + 1))) else (tmplpiperef12_Nest.l0 k l (x3 : Int) (wrap64 ((i : Int) + 1))))) ?_ (fun k => by simp [h2])
        rw [if_pos h2]
        refine Ev.bind (ih6 (by omega)) (Ev.bind (ih7 (by omega)) ?_)
        rw [w64 (n := 1 + (nstL l[i].f6 : Int)) (by omega) (by omega), w64 (n := 1 + (nstL l[i].f7 : Int)) (by omega) (by omega), hw, show (1 + (nstL l[i].f6 : Int)) = ((1 + nstL l[i].f6 : Nat) : Int) by omega, show (1 + (nstL l[i].f7 : Int)) = ((1 + nstL l[i].f7 : Nat) : Int) by omega, mx_nat]
        exact up _
      · rw [if_neg h2]
        by_cases h3 : l[i].f0 = 3 ∨ l[i].f0 = 6
        · refine Ev.of (f := fun k => (tmplpiperef12_Nest.f k l[i].f6).bind fun t209 => (if (wrap64 (1 + t209)) > (x3 : Int) then (tmplpiperef12_Nest.l0 k l (wrap64 (1 + t209)) (wrap64 ((i : Int) + 1))) else (tmplpiperef12_Nest.l0 k l (x3 : Int) (wrap64 ((i : Int) + 1))))) ?_ (fun k => by simp [h2, h3])
          rw [if_pos h3]
          refine Ev.bind (ih6 (by omega)) ?_
          rw [w64 (n := 1 + (nstL l[i].f6 : Int)) (by omega) (by omega), hw, show (1 + (nstL l[i].f6 : Int)) = ((1 + nstL l[i].f6 : Nat) : Int) by omega]
          exact up _
        · refine Ev.of (f := fun k => tmplpiperef12_Nest.l0 k l (x3 : Int) (wrap64 ((i : Int) + 1))) ?_ (fun k => by simp [h2, h3])
          rw [if_neg h3, hw, Nat.zero_max]
          exact nx x3 (by omega) (by omega)
  obtain ⟨K, hK⟩ := loop l.length 0 0 (by omega) (by omega)
  refine ⟨K + 1, fun k hk => ?_⟩
  obtain ⟨k, rfl⟩ : ∃ j, k = j + 1 := ⟨k - 1, by omega⟩
  show tmplpiperef12_Nest.f (k + 1) l = _
  rw [tmplpiperef12_Nest.f]
  have := hK k (by omega)
  dsimp only at this
  rw [List.drop_zero, Nat.zero_max] at this
  exact this
theorem rnest_all : ∀ (n : Nat) (l : List S39), SizeOf.sizeOf l < n → NR l
  | 0, l, h => absurd h (Nat.not_lt_zero _)
  | n + 1, l, h => rnest_step l fun x hx => by
      have h1 := List.sizeOf_lt_of_mem hx
      exact ⟨rnest_all n x.f6 (by have := S39.size6 x; omega), rnest_all n x.f7 (by have := S39.size7 x; omega)⟩
theorem rnest_ev (l : List S39) (h : nL l ≤ 1000000000) : Ev (fun k => tmplpiperef12_Nest.f k l) (nstL l : Int) := rnest_all _ l (Nat.lt_succ_self _) h

end Go.Proofs.YtgdpojleejdfaaaDoor.Px
