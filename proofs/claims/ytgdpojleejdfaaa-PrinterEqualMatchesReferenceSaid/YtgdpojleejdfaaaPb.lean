/- Plain laws: the reference's parser ends; the tokens of what it parses. -/
import Derived.Test.YtgdpojleejdfaaaPa
import Derived.Test.YtgdpojleejdfaaaFm
namespace Go.Proofs.Ytgdpojleejdfaaa.Px
open Go.RowKit Go.Proofs.YtgdpojleejdfaaaW.PrintWords Go.Proofs.YtgdpojleejdfaaaW.PrintLast Go.Proofs.YtgdpojleejdfaaaW.PrintMore
set_option linter.unusedVariables false
set_option linter.unusedSimpArgs false

/-- A token of a template. -/
structure okK (n : Nat) (x : Tk) : Prop where
  k0 : 0 ≤ x.1
  k8 : x.1 ≤ 8
  s0 : x.1 ≠ 0 → (x.2.1.size = 0 ↔ ¬ (x.1 = 4 ∨ x.1 = 6))
  sn : x.2.1.size ≤ n
  pn : x.2.2.1.size ≤ n
  h0 : x.1 = 0 → x.2.2.2 = false
theorem okK_else (n : Nat) : okK n tkElse := ⟨by decide, by decide, fun _ => by decide, Nat.zero_le _, Nat.zero_le _, fun h => rfl⟩
theorem okK_end (n : Nat) : okK n tkEnd := ⟨by decide, by decide, fun _ => by decide, Nat.zero_le _, Nat.zero_le _, fun h => rfl⟩
theorem okK_of {n : Nat} {t : S52} (h : okT n t) : okK n (t.f0, t.f2, t.f3, t.f4) := ⟨h.k0, h.k8, h.s0, h.sn, h.pn, h.h0⟩
theorem rd_ok {n : Nat} {l : List S52} (hl : ∀ t ∈ l, okT n t) (i : Int) (h0 : 0 ≤ i) (h1 : i < l.length) : okT n (rd_T52 l i) := by
  have h : i.toNat < l.length := by omega
  have : rd_T52 l i = l[i.toNat] := by unfold rd_T52; simp [List.getD, h]
  rw [this]
  exact hl _ (List.getElem_mem h)
def okL (n : Nat) (l : List S29) : Prop := ∀ y ∈ toksL l, okK n y
theorem toksL_one (x : S29) : toksL [x] = toksN x := by simp [toksL]

abbrev LstEnds (n : Nat) (l : List S52) (m : Nat) : Prop := ∀ (k : Nat) (i nn : Int) (op : Int) (ie : Bool) (dp : Int) (out : List S29), 0 ≤ i → 0 ≤ nn → 0 ≤ dp → (l.length : Int) - i ≤ m → i ≤ l.length → 2 * m + 1 ≤ k → okL n out → ((toksL out).length : Int) ≤ i → (out.length : Int) ≤ i →
  ∃ r, rlist k l i nn op ie dp out = some r ∧ i ≤ r.2.2.2.1 ∧ 0 ≤ r.2.2.2.2 ∧ (r.2.2.1 = 0 → okL n r.1 ∧ ((toksL r.1).length : Int) ≤ r.2.2.2.1 + (toksL out).length - i ∧ r.2.2.2.1 ≤ l.length)
abbrev NodEnds (n : Nat) (l : List S52) (m : Nat) : Prop := ∀ (k : Nat) (i nn dp : Int), 0 ≤ i → 0 ≤ nn → 0 ≤ dp → (l.length : Int) - i ≤ m → i < l.length → 2 * m ≤ k →
  ∃ r, rnode k l i nn dp = some r ∧ 0 ≤ r.2.2.2.2 ∧ (r.2.2.1 = 0 → i < r.2.2.2.1 ∧ okL n [r.1] ∧ ((toksL [r.1]).length : Int) ≤ r.2.2.2.1 - i ∧ r.2.2.2.1 ≤ l.length) ∧ i ≤ r.2.2.2.1

theorem rlist_succ (k : Nat) (l : List S52) (i n op : Int) (ie : Bool) (dp : Int) (out : List S29) : rlist (k + 1) l i n op ie dp out =
    if i < (l.length : Int) then
      if 0 ≤ i ∧ out.length < 100000 then
        if (rd_T52 l i).f0 = 7 then (if op = 2 then (if ie = true then some ([], (rd_T52 l i).f1, 13, i, n) else some (out, 0, 0, i, n)) else some ([], (rd_T52 l i).f1, 13, i, n))
        else if (rd_T52 l i).f0 = 8 then (if op < 0 then some ([], (rd_T52 l i).f1, 13, i, n) else some (out, 0, 0, i, n))
        else (rnode k l i n dp).bind fun r => if r.2.2.1 = 0 then rlist k l r.2.2.2.1 r.2.2.2.2 op ie dp (out ++ [r.1]) else some ([], r.2.1, r.2.2.1, r.2.2.2.1, r.2.2.2.2)
      else none
    else some (out, 0, 0, i, n) := by rw [rlist]
theorem parse_ends (n : Nat) (l : List S52) (hn : l.length ≤ 70000) (hl : ∀ t ∈ l, okT n t) : ∀ m, LstEnds n l m ∧ NodEnds n l m := by
  intro m
  induction m with
  | zero =>
    refine ⟨?_, ?_⟩
    · intro k i nn op ie dp out h0 hnn hdp hm hi hk ho ht hol
      obtain ⟨k, rfl⟩ : ∃ k', k = k' + 1 := ⟨k - 1, by omega⟩
      rw [rlist_succ]
      rw [if_neg (by omega)]
      exact ⟨_, rfl, Int.le_refl _, hnn, fun _ => ⟨ho, by show ((toksL out).length : Int) ≤ i + _ - i; omega, hi⟩⟩
    · intro k i nn dp h0 hnn hdp hm hi hk
      omega
  | succ m ih =>
    obtain ⟨ihl, ihn⟩ := ih
    have hnode : NodEnds n l (m + 1) := by
      intro k i nn dp h0 hnn hdp hm hi hk
      obtain ⟨k, rfl⟩ : ∃ k', k = k' + 1 := ⟨k - 1, by omega⟩
      rw [rnode, if_pos ⟨h0, hi, by omega, hnn, hdp⟩]
      dsimp only
      have ht := rd_ok hl i h0 hi
      generalize rd_T52 l i = t at *
      by_cases c1 : t.f0 = 6 ∧ dp > 0
      · rw [if_pos c1]; exact ⟨_, rfl, hnn, (fun h => by cases h), Int.le_refl _⟩
      rw [if_neg c1]
      by_cases c2 : (t.f0 = 2 ∨ t.f0 = 3 ∨ t.f0 = 6) ∧ dp ≥ 32
      · rw [if_pos c2]; exact ⟨_, rfl, hnn, (fun h => by cases h), Int.le_refl _⟩
      rw [if_neg c2]
      by_cases c3 : nn ≥ 4096
      · rw [if_pos c3]; exact ⟨_, rfl, hnn, (fun h => by cases h), Int.le_refl _⟩
      rw [if_neg c3]
      by_cases hblk : t.f0 = 2 ∨ t.f0 = 3 ∨ t.f0 = 6
      · rw [if_pos hblk]
        obtain ⟨r, hr, hri, hrn, hok⟩ := ihl k (i + 1) (nn + 1) t.f0 false (dp + 1) [] (by omega) (by omega) (by omega) (by omega) (by omega) (by omega) (fun y hy => by simp [toksL] at hy) (by simp [toksL]; omega) (by simp; omega)
        rw [hr]
        simp only [Option.bind_some]
        by_cases he : r.2.2.1 = 0
        case neg => rw [if_neg he]; exact ⟨_, rfl, hrn, (fun h => absurd h he), by show i ≤ r.2.2.2.1; omega⟩
        · rw [if_pos he]
          obtain ⟨hok1, hok2, hok3⟩ := hok he
          simp only [toksL, List.length_nil] at hok2
          by_cases hlt : r.2.2.2.1 < (l.length : Int)
          case neg => rw [if_neg hlt]; exact ⟨_, rfl, hrn, (fun h => by cases h), by show i ≤ r.2.2.2.1; omega⟩
          · rw [if_pos hlt, if_pos ⟨by omega, by omega⟩]
            by_cases h7 : (rd_T52 l r.2.2.2.1).f0 = 7
            · rw [if_pos h7]
              obtain ⟨q, hq, hqi, hqn, hqk⟩ := ihl k (r.2.2.2.1 + 1) r.2.2.2.2 t.f0 true (dp + 1) [] (by omega) (by omega) (by omega) (by omega) (by omega) (by omega) (fun y hy => by simp [toksL] at hy) (by simp [toksL]; omega) (by simp; omega)
              rw [hq]
              simp only [Option.bind_some]
              by_cases hqe : q.2.2.1 = 0
              case neg => rw [if_neg hqe]; exact ⟨_, rfl, hqn, (fun h => absurd h hqe), by show i ≤ q.2.2.2.1; omega⟩
              · rw [if_pos hqe]
                obtain ⟨q1, q2, q3⟩ := hqk hqe
                simp only [toksL, List.length_nil] at q2
                by_cases hge : q.2.2.2.1 ≥ (l.length : Int)
                · rw [if_pos hge]; exact ⟨_, rfl, hqn, (fun h => by cases h), by show i ≤ q.2.2.2.1; omega⟩
                · rw [if_neg hge, if_pos ⟨by omega, by omega⟩]
                  refine ⟨_, rfl, hqn, fun _ => ⟨by show i < q.2.2.2.1 + 1; omega, ?_, ?_, by show q.2.2.2.1 + 1 ≤ _; omega⟩, by show i ≤ q.2.2.2.1 + 1; omega⟩
                  · intro y hy
                    rw [toksL_one, toksN_eq] at hy
                    simp only [if_pos hblk, if_true, List.mem_cons, List.mem_append, List.not_mem_nil, or_false] at hy
                    rcases hy with rfl | hy | (rfl | hy) | rfl
                    · exact okK_of ht
                    · exact hok1 y hy
                    · exact okK_else n
                    · exact q1 y hy
                    · exact okK_end n
                  · show _ ≤ q.2.2.2.1 + 1 - i
                    rw [toksL_one, toksN_eq]
                    simp only [if_pos hblk, if_true, List.length_cons, List.length_append, List.length_nil]
                    omega
            · rw [if_neg h7]
              refine ⟨_, rfl, hrn, fun _ => ⟨by show i < r.2.2.2.1 + 1; omega, ?_, ?_, by show r.2.2.2.1 + 1 ≤ _; omega⟩, by show i ≤ r.2.2.2.1 + 1; omega⟩
              · intro y hy
                rw [toksL_one, toksN_eq] at hy
                simp only [if_pos hblk, Bool.false_eq_true, if_false, List.nil_append, List.mem_cons, List.mem_append, List.not_mem_nil, or_false] at hy
                rcases hy with rfl | hy | rfl
                · exact okK_of ht
                · exact hok1 y hy
                · exact okK_end n
              · show _ ≤ r.2.2.2.1 + 1 - i
                rw [toksL_one, toksN_eq]
                simp only [if_pos hblk, Bool.false_eq_true, if_false, List.nil_append, List.length_cons, List.length_append, List.length_nil]
                omega
      · rw [if_neg hblk]
        refine ⟨_, rfl, by show 0 ≤ nn + 1; omega, fun _ => ⟨by show i < i + 1; omega, ?_, ?_, by show i + 1 ≤ _; omega⟩, by show i ≤ i + 1; omega⟩
        · intro y hy
          rw [toksL_one, toksN_eq] at hy
          simp only [if_neg hblk, List.mem_cons, List.not_mem_nil, or_false] at hy
          rw [hy]
          exact okK_of ht
        · show _ ≤ i + 1 - i
          rw [toksL_one, toksN_eq]
          simp only [if_neg hblk, List.length_cons, List.length_nil]
          omega
    refine ⟨?_, hnode⟩
    intro k i nn op ie dp out h0 hnn hdp hm hi hk ho ht hol
    obtain ⟨k, rfl⟩ : ∃ k', k = k' + 1 := ⟨k - 1, by omega⟩
    rw [rlist_succ]
    by_cases hlt : i < (l.length : Int)
    case neg =>
      rw [if_neg hlt]
      exact ⟨_, rfl, Int.le_refl _, hnn, fun _ => ⟨ho, by show ((toksL out).length : Int) ≤ i + _ - i; omega, hi⟩⟩
    rw [if_pos hlt, if_pos ⟨h0, by omega⟩]
    have stop : ∃ r : List S29 × Int × Int × Int × Int, some (out, (0 : Int), (0 : Int), i, nn) = some r ∧ i ≤ r.2.2.2.1 ∧ 0 ≤ r.2.2.2.2 ∧ (r.2.2.1 = 0 → okL n r.1 ∧ ((toksL r.1).length : Int) ≤ r.2.2.2.1 + (toksL out).length - i ∧ r.2.2.2.1 ≤ l.length) :=
      ⟨_, rfl, Int.le_refl _, hnn, fun _ => ⟨ho, by show ((toksL out).length : Int) ≤ i + _ - i; omega, hi⟩⟩
    have bad : ∀ a : Int, ∃ r : List S29 × Int × Int × Int × Int, some (([] : List S29), a, (13 : Int), i, nn) = some r ∧ i ≤ r.2.2.2.1 ∧ 0 ≤ r.2.2.2.2 ∧ (r.2.2.1 = 0 → okL n r.1 ∧ ((toksL r.1).length : Int) ≤ r.2.2.2.1 + (toksL out).length - i ∧ r.2.2.2.1 ≤ l.length) :=
      fun a => ⟨_, rfl, Int.le_refl _, hnn, fun h => by cases h⟩
    split
    · split
      · split
        · exact bad _
        · exact stop
      · exact bad _
    · split
      · split
        · exact bad _
        · exact stop
      · obtain ⟨r, hr, hrn, hrk, hri⟩ := hnode k i nn dp h0 hnn hdp hm hlt (by omega)
        rw [hr]
        simp only [Option.bind_some]
        split
        · rename_i he
          obtain ⟨e1, e2, e3, e4⟩ := hrk he
          have hlen : (toksL (out ++ [r.1])).length = (toksL out).length + (toksL [r.1]).length := by rw [toksL_append, List.length_append]
          obtain ⟨q, hq, hqi, hqn, hqk⟩ := ihl k r.2.2.2.1 r.2.2.2.2 op ie dp (out ++ [r.1]) (by omega) hrn hdp (by omega) e4 (by omega) (fun y hy => by
            rw [toksL_append, List.mem_append] at hy
            exact hy.elim (ho y) (e2 y)) (by rw [hlen]; omega) (by rw [List.length_append, List.length_singleton]; omega)
          refine ⟨q, hq, by omega, hqn, fun h => ?_⟩
          obtain ⟨a1, a2, a3⟩ := hqk h
          refine ⟨a1, ?_, a3⟩
          rw [hlen] at a2
          omega
        · exact ⟨_, rfl, hri, hrn, fun h => absurd h (by assumption)⟩
end Go.Proofs.Ytgdpojleejdfaaa.Px
