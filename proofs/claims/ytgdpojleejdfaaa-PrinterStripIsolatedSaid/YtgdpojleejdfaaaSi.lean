/- The walk of PrinterStripIsolated: what it writes into lies in rows of the stripped template's own. -/
import Derived.Test.YtgdpojleejdfaaaSc
import Derived.Test.YtgdpojleejdfaaaPy1
import Derived.Test.YtgdpojleejdfaaaPz2
namespace Go.Proofs.Ytgdpojleejdfaaa.Px
open Go.RowKit Go.Proofs.YtgdpojleejdfaaaW.PrintWords Go.Proofs.YtgdpojleejdfaaaW.PrintLast Go.Proofs.YtgdpojleejdfaaaW.PrintMore
set_option linter.unusedVariables false
set_option linter.unusedSimpArgs false

def InOk (B g : Nat) (W : World) (C : Array Value) (o : Nat) : Prop :=
  ∃ A m c, C[o]? = some (.slice A m c) ∧ m ≤ 9223372036854775807 ∧ (m = 0 ∨ ∃ h cs cp, A = some ⟨h, 0, none⟩ ∧ h ≠ g ∧ B ≤ h ∧ W.heap[h]? = some (.cells cs 29 (0, 0)) ∧ cs.size = cp * 8 ∧ m ≤ cp)
structure OutRel (w1 : World) (g n cap : Nat) (C : Array Value) (W : World) : Prop where
  blk : W.heap[g]? = some (.cells C 29 (0, 0))
  size : C.size = cap * 8
  cap : n ≤ cap
  base : w1.heap.size ≤ g
  below : Below w1.heap.size w1 W
  rows : ∀ j, j < n → InOk w1.heap.size g W C (j * 8 + 6) ∧ InOk w1.heap.size g W C (j * 8 + 7)
theorem InOk.set {B g : Nat} {W : World} {C : Array Value} {o : Nat} (h : InOk B g W C o) (q p : Nat) (u : Value) : InOk B g (W.setCell ⟨q, p, none⟩ u) C o := by
  obtain ⟨A, m, c, hC, hm, hr⟩ := h
  refine ⟨A, m, c, hC, hm, hr.imp id ?_⟩
  rintro ⟨h, cs, cp, rfl, hg, hB, hb, hs, hmc⟩
  by_cases hq : h = q
  · subst hq
    exact ⟨h, _, cp, rfl, hg, hB, blk_set hb _ _, by simpa using hs, hmc⟩
  · exact ⟨h, cs, cp, rfl, hg, hB, blk_far hb hq _, hs, hmc⟩
theorem OutRel.setH {w1 : World} {g n cap : Nat} {C : Array Value} {W : World} (h : OutRel w1 g n cap C W) {q : Nat} (hq : w1.heap.size ≤ q) (hg : q ≠ g) (p : Nat) (u : Value) : OutRel w1 g n cap C (W.setCell ⟨q, p, none⟩ u) :=
  ⟨blk_far h.blk (fun e => hg e.symm) u, h.size, h.cap, h.base, h.below.setCell hq _, fun j hj => ⟨(h.rows j hj).1.set _ _ _, (h.rows j hj).2.set _ _ _⟩⟩
theorem OutRel.setG {w1 : World} {g n cap : Nat} {C : Array Value} {W : World} (h : OutRel w1 g n cap C W) (i : Nat) (u : Value) : OutRel w1 g n cap (C.setIfInBounds (i * 8 + 2) u) (W.setCell ⟨g, i * 8 + 2, none⟩ u) := by
  refine ⟨blk_set h.blk _ _, by simpa using h.size, h.cap, h.base, h.below.setCell h.base _, fun j hj => ?_⟩
  have one : ∀ o, i * 8 + 2 ≠ o → InOk w1.heap.size g W C o → InOk w1.heap.size g (W.setCell ⟨g, i * 8 + 2, none⟩ u) (C.setIfInBounds (i * 8 + 2) u) o := by
    rintro o ho h1
    obtain ⟨A, m, c, hC, hm, hr⟩ := h1.set g (i * 8 + 2) u
    exact ⟨A, m, c, by rw [Array.getElem?_setIfInBounds, if_neg ho]; exact hC, hm, hr⟩
  exact ⟨one _ (by omega) (h.rows j hj).1, one _ (by omega) (h.rows j hj).2⟩

/-- From what Strip hands back. -/
theorem OutRel.of {w1 w2 : World} {g cap : Nat} {l : List S29} (h : Kd.R k29 29 w2 w1.heap.size (fun _ => True) (.slice (some ⟨g, 0, none⟩) l.length cap) l) (hb : Below w1.heap.size w1 w2) : ∃ C, OutRel w1 g l.length cap C w2 := by
  obtain ⟨_, inner, hown, hreps⟩ := h
  rcases hown.2 with ⟨hv, _⟩ | ⟨g', cap', cur, hv, hg', hh, hn', hcap', hsz', htk⟩
  · cases hv
  · injection hv with h1 h2 h3
    obtain rfl : g' = g := by cases h1; rfl
    obtain rfl : cap = cap' := h3
    refine ⟨cur, hh, hsz', hn', hg', hb, fun j hj => ?_⟩
    have hM := hreps.2 j _ (List.getElem?_eq_getElem hj)
    obtain ⟨v6, v7, hcs, R6, R7⟩ := k29_openM hM
    have hsj : seg cur j = (inner.drop (j * 8)).take 8 := by
      rw [← htk]
      unfold seg
      rw [List.drop_take, List.take_take]
      congr 1
      show 8 = min 8 (l.length * 8 - j * 8)
      omega
    have hseg : seg cur j = [.int .i64 l[j].f0, .int .i64 l[j].f1, .string l[j].f2, .string l[j].f3, .bool l[j].f4, .bool l[j].f5, v6, v7] := hsj.trans hcs
    have one : ∀ (o : Nat) (v : Value) (ys : List S29), o < 8 → (seg cur j)[o]? = some v → Kd.R k29 29 w2 w1.heap.size (fun k => True ∧ some k ≠ (Value.slice (some ⟨g', 0, none⟩) l.length cap).ownBlock) v ys → InOk w1.heap.size g' w2 cur (j * 8 + o) := by
      intro o v ys ho hv R
      obtain ⟨A, c, rfl⟩ := Kd.R_slice R
      refine ⟨A, ys.length, c, (seg_get cur j o ho).trans hv, ?_, ?_⟩
      · exact Kd.C_max (Kd.R_reads' R).2.2
      · rcases Nat.eq_zero_or_pos ys.length with h0 | h0
        · exact .inl h0
        · refine .inr ?_
          obtain ⟨hok, _, hown2, _⟩ := R
          rcases hown2.2 with ⟨hv2, h02⟩ | ⟨h, cp, cs, hv2, hB2, hh2, hn2, hc2, hs2, _⟩
          · omega
          · injection hv2 with e1 e2 e3
            subst e1
            have hk := hok h (by simp [Value.ownBlock])
            exact ⟨h, cs, cp, rfl, fun e => hk.2 (by rw [e]; rfl), hB2, hh2, hs2, hn2⟩
    exact ⟨one 6 v6 _ (by omega) (by rw [hseg]; rfl) R6, one 7 v7 _ (by omega) (by rw [hseg]; rfl) R7⟩

def SR (w1 : World) (t : List S29) (A2 : Option Addr) (c2 : Nat) (W : World) : Prop := Below w1.heap.size w1 W ∧ (t.length = 0 ∨ ∃ g, A2 = some ⟨g, 0, none⟩ ∧ ∃ C, OutRel w1 g t.length c2 C W)

set_option maxHeartbeats 4000000 in
set_option maxRecDepth 100000 in
theorem stripIso_calls (k : Nat) (s : ByteArray) (t : List S29) (w : World) (hp : tmplpipelaw13_parsed.f k s = some t) (hn : nL t ≤ 1000000000) (hal : tmplpipelaw13_alive.f k = some true) (heq : tmplpiperef12_Equal.f k t t true = some true) :
    Calls Try.prog 4 #[.string s] w fun e w' => e = .returned (.bool true) ∧ Below w.heap.size w w' := by
  have HP := Aside0.mk (fun w => tmplpipelaw13_parsed.calls k s t w hp)
  have HA := Aside0.mk (fun w => tmplpipelaw13_alive.calls k true w hal)
  have HE := Aside0.mk heq
  have HN := Aside0.mk hn
  clear hp hn hal heq
  go_enter Try.func4, Try.ntmps4
  go_wp2_with fail
  refine (HP.out w).mono ?_
  rintro e w1 ⟨v1, rfl, R1, b1⟩
  obtain ⟨A1, c1, rfl⟩ := Kd.R_slice R1
  obtain ⟨_, hc1, hC1⟩ := Kd.R_reads' R1
  go_wp2_with fail
  refine (strip.all _ t (Nat.lt_succ_self _) A1 c1 w1 hC1 hc1 HN.out).mono ?_
  rintro e w2 ⟨v2, rfl, R2, b2⟩
  obtain ⟨A2, c2, rfl⟩ := Kd.R_slice R2
  have hL := stripL_len t
  have hmx := Kd.C_max hC1
  have hO : Aside0 ((stripL t).length = 0 ∨ ∃ g, A2 = some ⟨g, 0, none⟩ ∧ ∃ C, OutRel w1 g (stripL t).length c2 C w2) := ⟨by
    rcases Nat.eq_zero_or_pos (stripL t).length with h0 | h0
    · exact .inl h0
    · obtain ⟨g, cap, he, _⟩ := Kd.R_form R2 h0
      injection he with h1 h2 h3
      subst h1
      exact .inr ⟨g, rfl, OutRel.of R2 b2⟩⟩
  rw [hL]
  rw [hL] at hO
  clear R1 R2
  replace b1 := Aside0.mk b1
  replace b2 := Aside0.mk b2
  replace hC1 := Aside0.mk hC1
  have H0 : SR w1 t A2 c2 w2 := ⟨b2.out, hO.out⟩
  replace H0 := Aside0.mk H0
  clear b2 hO
  go_wp2
  go_loopw [14] (fun v wr => ∃ i : Nat, i ≤ t.length ∧ v = .int .i64 (i : Nat) ∧ Aside0 (SR w1 t A2 c2 wr)) (fun v _ => t.length - (intOf v).toNat)
  case atStart => exact ⟨0, Nat.zero_le _, rfl, H0⟩
  case round =>
    clear H0 w2
    obtain ⟨i, hi, rfl, hS⟩ := hrel
    by_cases hlt : i < t.length
    case neg =>
      obtain rfl : i = t.length := by omega
      have hB := Aside0.mk hS.out.1
      clear hS
      go_wp2_with fail
      refine (HA.out wr).mono ?_
      rintro e w3 ⟨rfl, b3⟩
      go_wp2_with fail
      refine (HP.out w3).mono ?_
      rintro e w4 ⟨v4, rfl, R4, b4⟩
      obtain ⟨A4, c4, rfl⟩ := Kd.R_slice R4
      obtain ⟨_, hc4, hC4⟩ := Kd.R_reads' R4
      have b34 : Below wr.heap.size wr w4 := below_step b3 b4
      have b14 : Below w1.heap.size w1 w4 := below_step hB.out b34
      go_wp2_with fail
      refine (tmplpiperef12_Equal.calls k A1 c1 t A4 c4 t true true w4 (Kd.C_below hC1.out b14) hc1 hC4 hc4 HE.out).mono ?_
      rintro e w5 ⟨rfl, b5⟩
      have b15 := Aside0.mk (below_step b1.out (below_step b14 b5))
      clear b3 b4 b34 b14 b5 R4 hC4
      go_wp2
      go_ret
      exact ⟨rfl, b15.out⟩
    rcases hS.out.2 with h0 | ⟨g, rfl, C, hO⟩
    · omega
    obtain ⟨A6, m6, d6, hC6, hm6, _⟩ := (hO.rows i hlt).1
    have y6 : wr.cell? ⟨g, i * 8 + 6, none⟩ = some (.slice A6 m6 d6) := (blk_cell hO.blk _).trans hC6
    obtain ⟨z2, hg2⟩ : ∃ z, wr.cell? ⟨g, i * 8 + 2, none⟩ = some z := ⟨_, (blk_cell hO.blk _).trans (Array.getElem?_eq_getElem (by rw [hO.size]; have := hO.cap; omega))⟩
    have hf2 := blk_frozen hO.blk (i * 8 + 2)
    have hO2 := Aside0.mk (hO.setG i (.string ⟨#[99, 104, 97, 110, 103, 101, 100]⟩))
    have hC6' : (C.setIfInBounds (i * 8 + 2) (.string ⟨#[99, 104, 97, 110, 103, 101, 100]⟩))[i * 8 + 6]? = some (.slice A6 m6 d6) := by rw [Array.getElem?_setIfInBounds, if_neg (by omega)]; exact hC6
    clear hS hO hC6
    generalize C.setIfInBounds (i * 8 + 2) (.string ⟨#[99, 104, 97, 110, 103, 101, 100]⟩) = C' at hO2 hC6'
    replace hC6' := Aside0.mk hC6'
    have hi1 : (i : Int) < (t.length : Int) := by omega
    go_wp2
    go_loopw [27] (fun v wx => ∃ kk : Nat, kk ≤ m6 ∧ v = .int .i64 (kk : Nat) ∧ Aside0 (OutRel w1 g t.length c2 C' wx)) (fun v _ => m6 - (intOf v).toNat)
    case atStart => exact ⟨0, Nat.zero_le _, rfl, hO2⟩
    case round =>
      clear hO2 y6 hg2 hf2 z2
      obtain ⟨kk, hkk, rfl, hO⟩ := hrel
      by_cases hkl : kk < m6
      case pos =>
        have y6 : wr.cell? ⟨g, i * 8 + 6, none⟩ = some (.slice A6 m6 d6) := (blk_cell hO.out.blk _).trans hC6'.out
        obtain ⟨A, m, c, e1, _, e3⟩ := (hO.out.rows i hlt).1
        rw [hC6'.out] at e1
        injection e1 with e1
        injection e1 with e1 e2 _
        subst e1 e2
        rcases e3 with h0 | ⟨h, cs, cp, rfl, hg, hB, hb, hs, hmc⟩
        · omega
        obtain ⟨z3, hz3⟩ : ∃ z, wr.cell? ⟨h, kk * 8 + 3, none⟩ = some z := ⟨_, (blk_cell hb _).trans (Array.getElem?_eq_getElem (by rw [hs]; omega))⟩
        have hf3 := blk_frozen hb (kk * 8 + 3)
        have hN := Aside0.mk (hO.out.setH hB hg (kk * 8 + 3) (.string ⟨#[99, 104, 97, 110, 103, 101, 100]⟩))
        have hk1 : (kk : Int) < (m6 : Int) := by omega
        clear hO hb
        go_wp2
        exact ⟨⟨kk + 1, by omega, by go_num, hN⟩, by simp [intOf]; omega⟩
      case neg =>
        obtain rfl : kk = m6 := by omega
        obtain ⟨A7, m7, d7, hC7, hm7, _⟩ := (hO.out.rows i hlt).2
        have y7 : wr.cell? ⟨g, i * 8 + 7, none⟩ = some (.slice A7 m7 d7) := (blk_cell hO.out.blk _).trans hC7
        have hC7' := Aside0.mk hC7
        clear hC7
        go_wp2
        go_loopw [45] (fun v wx => ∃ kk : Nat, kk ≤ m7 ∧ v = .int .i64 (kk : Nat) ∧ Aside0 (OutRel w1 g t.length c2 C' wx)) (fun v _ => m7 - (intOf v).toNat)
        case atStart => exact ⟨0, Nat.zero_le _, rfl, hO⟩
        case round =>
          clear hO y7 hkk hkl
          obtain ⟨kk, hkk, rfl, hO⟩ := hrel
          by_cases hkl : kk < m7
          case pos =>
            have y7 : wr.cell? ⟨g, i * 8 + 7, none⟩ = some (.slice A7 m7 d7) := (blk_cell hO.out.blk _).trans hC7'.out
            obtain ⟨A, m, c, e1, _, e3⟩ := (hO.out.rows i hlt).2
            rw [hC7'.out] at e1
            injection e1 with e1
            injection e1 with e1 e2 _
            subst e1 e2
            rcases e3 with h0 | ⟨h, cs, cp, rfl, hg, hB, hb, hs, hmc⟩
            · omega
            obtain ⟨z3, hz3⟩ : ∃ z, wr.cell? ⟨h, kk * 8, none⟩ = some z := ⟨_, (blk_cell hb _).trans (Array.getElem?_eq_getElem (by rw [hs]; omega))⟩
            have hf3 := blk_frozen hb (kk * 8)
            have hN := Aside0.mk (hO.out.setH hB hg (kk * 8) (.int .i64 99))
            have hk1 : (kk : Int) < (m7 : Int) := by omega
            clear hO hb
            go_wp2
            exact ⟨⟨kk + 1, by omega, by go_num, hN⟩, by simp [intOf]; omega⟩
          case neg =>
            obtain rfl : kk = m7 := by omega
            go_wp2
            exact ⟨⟨i + 1, by omega, by go_num, ⟨hO.out.below, .inr ⟨g, rfl, C', hO.out⟩⟩⟩, by simp [intOf]; omega⟩
end Go.Proofs.Ytgdpojleejdfaaa.Px
