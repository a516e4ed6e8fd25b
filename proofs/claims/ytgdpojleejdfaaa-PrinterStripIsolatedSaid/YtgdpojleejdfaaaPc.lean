/- Plain laws: parsed, alive, and the two formatters. -/
import Derived.Laws.Strings
import Derived.Test.YtgdpojleejdfaaaPb
import Derived.Test.YtgdpojleejdfaaaPy1
namespace Go.Proofs.Ytgdpojleejdfaaa.Px
open Go.RowKit Go.Proofs.YtgdpojleejdfaaaW.PrintWords Go.Proofs.YtgdpojleejdfaaaW.PrintLast Go.Proofs.YtgdpojleejdfaaaW.PrintMore
set_option linter.unusedVariables false
set_option linter.unusedSimpArgs false

/-- From some round on it tells this. -/
def Ev {α : Type} (f : Nat → Option α) (v : α) : Prop := ∃ K, ∀ k, K ≤ k → f k = some v
theorem Ev.up {α : Type} {f : Nat → Option α} (hm : ∀ k, LeO (f k) (f (k + 1))) {v : α} {K : Nat} (h : f K = some v) : Ev f v := by
  refine ⟨K, fun k hk => ?_⟩
  induction hk with
  | refl => exact h
  | step _ ih => exact hm _ _ ih
theorem Ev.pure {α : Type} (v : α) : Ev (fun _ => some v) v := ⟨0, fun _ _ => rfl⟩
theorem Ev.bind {α β : Type} {f : Nat → Option α} {v : α} {g : Nat → α → Option β} {r : β} (h : Ev f v) (k : Ev (fun n => g n v) r) : Ev (fun n => (f n).bind (g n)) r := by
  obtain ⟨K, hK⟩ := h
  obtain ⟨L, hL⟩ := k
  exact ⟨max K L, fun n hn => by show (f n).bind (g n) = _; rw [hK n (by omega)]; exact hL n (by omega)⟩
theorem Ev.shift {α : Type} {f g : Nat → Option α} {v : α} (h : Ev f v) (e : ∀ k, g (k + 1) = f k) : Ev g v := by
  obtain ⟨K, hK⟩ := h
  exact ⟨K + 1, fun n hn => by
    obtain ⟨n, rfl⟩ : ∃ m, n = m + 1 := ⟨n - 1, by omega⟩
    rw [e]; exact hK n (by omega)⟩
theorem Ev.of {α : Type} {f g : Nat → Option α} {v : α} (h : Ev f v) (e : ∀ k, g k = f k) : Ev g v := by
  obtain ⟨K, hK⟩ := h
  exact ⟨K, fun n hn => by rw [e]; exact hK n hn⟩
theorem Ev.one {α : Type} {f : Nat → Option α} {v : α} (h : Ev f v) : ∃ k, f k = some v := h.imp fun K hK => hK K (Nat.le_refl _)

theorem parse_total (s : ByteArray) (hs : s.size ≤ 65536) : ∃ r, Ev (fun k => tmplpiperef12_Parse.f k s) r ∧ (r.2.2 = 0 → okL s.size r.1 ∧ (toksL r.1).length ≤ s.size + 2) := by
  obtain ⟨t, ht, hok⟩ := lex_ends s hs (s.size + 2) (7 * s.size + 1000) [] 0 (by omega) (by omega) (by omega) (by omega) (fun x hx => by cases hx) (by simp)
  have hL : Ev (fun k => rlexF k s) t := Ev.up (rlexF.mono · s) (K := 7 * s.size + 1000) (by unfold rlexF; rw [if_neg (by omega)]; exact ht)
  by_cases he : t.2.2 = 0
  · obtain ⟨o1, o2⟩ := hok he
    obtain ⟨r, hr, _, _, hk⟩ := (parse_ends s.size t.1 (by omega) o1 t.1.length).1 (2 * t.1.length + 1) 0 0 (-1) false 0 [] (by omega) (by omega) (by omega) (by omega) (by omega) (by omega) (fun y hy => by simp [toksL] at hy) (by simp [toksL]) (by simp)
    have hP : Ev (fun k => rlist k t.1 0 0 (-1) false 0 []) r := Ev.up (fun k => (rparse.mono k).1 _ _ _ _ _ _ _) hr
    by_cases hz : r.2.2.1 = 0
    · refine ⟨(r.1, s.size, 0), ?_, fun _ => ?_⟩
      · refine Ev.bind hL ?_
        refine Ev.of (f := fun k => (rlist k t.1 0 0 (-1) false 0 []).bind fun q => if q.2.2.1 = 0 then some (q.1, (s.size : Int), (0 : Int)) else some ([], q.2.1, q.2.2.1)) (Ev.bind hP (Ev.of (Ev.pure _) (fun _ => if_pos hz))) (fun k => if_pos he)
      · obtain ⟨a, b, c⟩ := hk hz
        refine ⟨a, ?_⟩
        simp only [toksL, List.length_nil] at b
        show (toksL r.1).length ≤ _
        omega
    · refine ⟨([], r.2.1, r.2.2.1), ?_, fun h => absurd h hz⟩
      refine Ev.bind hL ?_
      refine Ev.of (f := fun k => (rlist k t.1 0 0 (-1) false 0 []).bind fun q => if q.2.2.1 = 0 then some (q.1, (s.size : Int), (0 : Int)) else some ([], q.2.1, q.2.2.1)) (Ev.bind hP (Ev.of (Ev.pure _) (fun _ => if_neg hz))) (fun k => if_pos he)
  · refine ⟨([], t.2.1, t.2.2), ?_, fun h => absurd h he⟩
    exact Ev.bind hL (Ev.of (Ev.pure _) (fun _ => if_neg he))

/-- What 'parsed' gives. -/
def okP (l : List S29) : Prop := okL 5000 l ∧ (toksL l).length ≤ 5002
theorem okP_nil : okP [] := ⟨fun y hy => by simp [toksL] at hy, by simp [toksL]⟩
theorem okK.mono {n m : Nat} {x : Tk} (h : okK n x) (hm : n ≤ m) : okK m x := ⟨h.k0, h.k8, h.s0, Nat.le_trans h.sn hm, Nat.le_trans h.pn hm, h.h0⟩
theorem parsed_total (s : ByteArray) : ∃ l, Ev (fun k => tmplpipelaw13_parsed.f k s) l ∧ okP l := by
  by_cases hs : (s.size : Int) > 5000
  · exact ⟨[], Ev.of (Ev.pure _) (fun _ => by unfold tmplpipelaw13_parsed.f; exact if_pos hs), okP_nil⟩
  obtain ⟨r, hr, hk⟩ := parse_total s (by omega)
  have h1 : ∀ k, tmplpipelaw13_parsed.f k s = (tmplpiperef12_Parse.f k s).bind fun b => if b.2.2 = 0 then some b.1 else some [] := fun k => by unfold tmplpipelaw13_parsed.f; exact if_neg hs
  by_cases he : r.2.2 = 0
  · exact ⟨r.1, Ev.of (Ev.bind hr (Ev.of (Ev.pure _) (fun _ => if_pos he))) h1, fun y hy => ((hk he).1 y hy).mono (by omega), by have := (hk he).2; omega⟩
  · exact ⟨[], Ev.of (Ev.bind hr (Ev.of (Ev.pure _) (fun _ => if_neg he))) h1, okP_nil⟩

theorem bytes_eq {a b : ByteArray} (h : a.data.toList = b.data.toList) : a = b := by
  cases a; cases b; simp at h; rw [h]
theorem app_data (a b : ByteArray) : (a ++ b).data.toList = a.data.toList ++ b.data.toList := by simp
theorem size0 {a : ByteArray} (h : a.size = 0) : a = ⟨#[]⟩ := bytes_eq (List.length_eq_zero_iff.1 (by rw [data_length]; exact h))

theorem alive_true : ∃ K, tmplpipelaw13_alive.f K = some true := ⟨120, by decide +kernel⟩
theorem alive_ev : Ev (fun k => tmplpipelaw13_alive.f k) true := alive_true.elim fun K hK => Ev.up (tmplpipelaw13_alive.mono ·) hK

theorem joinB_one (a : ByteArray) : joinB [a] = a := bytes_eq (by simp [joinB, Lib.join, List.intercalate])
theorem joinB_two (a b : ByteArray) : joinB [a, b] = (a ++ (⟨#[32]⟩ : ByteArray)) ++ b := bytes_eq (by simp [joinB, Lib.join, List.intercalate])
theorem joinB_three (a b c : ByteArray) : joinB [a, b, c] = ((((a ++ (⟨#[32]⟩ : ByteArray)) ++ b) ++ (⟨#[32]⟩ : ByteArray)) ++ c) := bytes_eq (by simp [joinB, Lib.join, List.intercalate])
theorem joinB_nil : joinB [] = ⟨#[]⟩ := rfl

/-- The reference's format of a token. -/
theorem ref11_format (x : Tk) (h : okK 5000 x) : Ev (fun k => tmplpiperef11_Format.f k x.1 0 x.2.1 x.2.2.1 x.2.2.2) (fmtT x) := by
  obtain ⟨kd, s, p, hp⟩ := x
  obtain ⟨k0, k8, s0, sn, pn, h0⟩ := h
  dsimp only at *
  refine ⟨3, fun k hk => ?_⟩
  obtain ⟨k, rfl⟩ : ∃ m, k = m + 3 := ⟨k - 3, by omega⟩
  unfold tmplpiperef11_Format.f fmtT fmtTok
  dsimp only
  by_cases hz : kd = 0
  · rw [if_pos hz, if_pos hz]
  rw [if_neg hz, if_neg hz]
  simp only [Option.bind_some]
  rw [if_pos k0, if_pos (by simp; omega)]
  have e1 : (⟨#[46]⟩ : ByteArray).size = 1 := rfl
  have e2 : (⟨#[32]⟩ : ByteArray).size = 1 := rfl
  have e3 : (⟨#[123, 123]⟩ : ByteArray).size = 2 := rfl
  have j1 : ∀ (y : ByteArray), y.size ≤ 100000 → tmplpiperef11_Format.j1 (k + 2) y kd 0 s p hp = some (((⟨#[123, 123]⟩ : ByteArray) ++ (if hp = true then (if y.toList = [] then (y ++ (⟨#[46]⟩ : ByteArray)) ++ p else ((y ++ (⟨#[32]⟩ : ByteArray)) ++ (⟨#[46]⟩ : ByteArray)) ++ p) else y)) ++ (⟨#[125, 125]⟩ : ByteArray)) := by
    intro y hy
    simp only [tmplpiperef11_Format.j1, ByteArray.size_append, e1, e2, e3]
    cases hp with
    | true =>
      simp only [if_true]
      by_cases hyl : y.toList = []
      · simp only [if_pos hyl]
        rw [if_pos (by omega), if_pos (by omega), if_pos (by omega), if_pos (by omega)]
      · simp only [if_neg hyl]
        rw [if_pos (by omega), if_pos (by omega), if_pos (by omega), if_pos (by omega), if_pos (by omega)]
    | false =>
      simp only [Bool.false_eq_true, if_false]
      rw [if_pos (by omega), if_pos (by omega)]
  have j0 : ∀ (y : ByteArray) (b : Bool), y.size ≤ 50000 → tmplpiperef11_Format.j0 (k + 3) y b kd 0 s p hp = tmplpiperef11_Format.j1 (k + 2) (if b = true then (y ++ (⟨#[32]⟩ : ByteArray)) ++ s else y) kd 0 s p hp := by
    intro y b hy
    simp only [tmplpiperef11_Format.j0, ByteArray.size_append, e2]
    cases b with
    | true => simp only [if_true]; rw [if_pos (by omega), if_pos (by omega)]
    | false => simp only [Bool.false_eq_true, if_false]
  have tl : ∀ y : ByteArray, y.toList = [] ↔ y.size = 0 := fun y => by rw [ByteArray.toList_eq, ← data_length, List.length_eq_zero_iff]
  have noS : ¬ (kd = 4 ∨ kd = 6) → s = ⟨#[]⟩ := fun h => size0 ((s0 hz).2 h)
  have isS : (kd = 4 ∨ kd = 6) → s.toList ≠ [] := fun h e => (s0 hz).1 ((tl s).1 e) h
  have fin : ∀ (w : ByteArray), w.size ≤ 10 → rdOf ByteArray.empty [(⟨#[]⟩ : ByteArray), (⟨#[]⟩ : ByteArray), (⟨#[105, 102]⟩ : ByteArray), (⟨#[114, 97, 110, 103, 101]⟩ : ByteArray), (⟨#[99, 97, 108, 108]⟩ : ByteArray), (⟨#[102, 108, 117, 115, 104]⟩ : ByteArray), (⟨#[100, 101, 102, 105, 110, 101]⟩ : ByteArray), (⟨#[101, 108, 115, 101]⟩ : ByteArray), (⟨#[101, 110, 100]⟩ : ByteArray)] kd = w →
      (kwWords kd = if w.size = 0 then [] else [w]) →
      (if kd = 4 then tmplpiperef11_Format.j0 (k + 3) (rdOf ByteArray.empty [(⟨#[]⟩ : ByteArray), (⟨#[]⟩ : ByteArray), (⟨#[105, 102]⟩ : ByteArray), (⟨#[114, 97, 110, 103, 101]⟩ : ByteArray), (⟨#[99, 97, 108, 108]⟩ : ByteArray), (⟨#[102, 108, 117, 115, 104]⟩ : ByteArray), (⟨#[100, 101, 102, 105, 110, 101]⟩ : ByteArray), (⟨#[101, 108, 115, 101]⟩ : ByteArray), (⟨#[101, 110, 100]⟩ : ByteArray)] kd) true kd 0 s p hp
        else tmplpiperef11_Format.j0 (k + 3) (rdOf ByteArray.empty [(⟨#[]⟩ : ByteArray), (⟨#[]⟩ : ByteArray), (⟨#[105, 102]⟩ : ByteArray), (⟨#[114, 97, 110, 103, 101]⟩ : ByteArray), (⟨#[99, 97, 108, 108]⟩ : ByteArray), (⟨#[102, 108, 117, 115, 104]⟩ : ByteArray), (⟨#[100, 101, 102, 105, 110, 101]⟩ : ByteArray), (⟨#[101, 108, 115, 101]⟩ : ByteArray), (⟨#[101, 110, 100]⟩ : ByteArray)] kd) (kd == 6) kd 0 s p hp)
      = some (((⟨#[123, 123]⟩ : ByteArray) ++ joinB (tokWords kd s p hp)) ++ (⟨#[125, 125]⟩ : ByteArray)) := by
    intro w hw hrd hkw0
    have hkw : kwWords kd = if w.toList = [] then [] else [w] := by rw [hkw0]; simp only [tl]
    rw [hrd]
    have hb : (if kd = 4 then tmplpiperef11_Format.j0 (k + 3) w true kd 0 s p hp else tmplpiperef11_Format.j0 (k + 3) w (kd == 6) kd 0 s p hp) = tmplpiperef11_Format.j0 (k + 3) w (decide (kd = 4 ∨ kd = 6)) kd 0 s p hp := by
      by_cases h4 : kd = 4
      · rw [if_pos h4]; simp [h4]
      · rw [if_neg h4]; congr 1; simp only [h4, false_or]; rfl
    rw [hb, j0 w _ (by omega)]
    by_cases h46 : kd = 4 ∨ kd = 6
    · have hsl := isS h46
      have hwl : w.toList ≠ [] := fun e => by
        rw [if_pos e] at hkw
        rcases h46 with rfl | rfl
        · exact absurd hkw (by decide)
        · exact absurd hkw (by decide)
      rw [decide_eq_true h46, if_pos rfl, j1 _ (by simp only [ByteArray.size_append, e2]; omega)]
      have hy : ¬ ((w ++ (⟨#[32]⟩ : ByteArray)) ++ s).toList = [] := fun e => by
        have := (tl _).1 e
        simp only [ByteArray.size_append, e2] at this
        omega
      have htw : joinB (tokWords kd s p hp) = (if hp = true then ((((w ++ (⟨#[32]⟩ : ByteArray)) ++ s) ++ (⟨#[32]⟩ : ByteArray)) ++ (⟨#[46]⟩ : ByteArray)) ++ p else (w ++ (⟨#[32]⟩ : ByteArray)) ++ s) := by
        unfold tokWords
        rw [hkw, if_neg hwl, if_neg hsl]
        cases hp with
        | true => rw [if_pos rfl, if_pos rfl]; show joinB [w, s, _] = _; rw [joinB_three]; exact bytes_eq (by simp)
        | false => rw [if_neg (by decide), if_neg (by decide)]; exact joinB_two w s
      rw [htw, if_neg hy]
    · have hse := noS h46
      subst hse
      rw [decide_eq_false h46, if_neg (by decide), j1 _ (by omega)]
      have htw : joinB (tokWords kd ⟨#[]⟩ p hp) = (if hp = true then (if w.toList = [] then (w ++ (⟨#[46]⟩ : ByteArray)) ++ p else ((w ++ (⟨#[32]⟩ : ByteArray)) ++ (⟨#[46]⟩ : ByteArray)) ++ p) else w) := by
        unfold tokWords
        rw [hkw, if_pos ((tl (⟨#[]⟩ : ByteArray)).2 rfl)]
        cases hp with
        | true =>
          rw [if_pos rfl, if_pos rfl]
          by_cases hwl : w.toList = []
          · rw [if_pos hwl, if_pos hwl, size0 ((tl w).1 hwl)]
            show joinB [_] = _
            rw [joinB_one]
            exact bytes_eq (by simp)
          · rw [if_neg hwl, if_neg hwl]
            show joinB [w, _] = _
            rw [joinB_two]
            exact bytes_eq (by simp)
        | false =>
          rw [if_neg (show ¬ (false = true) by decide), if_neg (show ¬ (false = true) by decide)]
          by_cases hwl : w.toList = []
          · rw [if_pos hwl, size0 ((tl w).1 hwl)]; rfl
          · rw [if_neg hwl]; exact joinB_one w
      rw [htw]
  have hcase : kd = 1 ∨ kd = 2 ∨ kd = 3 ∨ kd = 4 ∨ kd = 5 ∨ kd = 6 ∨ kd = 7 ∨ kd = 8 := by omega
  rcases hcase with h | h | h | h | h | h | h | h
  · exact fin ⟨#[]⟩ (by decide) (by rw [h]; rfl) (by rw [h]; decide)
  · exact fin ⟨#[105, 102]⟩ (by decide) (by rw [h]; rfl) (by rw [h]; decide)
  · exact fin ⟨#[114, 97, 110, 103, 101]⟩ (by decide) (by rw [h]; rfl) (by rw [h]; decide)
  · exact fin ⟨#[99, 97, 108, 108]⟩ (by decide) (by rw [h]; rfl) (by rw [h]; decide)
  · exact fin ⟨#[102, 108, 117, 115, 104]⟩ (by decide) (by rw [h]; rfl) (by rw [h]; decide)
  · exact fin ⟨#[100, 101, 102, 105, 110, 101]⟩ (by decide) (by rw [h]; rfl) (by rw [h]; decide)
  · exact fin ⟨#[101, 108, 115, 101]⟩ (by decide) (by rw [h]; rfl) (by rw [h]; decide)
  · exact fin ⟨#[101, 110, 100]⟩ (by decide) (by rw [h]; rfl) (by rw [h]; decide)
end Go.Proofs.Ytgdpojleejdfaaa.Px
