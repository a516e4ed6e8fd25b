/- Plain laws: parsed, alive, and the two formatters. -/
import Derived.Laws.Strings
import Derived.Test.YtgdpojleejdfaaaPb
import Derived.Test.YtgdpojleejdfaaaYa
namespace Go.Proofs.Ytgdpojleejdfaaa.Px
open Go.RowKit Go.Proofs.YtgdpojleejdfaaaW.PrintWords Go.Proofs.YtgdpojleejdfaaaW.PrintLast Go.Proofs.YtgdpojleejdfaaaW.PrintMore
set_option linter.unusedVariables false
set_option linter.unusedSimpArgs false

/-- From some round on it tells this. -/
def Ev {α : Type} (f : Nat → Option α) (v : α) : Prop := ∃ K, ∀ k, K ≤ k → f k = some v
theorem Ev.up {α : Type} {f : Nat → Option α} (hm : ∀ k, LeO (f k) (f (k + 1))) {v : α} {K : Nat} (h : f K = some v) : Ev f v := by
  refine ⟨K, fun k hk => ?_⟩
  induction hk with
  | refl => exact h
  | step _ ih => exact hm _ _ ih
theorem Ev.pure {α : Type} (v : α) : Ev (fun _ => some v) v := ⟨0, fun _ _ => rfl⟩
theorem Ev.bind {α β : Type} {f : Nat → Option α} {v : α} {g : Nat → α → Option β} {r : β} (h : Ev f v) (k : Ev (fun n => g n v) r) : Ev (fun n => (f n).bind (g n)) r := by
  obtain ⟨K, hK⟩ := h
  obtain ⟨L, hL⟩ := k
  exact ⟨max K L, fun n hn => by show (f n).bind (g n) = _; rw [hK n (by omega)]; exact hL n (by omega)⟩
theorem Ev.shift {α : Type} {f g : Nat → Option α} {v : α} (h : Ev f v) (e : ∀ k, g (k + 1) = f k) : Ev g v := by
  obtain ⟨K, hK⟩ := h
  exact ⟨K + 1, fun n hn => by
    obtain ⟨n, rfl⟩ : ∃ m, n = m + 1 := ⟨n - 1, by omega⟩
    rw [e]; exact hK n (by omega)⟩
theorem Ev.of {α : Type} {f g : Nat → Option α} {v : α} (h : Ev f v) (e : ∀ k, g k = f k) : Ev g v := by
  obtain ⟨K, hK⟩ := h
  exact ⟨K, fun n hn => by rw [e]; exact hK n hn⟩
theorem Ev.one {α : Type} {f : Nat → Option α} {v : α} (h : Ev f v) : ∃ k, f k = some v := h.imp fun K hK => hK K (Nat.le_refl _)

theorem parse_total (s : ByteArray) (hs : s.size ≤ 65536) : ∃ r, Ev (fun k => tmplpiperef12_Parse.f k s) r ∧ (r.2.2 = 0 → okL s.size r.1 ∧ (toksL r.1).length ≤ s.size + 2) := by
  obtain ⟨t, ht, hok⟩ := lex_ends s hs (s.size + 2) (7 * s.size + 1000) [] 0 (by omega) (by omega) (by omega) (by omega) (fun x hx => by cases hx) (by simp)
  have hL : Ev (fun k => rlexF k s) t := Ev.up (rlexF.mono · s) (K := 7 * s.size + 1000) (by unfold rlexF; rw [if_neg (by omega)]; exact ht)
  by_cases he : t.2.2 = 0
  · obtain ⟨o1, o2⟩ := hok he
    obtain ⟨r, hr, _, _, hk⟩ := (parse_ends s.size t.1 (by omega) o1 t.1.length).1 (2 * t.1.length + 1) 0 0 (-1) false 0 [] (by omega) (by omega) (by omega) (by omega) (by omega) (by omega) (fun y hy => by simp [toksL] at hy) (by simp [toksL]) (by simp)
    have hP : Ev (fun k => rlist k t.1 0 0 (-1) false 0 []) r := Ev.up (fun k => (rparse.mono k).1 _ _ _ _ _ _ _) hr
    by_cases hz : r.2.2.1 = 0
    · refine ⟨(r.1, s.size, 0), ?_, fun _ => ?_⟩
      · refine Ev.bind hL ?_
        refine Ev.of (f := fun k => (rlist k t.1 0 0 (-1) false 0 []).bind fun q => if q.2.2.1 = 0 then some (q.1, (s.size : Int), (0 : Int)) else some ([], q.2.1, q.2.2.1)) (Ev.bind hP (Ev.of (Ev.pure _) (fun _ => if_pos hz))) (fun k => if_pos he)
      · obtain ⟨a, b, c⟩ := hk hz
        refine ⟨a, ?_⟩
        simp only [toksL, List.length_nil] at b
        show (toksL r.1).length ≤ _
        omega
    · refine ⟨([], r.2.1, r.2.2.1), ?_, fun h => absurd h hz⟩
      refine Ev.bind hL ?_
      refine Ev.of (f := fun k => (rlist k t.1 0 0 (-1) false 0 []).bind fun q => if q.2.2.1 = 0 then some (q.1, (s.size : Int), (0 : Int)) else some ([], q.2.1, q.2.2.1)) (Ev.bind hP (Ev.of (Ev.pure _) (fun _ => if_neg hz))) (fun k => if_pos he)
  · refine ⟨([], t.2.1, t.2.2), ?_, fun h => absurd h he⟩
    exact Ev.bind hL (Ev.of (Ev.pure _) (fun _ => if_neg he))

/-- What 'parsed' gives. -/
def okP (l : List S29) : Prop := okL 5000 l ∧ (toksL l).length ≤ 5002
theorem okP_nil : okP [] := ⟨fun y hy => by simp [toksL] at hy, by simp [toksL]⟩
theorem okK.mono {n m : Nat} {x : Tk} (h : okK n x) (hm : n ≤ m) : okK m x := ⟨h.k0, h.k8, h.s0, Nat.le_trans h.sn hm, Nat.le_trans h.pn hm, h.h0⟩
theorem parsed_total (s : ByteArray) : ∃ l, Ev (fun k => tmplpipelaw13_parsed.f k s) l ∧ okP l := by
  by_cases hs : (s.size : Int) > 5000
  · exact ⟨[], Ev.of (Ev.pure _) (fun _ => by unfold tmplpipelaw13_parsed.f; exact if_pos hs), okP_nil⟩
  obtain ⟨r, hr, hk⟩ := parse_total s (by omega)
  have h1 : ∀ k, tmplpipelaw13_parsed.f k s = (tmplpiperef12_Parse.f k s).bind fun b => if b.2.2 = 0 then some b.1 else some [] := fun k => by unfold tmplpipelaw13_parsed.f; exact if_neg hs
  by_cases he : r.2.2 = 0
  · exact ⟨r.1, Ev.of (Ev.bind hr (Ev.of (Ev.pure _) (fun _ => if_pos he))) h1, fun y hy => ((hk he).1 y hy).mono (by omega), by have := (hk he).2; omega⟩
  · exact ⟨[], Ev.of (Ev.bind hr (Ev.of (Ev.pure _) (fun _ => if_neg he))) h1, okP_nil⟩

theorem bytes_eq {a b : ByteArray} (h : a.data.toList = b.data.toList) : a = b := by
  cases a; cases b; simp at h; rw [h]
theorem app_data (a b : ByteArray) : (a ++ b).data.toList = a.data.toList ++ b.data.toList := by simp
theorem size0 {a : ByteArray} (h : a.size = 0) : a = ⟨#[]⟩ := bytes_eq (List.length_eq_zero_iff.1 (by rw [data_length]; exact h))

theorem alive_true : ∃ K, tmplpipelaw13_alive.f K = some true := ⟨120, by decide +kernel⟩
theorem alive_ev : Ev (fun k => tmplpipelaw13_alive.f k) true := alive_true.elim fun K hK => Ev.up (tmplpipelaw13_alive.mono ·) hK

theorem joinB_one (a : ByteArray) : joinB [a] = a := bytes_eq (by simp [joinB, Lib.join, List.intercalate])
theorem joinB_two (a b : ByteArray) : joinB [a, b] = (a ++ (⟨#[32]⟩ : ByteArray)) ++ b := bytes_eq (by simp [joinB, Lib.join, List.intercalate])
theorem joinB_three (a b c : ByteArray) : joinB [a, b, c] = ((((a ++ (⟨#[32]⟩ : ByteArray)) ++ b) ++ (⟨#[32]⟩ : ByteArray)) ++ c) := bytes_eq (by simp [joinB, Lib.join, List.intercalate])
theorem joinB_nil : joinB [] = ⟨#[]⟩ := rfl

end Go.Proofs.Ytgdpojleejdfaaa.Px
