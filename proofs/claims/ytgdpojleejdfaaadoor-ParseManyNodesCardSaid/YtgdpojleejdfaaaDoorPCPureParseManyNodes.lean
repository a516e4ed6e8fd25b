/- MaxNodes nodes parse, one more does not (the plain law). -/
import Derived.Test.YtgdpojleejdfaaaDoorPCNe
namespace Go.Proofs.YtgdpojleejdfaaaDoor.Px
open Go.RowKit Go.Proofs.YtgdpojleejdfaaaDoorW.PrintWords Go.Proofs.YtgdpojleejdfaaaDoorW.PrintLast Go.Proofs.YtgdpojleejdfaaaDoorW.PrintMore
set_option linter.unusedVariables false
set_option linter.unusedSimpArgs false

def flushB : List UInt8 := [123, 123, 102, 108, 117, 115, 104, 125, 125]
def flToks : Nat → Nat → List T5
  | 0, _ => []
  | k + 1, p => (p, 5, [], [], false) :: flToks k (p + 9)
def flAll : Nat → List UInt8
  | 0 => []
  | k + 1 => flushB ++ flAll k
theorem flAll_len : ∀ k, (flAll k).length = 9 * k
  | 0 => rfl
  | k + 1 => by
    have := flAll_len k
    rw [flAll, List.length_append]
    show 9 + _ = _
    omega
theorem lexS_flush : ∀ (k p : Nat), lexS p (flAll k) = .ok (flToks k p)
  | 0, p => by rw [flAll, lexS_text (s := []) trivial]; rfl
  | k + 1, p => by
    have h := lexS_dir (p := p) (t := []) (u := [102, 108, 117, 115, 104]) (r := flAll k) (by simp [noPair]) (by simp [noPair])
    have hd : dirF (fieldsG [102, 108, 117, 115, 104] []) = (0, 5, [], [], false) := by decide
    rw [hd] at h
    have e : flAll (k + 1) = [] ++ 123 :: 123 :: ([102, 108, 117, 115, 104] ++ 125 :: 125 :: flAll k) := rfl
    rw [e, h]
    dsimp only
    rw [if_pos rfl]
    have ih := lexS_flush k (p + 9)
    change (match lexS (p + 9) (flAll k) with
      | Except.error e => Except.error e
      | Except.ok l => Except.ok (txtT p [] ++ (p + ([] : List UInt8).length, 5, [], [], false) :: l)) = _
    rw [ih]
    rfl
theorem flush_ok : ∀ (j p : Nat) (n : Int) (out : List S39), 0 ≤ n → n + j ≤ 4096 → out.length + j < 100000 →
    ∃ o, Ev (fun k => plist k ((flToks j p).map tokS) n 0 out) (.ok (o, [], n + j)) ∧ o.length = out.length + j
  | 0, p, n, out, h0, h1, h2 => ⟨out, ⟨1, fun k hk => by
      obtain ⟨k, rfl⟩ : ∃ i, k = i + 1 := ⟨k - 1, by omega⟩
      show plist (k + 1) [] n 0 out = _
      rw [plist_nil]; simp⟩, by simp⟩
  | j + 1, p, n, out, h0, h1, h2 => by
    obtain ⟨o, ⟨K, hK⟩, hl⟩ := flush_ok j (p + 9) (n + 1) (out ++ [⟨(tokS (p, 5, [], [], false)).f0, (tokS (p, 5, [], [], false)).f1, (tokS (p, 5, [], [], false)).f2, (tokS (p, 5, [], [], false)).f3, (tokS (p, 5, [], [], false)).f4, false, [], []⟩]) (by omega) (by omega) (by rw [List.length_append, List.length_singleton]; omega)
    refine ⟨o, ⟨K + 2, fun k hk => ?_⟩, by rw [hl, List.length_append, List.length_singleton]; omega⟩
    obtain ⟨k, rfl⟩ : ∃ i, k = i + 1 + 1 := ⟨k - 2, by omega⟩
    show plist (k + 1 + 1) (tokS (p, 5, [], [], false) :: (flToks j (p + 9)).map tokS) n 0 out = _
    have hk5 : (tokS (p, 5, [], [], false)).f0 = 5 := rfl
    have hp5 : (tokS (p, 5, [], [], false)).f1 = p := rfl
    generalize tokS (p, 5, [], [], false) = t at *
    rw [plist_cons, if_pos (by omega), if_neg (by rw [hk5]; decide), pnode_eq, if_pos ⟨h0, Int.le_refl _⟩, if_neg (by rw [hk5]; decide), if_neg (by rw [hk5]; decide), if_neg (by omega), if_neg (by rw [hk5]; decide)]
    have := hK (k + 1) (by omega)
    dsimp only at this ⊢
    rw [show n + 1 + (j : Int) = n + ((j + 1 : Nat) : Int) by omega] at this
    exact this
theorem flush_no : ∀ (m j p : Nat) (n : Int) (out : List S39), 0 ≤ n → n + m = 4096 → m < j → out.length + m < 100000 →
    Ev (fun k => plist k ((flToks j p).map tokS) n 0 out) (.error ((p : Int) + 9 * m, 14))
  | m, 0, p, n, out, h0, h1, h2, h3 => absurd h2 (Nat.not_lt_zero _)
  | 0, j + 1, p, n, out, h0, h1, h2, h3 => ⟨2, fun k hk => by
      obtain ⟨k, rfl⟩ : ∃ i, k = i + 1 + 1 := ⟨k - 2, by omega⟩
      show plist (k + 1 + 1) (tokS (p, 5, [], [], false) :: (flToks j (p + 9)).map tokS) n 0 out = _
      have hk5 : (tokS (p, 5, [], [], false)).f0 = 5 := rfl
      have hp5 : (tokS (p, 5, [], [], false)).f1 = p := rfl
      generalize tokS (p, 5, [], [], false) = t at *
      rw [plist_cons, if_pos (by omega), if_neg (by rw [hk5]; decide), pnode_eq, if_pos ⟨h0, Int.le_refl _⟩, if_neg (by rw [hk5]; decide), if_neg (by rw [hk5]; decide), if_pos (by omega)]
      simp [hp5]⟩
  | m + 1, j + 1, p, n, out, h0, h1, h2, h3 => by
    obtain ⟨K, hK⟩ := flush_no m j (p + 9) (n + 1) (out ++ [⟨(tokS (p, 5, [], [], false)).f0, (tokS (p, 5, [], [], false)).f1, (tokS (p, 5, [], [], false)).f2, (tokS (p, 5, [], [], false)).f3, (tokS (p, 5, [], [], false)).f4, false, [], []⟩]) (by omega) (by omega) (by omega) (by rw [List.length_append, List.length_singleton]; omega)
    refine ⟨K + 2, fun k hk => ?_⟩
    obtain ⟨k, rfl⟩ : ∃ i, k = i + 1 + 1 := ⟨k - 2, by omega⟩
    show plist (k + 1 + 1) (tokS (p, 5, [], [], false) :: (flToks j (p + 9)).map tokS) n 0 out = _
    have hk5 : (tokS (p, 5, [], [], false)).f0 = 5 := rfl
    have hp5 : (tokS (p, 5, [], [], false)).f1 = p := rfl
    generalize tokS (p, 5, [], [], false) = t at *
    rw [plist_cons, if_pos (by omega), if_neg (by rw [hk5]; decide), pnode_eq, if_pos ⟨h0, Int.le_refl _⟩, if_neg (by rw [hk5]; decide), if_neg (by rw [hk5]; decide), if_neg (by omega), if_neg (by rw [hk5]; decide)]
    have := hK (k + 1) (by omega)
    dsimp only at this ⊢
    rw [show ((p + 9 : Nat) : Int) + 9 * (m : Int) = (p : Int) + 9 * ((m + 1 : Nat) : Int) by omega] at this
    exact this
/-- What Parse answers to k times a flush. -/
theorem many_ev (k : Nat) (hk : k ≤ 7000) : ∃ l : List S39, Ev (fun j => parse_Parse.f j ⟨(flAll k).toArray⟩) (if k ≤ 4096 then (l, ((9 * k : Nat) : Int), 0) else (l, 36864, 14)) ∧ l.length = if k ≤ 4096 then k else 0 := by
  have hFd : (⟨(flAll k).toArray⟩ : ByteArray).data.toList = flAll k := by simp
  have hFs : (⟨(flAll k).toArray⟩ : ByteArray).size = 9 * k := by rw [← data_length, hFd, flAll_len]
  have hlex : lexF ⟨(flAll k).toArray⟩ = ((flToks k 0).map tokS, ((9 * k : Nat) : Int), 0) := by
    rw [lexF_small (by omega), hFd, lexS_flush]
    show ((flToks k 0).map tokS, ((⟨(flAll k).toArray⟩ : ByteArray).size : Int), (0 : Int)) = _
    rw [hFs]
  have fin : ∀ (res : PA (List S39)) (r : List S39 × Int × Int), Ev (fun j => plist j ((flToks k 0).map tokS) 0 0 []) res → parseR ⟨(flAll k).toArray⟩ res = r → Ev (fun j => parse_Parse.f j ⟨(flAll k).toArray⟩) r := by
    rintro res r ⟨K, hK⟩ rfl
    refine ⟨K, fun j hj => ?_⟩
    have := hK j hj
    dsimp only at this ⊢
    unfold parse_Parse.f
    rw [hlex]
    dsimp only
    rw [if_pos rfl, this]; rfl
  by_cases h : k ≤ 4096
  · obtain ⟨o, ho, hl⟩ := flush_ok k 0 0 [] (Int.le_refl _) (by omega) (by simp; omega)
    refine ⟨o, fin _ _ ho ?_, by rw [hl, if_pos h]; simp⟩
    rw [if_pos h]
    show (o, ((⟨(flAll k).toArray⟩ : ByteArray).size : Int), (0 : Int)) = _
    rw [hFs]
  · refine ⟨[], fin _ _ (flush_no 4096 k 0 0 [] (Int.le_refl _) (by omega) (by omega) (by simp)) ?_, by rw [if_neg h]; rfl⟩
    rw [if_neg h]
    rfl
end Go.Proofs.YtgdpojleejdfaaaDoor.Px
