/- Plain laws: the reference's formatter of templates; the laws of layer 13 that need no more. -/
import Derived.Test.YtgdpojleejdfaaaPc
namespace Go.Proofs.Ytgdpojleejdfaaa.Px
open Go.RowKit Go.Proofs.YtgdpojleejdfaaaW.PrintWords Go.Proofs.YtgdpojleejdfaaaW.PrintLast Go.Proofs.YtgdpojleejdfaaaW.PrintMore
set_option linter.unusedVariables false
set_option linter.unusedSimpArgs false

theorem tokWords_len (k : Int) (s p : ByteArray) (h : Bool) : (tokWords k s p h).length ≤ 3 := by
  unfold tokWords
  obtain ⟨h1, _⟩ := kwWords_small k
  rw [List.length_append, List.length_append]
  have a : (if s.toList = [] then ([] : List ByteArray) else [s]).length ≤ 1 := by split <;> simp
  have b : (if h = true then [(⟨#[46]⟩ : ByteArray) ++ p] else []).length ≤ 1 := by split <;> simp
  omega
theorem fmtT_size (x : Tk) (h : okK 5000 x) : (fmtT x).size ≤ 20000 := by
  unfold fmtT fmtTok
  split
  · have := h.sn; omega
  · have hj : (Lib.join ((tokWords x.1 x.2.1 x.2.2.1 x.2.2.2).map (·.data.toList)) [32]).length ≤ 3 * 5002 := by
      refine Nat.le_trans (join_len 5001 _ ?_) (Nat.mul_le_mul_right _ (by rw [List.length_map]; exact tokWords_len _ _ _ _))
      intro y hy
      obtain ⟨z, hz, rfl⟩ := List.mem_map.1 hy
      unfold tokWords at hz
      rw [List.mem_append, List.mem_append] at hz
      rcases hz with (hz | hz) | hz
      · exact Nat.le_trans ((kwWords_small _).2 z hz) (by omega)
      · split at hz
        · cases hz
        · simp only [List.mem_singleton] at hz; subst hz; rw [data_length]; have := h.sn; omega
      · split at hz
        · simp only [List.mem_singleton] at hz; subst hz; rw [data_length, ByteArray.size_append]; have := h.pn; show 1 + x.2.2.1.size ≤ _; omega
        · cases hz
    have hs : (joinB (tokWords x.1 x.2.1 x.2.2.1 x.2.2.2)).size ≤ 15006 := by
      rw [← data_length]; unfold joinB; simpa using hj
    simp only [ByteArray.size_append]
    show 2 + _ + 2 ≤ _
    omega
theorem okTk_of {x : Tk} (h : okK 5000 x) : okTk x := ⟨Nat.le_trans h.sn (by omega), Nat.le_trans h.pn (by omega), Nat.le_trans (fmtT_size x h) (by omega)⟩
def FB (l : List S29) : ByteArray := ⟨(fmtB (toksL l)).toArray⟩
theorem FB_size : ∀ (l : List Tk), (∀ y ∈ l, okK 5000 y) → (fmtB l).length ≤ l.length * 20000
  | [], _ => by simp [fmtB]
  | x :: xs, h => by
    have h1 := FB_size xs (fun y hy => h y (List.mem_cons_of_mem _ hy))
    have h2 : (fmtT x).data.toList.length ≤ 20000 := by rw [data_length]; exact fmtT_size x (h x (List.mem_cons_self ..))
    have h3 : fmtB (x :: xs) = (fmtT x).data.toList ++ fmtB xs := by simp [fmtB]
    rw [h3, List.length_append, List.length_cons]
    omega
theorem printer_format {l : List S29} (h : okP l) : printer_Format.f l = some (FB l) := by
  unfold printer_Format.f
  rw [if_pos ⟨fun y hy => okTk_of (h.1 y hy), by have := h.2; omega⟩]
  rfl
theorem fmtB_app (xs ys : List Tk) : fmtB (xs ++ ys) = fmtB xs ++ fmtB ys := by simp [fmtB]
theorem fmtB_cons (x : Tk) (xs : List Tk) : fmtB (x :: xs) = (fmtT x).data.toList ++ fmtB xs := by simp [fmtB]
theorem fmt_else : fmtT tkElse = ⟨#[123, 123, 101, 108, 115, 101, 125, 125]⟩ := by decide +kernel
theorem fmt_end : fmtT tkEnd = ⟨#[123, 123, 101, 110, 100, 125, 125]⟩ := by decide +kernel

theorem FB_data (l : List S29) : (FB l).data.toList = fmtB (toksL l) := by simp [FB]
theorem FB_nil : FB [] = ⟨#[]⟩ := by unfold FB toksL; rfl
theorem FB_sz (l : List S29) : (FB l).size = (fmtB (toksL l)).length := by rw [← data_length, FB_data]

theorem toksL_len : ∀ (l : List S29), l.length ≤ (toksL l).length
  | [] => by simp
  | x :: xs => by
    have := toksL_len xs
    rw [toksL_cons, toksN_eq]
    simp only [List.length_cons, List.length_append]
    omega
theorem tl_inj {a b : ByteArray} (h : a.toList = b.toList) : a = b := bytes_eq (by rw [← ByteArray.toList_eq, ← ByteArray.toList_eq]; exact h)
theorem eqNode_iff (x y : S29) : eqNode x y = true ↔ x.f0 = y.f0 ∧ x.f2 = y.f2 ∧ x.f3 = y.f3 ∧ x.f4 = y.f4 ∧ x.f5 = y.f5 ∧ eqList x.f6 y.f6 = true ∧ eqList x.f7 y.f7 = true := by
  rw [eqNode_eq]
  simp only [Bool.and_eq_true, beq_iff_eq, decide_eq_true_eq]
  constructor
  · rintro ⟨⟨⟨⟨⟨⟨h0, h2⟩, h3⟩, h4⟩, h5⟩, h6⟩, h7⟩
    exact ⟨h0, tl_inj h2, tl_inj h3, h4, h5, h6, h7⟩
  · rintro ⟨h0, h2, h3, h4, h5, h6, h7⟩
    exact ⟨⟨⟨⟨⟨⟨h0, by rw [h2]⟩, by rw [h3]⟩, h4⟩, h5⟩, h6⟩, h7⟩
theorem eqList_cons1 (x y : S29) (xs ys : List S29) : eqList (x :: xs) (y :: ys) = (eqNode x y && eqList xs ys) := by simp [eqList]
theorem eqList_cons_iff (x y : S29) (xs ys : List S29) : eqList (x :: xs) (y :: ys) = true ↔ eqNode x y = true ∧ eqList xs ys = true := by rw [eqList_cons1, Bool.and_eq_true]

theorem eqList_refl : ∀ (n : Nat) (a : List S29), SizeOf.sizeOf a < n → eqList a a = true
  | 0, a, h => absurd h (Nat.not_lt_zero _)
  | n + 1, [], h => by simp [eqList]
  | n + 1, x :: xs, h => by
    simp only [List.cons.sizeOf_spec] at h
    have h6 := S29.size6 x
    have h7 := S29.size7 x
    exact (eqList_cons_iff _ _ _ _).2 ⟨(eqNode_iff _ _).2 ⟨rfl, rfl, rfl, rfl, rfl, eqList_refl n _ (by omega), eqList_refl n _ (by omega)⟩, eqList_refl n xs (by omega)⟩
theorem eqList_symm : ∀ (n : Nat) (a b : List S29), SizeOf.sizeOf a < n → eqList a b = true → eqList b a = true
  | 0, a, b, h, _ => absurd h (Nat.not_lt_zero _)
  | n + 1, [], [], h, _ => by simp [eqList]
  | n + 1, [], _ :: _, h, e => by simp [eqList] at e
  | n + 1, _ :: _, [], h, e => by simp [eqList] at e
  | n + 1, x :: xs, y :: ys, h, e => by
    simp only [List.cons.sizeOf_spec] at h
    have h6 := S29.size6 x
    have h7 := S29.size7 x
    obtain ⟨e1, e2⟩ := (eqList_cons_iff _ _ _ _).1 e
    obtain ⟨a0, a2, a3, a4, a5, a6, a7⟩ := (eqNode_iff _ _).1 e1
    exact (eqList_cons_iff _ _ _ _).2 ⟨(eqNode_iff _ _).2 ⟨a0.symm, a2.symm, a3.symm, a4.symm, a5.symm, eqList_symm n _ _ (by omega) a6, eqList_symm n _ _ (by omega) a7⟩, eqList_symm n xs ys (by omega) e2⟩
theorem eqList_trans : ∀ (n : Nat) (a b c : List S29), SizeOf.sizeOf a < n → eqList a b = true → eqList b c = true → eqList a c = true
  | 0, a, b, c, h, _, _ => absurd h (Nat.not_lt_zero _)
  | n + 1, [], [], c, h, _, e => e
  | n + 1, [], _ :: _, c, h, e, _ => by simp [eqList] at e
  | n + 1, _ :: _, [], c, h, e, _ => by simp [eqList] at e
  | n + 1, x :: xs, y :: ys, [], h, _, e => by simp [eqList] at e
  | n + 1, x :: xs, y :: ys, z :: zs, h, e, f => by
    simp only [List.cons.sizeOf_spec] at h
    have h6 := S29.size6 x
    have h7 := S29.size7 x
    obtain ⟨e1, e2⟩ := (eqList_cons_iff _ _ _ _).1 e
    obtain ⟨f1, f2⟩ := (eqList_cons_iff _ _ _ _).1 f
    obtain ⟨a0, a2, a3, a4, a5, a6, a7⟩ := (eqNode_iff _ _).1 e1
    obtain ⟨b0, b2, b3, b4, b5, b6, b7⟩ := (eqNode_iff _ _).1 f1
    exact (eqList_cons_iff _ _ _ _).2 ⟨(eqNode_iff _ _).2 ⟨a0.trans b0, a2.trans b2, a3.trans b3, a4.trans b4, a5.trans b5, eqList_trans n _ _ _ (by omega) a6 b6, eqList_trans n _ _ _ (by omega) a7 b7⟩, eqList_trans n xs ys zs (by omega) e2 f2⟩
theorem eqList_toks : ∀ (n : Nat) (a b : List S29), SizeOf.sizeOf a < n → eqList a b = true → toksL a = toksL b
  | 0, a, b, h, _ => absurd h (Nat.not_lt_zero _)
  | n + 1, [], [], h, _ => rfl
  | n + 1, [], _ :: _, h, e => by simp [eqList] at e
  | n + 1, _ :: _, [], h, e => by simp [eqList] at e
  | n + 1, x :: xs, y :: ys, h, e => by
    simp only [List.cons.sizeOf_spec] at h
    have h6 := S29.size6 x
    have h7 := S29.size7 x
    obtain ⟨e1, e2⟩ := (eqList_cons_iff _ _ _ _).1 e
    obtain ⟨a0, a2, a3, a4, a5, a6, a7⟩ := (eqNode_iff _ _).1 e1
    rw [toksL_cons, toksL_cons, toksN_eq, toksN_eq, a0, a2, a3, a4, a5, eqList_toks n _ _ (by omega) a6, eqList_toks n _ _ (by omega) a7, eqList_toks n xs ys (by omega) e2]
theorem eqFB {a b : List S29} (h : eqList a b = true) : FB a = FB b := by unfold FB; rw [eqList_toks _ a b (Nat.lt_succ_self _) h]

end Go.Proofs.Ytgdpojleejdfaaa.Px
