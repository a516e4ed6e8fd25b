/- Plain laws: the reference's formatter of templates; the laws of layer 13 that need no more. -/
import Derived.Test.YtgdpojleejdfaaaPc
namespace Go.Proofs.Ytgdpojleejdfaaa.Px
open Go.RowKit Go.Proofs.YtgdpojleejdfaaaW.PrintWords Go.Proofs.YtgdpojleejdfaaaW.PrintLast Go.Proofs.YtgdpojleejdfaaaW.PrintMore
set_option linter.unusedVariables false
set_option linter.unusedSimpArgs false

theorem tokWords_len (k : Int) (s p : ByteArray) (h : Bool) : (tokWords k s p h).length ≤ 3 := by
  unfold tokWords
  obtain ⟨h1, _⟩ := kwWords_small k
  rw [List.length_append, List.length_append]
  have a : (if s.toList = [] then ([] : List ByteArray) else [s]).length ≤ 1 := by split <;> simp
  have b : (if h = true then [(⟨#[46]⟩ : ByteArray) ++ p] else []).length ≤ 1 := by split <;> simp
  omega
theorem fmtT_size (x : Tk) (h : okK 5000 x) : (fmtT x).size ≤ 20000 := by
  unfold fmtT fmtTok
  split
  · have := h.sn; omega
  · have hj : (Lib.join ((tokWords x.1 x.2.1 x.2.2.1 x.2.2.2).map (·.data.toList)) [32]).length ≤ 3 * 5002 := by
      refine Nat.le_trans (join_len 5001 _ ?_) (Nat.mul_le_mul_right _ (by rw [List.length_map]; exact tokWords_len _ _ _ _))
      intro y hy
      obtain ⟨z, hz, rfl⟩ := List.mem_map.1 hy
      unfold tokWords at hz
      rw [List.mem_append, List.mem_append] at hz
      rcases hz with (hz | hz) | hz
      · exact Nat.le_trans ((kwWords_small _).2 z hz) (by omega)
      · split at hz
        · cases hz
        · simp only [List.mem_singleton] at hz; subst hz; rw [data_length]; have := h.sn; omega
      · split at hz
        · simp only [List.mem_singleton] at hz; subst hz; rw [data_length, ByteArray.size_append]; have := h.pn; show 1 + x.2.2.1.size ≤ _; omega
        · cases hz
    have hs : (joinB (tokWords x.1 x.2.1 x.2.2.1 x.2.2.2)).size ≤ 15006 := by
      rw [← data_length]; unfold joinB; simpa using hj
    simp only [ByteArray.size_append]
    show 2 + _ + 2 ≤ _
    omega
theorem okTk_of {x : Tk} (h : okK 5000 x) : okTk x := ⟨Nat.le_trans h.sn (by omega), Nat.le_trans h.pn (by omega), Nat.le_trans (fmtT_size x h) (by omega)⟩
def FB (l : List S29) : ByteArray := ⟨(fmtB (toksL l)).toArray⟩
theorem FB_size : ∀ (l : List Tk), (∀ y ∈ l, okK 5000 y) → (fmtB l).length ≤ l.length * 20000
  | [], _ => by simp [fmtB]
  | x :: xs, h => by
    have h1 := FB_size xs (fun y hy => h y (List.mem_cons_of_mem _ hy))
    have h2 : (fmtT x).data.toList.length ≤ 20000 := by rw [data_length]; exact fmtT_size x (h x (List.mem_cons_self ..))
    have h3 : fmtB (x :: xs) = (fmtT x).data.toList ++ fmtB xs := by simp [fmtB]
    rw [h3, List.length_append, List.length_cons]
    omega
theorem printer_format {l : List S29} (h : okP l) : printer_Format.f l = some (FB l) := by
  unfold printer_Format.f
  rw [if_pos ⟨fun y hy => okTk_of (h.1 y hy), by have := h.2; omega⟩]
  rfl
theorem fmtB_app (xs ys : List Tk) : fmtB (xs ++ ys) = fmtB xs ++ fmtB ys := by simp [fmtB]
theorem fmtB_cons (x : Tk) (xs : List Tk) : fmtB (x :: xs) = (fmtT x).data.toList ++ fmtB xs := by simp [fmtB]
theorem fmt_else : fmtT tkElse = ⟨#[123, 123, 101, 108, 115, 101, 125, 125]⟩ := by decide +kernel
theorem fmt_end : fmtT tkEnd = ⟨#[123, 123, 101, 110, 100, 125, 125]⟩ := by decide +kernel

theorem FB_data (l : List S29) : (FB l).data.toList = fmtB (toksL l) := by simp [FB]
theorem FB_nil : FB [] = ⟨#[]⟩ := by unfold FB toksL; rfl
theorem FB_sz (l : List S29) : (FB l).size = (fmtB (toksL l)).length := by rw [← data_length, FB_data]

theorem toksL_len : ∀ (l : List S29), l.length ≤ (toksL l).length
  | [] => by simp
  | x :: xs => by
    have := toksL_len xs
    rw [toksL_cons, toksN_eq]
    simp only [List.length_cons, List.length_append]
    omega
abbrev R13 (l : List S29) : Prop := okL 5000 l → (toksL l).length ≤ 10000 → Ev (fun k => tmplpiperef13_Format.f k l) (FB l)
theorem ref13_step (l : List S29) (ih : ∀ x ∈ l, R13 x.f6 ∧ R13 x.f7) : R13 l := by
  intro hok hlen
  have loop : ∀ (m i : Nat) (acc : ByteArray), i ≤ l.length → l.length - i = m → acc.size + (fmtB (toksL (l.drop i))).length ≤ 20000000000 → Ev (fun k => tmplpiperef13_Format.l0 k l acc (i : Int)) (acc ++ FB (l.drop i)) := by
    intro m
    induction m with
    | zero =>
      intro i acc hi hm hs
      obtain rfl : i = l.length := by omega
      refine Ev.shift (Ev.of (Ev.pure _) (fun k => rfl)) (fun k => ?_)
      rw [tmplpiperef13_Format.l0, if_neg (by omega), List.drop_length, FB_nil]
      exact congrArg some (bytes_eq (by simp))
    | succ m ihm =>
      intro i acc hi hm hs
      have hlt : i < l.length := by omega
      have hd : l.drop i = l[i] :: l.drop (i + 1) := List.drop_eq_getElem_cons hlt
      have htk : toksL (l.drop i) = toksN l[i] ++ toksL (l.drop (i + 1)) := by rw [hd, toksL_cons]
      have hsub : ∀ y ∈ toksL (l.drop i), okK 5000 y := fun y hy => hok y (by
        have : toksL l = toksL (l.take i) ++ toksL (l.drop i) := by rw [← toksL_append, List.take_append_drop]
        rw [this]; exact List.mem_append_right _ hy)
      have hsl : (toksL (l.drop i)).length ≤ 10000 := by
        have : toksL l = toksL (l.take i) ++ toksL (l.drop i) := by rw [← toksL_append, List.take_append_drop]
        rw [this, List.length_append] at hlen
        omega
      obtain ⟨ih6, ih7⟩ := ih l[i] (List.getElem_mem hlt)
      have hrd : rd_T29 l (i : Int) = l[i] := rd_T29_at l i hlt
      generalize l[i] = x at *
      have hTN := toksN_eq x
      have hx1 : okK 5000 (x.f0, x.f2, x.f3, x.f4) := hsub _ (by rw [htk, hTN]; simp)
      obtain ⟨K0, h0⟩ := ref11_format _ hx1
      have hfs := fmtT_size _ hx1
      have hw : wrap64 ((i : Int) + 1) = ((i + 1 : Nat) : Int) := by
        have hl2 : l.length ≤ 4611686018427387903 := by
          have := toksL_len l
          omega
        rw [w64 (by omega) (by omega)]; rfl
      by_cases hblk : x.f0 = 2 ∨ x.f0 = 3 ∨ x.f0 = 6
      case neg =>
        rw [if_neg hblk] at hTN
        have hfb : fmtB (toksL (l.drop i)) = (fmtT (x.f0, x.f2, x.f3, x.f4)).data.toList ++ fmtB (toksL (l.drop (i + 1))) := by rw [htk, hTN, fmtB_app]; simp [fmtB]
        have hfl : (fmtB (toksL (l.drop i))).length = (fmtT (x.f0, x.f2, x.f3, x.f4)).size + (fmtB (toksL (l.drop (i + 1)))).length := by rw [hfb, List.length_append, data_length]
        obtain ⟨K1, h1⟩ := ihm (i + 1) (acc ++ fmtT (x.f0, x.f2, x.f3, x.f4)) (by omega) (by omega) (by rw [ByteArray.size_append]; omega)
        dsimp only at h1
        refine ⟨K0 + K1 + 2, fun k hk => ?_⟩
        obtain ⟨k, rfl⟩ : ∃ m, k = m + 1 + 1 := ⟨k - 2, by omega⟩
        have e0 := h0 (k + 1) (by omega)
        dsimp only at e0
        have hj : tmplpiperef13_Format.j1 (k + 1) l (acc ++ fmtT (x.f0, x.f2, x.f3, x.f4)) (i : Int) true x.f0 x.f1 x.f2 x.f3 x.f4 x.f5 x.f6 x.f7 = some (acc ++ FB (l.drop i)) := by
          rw [tmplpiperef13_Format.j1, if_pos rfl, hw, h1 k (by omega)]
          exact congrArg some (bytes_eq (by simp only [app_data, FB_data, hfb, List.append_assoc]))
        show tmplpiperef13_Format.l0 (k + 1 + 1) l acc (i : Int) = _
        rw [tmplpiperef13_Format.l0, if_pos (by omega), if_pos (by omega), hrd, e0, Option.bind_some, if_pos (by omega), if_neg (fun e => hblk (.inl e)), if_neg (fun e => hblk (.inr (.inl e))), show (x.f0 != 6) = true from by rw [bne_iff_ne]; exact fun e => hblk (.inr (.inr e))]
        exact hj
      rw [if_pos hblk] at hTN
      have hj0 : ∀ (k : Nat) (R : Option ByteArray), tmplpiperef13_Format.j1 (k + 1) l (acc ++ fmtT (x.f0, x.f2, x.f3, x.f4)) (i : Int) false x.f0 x.f1 x.f2 x.f3 x.f4 x.f5 x.f6 x.f7 = R → K0 ≤ k → tmplpiperef13_Format.l0 (k + 1 + 1) l acc (i : Int) = R := by
        intro k R hR hk
        have e0 := h0 (k + 1) (by omega)
        dsimp only at e0
        rw [tmplpiperef13_Format.l0, if_pos (by omega), if_pos (by omega), hrd, e0, Option.bind_some, if_pos (by omega)]
        rcases hblk with e | e | e
        · rw [if_pos e]; exact hR
        · rw [if_neg (by omega), if_pos e]; exact hR
        · rw [if_neg (by omega), if_neg (by omega), show (x.f0 != 6) = false from by rw [e]; rfl]; exact hR
      have hok6 : okL 5000 x.f6 := fun y hy => hsub y (by rw [htk, hTN]; simp [hy])
      have hl6 : (toksL x.f6).length ≤ 10000 := by rw [htk, hTN] at hsl; simp only [List.length_append, List.length_cons] at hsl; omega
      obtain ⟨K6, h6⟩ := ih6 hok6 hl6
      dsimp only at h6
      have hs6 := FB_size (toksL x.f6) hok6
      cases hf5 : x.f5 with
      | false =>
        simp only [hf5, Bool.false_eq_true, if_false, List.nil_append] at hTN
        have hfb : fmtB (toksL (l.drop i)) = (fmtT (x.f0, x.f2, x.f3, x.f4)).data.toList ++ (fmtB (toksL x.f6) ++ ((⟨#[123, 123, 101, 110, 100, 125, 125]⟩ : ByteArray).data.toList ++ fmtB (toksL (l.drop (i + 1))))) := by
          rw [htk, hTN, fmtB_app, fmtB_cons, fmtB_app, fmtB_cons, fmt_end]; simp [fmtB]
        have hfl : (fmtB (toksL (l.drop i))).length = (fmtT (x.f0, x.f2, x.f3, x.f4)).size + ((fmtB (toksL x.f6)).length + (7 + (fmtB (toksL (l.drop (i + 1)))).length)) := by
          rw [hfb, List.length_append, List.length_append, List.length_append, data_length, data_length]; rfl
        have e7 : (⟨#[123, 123, 101, 110, 100, 125, 125]⟩ : ByteArray).size = 7 := rfl
        obtain ⟨K1, h1⟩ := ihm (i + 1) (((acc ++ fmtT (x.f0, x.f2, x.f3, x.f4)) ++ FB x.f6) ++ (⟨#[123, 123, 101, 110, 100, 125, 125]⟩ : ByteArray)) (by omega) (by omega) (by simp only [ByteArray.size_append, FB_sz, e7]; omega)
        dsimp only at h1
        refine ⟨K0 + K1 + K6 + 2, fun k hk => ?_⟩
        obtain ⟨k, rfl⟩ : ∃ m, k = m + 1 + 1 := ⟨k - 2, by omega⟩
        refine hj0 k _ ?_ (by omega)
        rw [tmplpiperef13_Format.j1, if_neg (by decide), h6 k (by omega), Option.bind_some, if_pos (by simp only [ByteArray.size_append, FB_sz]; omega), hf5, if_neg (by decide), if_pos (by simp only [ByteArray.size_append, FB_sz]; omega), hw, h1 k (by omega)]
        exact congrArg some (bytes_eq (by simp only [app_data, FB_data, hfb, List.append_assoc]))
      | true =>
        simp only [hf5, if_true] at hTN
        have hok7 : okL 5000 x.f7 := fun y hy => hsub y (by rw [htk, hTN]; simp [hy])
        have hl7 : (toksL x.f7).length ≤ 10000 := by rw [htk, hTN] at hsl; simp only [List.length_append, List.length_cons] at hsl; omega
        obtain ⟨K7, h7⟩ := ih7 hok7 hl7
        dsimp only at h7
        have hs7 := FB_size (toksL x.f7) hok7
        have hfb : fmtB (toksL (l.drop i)) = (fmtT (x.f0, x.f2, x.f3, x.f4)).data.toList ++ (fmtB (toksL x.f6) ++ ((⟨#[123, 123, 101, 108, 115, 101, 125, 125]⟩ : ByteArray).data.toList ++ (fmtB (toksL x.f7) ++ ((⟨#[123, 123, 101, 110, 100, 125, 125]⟩ : ByteArray).data.toList ++ fmtB (toksL (l.drop (i + 1))))))) := by
          rw [htk, hTN, fmtB_app, fmtB_cons, fmtB_app, fmtB_app, fmtB_cons, fmtB_cons, fmt_end, fmt_else]; simp [fmtB]
        have hfl : (fmtB (toksL (l.drop i))).length = (fmtT (x.f0, x.f2, x.f3, x.f4)).size + ((fmtB (toksL x.f6)).length + (8 + ((fmtB (toksL x.f7)).length + (7 + (fmtB (toksL (l.drop (i + 1)))).length)))) := by
          rw [hfb, List.length_append, List.length_append, List.length_append, List.length_append, List.length_append, data_length, data_length, data_length]; rfl
        have e7 : (⟨#[123, 123, 101, 110, 100, 125, 125]⟩ : ByteArray).size = 7 := rfl
        have e8 : (⟨#[123, 123, 101, 108, 115, 101, 125, 125]⟩ : ByteArray).size = 8 := rfl
        obtain ⟨K1, h1⟩ := ihm (i + 1) (((((acc ++ fmtT (x.f0, x.f2, x.f3, x.f4)) ++ FB x.f6) ++ (⟨#[123, 123, 101, 108, 115, 101, 125, 125]⟩ : ByteArray)) ++ FB x.f7) ++ (⟨#[123, 123, 101, 110, 100, 125, 125]⟩ : ByteArray)) (by omega) (by omega) (by simp only [ByteArray.size_append, FB_sz, e7, e8]; omega)
        dsimp only at h1
        refine ⟨K0 + K1 + K6 + K7 + 2, fun k hk => ?_⟩
        obtain ⟨k, rfl⟩ : ∃ m, k = m + 1 + 1 := ⟨k - 2, by omega⟩
        refine hj0 k _ ?_ (by omega)
        rw [tmplpiperef13_Format.j1, if_neg (by decide), h6 k (by omega), Option.bind_some, if_pos (by simp only [ByteArray.size_append, FB_sz]; omega), hf5, if_pos rfl, if_pos (by simp only [ByteArray.size_append, FB_sz]; omega), h7 k (by omega), Option.bind_some,
          if_pos (by simp only [ByteArray.size_append, FB_sz, e8]; omega), if_pos (by simp only [ByteArray.size_append, FB_sz, e8]; omega), hw, h1 k (by omega)]
        exact congrArg some (bytes_eq (by simp only [app_data, FB_data, hfb, List.append_assoc]))
  have hs := FB_size (toksL l) hok
  obtain ⟨K, hK⟩ := loop l.length 0 ⟨#[]⟩ (by omega) (by omega) (by show 0 + _ ≤ _; rw [List.drop_zero]; omega)
  refine ⟨K + 1, fun k hk => ?_⟩
  obtain ⟨k, rfl⟩ : ∃ m, k = m + 1 := ⟨k - 1, by omega⟩
  show tmplpiperef13_Format.f (k + 1) l = _
  rw [tmplpiperef13_Format.f]
  have := hK k (by omega)
  dsimp only at this
  rw [List.drop_zero] at this
  rw [show ((0 : Int)) = ((0 : Nat) : Int) from rfl, this]
  exact congrArg some (bytes_eq (by simp))
theorem ref13_format : ∀ (n : Nat) (l : List S29), SizeOf.sizeOf l < n → R13 l
  | 0, l, h => absurd h (Nat.not_lt_zero _)
  | n + 1, l, h => ref13_step l fun x hx => by
      have h1 := List.sizeOf_lt_of_mem hx
      exact ⟨ref13_format n x.f6 (by have := S29.size6 x; omega), ref13_format n x.f7 (by have := S29.size7 x; omega)⟩

theorem alive_ev : Ev (fun k => tmplpipelaw13_alive.f k) true := alive_true.elim fun K hK => Ev.up (tmplpipelaw13_alive.mono ·) hK
theorem bytes_beq (a : ByteArray) : (a.toList == a.toList) = true := beq_self_eq_true _
theorem pure_format : tmplpipelaw13_PrinterFormatMatchesReference.Pure := by
  intro a0 _
  obtain ⟨l, hl, hok⟩ := parsed_total a0
  have h13 := ref13_format _ l (Nat.lt_succ_self _) hok.1 (by have := hok.2; omega)
  refine Ev.one (f := fun k => tmplpipelaw13_PrinterFormatMatchesReference.f k a0) ?_
  refine Ev.bind hl (Ev.bind alive_ev ?_)
  refine Ev.of (f := fun k => (printer_Format.f l).bind fun t126 => (tmplpiperef13_Format.f k l).bind fun t127 => some (t126.toList == t127.toList)) ?_ (fun k => if_pos rfl)
  refine Ev.of (f := fun k => (tmplpiperef13_Format.f k l).bind fun t127 => some ((FB l).toList == t127.toList)) ?_ (fun k => by rw [printer_format hok]; rfl)
  exact Ev.bind h13 (Ev.of (Ev.pure _) (fun _ => congrArg some (bytes_beq _)))

theorem tl_inj {a b : ByteArray} (h : a.toList = b.toList) : a = b := bytes_eq (by rw [← ByteArray.toList_eq, ← ByteArray.toList_eq]; exact h)
theorem eqNode_iff (x y : S29) : eqNode x y = true ↔ x.f0 = y.f0 ∧ x.f2 = y.f2 ∧ x.f3 = y.f3 ∧ x.f4 = y.f4 ∧ x.f5 = y.f5 ∧ eqList x.f6 y.f6 = true ∧ eqList x.f7 y.f7 = true := by
  rw [eqNode_eq]
  simp only [Bool.and_eq_true, beq_iff_eq, decide_eq_true_eq]
  constructor
  · rintro ⟨⟨⟨⟨⟨⟨h0, h2⟩, h3⟩, h4⟩, h5⟩, h6⟩, h7⟩
    exact ⟨h0, tl_inj h2, tl_inj h3, h4, h5, h6, h7⟩
  · rintro ⟨h0, h2, h3, h4, h5, h6, h7⟩
    exact ⟨⟨⟨⟨⟨⟨h0, by rw [h2]⟩, by rw [h3]⟩, h4⟩, h5⟩, h6⟩, h7⟩
theorem eqList_cons1 (x y : S29) (xs ys : List S29) : eqList (x :: xs) (y :: ys) = (eqNode x y && eqList xs ys) := by simp [eqList]
theorem eqList_cons_iff (x y : S29) (xs ys : List S29) : eqList (x :: xs) (y :: ys) = true ↔ eqNode x y = true ∧ eqList xs ys = true := by rw [eqList_cons1, Bool.and_eq_true]

theorem eqList_refl : ∀ (n : Nat) (a : List S29), SizeOf.sizeOf a < n → eqList a a = true
  | 0, a, h => absurd h (Nat.not_lt_zero _)
  | n + 1, [], h => by simp [eqList]
  | n + 1, x :: xs, h => by
    simp only [List.cons.sizeOf_spec] at h
    have h6 := S29.size6 x
    have h7 := S29.size7 x
    exact (eqList_cons_iff _ _ _ _).2 ⟨(eqNode_iff _ _).2 ⟨rfl, rfl, rfl, rfl, rfl, eqList_refl n _ (by omega), eqList_refl n _ (by omega)⟩, eqList_refl n xs (by omega)⟩
theorem eqList_symm : ∀ (n : Nat) (a b : List S29), SizeOf.sizeOf a < n → eqList a b = true → eqList b a = true
  | 0, a, b, h, _ => absurd h (Nat.not_lt_zero _)
  | n + 1, [], [], h, _ => by simp [eqList]
  | n + 1, [], _ :: _, h, e => by simp [eqList] at e
  | n + 1, _ :: _, [], h, e => by simp [eqList] at e
  | n + 1, x :: xs, y :: ys, h, e => by
    simp only [List.cons.sizeOf_spec] at h
    have h6 := S29.size6 x
    have h7 := S29.size7 x
    obtain ⟨e1, e2⟩ := (eqList_cons_iff _ _ _ _).1 e
    obtain ⟨a0, a2, a3, a4, a5, a6, a7⟩ := (eqNode_iff _ _).1 e1
    exact (eqList_cons_iff _ _ _ _).2 ⟨(eqNode_iff _ _).2 ⟨a0.symm, a2.symm, a3.symm, a4.symm, a5.symm, eqList_symm n _ _ (by omega) a6, eqList_symm n _ _ (by omega) a7⟩, eqList_symm n xs ys (by omega) e2⟩
theorem eqList_trans : ∀ (n : Nat) (a b c : List S29), SizeOf.sizeOf a < n → eqList a b = true → eqList b c = true → eqList a c = true
  | 0, a, b, c, h, _, _ => absurd h (Nat.not_lt_zero _)
  | n + 1, [], [], c, h, _, e => e
  | n + 1, [], _ :: _, c, h, e, _ => by simp [eqList] at e
  | n + 1, _ :: _, [], c, h, e, _ => by simp [eqList] at e
  | n + 1, x :: xs, y :: ys, [], h, _, e => by simp [eqList] at e
  | n + 1, x :: xs, y :: ys, z :: zs, h, e, f => by
    simp only [List.cons.sizeOf_spec] at h
    have h6 := S29.size6 x
    have h7 := S29.size7 x
    obtain ⟨e1, e2⟩ := (eqList_cons_iff _ _ _ _).1 e
    obtain ⟨f1, f2⟩ := (eqList_cons_iff _ _ _ _).1 f
    obtain ⟨a0, a2, a3, a4, a5, a6, a7⟩ := (eqNode_iff _ _).1 e1
    obtain ⟨b0, b2, b3, b4, b5, b6, b7⟩ := (eqNode_iff _ _).1 f1
    exact (eqList_cons_iff _ _ _ _).2 ⟨(eqNode_iff _ _).2 ⟨a0.trans b0, a2.trans b2, a3.trans b3, a4.trans b4, a5.trans b5, eqList_trans n _ _ _ (by omega) a6 b6, eqList_trans n _ _ _ (by omega) a7 b7⟩, eqList_trans n xs ys zs (by omega) e2 f2⟩
theorem eqList_toks : ∀ (n : Nat) (a b : List S29), SizeOf.sizeOf a < n → eqList a b = true → toksL a = toksL b
  | 0, a, b, h, _ => absurd h (Nat.not_lt_zero _)
  | n + 1, [], [], h, _ => rfl
  | n + 1, [], _ :: _, h, e => by simp [eqList] at e
  | n + 1, _ :: _, [], h, e => by simp [eqList] at e
  | n + 1, x :: xs, y :: ys, h, e => by
    simp only [List.cons.sizeOf_spec] at h
    have h6 := S29.size6 x
    have h7 := S29.size7 x
    obtain ⟨e1, e2⟩ := (eqList_cons_iff _ _ _ _).1 e
    obtain ⟨a0, a2, a3, a4, a5, a6, a7⟩ := (eqNode_iff _ _).1 e1
    rw [toksL_cons, toksL_cons, toksN_eq, toksN_eq, a0, a2, a3, a4, a5, eqList_toks n _ _ (by omega) a6, eqList_toks n _ _ (by omega) a7, eqList_toks n xs ys (by omega) e2]
theorem eqFB {a b : List S29} (h : eqList a b = true) : FB a = FB b := by unfold FB; rw [eqList_toks _ a b (Nat.lt_succ_self _) h]

theorem pure_equiv : tmplpipelaw13_PrinterEqualIsEquivalence.Pure := by
  intro a0 a1 a2 _ _ _
  obtain ⟨l, hl, okl⟩ := parsed_total a0
  obtain ⟨m, hm, okm⟩ := parsed_total a1
  obtain ⟨n, hn, okn⟩ := parsed_total a2
  refine Ev.one (f := fun k => tmplpipelaw13_PrinterEqualIsEquivalence.f k a0 a1 a2) ?_
  refine Ev.bind hl (Ev.bind hm (Ev.bind hn ?_))
  have hs : eqList m l = eqList l m := by
    cases h : eqList l m with
    | true => exact eqList_symm _ _ _ (Nat.lt_succ_self _) h
    | false =>
      cases h2 : eqList m l with
      | false => rfl
      | true => rw [eqList_symm _ _ _ (Nat.lt_succ_self _) h2] at h; cases h
  have hr := eqList_refl _ l (Nat.lt_succ_self _)
  simp only [printer_Equal.f, Option.bind_some, hr, hs, if_true, bne_self_eq_false, Bool.false_eq_true, if_false, printer_format okl, printer_format okm]
  have hA : Ev (fun k => (tmplpipelaw13_alive.f k).bind fun t => some t) true := Ev.bind alive_ev (Ev.pure true)
  cases h1 : eqList l m with
  | false => simpa using hA
  | true =>
    have hfb := eqFB h1
    simp only [if_true, hfb]
    cases h2 : eqList m n with
    | false => simpa using hA
    | true =>
      rw [eqList_trans _ _ _ _ (Nat.lt_succ_self _) h1 h2]
      simpa using hA
end Go.Proofs.Ytgdpojleejdfaaa.Px
