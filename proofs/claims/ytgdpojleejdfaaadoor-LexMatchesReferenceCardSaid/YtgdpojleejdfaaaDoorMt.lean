/- Merged texts: Fr Tk Lm Ln. -/
import Derived.Test.YtgdpojleejdfaaaDoorMd
import Derived.Test.YtgdpojleejdfaaaDoorPx6
import Derived.Test.YtgdpojleejdfaaaDoorMl
import Derived.Test.YtgdpojleejdfaaaDoorMr
import Derived.Test.YtgdpojleejdfaaaDoorPx1
/- The reference's Format is lex.Format. -/
namespace Go.Proofs.YtgdpojleejdfaaaDoor.Px
open Go.RowKit Go.Proofs.YtgdpojleejdfaaaDoorW.PrintWords Go.Proofs.YtgdpojleejdfaaaDoorW.PrintLast Go.Proofs.YtgdpojleejdfaaaDoorW.PrintMore
set_option linter.unusedVariables false
set_option linter.unusedSimpArgs false

/-- A token as the lexer makes it. -/
structure OkTok (x : Int × ByteArray × ByteArray × Bool) : Prop where
  k0 : 0 ≤ x.1
  k8 : x.1 ≤ 8
  s0 : x.1 ≠ 0 → (x.2.1.size = 0 ↔ ¬ (x.1 = 4 ∨ x.1 = 6))
  sn : x.2.1.size ≤ 5000
  pn : x.2.2.1.size ≤ 5000
  h0 : x.1 = 0 → x.2.2.2 = false
theorem bytes_eqF {a b : ByteArray} (h : a.data.toList = b.data.toList) : a = b := by
  cases a; cases b; simp at h; rw [h]
theorem size0F {a : ByteArray} (h : a.size = 0) : a = ⟨#[]⟩ := bytes_eqF (List.length_eq_zero_iff.1 (by rw [data_length]; exact h))

theorem joinB_oneF (a : ByteArray) : joinB [a] = a := bytes_eqF (by simp [joinB, Lib.join, List.intercalate])
theorem joinB_twoF (a b : ByteArray) : joinB [a, b] = (a ++ (⟨#[32]⟩ : ByteArray)) ++ b := bytes_eqF (by simp [joinB, Lib.join, List.intercalate])
theorem joinB_threeF (a b c : ByteArray) : joinB [a, b, c] = ((((a ++ (⟨#[32]⟩ : ByteArray)) ++ b) ++ (⟨#[32]⟩ : ByteArray)) ++ c) := bytes_eqF (by simp [joinB, Lib.join, List.intercalate])
theorem ref11_formatA (a : Int) (x : Int × ByteArray × ByteArray × Bool) (h : OkTok x) : ∃ K, ∀ k, K ≤ k → tmplpiperef11_Format.f k x.1 a x.2.1 x.2.2.1 x.2.2.2 = some (fmtTok x.1 x.2.1 x.2.2.1 x.2.2.2) := by
  obtain ⟨kd, s, p, hp⟩ := x
  obtain ⟨k0, k8, s0, sn, pn, h0⟩ := h
  try dsimp only at *
  refine ⟨3, fun k hk => ?_⟩
  obtain ⟨k, rfl⟩ : ∃ m, k = m + 3 := ⟨k - 3, by omega⟩
  unfold tmplpiperef11_Format.f fmtTok
  try dsimp only
  by_cases hz : kd = 0
  · rw [if_pos hz, if_pos hz]
  rw [if_neg hz, if_neg hz]
  simp only [Option.bind_some]
  rw [if_pos k0, if_pos (by simp; omega)]
  have e1 : (⟨#[46]⟩ : ByteArray).size = 1 := rfl
  have e2 : (⟨#[32]⟩ : ByteArray).size = 1 := rfl
  have e3 : (⟨#[123, 123]⟩ : ByteArray).size = 2 := rfl
  have j1 : ∀ (y : ByteArray), y.size ≤ 100000 → tmplpiperef11_Format.j1 (k + 2) y kd a s p hp = some (((⟨#[123, 123]⟩ : ByteArray) ++ (if hp = true then (if y.toList = [] then (y ++ (⟨#[46]⟩ : ByteArray)) ++ p else ((y ++ (⟨#[32]⟩ : ByteArray)) ++ (⟨#[46]⟩ : ByteArray)) ++ p) else y)) ++ (⟨#[125, 125]⟩ : ByteArray)) := by
    intro y hy
    simp only [tmplpiperef11_Format.j1, ByteArray.size_append, e1, e2, e3]
    cases hp with
    | true =>
      simp only [if_true]
      by_cases hyl : y.toList = []
      · simp only [if_pos hyl]
        rw [if_pos (by omega), if_pos (by omega), if_pos (by omega), if_pos (by omega)]
      · simp only [if_neg hyl]
        rw [if_pos (by omega), if_pos (by omega), if_pos (by omega), if_pos (by omega), if_pos (by omega)]
    | false =>
      simp only [Bool.false_eq_true, if_false]
      rw [if_pos (by omega), if_pos (by omega)]
  have j0 : ∀ (y : ByteArray) (b : Bool), y.size ≤ 50000 → tmplpiperef11_Format.j0 (k + 3) y b kd a s p hp = tmplpiperef11_Format.j1 (k + 2) (if b = true then (y ++ (⟨#[32]⟩ : ByteArray)) ++ s else y) kd a s p hp := by
    intro y b hy
    simp only [tmplpiperef11_Format.j0, ByteArray.size_append, e2]
    cases b with
    | true => simp only [if_true]; rw [if_pos (by omega), if_pos (by omega)]
    | false => simp only [Bool.false_eq_true, if_false]
  have tl : ∀ y : ByteArray, y.toList = [] ↔ y.size = 0 := fun y => by rw [ByteArray.toList_eq, ← data_length, List.length_eq_zero_iff]
  have noS : ¬ (kd = 4 ∨ kd = 6) → s = ⟨#[]⟩ := fun h => size0F ((s0 hz).2 h)
  have isS : (kd = 4 ∨ kd = 6) → s.toList ≠ [] := fun h e => (s0 hz).1 ((tl s).1 e) h
  have fin : ∀ (w : ByteArray), w.size ≤ 10 → rdOf ByteArray.empty [(⟨#[]⟩ : ByteArray), (⟨#[]⟩ : ByteArray), (⟨#[105, 102]⟩ : ByteArray), (⟨#[114, 97, 110, 103, 101]⟩ : ByteArray), (⟨#[99, 97, 108, 108]⟩ : ByteArray), (⟨#[102, 108, 117, 115, 104]⟩ : ByteArray), (⟨#[100, 101, 102, 105, 110, 101]⟩ : ByteArray), (⟨#[101, 108, 115, 101]⟩ : ByteArray), (⟨#[101, 110, 100]⟩ : ByteArray)] kd = w →
      (kwWords kd = if w.size = 0 then [] else [w]) →
      (if kd = 4 then tmplpiperef11_Format.j0 (k + 3) (rdOf ByteArray.empty [(⟨#[]⟩ : ByteArray), (⟨#[]⟩ : ByteArray), (⟨#[105, 102]⟩ : ByteArray), (⟨#[114, 97, 110, 103, 101]⟩ : ByteArray), (⟨#[99, 97, 108, 108]⟩ : ByteArray), (⟨#[102, 108, 117, 115, 104]⟩ : ByteArray), (⟨#[100, 101, 102, 105, 110, 101]⟩ : ByteArray), (⟨#[101, 108, 115, 101]⟩ : ByteArray), (⟨#[101, 110, 100]⟩ : ByteArray)] kd) true kd a s p hp
        else tmplpiperef11_Format.j0 (k + 3) (rdOf ByteArray.empty [(⟨#[]⟩ : ByteArray), (⟨#[]⟩ : ByteArray), (⟨#[105, 102]⟩ : ByteArray), (⟨#[114, 97, 110, 103, 101]⟩ : ByteArray), (⟨#[99, 97, 108, 108]⟩ : ByteArray), (⟨#[102, 108, 117, 115, 104]⟩ : ByteArray), (⟨#[100, 101, 102, 105, 110, 101]⟩ : ByteArray), (⟨#[101, 108, 115, 101]⟩ : ByteArray), (⟨#[101, 110, 100]⟩ : ByteArray)] kd) (kd == 6) kd a s p hp)
      = some (((⟨#[123, 123]⟩ : ByteArray) ++ joinB (tokWords kd s p hp)) ++ (⟨#[125, 125]⟩ : ByteArray)) := by
    intro w hw hrd hkw0
    have hkw : kwWords kd = if w.toList = [] then [] else [w] := by rw [hkw0]; simp only [tl]
    rw [hrd]
    have hb : (if kd = 4 then tmplpiperef11_Format.j0 (k + 3) w true kd a s p hp else tmplpiperef11_Format.j0 (k + 3) w (kd == 6) kd a s p hp) = tmplpiperef11_Format.j0 (k + 3) w (decide (kd = 4 ∨ kd = 6)) kd a s p hp := by
      by_cases h4 : kd = 4
      · rw [if_pos h4]; simp [h4]
      · rw [if_neg h4]; congr 1; simp only [h4, false_or]; rfl
    rw [hb, j0 w _ (by omega)]
    by_cases h46 : kd = 4 ∨ kd = 6
    · have hsl := isS h46
      have hwl : w.toList ≠ [] := fun e => by
        rw [if_pos e] at hkw
        rcases h46 with rfl | rfl
        · exact absurd hkw (by decide)
        · exact absurd hkw (by decide)
      rw [decide_eq_true h46, if_pos rfl, j1 _ (by simp only [ByteArray.size_append, e2]; omega)]
      have hy : ¬ ((w ++ (⟨#[32]⟩ : ByteArray)) ++ s).toList = [] := fun e => by
        have := (tl _).1 e
        simp only [ByteArray.size_append, e2] at this
        omega
      have htw : joinB (tokWords kd s p hp) = (if hp = true then ((((w ++ (⟨#[32]⟩ : ByteArray)) ++ s) ++ (⟨#[32]⟩ : ByteArray)) ++ (⟨#[46]⟩ : ByteArray)) ++ p else (w ++ (⟨#[32]⟩ : ByteArray)) ++ s) := by
        unfold tokWords
        rw [hkw, if_neg hwl, if_neg hsl]
        cases hp with
        | true => rw [if_pos rfl, if_pos rfl]; show joinB [w, s, _] = _; rw [joinB_threeF]; exact bytes_eqF (by simp)
        | false => rw [if_neg (by decide), if_neg (by decide)]; exact joinB_twoF w s
      rw [htw, if_neg hy]
    · have hse := noS h46
      subst hse
      rw [decide_eq_false h46, if_neg (by decide), j1 _ (by omega)]
      have htw : joinB (tokWords kd ⟨#[]⟩ p hp) = (if hp = true then (if w.toList = [] then (w ++ (⟨#[46]⟩ : ByteArray)) ++ p else ((w ++ (⟨#[32]⟩ : ByteArray)) ++ (⟨#[46]⟩ : ByteArray)) ++ p) else w) := by
        unfold tokWords
        rw [hkw, if_pos ((tl (⟨#[]⟩ : ByteArray)).2 rfl)]
        cases hp with
        | true =>
          rw [if_pos rfl, if_pos rfl]
          by_cases hwl : w.toList = []
          · rw [if_pos hwl, if_pos hwl, size0F ((tl w).1 hwl)]
            show joinB [_] = _
            rw [joinB_oneF]
            exact bytes_eqF (by simp)
          · rw [if_neg hwl, if_neg hwl]
            show joinB [w, _] = _
            rw [joinB_twoF]
            exact bytes_eqF (by simp)
        | false =>
          rw [if_neg (show ¬ (false = true) by decide), if_neg (show ¬ (false = true) by decide)]
          by_cases hwl : w.toList = []
          · rw [if_pos hwl, size0F ((tl w).1 hwl)]; rfl
          · rw [if_neg hwl]; exact joinB_oneF w
      rw [htw]
  have hcase : kd = 1 ∨ kd = 2 ∨ kd = 3 ∨ kd = 4 ∨ kd = 5 ∨ kd = 6 ∨ kd = 7 ∨ kd = 8 := by omega
  rcases hcase with h | h | h | h | h | h | h | h
  · exact fin ⟨#[]⟩ (by decide) (by rw [h]; rfl) (by rw [h]; decide)
  · exact fin ⟨#[105, 102]⟩ (by decide) (by rw [h]; rfl) (by rw [h]; decide)
  · exact fin ⟨#[114, 97, 110, 103, 101]⟩ (by decide) (by rw [h]; rfl) (by rw [h]; decide)
  · exact fin ⟨#[99, 97, 108, 108]⟩ (by decide) (by rw [h]; rfl) (by rw [h]; decide)
  · exact fin ⟨#[102, 108, 117, 115, 104]⟩ (by decide) (by rw [h]; rfl) (by rw [h]; decide)
  · exact fin ⟨#[100, 101, 102, 105, 110, 101]⟩ (by decide) (by rw [h]; rfl) (by rw [h]; decide)
  · exact fin ⟨#[101, 108, 115, 101]⟩ (by decide) (by rw [h]; rfl) (by rw [h]; decide)
  · exact fin ⟨#[101, 110, 100]⟩ (by decide) (by rw [h]; rfl) (by rw [h]; decide)
end Go.Proofs.YtgdpojleejdfaaaDoor.Px

/- Facts of lexed tokens; the reference lexer's answer. -/
namespace Go.Proofs.YtgdpojleejdfaaaDoor.Px
open Go.RowKit Go.Proofs.YtgdpojleejdfaaaDoorW.PrintWords Go.Proofs.YtgdpojleejdfaaaDoorW.PrintLast Go.Proofs.YtgdpojleejdfaaaDoorW.PrintMore
set_option linter.unusedVariables false
set_option linter.unusedSimpArgs false

theorem dirK_named {k : Int} {ws : List (List UInt8)} {t : T4} (e : dirK k ws = (0, t)) : t.2.1 = [] ↔ named t.1 = false := by
  unfold dirK at e
  split at e
  · rename_i hn
    match ws, e with
    | [], e => simp at e
    | s :: r, e =>
      try dsimp only at e
      split at e
      · simp at e
      · obtain ⟨h1, h2, _, h4, _⟩ := dirP_ok e
        have hs := nameL_ne (h4 hn)
        rw [h1, h2, hn]
        exact ⟨fun h => absurd h hs, fun h => by cases h⟩
  · rename_i hn
    obtain ⟨h1, h2, _⟩ := dirP_ok e
    rw [h1, h2]
    exact ⟨fun _ => by simpa using hn, fun _ => rfl⟩
theorem dirF_named {ws : List (List UInt8)} {t : T4} (e : dirF ws = (0, t)) : t.2.1 = [] ↔ named t.1 = false := by
  unfold dirF at e
  match ws, e with
  | [], e => simp at e
  | w :: r, e =>
    try dsimp only at e
    split at e
    · exact dirK_named e
    · split at e
      · exact dirK_named e
      · simp at e
/-- Kinds of lexed tokens. -/
structure KOk (d : T4) : Prop where
  k0 : 0 ≤ d.1
  k8 : d.1 ≤ 8
  s0 : d.1 ≠ 0 → (d.2.1 = [] ↔ named d.1 = false)
  h0 : d.1 = 0 → d.2.2.2 = false
theorem lexS_kOk : ∀ (n p : Nat) (s : List UInt8) (l : List T5), s.length ≤ n → lexS p s = .ok l → ∀ x ∈ l, KOk x.2
  | n, p, s, l, hn, e => by
    have htx : ∀ p t, ∀ x ∈ txtT p t, KOk x.2 := fun p t x hx => by
      unfold txtT at hx
      split at hx
      · cases hx
      · rw [List.mem_singleton.1 hx]
        exact ⟨Int.le_refl _, (by decide : (0 : Int) ≤ 8), fun h => absurd rfl h, fun _ => rfl⟩
    cases way s with
    | text _ h => rw [lexS_text h] at e; cases e; exact htx _ _
    | open_ t r h hr => rw [lexS_open h hr] at e; cases e
    | dir t u r h hu =>
      obtain ⟨d, l', hd, hl', rfl⟩ := lexS_dirOk h hu e
      cases n with
      | zero => simp at hn
      | succ n =>
        have ih := lexS_kOk n _ r l' (by simp at hn; omega) hl'
        intro x hx
        rcases List.mem_append.1 hx with hx | hx
        · exact htx _ _ x hx
        · rcases List.mem_cons.1 hx with rfl | hx
          · have h := dirF_kind hd
            exact ⟨by show 0 ≤ d.1; omega, h.2, fun _ => dirF_named hd, fun h0 => by have h1 : d.1 = 0 := h0; omega⟩
          · exact ih x hx
theorem named_iff (k : Int) : named k = false ↔ ¬ (k = 4 ∨ k = 6) := by
  unfold named
  simp
/-- A token that Format's reference takes. -/
theorem okTok_of {d : T4} (h : KOk d) (h1 : d.2.1.length ≤ 5000) (h2 : d.2.2.1.length ≤ 5000) : OkTok (d.1, ⟨d.2.1.toArray⟩, ⟨d.2.2.1.toArray⟩, d.2.2.2) := by
  refine ⟨h.k0, h.k8, fun hne => ?_, by show (⟨d.2.1.toArray⟩ : ByteArray).size ≤ 5000; rw [bytes_size]; exact h1, by show (⟨d.2.2.1.toArray⟩ : ByteArray).size ≤ 5000; rw [bytes_size]; exact h2, h.h0⟩
  show (⟨d.2.1.toArray⟩ : ByteArray).size = 0 ↔ _
  rw [bytes_size, List.length_eq_zero_iff, h.s0 hne, named_iff]
/-- The reference's Format at a lexed token. -/
theorem rformat_any (d : T4) (at_ : Int) (w : World) (h : KOk d) (h1 : d.2.1.length ≤ 5000) (h2 : d.2.2.1.length ≤ 5000) :
    Calls Tryd.prog 26 #[.agg #[.int .i64 d.1, .int .i64 at_, .string ⟨d.2.1.toArray⟩, .string ⟨d.2.2.1.toArray⟩, .bool d.2.2.2]] w fun e w' => e = .returned (.string ⟨(fmtD d).toArray⟩) ∧ Below w.heap.size w w' := by
  obtain ⟨K, hK⟩ := ref11_formatA at_ _ (okTok_of h h1 h2)
  have hf := hK K (Nat.le_refl _)
  have := tmplpiperef11_Format.calls K _ _ _ _ _ _ w hf
  rw [show fmtTok (d.1, (⟨d.2.1.toArray⟩ : ByteArray), (⟨d.2.2.1.toArray⟩ : ByteArray), d.2.2.2).1 (⟨d.2.1.toArray⟩ : ByteArray) (⟨d.2.2.1.toArray⟩ : ByteArray) d.2.2.2 = ⟨(fmtD d).toArray⟩ from fmtTok_is d] at this
  exact this
/-- The reference's Lex. -/
theorem rlex_any (s : ByteArray) (hs : s.size ≤ 65536) (w : World) : ∃ r : List S47 × Int × Int, r = outR s [] (lexS 0 s.data.toList) ∧
    Calls Tryd.prog 23 #[.string s] w fun e w' => ∃ v : Value, e = .returned (.tuple #[v, .int .i64 r.2.1, .int .i64 r.2.2]) ∧ Kd.R k47 47 w' w.heap.size (fun _ => True) v r.1 ∧ Below w.heap.size w w' := by
  obtain ⟨⟨r1, r2, r3⟩, hr, _⟩ := lex_ends s hs (s.size + 2) (s.size + 2 + 5 * s.size + 100) [] 0 (Int.le_refl _) (by omega) (by omega) (Nat.le_refl _) (fun t ht => by cases ht) (by simp)
  have h1 := rlex_is s hs _ _ _ _ (Int.le_refl _) (by omega) hr
  refine ⟨(r1, r2, r3), h1, rlexF.calls (s.size + 2 + 5 * s.size + 100) s r1 r2 r3 w ?_⟩
  unfold rlexF
  rw [if_neg (by omega)]
  exact hr
end Go.Proofs.YtgdpojleejdfaaaDoor.Px

/- The walk of tmplpipelaw11.LexMatchesReference. -/
namespace Go.Proofs.YtgdpojleejdfaaaDoor.Px
open Go.RowKit Go.Proofs.YtgdpojleejdfaaaDoorW.PrintWords Go.Proofs.YtgdpojleejdfaaaDoorW.PrintLast Go.Proofs.YtgdpojleejdfaaaDoorW.PrintMore
set_option linter.unusedVariables false
set_option linter.unusedSimpArgs false
attribute [local go_sem high] eqA28

theorem rd_map28 (L : List T5) (i : Nat) (h : i < L.length) : rd_T28 (L.map tokS) (i : Int) = tokS L[i] := by
  rw [rd_T28_at _ i (by rw [List.length_map]; exact h), List.getElem_map]
theorem rd_map47 (L : List T5) (i : Nat) (h : i < L.length) : rd_T47 (L.map tokR) (i : Int) = tokR L[i] := by
  simp [rd_T47, List.getD_eq_getElem?_getD, h]
def SmRel (L : List T5) (w : World) (v : Value) (wr : World) : Prop := ∃ i : Nat, i ≤ L.length ∧ v = .int .i64 i ∧ Below w.heap.size w wr
set_option maxHeartbeats 2000000 in
set_option maxRecDepth 100000 in
theorem same_any (L : List T5) (A : Option Addr) (c : Nat) (B : Option Addr) (d : Nat) (w : World) (hA : Kd.C k28 w A L.length (L.map tokS)) (hB : Kd.C k47 w B L.length (L.map tokR)) (hc : L.length ≤ c) (hd : L.length ≤ d) :
    Calls Tryd.prog 24 #[.slice A L.length c, .slice B L.length d] w fun e w' => e = .returned (.bool true) ∧ Below w.heap.size w w' := by
  have hm := Kd.C_max hA
  replace hA := Aside0.mk hA
  replace hB := Aside0.mk hB
  go_enter Tryd.func24, Tryd.ntmps24
  go_wp2
  go_loopw [14] (fun v wr => SmRel L w v wr) (fun v _ => L.length - (intOf v).toNat)
  case atStart => exact ⟨0, Nat.zero_le _, rfl, Below.refl _ _⟩
  case round =>
    obtain ⟨i, hi, rfl, HB1⟩ := hrel
    by_cases hlt : i < L.length
    case neg =>
      obtain rfl : i = L.length := by omega
      go_wp2
      go_ret
      exact ⟨rfl, HB1⟩
    obtain ⟨ad, rfl, x0, x1, x2, x3, x4⟩ := at_T28 (Kd.C_below hA.out HB1) (i : Int) (by omega) (by omega)
    obtain ⟨bd, rfl, y0, y1, y2, y3, y4⟩ := at_T47 (Kd.C_below hB.out HB1) (i : Int) (by omega) (by omega)
    rw [rd_map28 L i hlt] at x0 x1 x2 x3 x4
    rw [rd_map47 L i hlt] at y0 y1 y2 y3 y4
    generalize L[i] = x at *
    dsimp only [tokS] at x0 x1 x2 x3 x4
    dsimp only [tokR] at y0 y1 y2 y3 y4
    simp only [Int.toNat_natCast] at x0 x1 x2 x3 x4 y0 y1 y2 y3 y4
    have hbx := World.block_lt_of_cell? _ _ x1
    have hby := World.block_lt_of_cell? _ _ y1
    replace HB1 := Aside0.mk HB1
    obtain ⟨p, k, S, P, hh⟩ := x
    dsimp only at x0 x1 x2 x3 x4 y0 y1 y2 y3 y4
    have hi1 : (i : Int) < (L.length : Int) := by omega
    go_wp2
    go_quiet (fail)
    go_wp2
    go_roundw
    case rel => exact ⟨i + 1, by omega, by simp [intOf], by repeat (first | exact HB1.out | apply below_alloc | apply pw_below_drewN | apply below_drew1)⟩
    case measure => simp [intOf]; omega
end Go.Proofs.YtgdpojleejdfaaaDoor.Px

/- The walk of tmplpipelaw11.LexMatchesReference. -/
namespace Go.Proofs.YtgdpojleejdfaaaDoor.Px
open Go.RowKit Go.Proofs.YtgdpojleejdfaaaDoorW.PrintWords Go.Proofs.YtgdpojleejdfaaaDoorW.PrintLast Go.Proofs.YtgdpojleejdfaaaDoorW.PrintMore
set_option linter.unusedVariables false
set_option linter.unusedSimpArgs false

/-- Both lexers' answer. -/
theorem lex_both (s : ByteArray) (hs : s.size ≤ 5000) : ∃ (L : List T5) (N E : Int), lexF s = (L.map tokS, N, E) ∧ outR s [] (lexS 0 s.data.toList) = (L.map tokR, N, E) ∧ (∀ x ∈ L, KOk x.2 ∧ x.2.2.1.length ≤ 5000 ∧ x.2.2.2.1.length ≤ 5000) := by
  rw [lexF_small (by omega)]
  cases h : lexS 0 s.data.toList with
  | ok L =>
    refine ⟨L, s.size, 0, rfl, by simp [outR], fun x hx => ?_⟩
    have h1 := lexS_kOk _ 0 _ L (Nat.le_refl _) h x hx
    have h2 := lexS_small 5000 _ 0 _ L (Nat.le_refl _) (by rw [data_length]; exact hs) h x hx
    exact ⟨h1, h2.1, h2.2⟩
  | error x =>
    obtain ⟨q, e⟩ := x
    exact ⟨[], q, e, rfl, rfl, fun x hx => by cases hx⟩
theorem rlex_calls (s : ByteArray) (hs : s.size ≤ 5000) {L : List T5} {N E : Int} (h : outR s [] (lexS 0 s.data.toList) = (L.map tokR, N, E)) (w : World) :
    Calls Tryd.prog 23 #[.string s] w fun e w' => ∃ v : Value, e = .returned (.tuple #[v, .int .i64 N, .int .i64 E]) ∧ Kd.R k47 47 w' w.heap.size (fun _ => True) v (L.map tokR) ∧ Below w.heap.size w w' := by
  obtain ⟨r, hr, hc⟩ := rlex_any s (by omega) w
  rw [h] at hr
  rw [hr] at hc
  exact hc
structure LnI (L : List T5) (A : Option Addr) (B : Option Addr) (w wr : World) : Prop where
  a : Kd.C k28 wr A L.length (L.map tokS)
  b : Kd.C k47 wr B L.length (L.map tokR)
  below : Below w.heap.size w wr
theorem LnI.step {L : List T5} {A B : Option Addr} {w wr w2 : World} (h : LnI L A B w wr) (hb : Below wr.heap.size wr w2) : LnI L A B w w2 :=
  ⟨Kd.C_below h.a hb, Kd.C_below h.b hb, below_step h.below hb⟩
def LnRel (L : List T5) (A B : Option Addr) (w : World) (v : Value) (wr : World) : Prop := ∃ i : Nat, i ≤ L.length ∧ v = .int .i64 i ∧ LnI L A B w wr
set_option maxHeartbeats 2000000 in
set_option maxRecDepth 100000 in
theorem lexMatches_walk (s : ByteArray) (w : World) (hG : GS w) : Calls Tryd.prog 8 #[.string s] w fun e w' => e = .returned (.bool true) ∧ Below w.heap.size w w' := by
  by_cases h5 : (5000 : Int) < s.size
  case pos =>
    have hb5 : decide ((5000 : Int) < s.size) = true := decide_eq_true h5
    go_enter Tryd.func8, Tryd.ntmps8
    go_wp2_with fail
    refine (alive_any _ hG).mono ?_
    rintro e w2 ⟨rfl, HB2⟩
    go_wp2
    go_ret
    exact ⟨rfl, HB2⟩
  have hz : s.size ≤ 5000 := by omega
  have hb5 : decide ((5000 : Int) < s.size) = false := decide_eq_false h5
  obtain ⟨L, N, E, hF, hR, hK⟩ := lex_both s hz
  have hlx := Aside0.mk (lex_Lex.calls s _ N E w hG (by unfold lex_Lex.f; rw [hF]))
  replace hR := Aside0.mk hR
  replace hK := Aside0.mk hK
  have hG0 := Aside0.mk hG
  clear hF hG h5
  go_enter Tryd.func8, Tryd.ntmps8
  go_wp2_with fail
  refine hlx.out.mono ?_
  rintro e w1 ⟨v, rfl, HO, HB⟩
  obtain ⟨A, c, rfl⟩ := Kd.R_slice HO
  have HA := (Kd.R_reads' HO).2.2
  have hca := (Kd.R_reads' HO).2.1
  rw [List.length_map] at HA hca ⊢
  replace HA := Aside0.mk HA
  replace HB := Aside0.mk HB
  clear hlx HO
  go_wp2_with fail
  refine (rlex_calls s hz hR.out _).mono ?_
  rintro e w2 ⟨v, rfl, HO, HB2⟩
  obtain ⟨B, d, rfl⟩ := Kd.R_slice HO
  have HBB := (Kd.R_reads' HO).2.2
  have hcb := (Kd.R_reads' HO).2.1
  rw [List.length_map] at HBB hcb ⊢
  have HI := Aside0.mk (LnI.mk (Kd.C_below HA.out HB2) HBB (below_step HB.out HB2))
  clear HO HA HB HBB HB2 hR
  go_wp2_with fail
  refine (same_any L A c B d _ HI.out.a HI.out.b (by omega) (by omega)).mono ?_
  rintro e w3 ⟨rfl, HB3⟩
  replace HI := Aside0.mk (HI.out.step HB3)
  clear HB3
  have hm := Kd.C_max HI.out.a
  go_wp2
  go_loopw [43] (fun v wr => LnRel L A B w v wr) (fun v _ => L.length - (intOf v).toNat)
  case atStart => exact ⟨0, Nat.zero_le _, rfl, HI.out⟩
  case round =>
    clear HI
    obtain ⟨i, hi, rfl, HI⟩ := hrel
    by_cases hlt : i < L.length
    case neg =>
      obtain rfl : i = L.length := by omega
      replace HI := Aside0.mk HI
      go_wp2_with fail
      refine (alive_any _ (hG0.out.below HI.out.below)).mono ?_
      rintro e w4 ⟨rfl, HB4⟩
      have HBf := Aside0.mk (below_step HI.out.below HB4)
      clear HB4 HI
      go_wp2
      go_ret
      exact ⟨rfl, HBf.out⟩
    obtain ⟨ad, rfl, x0, x1, x2, x3, x4⟩ := at_T28 HI.a (i : Int) (by omega) (by omega)
    rw [rd_map28 L i hlt] at x0 x1 x2 x3 x4
    have hx := Aside0.mk (hK.out L[i] (List.getElem_mem hlt))
    obtain ⟨bd, rfl, y0, y1, y2, y3, y4⟩ := at_T47 HI.b (i : Int) (by omega) (by omega)
    rw [rd_map47 L i hlt] at y0 y1 y2 y3 y4
    have hY : ∀ w', Below wr.heap.size wr w' → w'.cell? (bd.add (i * 5)) = some (.int .i64 (tokR L[i]).f0) ∧ w'.cell? ⟨(bd.add (i * 5)).block, (bd.add (i * 5)).off + 1, none⟩ = some (.int .i64 (tokR L[i]).f1) ∧ w'.cell? ⟨(bd.add (i * 5)).block, (bd.add (i * 5)).off + 2, none⟩ = some (.string (tokR L[i]).f2) ∧ w'.cell? ⟨(bd.add (i * 5)).block, (bd.add (i * 5)).off + 3, none⟩ = some (.string (tokR L[i]).f3) ∧ w'.cell? ⟨(bd.add (i * 5)).block, (bd.add (i * 5)).off + 4, none⟩ = some (.bool (tokR L[i]).f4) := fun w' hb => by
      obtain ⟨bd', e, z0, z1, z2, z3, z4⟩ := at_T47 (Kd.C_below HI.b hb) (i : Int) (by omega) (by omega)
      cases e
      rw [rd_map47 L i hlt] at z0 z1 z2 z3 z4
      simp only [Int.toNat_natCast] at z0 z1 z2 z3 z4
      exact ⟨z0, z1, z2, z3, z4⟩
    generalize L[i] = x at *
    dsimp only [tokS] at x0 x1 x2 x3 x4
    dsimp only [tokR] at y0 y1 y2 y3 y4 hY
    simp only [Int.toNat_natCast] at x0 x1 x2 x3 x4 y0 y1 y2 y3 y4
    obtain ⟨p, k, S, P, hh⟩ := x
    dsimp only at x0 x1 x2 x3 x4 y0 y1 y2 y3 y4 hY
    have hbx := World.block_lt_of_cell? _ _ x1
    have hby := World.block_lt_of_cell? _ _ y1
    have hi1 : (i : Int) < (L.length : Int) := by omega
    replace hY := Aside0.mk hY
    replace HI := Aside0.mk HI
    obtain ⟨T, F25, F26⟩ : ∃ T : ByteArray, Aside0 (∀ W, Calls Tryd.prog 25 #[.agg #[.int .i64 k, .int .i64 p, .string ⟨S.toArray⟩, .string ⟨P.toArray⟩, .bool hh]] W fun e w' => e = .returned (.string T) ∧ Below W.heap.size W w') ∧
        Aside0 (∀ W, Calls Tryd.prog 26 #[.agg #[.int .i64 k, .int .i64 p, .string ⟨S.toArray⟩, .string ⟨P.toArray⟩, .bool hh]] W fun e w' => e = .returned (.string T) ∧ Below W.heap.size W w') :=
      ⟨⟨(fmtD (k, S, P, hh)).toArray⟩, ⟨fun W => format_any (k, S, P, hh) p W (Nat.le_trans hx.out.2.1 (by decide)) (Nat.le_trans hx.out.2.2 (by decide))⟩, ⟨fun W => rformat_any (k, S, P, hh) p W hx.out.1 hx.out.2.1 hx.out.2.2⟩⟩
    go_wp2
    go_region_with (first
      | (go_at_call 25; (with_reducible refine (F25.out _).mono ?_); rintro e w4 ⟨rfl, hb4⟩
         have hb4' := Aside0.mk (below_step (show Below wr.heap.size wr _ from by repeat (first | exact Below.refl _ _ | apply below_alloc | apply pw_below_drewN | apply below_drew1)) hb4)
         obtain ⟨z0, z1, z2, z3, z4⟩ := hY.out w4 hb4'.out
         clear hb4)
      | (go_at_call 26; (with_reducible refine (F26.out _).mono ?_); rintro e w5 ⟨rfl, hb5⟩
         have hb5' := Aside0.mk (below_step hb4'.out hb5)
         clear hb5))
    all_goals
      go_wp2
      go_roundw
      case rel => exact ⟨i + 1, by omega, by simp [intOf], HI.out.step hb5'.out⟩
      case measure => simp [intOf]; omega
end Go.Proofs.YtgdpojleejdfaaaDoor.Px
