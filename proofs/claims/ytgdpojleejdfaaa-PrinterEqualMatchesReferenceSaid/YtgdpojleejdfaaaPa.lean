/- Plain laws: the reference's lexer ends, and what its tokens look like. -/
import Derived.Test.YtgdpojleejdfaaaRq
namespace Go.Proofs.Ytgdpojleejdfaaa.Px
open Go.RowKit Go.Proofs.YtgdpojleejdfaaaW.PrintWords Go.Proofs.YtgdpojleejdfaaaW.PrintLast Go.Proofs.YtgdpojleejdfaaaW.PrintMore
set_option linter.unusedVariables false
set_option linter.unusedSimpArgs false

theorem w64 {n : Int} (h0 : 0 ≤ n) (h1 : n ≤ 4611686018427387904) : wrap64 n = n := by unfold wrap64; omega

theorem find_ends (s : ByteArray) (c : Int) (hs : s.size ≤ 65536) : ∀ (k : Nat) (i : Int), 0 ≤ i → i ≤ 200000 → 1 ≤ k → (s.size : Int) - i < k → ∃ r, tmplpiperef11_find.l0 k s c i = some r ∧ (r = -1 ∨ (i ≤ r ∧ r + 1 < s.size))
  | 0, i, _, _, h, _ => by omega
  | k + 1, i, h0, h1, _, hk => by
    have hw : wrap64 (i + 1) = i + 1 := w64 (by omega) (by omega)
    simp only [tmplpiperef11_find.l0, hw]
    by_cases hl : i + 1 < (s.size : Int)
    · rw [if_pos hl, if_pos h0, if_pos (by omega)]
      have next : ∃ r, tmplpiperef11_find.l0 k s c (i + 1) = some r ∧ (r = -1 ∨ (i ≤ r ∧ r + 1 < s.size)) := by
        obtain ⟨r, hr, h⟩ := find_ends s c hs k (i + 1) (by omega) (by omega) (by omega) (by omega)
        exact ⟨r, hr, h.imp id (fun h => ⟨by omega, h.2⟩)⟩
      split
      · rw [if_pos (by omega)]
        split
        · exact ⟨i, rfl, .inr ⟨by omega, hl⟩⟩
        · exact next
      · exact next
    · rw [if_neg hl]
      exact ⟨-1, rfl, .inl rfl⟩

def okW (n : Nat) (l : List ByteArray) : Prop := ∀ x ∈ l, 1 ≤ x.size ∧ x.size ≤ n
theorem okW_snoc {n : Nat} {l : List ByteArray} {x : ByteArray} (h : okW n l) (h1 : 1 ≤ x.size) (h2 : x.size ≤ n) : okW n (l ++ [x]) := fun y hy => by
  rcases List.mem_append.1 hy with hy | hy
  · exact h y hy
  · rw [List.mem_singleton.1 hy]; exact ⟨h1, h2⟩
theorem sz_extract (s : ByteArray) (a b : Nat) (h : a ≤ b) (hb : b ≤ s.size) : (s.extract a b).size = b - a := by
  rw [ByteArray.size_extract]; omega

theorem words_ends (s : ByteArray) (hs : s.size ≤ 65536) : ∀ (m : Nat) (k : Nat) (out : List ByteArray) (f i : Int), 0 ≤ f → f ≤ i → 0 ≤ i → (s.size : Int) + 1 - i ≤ m → i ≤ s.size + 1 → 2 * m + 1 ≤ k → okW s.size out → (out.length : Int) ≤ i →
    ∃ r, tmplpiperef11_words.l0 k s out f i = some r ∧ okW s.size r
  | m, 0, _, _, _, _, _, _, _, _, hk, _, _ => by omega
  | 0, k + 1, out, f, i, hf, hfi, hi, hm, hi2, hk, ho, hl => by
    simp only [tmplpiperef11_words.l0]
    rw [if_neg (by omega)]
    exact ⟨out, rfl, ho⟩
  | m + 1, k + 1, out, f, i, hf, hfi, hi, hm, hi2, hk, ho, hl => by
    have hw : wrap64 (i + 1) = i + 1 := w64 (by omega) (by omega)
    simp only [tmplpiperef11_words.l0]
    by_cases hle : i ≤ (s.size : Int)
    case neg => rw [if_neg hle]; exact ⟨out, rfl, ho⟩
    rw [if_pos hle]
    have step : ∀ b : Bool, ∃ r, tmplpiperef11_words.j1 k s out f i b = some r ∧ okW s.size r := by
      intro b
      cases k with
      | zero => omega
      | succ k =>
        simp only [tmplpiperef11_words.j1, hw]
        cases b with
        | false =>
          rw [if_neg (by decide)]
          exact words_ends s hs m k out f (i + 1) hf (by omega) (by omega) (by omega) (by omega) (by omega) ho (by omega)
        | true =>
          rw [if_pos rfl]
          split
          · rename_i hgt
            rw [if_pos (by omega)]
            have hx : (s.extract f.toNat i.toNat).size = i.toNat - f.toNat := sz_extract s _ _ (by omega) (by omega)
            exact words_ends s hs m k _ (i + 1) (i + 1) (by omega) (by omega) (by omega) (by omega) (by omega) (by omega) (okW_snoc ho (by omega) (by omega)) (by rw [List.length_append, List.length_singleton]; omega)
          · exact words_ends s hs m k out (i + 1) (i + 1) (by omega) (by omega) (by omega) (by omega) (by omega) (by omega) ho (by omega)
    split
    · exact step true
    · rw [if_pos (by omega)]
      exact step _

theorem letter_ends (a : Int) : ∃ b, tmplpiperef09_letter.f a = some b := by
  unfold tmplpiperef09_letter.f
  repeat' split
  all_goals exact ⟨_, rfl⟩
theorem isname_ends (s : ByteArray) (hs : s.size ≤ 65536) (k : Nat) (hk : s.size + 3 ≤ k) : ∃ b, tmplpiperef09_IsName.f k s = some b := by
  have loop : ∀ (k : Nat) (i : Int), 0 ≤ i → i ≤ 70000 → 1 ≤ k → (s.size : Int) - i < k → ∃ b, tmplpiperef09_IsName.l0 k s i = some b := by
    intro k
    induction k with
    | zero => intro i _ _ h _; omega
    | succ k ih =>
      intro i h0 h1 _ hk
      have hw : wrap64 (i + 1) = i + 1 := w64 (by omega) (by omega)
      simp only [tmplpiperef09_IsName.l0, hw]
      by_cases hl : i < (s.size : Int)
      case neg => rw [if_neg hl]; exact ⟨_, rfl⟩
      rw [if_pos hl, if_pos h0]
      obtain ⟨b, hb⟩ := letter_ends (bt s i)
      rw [hb]
      have next := ih (i + 1) (by omega) (by omega) (by omega) (by omega)
      simp only [Option.bind_some]
      repeat' split
      all_goals first | exact next | exact ⟨_, rfl⟩
  have j0 : ∀ b, ∃ r, tmplpiperef09_IsName.j0 k s b = some r := by
    intro b
    cases k with
    | zero => omega
    | succ k =>
      simp only [tmplpiperef09_IsName.j0]
      split
      · exact ⟨_, rfl⟩
      · exact loop k 0 (by omega) (by omega) (by omega) (by omega)
  unfold tmplpiperef09_IsName.f
  split
  · exact j0 true
  · split
    · exact j0 true
    · rw [if_pos (by omega)]
      obtain ⟨b, hb⟩ := letter_ends (bt s 0)
      rw [hb]
      exact j0 _
theorem split_ends (s : ByteArray) (hs : s.size ≤ 65536) (k : Nat) (hk : 3 * s.size + 20 ≤ k) : ∃ r, tmplpiperef09_Split.f k s = some r := by
  have loop : ∀ (m k : Nat) (out : List ByteArray) (f i : Int), 0 ≤ f → f ≤ i → 0 ≤ i → (s.size : Int) + 1 - i ≤ m → i ≤ s.size + 1 → 2 * m + s.size + 10 ≤ k → out.length ≤ 8 → ∃ r, tmplpiperef09_Split.l0 k s out f i = some r := by
    intro m
    induction m with
    | zero =>
      intro k out f i _ _ _ h1 h2 hk _
      cases k with
      | zero => omega
      | succ k =>
        simp only [tmplpiperef09_Split.l0]
        rw [if_neg (by omega)]
        exact ⟨_, rfl⟩
    | succ m ih =>
      intro k out f i hf hfi hi hm hi2 hk ho
      have hw : wrap64 (i + 1) = i + 1 := w64 (by omega) (by omega)
      obtain ⟨k, rfl⟩ : ∃ k', k = k' + 2 := ⟨k - 2, by omega⟩
      simp only [tmplpiperef09_Split.l0]
      by_cases hle : i ≤ (s.size : Int)
      case neg => rw [if_neg hle]; exact ⟨_, rfl⟩
      rw [if_pos hle]
      have step : ∀ b : Bool, ∃ r, tmplpiperef09_Split.j1 (k + 1) s out f i b = some r := by
        intro b
        simp only [tmplpiperef09_Split.j1, hw]
        cases b with
        | false =>
          rw [if_neg (by decide)]
          exact ih k out f (i + 1) hf (by omega) (by omega) (by omega) (by omega) (by omega) ho
        | true =>
          rw [if_pos rfl, if_pos hf, if_pos hfi, if_pos hle]
          have hx : (s.extract f.toNat i.toNat).size = i.toNat - f.toNat := sz_extract s _ _ (by omega) (by omega)
          obtain ⟨b, hb⟩ := isname_ends (s.extract f.toNat i.toNat) (by omega) k (by omega)
          rw [hb]
          simp only [Option.bind_some]
          split
          · split
            · exact ⟨_, rfl⟩
            · rw [if_pos (by omega)]
              exact ih k _ (i + 1) (i + 1) (by omega) (by omega) (by omega) (by omega) (by omega) (by omega) (by rw [List.length_append, List.length_singleton]; omega)
          · exact ⟨_, rfl⟩
      split
      · exact step true
      · rw [if_pos (by omega)]
        exact step _
  unfold tmplpiperef09_Split.f
  split
  · exact ⟨_, rfl⟩
  · exact loop (s.size + 1) k [] 0 0 (by omega) (by omega) (by omega) (by omega) (by omega) (by omega) (by simp)

/-- What form says of words that are no longer than n: it answers; a token that it knows has one of the eight forms. -/
def okForm (n : Nat) (b : Int × Int × ByteArray × ByteArray × Bool × Bool × Bool) : Prop :=
  b.2.2.2.2.2.1 = true → 1 ≤ b.1 ∧ b.1 ≤ 8 ∧ (b.2.2.1.size = 0 ↔ ¬ (b.1 = 4 ∨ b.1 = 6)) ∧ b.2.2.1.size ≤ n ∧ b.2.2.2.1.size ≤ n
theorem path_ends (x : ByteArray) (h : 1 ≤ x.size) : ∃ b, tmplpiperef11_path.f x = some b := by
  unfold tmplpiperef11_path.f
  rw [if_pos (by omega)]
  exact ⟨_, rfl⟩
theorem okW_drop {n : Nat} {l : List ByteArray} (h : okW n l) (j : Nat) : okW n (l.drop j) := fun x hx => h x (List.mem_of_mem_drop hx)
theorem okW_at {n : Nat} {l : List ByteArray} (h : okW n l) (h0 : 0 < l.length) : 1 ≤ (rdOf ByteArray.empty l 0).size ∧ (rdOf ByteArray.empty l 0).size ≤ n := by
  have : rdOf ByteArray.empty l 0 = l[0] := by simp [rdOf, h0]
  rw [this]
  exact h _ (List.getElem_mem h0)

/-- What the token holds so far. -/
structure OkS (n : Nat) (kd : Int) (s p : ByteArray) (hp : Bool) : Prop where
  hi : kd ≤ 8
  ne : kd ≠ 0
  s0 : kd ≥ 0 → (s.size = 0 ↔ ¬ (kd = 4 ∨ kd = 6))
  sn : s.size ≤ n
  p0 : p.size = 0
  hp0 : hp = false

theorem form3_ends (n : Nat) (hn : n ≤ 65536) (l : List ByteArray) (hl : okW n l) (v b : Bool) (kd a : Int) (s p : ByteArray) (hp : Bool) (k : Nat) (hk : 3 * n + 30 ≤ k) (ho : OkS n kd s p hp) :
    ∃ r, tmplpiperef11_form.j3 k l v b kd a s p hp = some r ∧ okForm n r := by
  obtain ⟨k, rfl⟩ : ∃ k', k = k' + 1 := ⟨k - 1, by omega⟩
  obtain ⟨h8, hne, hs, hsn, hp0, hpf⟩ := ho
  have no : ∀ (s p : ByteArray) (hp v : Bool), okForm n (kd, a, s, p, hp, false, v) := fun s p hp v h => by cases h
  have fin : ∀ (p : ByteArray) (hp c v : Bool), kd ≥ 0 → p.size ≤ n → okForm n (kd, a, s, p, hp, c, v) := fun p hp c v h0 hp1 _ => ⟨by show 1 ≤ kd; omega, h8, hs h0, hsn, hp1⟩
  simp only [tmplpiperef11_form.j3]
  split
  · split
    · exact ⟨_, rfl, no _ _ _ _⟩
    · have hlen : 0 < l.length := by omega
      rw [if_pos (by omega)]
      obtain ⟨h1, h2⟩ := okW_at hl hlen
      obtain ⟨c, hc⟩ := path_ends _ h1
      rw [hc]
      simp only [Option.bind_some]
      split
      · rw [if_pos (by omega)]
        have hz : ((rdOf ByteArray.empty l 0).extract 1 (rdOf ByteArray.empty l 0).size).size ≤ n := by rw [sz_extract _ _ _ h1 (Nat.le_refl _)]; omega
        obtain ⟨r, hr⟩ := split_ends ((rdOf ByteArray.empty l 0).extract 1 (rdOf ByteArray.empty l 0).size) (by omega) k (by omega)
        rw [hr]
        simp only [Option.bind_some]
        split
        · rw [if_pos (by omega)]
          split
          · exact ⟨_, rfl, fin _ _ _ _ (by assumption) hz⟩
          · exact ⟨_, rfl, no _ _ _ _⟩
        · rw [if_pos (by omega)]
          split
          · exact ⟨_, rfl, fin _ _ _ _ (by assumption) hz⟩
          · exact ⟨_, rfl, no _ _ _ _⟩
      · exact ⟨_, rfl, no _ _ _ _⟩
  · split
    · exact ⟨_, rfl, fin _ _ _ _ (by assumption) (by omega)⟩
    · exact ⟨_, rfl, no _ _ _ _⟩

theorem form2_ends (n : Nat) (hn : n ≤ 65536) (l : List ByteArray) (hl : okW n l) (v : Bool) (kd a : Int) (s p : ByteArray) (hp : Bool) (k : Nat) (hk : 3 * n + 31 ≤ k) (ho : OkS n kd s p hp) :
    ∃ r, tmplpiperef11_form.j2 k l v kd a s p hp = some r ∧ okForm n r := by
  obtain ⟨k, rfl⟩ : ∃ k', k = k' + 1 := ⟨k - 1, by omega⟩
  simp only [tmplpiperef11_form.j2]
  repeat' split
  all_goals exact form3_ends n hn l hl _ _ _ _ _ _ _ k (by omega) ho

theorem form1_ends (n : Nat) (hn : n ≤ 65536) (l : List ByteArray) (hl : okW n l) (v b : Bool) (kd a : Int) (k : Nat) (hk : 3 * n + 32 ≤ k) (h8 : kd ≤ 8) (hne : kd ≠ 0) (hb : b = true ↔ kd = 4 ∨ kd = 6) :
    ∃ r, tmplpiperef11_form.j1 k l v b kd a ⟨#[]⟩ ⟨#[]⟩ false = some r ∧ okForm n r := by
  obtain ⟨k, rfl⟩ : ∃ k', k = k' + 1 := ⟨k - 1, by omega⟩
  simp only [tmplpiperef11_form.j1]
  split
  · rename_i hb1
    split
    · exact ⟨_, rfl, fun h => by cases h⟩
    · have hlen : 0 < l.length := by omega
      rw [if_pos (by omega)]
      obtain ⟨h1, h2⟩ := okW_at hl hlen
      obtain ⟨c, hc⟩ := path_ends _ h1
      rw [hc]
      simp only [Option.bind_some]
      split
      · exact ⟨_, rfl, fun h => by cases h⟩
      · obtain ⟨d, hd⟩ := isname_ends (rdOf ByteArray.empty l 0) (by omega) k (by omega)
        rw [hd]
        simp only [Option.bind_some]
        rw [if_pos (by omega)]
        exact form2_ends n hn _ (okW_drop hl 1) _ _ _ _ _ _ k (by omega) ⟨h8, hne, fun _ => ⟨fun h => by omega, fun h => absurd (hb.1 hb1) h⟩, h2, rfl, rfl⟩
  · rename_i hb1
    exact form2_ends n hn l hl _ _ _ _ _ _ k (by omega) ⟨h8, hne, fun _ => ⟨fun _ h => hb1 (hb.2 h), fun _ => rfl⟩, Nat.zero_le _, rfl, rfl⟩
theorem form0_ends (n : Nat) (hn : n ≤ 65536) (l : List ByteArray) (hl : okW n l) (kd a : Int) (k : Nat) (hk : 3 * n + 33 ≤ k) (h8 : kd ≤ 8) (hne : kd ≠ 0) :
    ∃ r, tmplpiperef11_form.j0 k l kd a ⟨#[]⟩ ⟨#[]⟩ false = some r ∧ okForm n r := by
  obtain ⟨k, rfl⟩ : ∃ k', k = k' + 1 := ⟨k - 1, by omega⟩
  simp only [tmplpiperef11_form.j0]
  split
  · exact form1_ends n hn l hl _ _ _ _ k (by omega) h8 hne ⟨fun _ => .inl (by assumption), fun _ => rfl⟩
  · exact form1_ends n hn l hl _ _ _ _ k (by omega) h8 hne ⟨fun h => .inr (by simpa using h), fun h => by simp; omega⟩
theorem form_ends (n : Nat) (hn : n ≤ 65536) (l : List ByteArray) (hl : okW n l) (k : Nat) (hk : 3 * n + 33 ≤ k) : ∃ r, tmplpiperef11_form.f k l = some r ∧ okForm n r := by
  unfold tmplpiperef11_form.f
  by_cases h0 : (l.length : Int) = 0
  · rw [if_pos h0]; exact ⟨_, rfl, fun h => by cases h⟩
  have hlen : 0 < l.length := by omega
  rw [if_neg h0, if_pos (by omega)]
  simp only [Option.bind_some]
  rw [if_pos (by omega)]
  have hd := okW_drop hl 1
  split; · exact form0_ends n hn _ hd _ _ k hk (by omega) (by omega)
  split; · exact form0_ends n hn _ hd _ _ k hk (by omega) (by omega)
  split; · exact form0_ends n hn _ hd _ _ k hk (by omega) (by omega)
  split; · exact form0_ends n hn _ hd _ _ k hk (by omega) (by omega)
  split; · exact form0_ends n hn _ hd _ _ k hk (by omega) (by omega)
  split; · exact form0_ends n hn _ hd _ _ k hk (by omega) (by omega)
  split; · exact form0_ends n hn _ hd _ _ k hk (by omega) (by omega)
  obtain ⟨c, hc⟩ := path_ends _ (okW_at hl hlen).1
  rw [hc]
  simp only [Option.bind_some]
  split
  · exact form0_ends n hn _ hl _ _ k hk (by omega) (by omega)
  · exact form0_ends n hn _ hd _ _ k hk (by omega) (by omega)

/-- A token as the lexer makes it of a source of n bytes. -/
structure okT (n : Nat) (t : S52) : Prop where
  k0 : 0 ≤ t.f0
  k8 : t.f0 ≤ 8
  s0 : t.f0 ≠ 0 → (t.f2.size = 0 ↔ ¬ (t.f0 = 4 ∨ t.f0 = 6))
  sn : t.f2.size ≤ n
  pn : t.f3.size ≤ n
  h0 : t.f0 = 0 → t.f4 = false
theorem lex_ends (s : ByteArray) (hs : s.size ≤ 65536) : ∀ (m k : Nat) (out : List S52) (p : Int), 0 ≤ p → (s.size : Int) + 2 - p ≤ m → p ≤ s.size + 2 → m + 5 * s.size + 100 ≤ k → (∀ t ∈ out, okT s.size t) → (out.length : Int) ≤ p →
    ∃ r, rlexL k s out p = some r ∧ (r.2.2 = 0 → (∀ t ∈ r.1, okT s.size t) ∧ r.1.length ≤ s.size + 2)
  | 0, k, out, p, h0, hm, hp, hk, ho, hl => by
    obtain ⟨k, rfl⟩ : ∃ k', k = k' + 1 := ⟨k - 1, by omega⟩
    simp only [rlexL]
    rw [if_neg (by omega)]
    exact ⟨_, rfl, fun _ => ⟨ho, by show out.length ≤ s.size + 2; omega⟩⟩
  | m + 1, k, out, p, h0, hm, hp, hk, ho, hl => by
    obtain ⟨k, rfl⟩ : ∃ k', k = k' + 1 := ⟨k - 1, by omega⟩
    simp only [rlexL]
    by_cases hlt : p < (s.size : Int)
    case neg => rw [if_neg hlt]; exact ⟨_, rfl, fun _ => ⟨ho, by show out.length ≤ s.size + 2; omega⟩⟩
    rw [if_pos hlt, if_pos (by omega)]
    obtain ⟨o, hfo, ho1⟩ := find_ends s 123 hs k p h0 (by omega) (by omega) (by omega)
    have hf : tmplpiperef11_find.f k s 123 p = some o := hfo
    rw [hf]
    simp only [Option.bind_some]
    by_cases hop : o = p
    · rw [if_pos hop]
      obtain ⟨e, hfe, he1⟩ := find_ends s 125 hs k (p + 2) (by omega) (by omega) (by omega) (by omega)
      have hfe' : tmplpiperef11_find.f k s 125 (p + 2) = some e := hfe
      rw [hfe']
      simp only [Option.bind_some]
      by_cases he0 : e < 0
      · rw [if_pos he0]; exact ⟨_, rfl, fun h => by cases h⟩
      rw [if_neg he0, if_pos (by omega)]
      have hx : (s.extract (p + 2).toNat e.toNat).size = e.toNat - (p + 2).toNat := sz_extract s _ _ (by omega) (by omega)
      obtain ⟨ws, hw, hok⟩ := words_ends (s.extract (p + 2).toNat e.toNat) (by omega) ((s.extract (p + 2).toNat e.toNat).size + 1) k [] 0 0 (by omega) (by omega) (by omega) (by omega) (by omega) (by omega) (fun x hx => by cases hx) (by simp)
      have hw' : tmplpiperef11_words.f k (s.extract (p + 2).toNat e.toNat) = some ws := hw
      rw [hw']
      simp only [Option.bind_some]
      obtain ⟨b, hb, hbo⟩ := form_ends s.size hs ws (fun x hx' => ⟨(hok x hx').1, by have := (hok x hx').2; omega⟩) k (by omega)
      rw [hb]
      simp only [Option.bind_some]
      split
      · rename_i hkn
        split
        · obtain ⟨b1, b8, bs, bsn, bpn⟩ := hbo hkn
          exact lex_ends s hs m k _ (e + 2) (by omega) (by omega) (by omega) (by omega) (fun t ht => by
            rcases List.mem_append.1 ht with ht | ht
            · exact ho t ht
            · rw [List.mem_singleton.1 ht]
              exact ⟨by show 0 ≤ b.1; omega, b8, fun _ => bs, bsn, bpn, fun h => by have h : b.1 = 0 := h; omega⟩) (by rw [List.length_append, List.length_singleton]; omega)
        · exact ⟨_, rfl, fun h => by cases h⟩
      · exact ⟨_, rfl, fun h => by cases h⟩
    · rw [if_neg hop]
      have text : ∀ q : Int, p < q → q ≤ s.size → ∃ r, rlexL k s (out ++ [⟨0, p, s.extract p.toNat q.toNat, ⟨#[]⟩, false⟩]) q = some r ∧ (r.2.2 = 0 → (∀ t ∈ r.1, okT s.size t) ∧ r.1.length ≤ s.size + 2) := fun q hq hq2 => by
        have hx : (s.extract p.toNat q.toNat).size = q.toNat - p.toNat := sz_extract s _ _ (by omega) (by omega)
        exact lex_ends s hs m k _ q (by omega) (by omega) (by omega) (by omega) (fun t ht => by
            rcases List.mem_append.1 ht with ht | ht
            · exact ho t ht
            · rw [List.mem_singleton.1 ht]
              exact ⟨by show (0 : Int) ≤ 0; omega, by show (0 : Int) ≤ 8; omega, fun h => absurd rfl h, by show (s.extract p.toNat q.toNat).size ≤ s.size; omega, Nat.zero_le _, fun _ => rfl⟩) (by rw [List.length_append, List.length_singleton]; omega)
      by_cases ho0 : o < 0
      · rw [if_pos ho0]
        have := text s.size hlt (Int.le_refl _)
        simpa using this
      · rw [if_neg ho0, if_pos (by omega)]
        exact text o (by omega) (by omega)
end Go.Proofs.Ytgdpojleejdfaaa.Px
