/- The pure statement of LexFormatRoundTrip. -/
import Derived.Test.YtgdpojleejdfaaaDoorPy7
import Derived.Test.YtgdpojleejdfaaaDoorFl
namespace Go.Proofs.YtgdpojleejdfaaaDoor.Pure
open Go.RowKit Go.Proofs.YtgdpojleejdfaaaDoor.Px Go.Proofs.YtgdpojleejdfaaaDoorW.PrintWords Go.Proofs.YtgdpojleejdfaaaDoorW.PrintLast

theorem fmt_tok {N : Nat} {L : List T5} (hs : SmallT N L) (hN : N ≤ 65536) (i : Nat) (h : i < L.length) :
    lex_Format.f (tokS L[i]).f0 (tokS L[i]).f1 (tokS L[i]).f2 (tokS L[i]).f3 (tokS L[i]).f4 = some ⟨(fmtD L[i].2).toArray⟩ := by
  obtain ⟨h1, h2⟩ := hs _ (List.getElem_mem h)
  unfold lex_Format.f
  rw [if_pos ⟨by show (⟨(L[i].2.2.1).toArray⟩ : ByteArray).size ≤ _; rw [bytes_size]; omega, by show (⟨(L[i].2.2.2.1).toArray⟩ : ByteArray).size ≤ _; rw [bytes_size]; omega⟩]
  exact congrArg some (fmtTok_is L[i].2)
theorem rd_map (L : List T5) (i : Nat) (h : i < L.length) : rd_T28 (L.map tokS) (i : Int) = tokS L[i] := by
  rw [rd_T28_at _ i (by rw [List.length_map]; exact h), List.getElem_map]
theorem take_size (L : List T5) (i : Nat) (h : (fmtAll L).length ≤ 5000) : (fmtAll (L.take i)).length ≤ 5000 := Nat.le_trans (fmtAll_take_le L i) h
theorem fmtD_le (L : List T5) (i : Nat) (hi : i < L.length) (h : (fmtAll L).length ≤ 5000) : (fmtAll (L.take i)).length + (fmtD L[i].2).length ≤ 5000 := by
  have h1 := take_size L (i + 1) h
  rw [fmtAll_take L i hi, List.length_append] at h1
  exact h1
theorem succ_w (i : Nat) (h : i ≤ 100000) : wrap64 ((i : Int) + 1) = ((i + 1 : Nat) : Int) := by rw [w64L (by omega) (by omega)]; rfl
/-- The second loop. -/
theorem rt_two (L M : List T5) (e : M.map (·.2) = L.map (·.2)) (hl : L.length ≤ 5000) (hf : (fmtAll L).length ≤ 5000) (hs : SmallT 65536 L) :
    ∀ (m i : Nat), L.length ≤ i + m → i ≤ L.length → tmplpipelaw11_LexFormatRoundTrip.l1 (m + 1) (L.map tokS) ⟨(fmtAll L).toArray⟩ ⟨(fmtAll (L.take i)).toArray⟩ (M.map tokS) (M.length : Int) (i : Int) = some true := by
  have hML : M.length = L.length := by have := congrArg List.length e; simpa using this
  intro m
  induction m with
  | zero =>
    intro i hm hi
    obtain rfl : i = L.length := by omega
    simp only [tmplpipelaw11_LexFormatRoundTrip.l1]
    rw [if_neg (by omega), alive_true]
    simp only [Option.bind_some, if_true]
    rw [List.take_of_length_le (Nat.le_refl _)]
    simp
  | succ m ih =>
    intro i hm hi
    by_cases h : i < L.length
    case neg =>
      obtain rfl : i = L.length := by omega
      simp only [tmplpipelaw11_LexFormatRoundTrip.l1]
      rw [if_neg (by omega), alive_true]
      simp only [Option.bind_some, if_true]
      rw [List.take_of_length_le (Nat.le_refl _)]
      simp
    have hM : i < M.length := by omega
    have hx : M[i].2 = L[i].2 := by
      have := congrArg (·[i]?) e
      simp only [List.getElem?_map] at this
      rw [List.getElem?_eq_getElem h, List.getElem?_eq_getElem hM] at this
      simpa using this
    have hsM : SmallT 65536 M := fun x hx => by
      have : x.2 ∈ M.map (·.2) := List.mem_map_of_mem hx
      rw [e] at this
      obtain ⟨y, hy, hy2⟩ := List.mem_map.1 this
      rw [← hy2]; exact hs y hy
    have hF := fmt_tok hsM (Nat.le_refl _) i hM
    have ih := ih (i + 1) (by omega) (by omega)
    have hle := fmtD_le L i h hf
    rw [fmtAll_take L i h] at ih
    simp only [tmplpipelaw11_LexFormatRoundTrip.l1] at ih ⊢
    rw [if_pos (by omega), if_pos (by omega), if_pos (by rw [List.length_map]; omega), rd_map M i hM, hF]
    simp only [Option.bind_some]
    rw [if_pos (by rw [bytes_size, bytes_size, hx]; exact Nat.le_trans hle (by decide)), if_pos (by rw [List.length_map]; omega), rd_map L i h, if_neg (by simp [tokS, hx]), bytes_app, succ_w i (by omega), hx]
    exact ih
theorem rt_end (s : ByteArray) (L : List T5) (hz : s.size ≤ 5000) (hL : lexS 0 s.data.toList = .ok L) (hl : L.length ≤ 5000) (hs : SmallT 65536 L) (k : Nat) (hk : L.length < k) :
    tmplpipelaw11_LexFormatRoundTrip.l0 (k + 2) (L.map tokS) ⟨(fmtAll L).toArray⟩ (L.map tokS) (L.length : Int) (L.length : Int) = some true := by
  obtain ⟨hc, hf⟩ := lexS_canT _ 0 _ L (Nat.le_refl _) hL
  rw [data_length] at hf
  have hf5 : (fmtAll L).length ≤ 5000 := Nat.le_trans hf hz
  have hre := relex _ L (Nat.le_refl _) hc 0
  have hF : lexF ⟨(fmtAll L).toArray⟩ = ((Px.retime 0 L).map tokS, ((fmtAll L).length : Int), 0) := by
    rw [lexF_small (by rw [bytes_size]; omega)]
    show lexR _ (lexS 0 (fmtAll L)) = _
    rw [hre]
    simp only [lexR, bytes_size]
  have hT := rt_two L (Px.retime 0 L) (retime_parts 0 L) hl hf5 hs (k - 1) 0 (by omega) (by omega)
  rw [show k - 1 + 1 = k by omega] at hT
  simp only [tmplpipelaw11_LexFormatRoundTrip.l0]
  rw [if_neg (by omega)]
  unfold lex_Lex.f
  rw [hF]
  simp only [Option.bind_some, if_true]
  rw [if_pos (by rw [bytes_size])]
  simp only [tmplpipelaw11_LexFormatRoundTrip.j2]
  have hR : (((Px.retime 0 L).map tokS).length : Int) = (Px.retime 0 L).length := by rw [List.length_map]
  have hR2 : (((Px.retime 0 L).map tokS).length : Int) = ((L.map tokS).length : Int) := by rw [List.length_map, List.length_map, retime_len]
  rw [if_neg (by rw [hR2]; simp), hR]
  simpa [fmtAll] using hT
theorem rt_one (s : ByteArray) (L : List T5) (hz : s.size ≤ 5000) (hL : lexS 0 s.data.toList = .ok L) (hl : L.length ≤ 5000) (hs : SmallT 65536 L) :
    ∀ (m i k : Nat), L.length ≤ i + m → i ≤ L.length → m + L.length < k → tmplpipelaw11_LexFormatRoundTrip.l0 (k + 2) (L.map tokS) ⟨(fmtAll (L.take i)).toArray⟩ (L.map tokS) (L.length : Int) (i : Int) = some true := by
  obtain ⟨hc, hf⟩ := lexS_canT _ 0 _ L (Nat.le_refl _) hL
  rw [data_length] at hf
  have hf5 : (fmtAll L).length ≤ 5000 := Nat.le_trans hf hz
  intro m
  induction m with
  | zero =>
    intro i k hm hi hk
    obtain rfl : i = L.length := by omega
    rw [List.take_of_length_le (Nat.le_refl _)]
    exact rt_end s L hz hL hl hs k (by omega)
  | succ m ih =>
    intro i k hm hi hk
    by_cases h : i < L.length
    case neg =>
      obtain rfl : i = L.length := by omega
      rw [List.take_of_length_le (Nat.le_refl _)]
      exact rt_end s L hz hL hl hs k (by omega)
    obtain ⟨k, rfl⟩ : ∃ j, k = j + 1 := ⟨k - 1, by omega⟩
    have ih := ih (i + 1) k (by omega) (by omega) (by omega)
    have hle := fmtD_le L i h hf5
    rw [fmtAll_take L i h] at ih
    rw [tmplpipelaw11_LexFormatRoundTrip.l0]
    rw [if_pos (by omega), if_pos (by omega), if_pos (by rw [List.length_map]; omega), rd_map L i h, fmt_tok hs (Nat.le_refl _) i h]
    simp only [Option.bind_some]
    rw [if_pos (by rw [bytes_size, bytes_size]; exact Nat.le_trans hle (by decide)), bytes_app, succ_w i (by omega)]
    exact ih
theorem LexFormatRoundTrip : tmplpipelaw11_LexFormatRoundTrip.Pure := by
  intro s _
  have hT : ∀ k l e, (e = 0 ∨ l = []) → tmplpipelaw11_LexFormatRoundTrip.j0 (k + 1) l e true = some true := fun k l e h => by
    simp only [tmplpipelaw11_LexFormatRoundTrip.j0]
    rw [if_pos trivial, alive_true]
    simp only [Option.bind_some, if_true]
    rcases h with rfl | rfl
    · rfl
    · split <;> rfl
  unfold tmplpipelaw11_LexFormatRoundTrip.f lex_Lex.f
  simp only [Option.bind_some]
  rcases lexF_cases s with ⟨L, _, hL, eL⟩ | ⟨n, e, eL, he, _⟩
  case inr =>
    rw [eL]
    dsimp only
    rw [show (e != 0) = true by simp [he]]
    exact ⟨1, by rw [ite_self]; exact hT 0 _ _ (.inr rfl)⟩
  rw [eL]
  dsimp only
  by_cases h5 : (s.size : Int) > 5000
  · exact ⟨1, by rw [if_pos h5]; exact hT 0 _ _ (.inl rfl)⟩
  have hz : s.size ≤ 5000 := by omega
  have hs := lexS_small 65536 _ 0 _ L (Nat.le_refl _) (by rw [data_length]; omega) hL
  have hl : L.length ≤ 5000 := by
    have := offs_len' _ 0 _ L (Nat.le_refl _) hL
    rw [data_length] at this
    omega
  refine ⟨(L.length + L.length + 1 + 2) + 1, ?_⟩
  rw [if_neg h5]
  simp only [tmplpipelaw11_LexFormatRoundTrip.j0]
  rw [if_neg (by decide)]
  have := rt_one s L hz hL hl hs L.length 0 (L.length + L.length + 1) (by omega) (by omega) (by omega)
  rw [List.length_map]
  simpa [fmtAll] using this
where
  offs_len' : ∀ (n p : Nat) (s : List UInt8) (l : List T5), s.length ≤ n → lexS p s = .ok l → l.length ≤ s.length
    | n, p, s, l, hn, e => by
      have htx : ∀ t : List UInt8, (txtT p t).length ≤ t.length := fun t => by
        unfold txtT; split
        · simp
        · rename_i h0; have := List.length_pos_iff.2 h0; show 1 ≤ _; omega
      cases way s with
      | text _ h => rw [lexS_text h] at e; cases e; exact htx s
      | open_ t r h hr => rw [lexS_open h hr] at e; cases e
      | dir t u r h hu =>
        obtain ⟨dd, l', hd, hl', rfl⟩ := lexS_dirOk h hu e
        cases n with
        | zero => simp at hn
        | succ n =>
          have := offs_len' n _ r l' (by simp at hn; omega) hl'
          have h2 := htx t
          simp only [List.length_append, List.length_cons]; omega
end Go.Proofs.YtgdpojleejdfaaaDoor.Pure
