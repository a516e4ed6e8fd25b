import Derived.Test.YtgdpojleejdfaaaDoorRTQr
import Derived.Test.YtgdpojleejdfaaaDoorRTNe
/- Parsing the canonical source yields an equal template (the plain law). -/
namespace Go.Proofs.YtgdpojleejdfaaaDoor.Px
open Go.RowKit Go.Proofs.YtgdpojleejdfaaaDoorW.PrintWords Go.Proofs.YtgdpojleejdfaaaDoorW.PrintLast
set_option linter.unusedVariables false
set_option linter.unusedSimpArgs false
theorem dirE_is {k : Int} {s p : List UInt8} {h : Bool} {t : T4} (e : dirE k s p h = (0, t)) : t = (k, s, p, h) := by
  unfold dirE at e
  split at e
  · simpa using e.symm
  · simp at e
theorem dirP_bare {k : Int} {s : List UInt8} {ws : List (List UInt8)} {t : T4} (e : dirP k s ws = (0, t)) : t.1 = k ∧ t.2.1 = s ∧ (mostOf k = 0 → t = (k, s, [], false)) := by
  unfold dirP at e
  split at e
  · simp at e
  · rename_i hlen
    match ws, e with
    | [], e => have := dirE_is e; subst this; exact ⟨rfl, rfl, fun _ => rfl⟩
    | w :: r, e =>
      dsimp only at e
      split at e
      · have := dirE_is e; subst this
        refine ⟨rfl, rfl, fun h => ?_⟩
        rw [List.length_cons] at hlen
        omega
      · simp at e
theorem dirK_bare {k : Int} {ws : List (List UInt8)} {t : T4} (e : dirK k ws = (0, t)) (hn : named k = false) : t.1 = k ∧ t.2.1 = [] ∧ (mostOf k = 0 → t = (k, [], [], false)) := by
  unfold dirK at e
  rw [if_neg (by simp [hn])] at e
  exact dirP_bare e
theorem dirK_kind {k : Int} {ws : List (List UInt8)} {t : T4} (e : dirK k ws = (0, t)) : t.1 = k := by
  unfold dirK at e
  split at e
  · match ws, e with
    | [], e => simp at e
    | w :: r, e =>
      dsimp only at e
      split at e
      · simp at e
      · exact (dirP_bare e).1
  · exact (dirP_bare e).1
theorem dirF_bare {ws : List (List UInt8)} {t : T4} (e : dirF ws = (0, t)) (h : t.1 = 7 ∨ t.1 = 8) : t = (t.1, [], [], false) := by
  have hK : ∀ k ws, dirK k ws = (0, t) → t = (t.1, [], [], false) := fun k ws e => by
    have hk := dirK_kind e
    have h' : k = 7 ∨ k = 8 := by rw [← hk]; exact h
    have := dirK_bare e (by rcases h' with rfl | rfl <;> decide)
    rw [hk]
    exact this.2.2 (by rcases h' with rfl | rfl <;> decide)
  unfold dirF at e
  match ws, e with
  | [], e => simp at e
  | w :: r, e =>
    dsimp only at e
    split at e
    · exact hK _ _ e
    · split at e
      · exact hK _ _ e
      · simp at e
/-- Else and End bear nothing. -/
def GoodT (t : S28) : Prop := (t.f0 = 7 → keyT t = tkElse) ∧ (t.f0 = 8 → keyT t = tkEnd)
theorem canT_good : ∀ (L : List T5), CanT L → ∀ t ∈ L.map tokS, GoodT t
  | [], _, t, ht => by cases ht
  | x :: xs, h, t, ht => by
    rcases List.mem_cons.1 ht with rfl | ht
    · by_cases h0 : x.2.1 = 0
      · exact ⟨fun h7 => by have h7' : x.2.1 = 7 := h7; omega, fun h7 => by have h7' : x.2.1 = 8 := h7; omega⟩
      · have hd := h.1
        rw [if_neg h0] at hd
        have hb := fun hh => dirF_bare hd.dir hh
        obtain ⟨p, k, s, q, b⟩ := x
        refine ⟨fun h7 => ?_, fun h7 => ?_⟩
        · have h7' : k = 7 := h7
          have := hb (.inl h7')
          simp only [Prod.mk.injEq] at this
          obtain ⟨_, rfl, rfl, rfl⟩ := this
          subst h7'
          rfl
        · have h7' : k = 8 := h7
          have := hb (.inr h7')
          simp only [Prod.mk.injEq] at this
          obtain ⟨_, rfl, rfl, rfl⟩ := this
          subst h7'
          rfl
    · exact canT_good xs h.2 t ht
abbrev TkL (k : Nat) : Prop := ∀ (l : List S28) (n d : Int) (out o : List S39) (l' : List S28) (n' : Int), (∀ t ∈ l, GoodT t) → plist k l n d out = some (.ok (o, l', n')) → ∃ pre, l = pre ++ l' ∧ toksL o = toksL out ++ pre.map keyT
abbrev TkN (k : Nat) : Prop := ∀ (t : S28) (r : List S28) (n d : Int) (x : S39) (l' : List S28) (n' : Int), (∀ u ∈ t :: r, GoodT u) → pnode k t r n d = some (.ok (x, l', n')) → ∃ pre, t :: r = pre ++ l' ∧ toksN x = pre.map keyT
theorem toks_of : ∀ k, TkL k ∧ TkN k
  | 0 => ⟨fun l n d out o l' n' _ h => by simp [plist] at h, fun t r n d x l' n' _ h => by simp [pnode] at h⟩
  | k + 1 => by
    obtain ⟨ihl, ihn⟩ := toks_of k
    refine ⟨?_, ?_⟩
    · intro l n d out o l' n' hg h
      cases l with
      | nil => rw [plist_nil] at h; cases h; exact ⟨[], rfl, by simp⟩
      | cons t r =>
        rw [plist_cons] at h
        by_cases h1 : out.length < 100000
        case neg => rw [if_neg h1] at h; cases h
        rw [if_pos h1] at h
        by_cases h2 : t.f0 = 7 ∨ t.f0 = 8
        · rw [if_pos h2] at h; cases h; exact ⟨[], rfl, by simp⟩
        rw [if_neg h2] at h
        cases hp : pnode k t r n d with
        | none => rw [hp] at h; cases h
        | some x =>
          rw [hp] at h
          cases x with
          | error e => cases h
          | ok q =>
            obtain ⟨x, r', n1⟩ := q
            obtain ⟨p1, e1, t1⟩ := ihn _ _ _ _ _ _ _ hg hp
            obtain ⟨p2, e2, t2⟩ := ihl _ _ _ _ _ _ _ (fun u hu => hg u (by rw [e1]; exact List.mem_append_right _ hu)) h
            refine ⟨p1 ++ p2, by rw [e1, e2, List.append_assoc], ?_⟩
            rw [t2, toksL_append, toksL_cons, t1]
            simp [toksL]
    · intro t r n d x l' n' hg h
      rw [pnode_eq] at h
      by_cases h1 : 0 ≤ n ∧ 0 ≤ d
      case neg => rw [if_neg h1] at h; cases h
      rw [if_pos h1] at h
      by_cases h2 : t.f0 = 6 ∧ d > 0
      · rw [if_pos h2] at h; cases h
      rw [if_neg h2] at h
      by_cases h3 : opK t.f0 ∧ d ≥ 32
      · rw [if_pos h3] at h; cases h
      rw [if_neg h3] at h
      by_cases h4 : n ≥ 4096
      · rw [if_pos h4] at h; cases h
      rw [if_neg h4] at h
      by_cases h5 : opK t.f0
      case neg =>
        rw [if_neg h5] at h; cases h
        refine ⟨[t], rfl, ?_⟩
        rw [toksN_eq]; dsimp only
        rw [if_neg (show ¬ (t.f0 = 2 ∨ t.f0 = 3 ∨ t.f0 = 6) from h5)]; rfl
      rw [if_pos h5] at h
      have hgr : ∀ u ∈ r, GoodT u := fun u hu => hg u (List.mem_cons_of_mem _ hu)
      have hend : ∀ (hh : Bool) (body els : List S39) (l1 : List S28) (n1 : Int), endB t hh body els l1 n1 = .ok (x, l', n') → ∃ t3, l1 = t3 :: l' ∧ t3.f0 = 8 ∧ x = ⟨t.f0, t.f1, t.f2, t.f3, t.f4, hh, body, els⟩ := by
        intro hh body els l1 n1 e
        cases l1 with
        | nil => cases e
        | cons t3 r4 =>
          simp only [endB] at e
          by_cases h8 : t3.f0 = 8
          · rw [if_pos h8] at e; cases e; exact ⟨t3, rfl, h8, rfl⟩
          · rw [if_neg h8] at e; cases e
      unfold pblk at h
      cases hp : plist k r (n + 1) (d + 1) [] with
      | none => rw [hp] at h; cases h
      | some q =>
        rw [hp] at h
        cases q with
        | error e => cases h
        | ok q =>
          obtain ⟨body, l1, n1⟩ := q
          obtain ⟨p1, e1, t1⟩ := ihl _ _ _ _ _ _ _ hgr hp
          simp only [toksL, List.nil_append] at t1
          cases l1 with
          | nil => cases h
          | cons u r2 =>
            dsimp only at h
            by_cases h7 : u.f0 = 7
            · rw [if_pos h7] at h
              by_cases h8 : t.f0 = 2
              case neg => rw [if_neg h8] at h; cases h
              rw [if_pos h8] at h
              have hu := (hgr u (by rw [e1]; simp)).1 h7
              cases hp2 : plist k r2 n1 (d + 1) [] with
              | none => rw [hp2] at h; cases h
              | some q =>
                rw [hp2] at h
                cases q with
                | error e => cases h
                | ok q =>
                  obtain ⟨els, r3, n3⟩ := q
                  obtain ⟨p2, e2, t2⟩ := ihl _ _ _ _ _ _ _ (fun v hv => hgr v (by rw [e1]; simp [hv])) hp2
                  simp only [toksL, List.nil_append] at t2
                  obtain ⟨t3, e3, k3, e4⟩ := hend _ _ _ _ _ (Option.some.inj h)
                  have h3 := (hgr t3 (by rw [e1, e2, e3]; simp)).2 k3
                  refine ⟨t :: (p1 ++ u :: (p2 ++ [t3])), by rw [e1, e2, e3]; simp, ?_⟩
                  rw [e4, toksN_eq]; dsimp only
                  rw [if_pos (show t.f0 = 2 ∨ t.f0 = 3 ∨ t.f0 = 6 from h5), t1, t2, if_pos rfl, ← hu, ← h3]
                  simp [keyT]
            · rw [if_neg h7] at h
              obtain ⟨t3, e3, k3, e4⟩ := hend _ _ _ _ _ (Option.some.inj h)
              have h3 := (hgr t3 (by rw [e1, e3]; simp)).2 k3
              refine ⟨t :: (p1 ++ [t3]), by rw [e1, e3]; simp, ?_⟩
              rw [e4, toksN_eq]; dsimp only
              rw [if_pos (show t.f0 = 2 ∨ t.f0 = 3 ∨ t.f0 = 6 from h5), t1, ← h3]
              simp [keyT]
theorem eqL_of : ∀ (n : Nat) (a b : List S39), SizeOf.sizeOf a < n → eqRL false a b = eqList a b
  | 0, a, b, h => absurd h (Nat.not_lt_zero _)
  | n + 1, [], [], h => by simp [eqRL, eqList]
  | n + 1, [], _ :: _, h => by simp [eqRL, eqList]
  | n + 1, _ :: _, [], h => by simp [eqRL, eqList]
  | n + 1, x :: xs, y :: ys, h => by
    simp only [List.cons.sizeOf_spec] at h
    have h6 := S39.size6 x
    have h7 := S39.size7 x
    rw [eqRL_cons, eqRN_eq, eqL_of n x.f6 y.f6 (by omega), eqL_of n x.f7 y.f7 (by omega), eqL_of n xs ys (by omega)]
    have e : eqList (x :: xs) (y :: ys) = (eqNode x y && eqList xs ys) := by simp [eqList]
    rw [e, eqNode_eq]
    unfold hdR
    simp [Bool.and_assoc]
theorem good_key {l l1 : List S28} (h : ∀ t ∈ l, GoodT t) (e : l1.map keyT = l.map keyT) : ∀ t ∈ l1, GoodT t := fun t ht => by
  have hm : keyT t ∈ l.map keyT := by rw [← e]; exact List.mem_map_of_mem ht
  obtain ⟨u, hu, hk⟩ := List.mem_map.1 hm
  have k0 : u.f0 = t.f0 := (keyT_eq hk).1
  obtain ⟨a, b⟩ := h u hu
  exact ⟨fun h7 => hk ▸ a (k0.trans h7), fun h8 => hk ▸ b (k0.trans h8)⟩
theorem fmt_key (x : T5) : (fmtT (keyT (tokS x))).data.toList = fmtD x.2 := by
  have := fmtTok_is x.2
  unfold fmtT keyT tokS
  dsimp only
  rw [this]
theorem fmtB_keys : ∀ (L : List T5), fmtB ((L.map tokS).map keyT) = fmtAll L
  | [] => rfl
  | x :: xs => by
    have h1 := fmtB_keys xs
    unfold fmtB fmtAll at h1 ⊢
    rw [List.map_cons, List.map_cons, List.flatMap_cons, List.flatMap_cons, fmt_key, h1]
theorem fmtD_small {L : List T5} {x : T5} (h : x ∈ L) : (fmtD x.2).length ≤ (fmtAll L).length := by
  induction L with
  | nil => cases h
  | cons y ys ih =>
    unfold fmtAll at ih ⊢
    rw [List.flatMap_cons, List.length_append]
    rcases List.mem_cons.1 h with rfl | h
    · omega
    · have := ih h; omega
theorem format_keys {L : List T5} {l : List S39} (ht : toksL l = (L.map tokS).map keyT) (hl : L.length ≤ 5000) (hb : (fmtAll L).length ≤ 5000) (hs : ∀ x ∈ L, x.2.2.1.length ≤ 5000 ∧ x.2.2.2.1.length ≤ 5000) :
    printer_Format.f l = some ⟨(fmtAll L).toArray⟩ := by
  unfold printer_Format.f
  rw [ht, fmtB_keys, if_pos]
  refine ⟨fun y hy => ?_, by simp only [List.length_map]; omega⟩
  rw [List.map_map] at hy
  obtain ⟨x, hx, rfl⟩ := List.mem_map.1 hy
  have h1 := hs x hx
  have h2 := fmtD_small hx
  have h3 : (fmtT (keyT (tokS x))).size = (fmtD x.2).length := by rw [← data_length, fmt_key]
  refine ⟨?_, ?_, ?_⟩
  · show (⟨x.2.2.1.toArray⟩ : ByteArray).size ≤ _
    rw [← data_length]; simp; omega
  · show (⟨x.2.2.2.1.toArray⟩ : ByteArray).size ≤ _
    rw [← data_length]; simp; omega
  · show (fmtT (keyT (tokS x))).size ≤ _
    omega
theorem trip (L : List T5) (l : List S39) (K : Nat) (n' : Int) (hc : CanT L) (hl : L.length ≤ 5000) (hb : (fmtAll L).length ≤ 5000) (hs : ∀ x ∈ L, x.2.2.1.length ≤ 5000 ∧ x.2.2.2.1.length ≤ 5000)
    (hp : plist K (L.map tokS) 0 0 [] = some (.ok (l, [], n'))) :
    ∃ (F : ByteArray) (l2 : List S39), printer_Format.f l = some F ∧ Ev (fun k => parse_Parse.f k F) (l2, (F.size : Int), 0) ∧ eqRL false l l2 = true ∧ printer_Format.f l2 = some F ∧ nL l ≤ 4096 := by
  have hg := canT_good L hc
  obtain ⟨pre, e1, t1⟩ := (toks_of K).1 _ _ _ _ _ _ _ hg hp
  rw [List.append_nil] at e1
  subst e1
  simp only [toksL, List.nil_append] at t1
  have hcn := (parse_cnt K).1 _ _ _ _ _ _ _ hp
  simp only [nL] at hcn
  have hn4 := hcn.2 (by decide)
  have hkey : ((retime 0 L).map tokS).map keyT = (L.map tokS).map keyT := by
    have e : ∀ M : List T5, (M.map tokS).map keyT = (M.map (·.2)).map fun d => (d.1, (⟨d.2.1.toArray⟩ : ByteArray), (⟨d.2.2.1.toArray⟩ : ByteArray), d.2.2.2) := fun M => by
      rw [List.map_map, List.map_map]; rfl
    rw [e, e, retime_parts]
  have hrl := relex _ L (Nat.le_refl _) hc 0
  have hFd : (⟨(fmtAll L).toArray⟩ : ByteArray).data.toList = fmtAll L := by simp
  have hFs : (⟨(fmtAll L).toArray⟩ : ByteArray).size = (fmtAll L).length := by rw [← data_length, hFd]
  have hlex : lexF ⟨(fmtAll L).toArray⟩ = ((retime 0 L).map tokS, ((⟨(fmtAll L).toArray⟩ : ByteArray).size : Int), 0) := by
    rw [lexF_small (by omega), hFd, hrl]
    rfl
  obtain ⟨ys, zs, l1', b1, b2, b3, b4, _, _⟩ := (same_key K).1 _ _ _ _ _ _ _ (by decide) hp ((retime 0 L).map tokS) 0 [] hkey (by decide) (by omega) (by simp only [List.length_nil, List.length_map, retime_len]; omega)
  rw [List.nil_append] at b1
  subst b1
  obtain rfl := key_nil b3
  rw [List.nil_append] at b2
  obtain ⟨ys2, zs2, l2', d1, d2, d3, d4, _, _⟩ := (same_key K).1 _ _ _ _ _ _ _ (by decide) b2 (L.map tokS) 0 [] hkey.symm (by decide) (by omega) (by simp only [List.length_nil, List.length_map]; omega)
  rw [List.nil_append] at d1
  subst d1
  rw [List.nil_append, hp] at d2
  have hz : l = zs2 := by
    have := Option.some.inj d2
    simp only [Except.ok.injEq, Prod.mk.injEq] at this
    exact this.1
  subst hz
  obtain ⟨pre2, e2, t2⟩ := (toks_of K).1 _ _ _ _ _ _ _ (good_key hg hkey) b2
  rw [List.append_nil] at e2
  subst e2
  simp only [toksL, List.nil_append] at t2
  refine ⟨⟨(fmtAll L).toArray⟩, zs, format_keys t1 hl hb hs, ?_, d4, format_keys (t2.trans hkey) hl hb hs, by omega⟩
  obtain ⟨K2, h2⟩ := Ev.up (fun k => (parser.mono k).1 _ _ _ _) b2
  refine ⟨K2, fun k hk => ?_⟩
  have := h2 k hk
  dsimp only at this ⊢
  unfold parse_Parse.f
  rw [hlex]
  dsimp only
  rw [if_pos rfl, this]
  rfl
theorem alive13_true : tmplpipelaw13_alive.f 120 = some true := by decide +kernel
theorem parsed_ev (s : ByteArray) : ∃ (l : List S39) (L : List T5) (K : Nat) (n' : Int), Ev (fun k => tmplpipelaw13_parsed.f k s) l ∧ CanT L ∧ L.length ≤ 5000 ∧ (fmtAll L).length ≤ 5000 ∧ (∀ x ∈ L, x.2.2.1.length ≤ 5000 ∧ x.2.2.2.1.length ≤ 5000) ∧ plist K (L.map tokS) 0 0 [] = some (.ok (l, [], n')) := by
  have none_ : Ev (fun k => tmplpipelaw13_parsed.f k s) [] → ∃ (l : List S39) (L : List T5) (K : Nat) (n' : Int), Ev (fun k => tmplpipelaw13_parsed.f k s) l ∧ CanT L ∧ L.length ≤ 5000 ∧ (fmtAll L).length ≤ 5000 ∧ (∀ x ∈ L, x.2.2.1.length ≤ 5000 ∧ x.2.2.2.1.length ≤ 5000) ∧ plist K (L.map tokS) 0 0 [] = some (.ok (l, [], n')) :=
    fun h => ⟨[], [], 1, 0, h, trivial, by simp, by simp [fmtAll], fun x hx => (by cases hx), plist_nil 0 0 0 []⟩
  by_cases hbig : (s.size : Int) > 5000
  · exact none_ (Ev.of (Ev.pure _) (fun k => by unfold tmplpipelaw13_parsed.f; exact if_pos hbig))
  obtain ⟨r, hr⟩ := parse_ev s
  have hq := parse_ref s (by omega) hr
  obtain ⟨K1, h1⟩ := hr
  have hone := h1 K1 (Nat.le_refl _)
  by_cases he : r.2.2 = 0
  case neg => exact none_ (Ev.of (f := fun k => (tmplpiperef12_Parse.f k s).bind fun b => if b.2.2 = 0 then some b.1 else some []) (Ev.bind hq (Ev.of (Ev.pure _) (fun _ => if_neg he))) (fun k => by unfold tmplpipelaw13_parsed.f; exact if_neg hbig))
  obtain ⟨L, n', hsz, hL, hp, _⟩ := parse_good hone he
  have hcan := lexS_canT _ 0 _ L (Nat.le_refl _) hL
  have hlen := lexS_len _ 0 _ L (Nat.le_refl _) hL
  rw [data_length] at hcan hlen
  exact ⟨r.1, L, K1, n', Ev.of (f := fun k => (tmplpiperef12_Parse.f k s).bind fun b => if b.2.2 = 0 then some b.1 else some []) (Ev.bind hq (Ev.of (Ev.pure _) (fun _ => if_pos he))) (fun k => by unfold tmplpipelaw13_parsed.f; exact if_neg hbig),
    hcan.1, by omega, by have := hcan.2; omega, fun x hx => lexS_small 5000 _ 0 _ L (Nat.le_refl _) (by rw [data_length]; omega) hL x hx, hp⟩
theorem printerRoundTrip_pure : tmplpipelaw13_PrinterRoundTrip.Pure := by
  intro s hs
  obtain ⟨l, L, K, n', ⟨K1, h1⟩, hc, hl, hb, hsm, hp⟩ := parsed_ev s
  obtain ⟨F, l2, f1, ⟨K2, h2⟩, he, f2, hn⟩ := trip L l K n' hc hl hb hsm hp
  obtain ⟨K3, h3⟩ := Ev.up (tmplpipelaw13_alive.mono ·) alive13_true
  obtain ⟨K4, h4⟩ := ref12_equal _ l (Nat.lt_succ_self _) l2 false (by omega)
  rw [he] at h4
  dsimp only at h1 h2 h3 h4
  refine ⟨K1 + K2 + K3 + K4, ?_⟩
  have heq : printer_Equal.f l l2 = some true := by unfold printer_Equal.f; rw [← eqL_of _ l l2 (Nat.lt_succ_self _), he]
  unfold tmplpipelaw13_PrinterRoundTrip.f
  rw [h1 _ (by omega), Option.bind_some, f1, Option.bind_some, h2 _ (by omega), Option.bind_some, h3 _ (by omega), Option.bind_some, if_pos rfl, if_pos rfl, if_pos rfl, h4 _ (by omega), Option.bind_some, if_pos rfl, heq, Option.bind_some, if_pos rfl, f2, Option.bind_some]
  simp
end Go.Proofs.YtgdpojleejdfaaaDoor.Px
namespace Go.Proofs.YtgdpojleejdfaaaDoor.Pure
theorem PrinterRoundTrip : Px.tmplpipelaw13_PrinterRoundTrip.Pure := Px.printerRoundTrip_pure
end Go.Proofs.YtgdpojleejdfaaaDoor.Pure
