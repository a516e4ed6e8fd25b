import Derived.Test.YtkpnfejfbmandaaDoorPLNc
/- Blocks may be nested up to MaxNest (the plain law). -/
namespace Go.Proofs.YtkpnfejfbmandaaDoor.Px
open Go.RowKit Go.Proofs.YtkpnfejfbmandaaDoorW.PrintWords Go.Proofs.YtkpnfejfbmandaaDoorW.PrintLast Go.Proofs.YtkpnfejfbmandaaDoorW.PrintMore
set_option linter.unusedVariables false
set_option linter.unusedSimpArgs false
/-- A directive in its braces. -/
def brac (u : List UInt8) : List UInt8 := 123 :: 123 :: (u ++ [125, 125])
/-- The same directive k times: its tokens. -/
def repT (m : Nat) (d : T4) : Nat → Nat → List T5
  | 0, _ => []
  | k + 1, p => (p, d) :: repT m d k (p + m)
theorem lexS_rep {u : List UInt8} {d : T4} (hu : noPair 125 (u ++ [125])) (hd : dirF (fieldsG u []) = (0, d)) {tail : List UInt8} {l : List T5} : ∀ (k p : Nat), lexS (p + (u.length + 4) * k) tail = .ok l →
    lexS p (Lib.repeatL (brac u) k ++ tail) = .ok (repT (u.length + 4) d k p ++ l)
  | 0, p, h => h
  | k + 1, p, h => by
    have ih := lexS_rep hu hd k (p + (u.length + 4)) (by rw [← h]; congr 1; rw [Nat.mul_succ]; omega)
    have e : Lib.repeatL (brac u) (k + 1) ++ tail = [] ++ 123 :: 123 :: (u ++ 125 :: 125 :: (Lib.repeatL (brac u) k ++ tail)) := by simp [Lib.repeatL, brac]
    rw [e, lexS_dir (by simp [noPair]) hu, hd]
    dsimp only
    rw [if_pos rfl, show p + ([] : List UInt8).length + u.length + 4 = p + (u.length + 4) from by simp; omega, ih]
    rfl
/-- A text of one sign ahead of them. -/
theorem lexS_xrep {c : UInt8} (hc : c ≠ 123) {u : List UInt8} {d : T4} (hu : noPair 125 (u ++ [125])) (hd : dirF (fieldsG u []) = (0, d)) (k p : Nat) :
    lexS p (c :: Lib.repeatL (brac u) k) = .ok ((p, 0, [c], [], false) :: repT (u.length + 4) d k (p + 1)) := by
  cases k with
  | zero => rw [show Lib.repeatL (brac u) 0 = [] from rfl, lexS_text (by simp [noPair])]; rfl
  | succ k =>
    have ih := lexS_rep hu hd (tail := []) (l := []) k (p + 1 + (u.length + 4)) (lexS_text (s := []) trivial)
    have e : c :: Lib.repeatL (brac u) (k + 1) = [c] ++ 123 :: 123 :: (u ++ 125 :: 125 :: (Lib.repeatL (brac u) k ++ [])) := by simp [Lib.repeatL, brac]
    rw [e, lexS_dir (by simp [noPair, hc]) hu, hd]
    dsimp only
    rw [if_pos rfl, show p + [c].length + u.length + 4 = p + 1 + (u.length + 4) from by simp; omega, ih]
    simp [txtT, repT]
theorem repT_get {m : Nat} {d : T4} : ∀ (k p j : Nat), j < k → (repT m d k p)[j]? = some (p + m * j, d)
  | k + 1, p, 0, _ => by simp [repT]
  | k + 1, p, j + 1, h => by
    have := repT_get (m := m) (d := d) k (p + m) j (by omega)
    rw [repT, List.getElem?_cons_succ, this, Nat.mul_succ]
    congr 2; omega
theorem repT_len {m : Nat} {d : T4} : ∀ (k p : Nat), (repT m d k p).length = k
  | 0, p => rfl
  | k + 1, p => by rw [repT, List.length_cons, repT_len]
theorem repT_mem {m : Nat} {d : T4} {x : T5} : ∀ (k p : Nat), x ∈ repT m d k p → x.2 = d
  | 0, p, h => by simp [repT] at h
  | k + 1, p, h => by
    rw [repT] at h
    rcases List.mem_cons.1 h with rfl | h
    · rfl
    · exact repT_mem k (p + m) h
def opens2 (O : List S76) : Prop := ∀ t ∈ O, t.f0 = 2 ∨ t.f0 = 3
theorem opk2 {t : S76} (h : t.f0 = 2 ∨ t.f0 = 3) : opK t.f0 ∧ ¬ (t.f0 = 7 ∨ t.f0 = 8) ∧ ∀ d : Int, ¬ (t.f0 = 6 ∧ d > 0) := by
  rcases h with h | h <;> (rw [h]; refine ⟨by simp [opK], by decide, fun d => by rintro ⟨h, -⟩; exact absurd h (by decide)⟩)
theorem plist_open {t : S76} (h : t.f0 = 2 ∨ t.f0 = 3) (k : Nat) (r : List S76) (n d : Int) (h0 : 0 ≤ n ∧ 0 ≤ d) :
    plist (k + 2) (t :: r) n d [] = if d ≥ 32 then some (.error (t.f1, 13)) else if n ≥ 4096 then some (.error (t.f1, 14)) else
      match pblk k t r (n + 1) d with
      | none => none
      | some (.error e) => some (.error e)
      | some (.ok (x, r', n')) => plist (k + 1) r' n' d [x] := by
  obtain ⟨ho, h78, h6⟩ := opk2 h
  rw [plist_cons, if_pos (by simp), if_neg h78, pnode_eq, if_pos h0, if_neg (h6 d)]
  by_cases hd : d ≥ 32
  · rw [if_pos ⟨ho, hd⟩, if_pos hd]
  rw [if_neg (fun q => hd q.2), if_neg hd]
  by_cases hn : n ≥ 4096
  · rw [if_pos hn, if_pos hn]
  rw [if_neg hn, if_neg hn, if_pos ho]
  rfl
theorem nest_good : ∀ (O E rest : List S76) (x : S76) (n d : Int), opens2 O → E.length = O.length → (∀ t ∈ E, t.f0 = 8) → (∀ t ∈ rest.head?, t.f0 = 8) → x.f0 = 0 → 0 ≤ n → 0 ≤ d → d + O.length ≤ 32 → n + O.length + 1 ≤ 4096 →
    ∃ y, Ev (fun k => plist k (O ++ x :: (E ++ rest)) n d []) (.ok ([y], rest, n + O.length + 1)) ∧ cntN y = O.length + 1 ∧ nstN y = O.length ∧ nN y = O.length + 1 := by
  intro O
  induction O with
  | nil =>
    intro E rest x n d _ hE hE8 hr hx h0 h1 h2 h3
    obtain rfl : E = [] := List.length_eq_zero_iff.1 hE
    refine ⟨⟨x.f0, x.f1, x.f2, x.f3, x.f4, false, [], []⟩, ⟨2, fun k hk => ?_⟩, ?_, ?_, by rw [nN_eq]; simp [nL]⟩
    · obtain ⟨k, rfl⟩ : ∃ i, k = i + 2 := ⟨k - 2, by omega⟩
      show plist (k + 2) (x :: rest) n d [] = _
      simp only [List.length_nil, Int.natCast_zero] at h2 h3
      have no : ¬ opK x.f0 := by rw [hx]; simp [opK]
      rw [plist_cons, if_pos (by simp), if_neg (by rw [hx]; decide), pnode_eq, if_pos ⟨h0, h1⟩, if_neg (by rw [hx]; rintro ⟨q, -⟩; exact absurd q (by decide)), if_neg (fun q => no q.1), if_neg (by omega), if_neg no]
      dsimp only
      cases rest with
      | nil => rw [plist_nil]; simp
      | cons t r => rw [plist_cons, if_pos (by simp), if_pos (.inr (hr t (by simp)))]; simp
    · rw [cntN_eq]; simp [hx]
    · rw [nstN_eq]; simp [hx]
  | cons t O ih =>
    intro E rest x n d hO hE hE8 hr hx h0 h1 h2 h3
    rcases List.eq_nil_or_concat E with rfl | ⟨E, e, rfl⟩
    · simp at hE
    simp only [List.length_cons, List.concat_eq_append, List.length_append, List.length_nil] at hE h2 h3
    have he8 : e.f0 = 8 := hE8 e (by simp)
    have ht := hO t (by simp)
    obtain ⟨y, ⟨K, hK⟩, hc, hs, hn⟩ := ih E (e :: rest) x (n + 1) (d + 1) (fun t h => hO t (List.mem_cons_of_mem _ h)) (by omega) (fun t h => hE8 t (by simp [h])) (fun t h => by simp at h; rw [← h]; exact he8) hx (by omega) (by omega) (by omega) (by omega)
    refine ⟨⟨t.f0, t.f1, t.f2, t.f3, t.f4, false, [y], []⟩, ⟨K + 2, fun k hk => ?_⟩, ?_, ?_, by rw [nN_eq]; dsimp only; rw [nL_one, hn, List.length_cons]; simp [nL]; omega⟩
    · obtain ⟨k, rfl⟩ : ∃ i, k = i + 2 := ⟨k - 2, by omega⟩
      have hk2 := hK k (by omega)
      dsimp only at hk2 ⊢
      rw [show t :: O ++ x :: (E.concat e ++ rest) = t :: (O ++ x :: (E ++ e :: rest)) by simp, plist_open ht _ _ _ _ ⟨h0, h1⟩, if_neg (by omega), if_neg (by omega)]
      unfold pblk
      rw [hk2]
      dsimp only
      rw [if_neg (by rw [he8]; decide)]
      dsimp only [endB]
      rw [if_pos he8]
      dsimp only
      cases rest with
      | nil => rw [plist_nil]; simp; omega
      | cons t r => rw [plist_cons, if_pos (by simp), if_pos (.inr (hr t (by simp)))]; simp; omega
    · rw [cntN_eq]
      have e1 : cntL [y] = O.length + 1 := by rw [cntL_cons, hc]; simp [cntL]
      have e2 : cntL ([] : List S78) = 0 := by simp [cntL]
      dsimp only
      rcases ht with q | q
      · rw [if_pos q, e1, e2, List.length_cons]; omega
      · rw [if_neg (by rw [q]; decide), if_pos (.inl q), e1, List.length_cons]; omega
    · rw [nstN_eq]
      have e1 : nstL [y] = O.length := by rw [nstL_cons, hs]; simp [nstL]
      have e2 : nstL ([] : List S78) = 0 := by simp [nstL]
      dsimp only
      rcases ht with q | q
      · rw [if_pos q, e1, e2, List.length_cons]; omega
      · rw [if_neg (by rw [q]; decide), if_pos (.inl q), e1, List.length_cons]; omega
/-- Too deep. -/
theorem nest_deep : ∀ (j : Nat) (O tail : List S76) (t : S76) (n d : Int), opens2 O → O[j]? = some t → 0 ≤ n → 0 ≤ d → d + j = 32 → n + j ≤ 4096 →
    Ev (fun k => plist k (O ++ tail) n d []) (.error (t.f1, 13)) := by
  intro j
  induction j with
  | zero =>
    intro O tail t n d hO hj h0 h1 h2 h3
    cases O with
    | nil => simp at hj
    | cons t0 O =>
      obtain rfl : t0 = t := by simpa using hj
      refine ⟨2, fun k hk => ?_⟩
      obtain ⟨k, rfl⟩ : ∃ i, k = i + 2 := ⟨k - 2, by omega⟩
      show plist (k + 2) (t0 :: (O ++ tail)) n d [] = _
      rw [plist_open (hO _ (by simp)) _ _ _ _ ⟨h0, h1⟩, if_pos (by omega)]
  | succ j ih =>
    intro O tail t n d hO hj h0 h1 h2 h3
    cases O with
    | nil => simp at hj
    | cons t0 O =>
      obtain ⟨K, hK⟩ := ih O tail t (n + 1) (d + 1) (fun t h => hO t (List.mem_cons_of_mem _ h)) (by simpa using hj) (by omega) (by omega) (by omega) (by omega)
      refine ⟨K + 2, fun k hk => ?_⟩
      obtain ⟨k, rfl⟩ : ∃ i, k = i + 2 := ⟨k - 2, by omega⟩
      have hk2 := hK k (by omega)
      dsimp only at hk2 ⊢
      rw [List.cons_append, plist_open (hO _ (by simp)) _ _ _ _ ⟨h0, h1⟩, if_neg (by omega), if_neg (by omega)]
      unfold pblk
      rw [hk2]
/-- Never closed. -/
theorem nest_cut : ∀ (j : Nat) (O : List S76) (t : S76) (n d : Int), opens2 O → O.length = j + 1 → O[j]? = some t → 0 ≤ n → 0 ≤ d → d + O.length ≤ 32 → n + O.length ≤ 4096 →
    Ev (fun k => plist k O n d []) (.error (t.f1, 7)) := by
  intro j
  induction j with
  | zero =>
    intro O t n d hO hl hj h0 h1 h2 h3
    obtain ⟨t0, rfl⟩ := List.length_eq_one_iff.1 hl
    obtain rfl : t0 = t := by simpa using hj
    refine ⟨3, fun k hk => ?_⟩
    obtain ⟨k, rfl⟩ : ∃ i, k = i + 1 + 2 := ⟨k - 3, by omega⟩
    show plist (k + 1 + 2) (t0 :: []) n d [] = _
    simp only [List.length_cons, List.length_nil] at h2 h3
    rw [plist_open (hO _ (by simp)) _ _ _ _ ⟨h0, h1⟩, if_neg (by omega), if_neg (by omega)]
    unfold pblk
    rw [plist_nil]
  | succ j ih =>
    intro O t n d hO hl hj h0 h1 h2 h3
    cases O with
    | nil => simp at hj
    | cons t0 O =>
      simp only [List.length_cons] at h2 h3 hl
      obtain ⟨K, hK⟩ := ih O t (n + 1) (d + 1) (fun t h => hO t (List.mem_cons_of_mem _ h)) (by omega) (by simpa using hj) (by omega) (by omega) (by omega) (by omega)
      refine ⟨K + 2, fun k hk => ?_⟩
      obtain ⟨k, rfl⟩ : ∃ i, k = i + 2 := ⟨k - 2, by omega⟩
      have hk2 := hK k (by omega)
      dsimp only at hk2 ⊢
      rw [plist_open (hO _ (by simp)) _ _ _ _ ⟨h0, h1⟩, if_neg (by omega), if_neg (by omega)]
      unfold pblk
      rw [hk2]
/-- What Parse answers where the tokens are known. -/
theorem parse_toks {b : List UInt8} {l : List T5} (hb : b.length ≤ 65536) (hl : lexS 0 b = .ok l) {res : PA (List S78)} (h : Ev (fun k => plist k (l.map tokS) 0 0 []) res) :
    Ev (fun k => parse_Parse.f k ⟨b.toArray⟩) (parseR ⟨b.toArray⟩ res) := by
  have hbd : (⟨b.toArray⟩ : ByteArray).data.toList = b := by simp
  have hbs : (⟨b.toArray⟩ : ByteArray).size = b.length := by rw [← data_length, hbd]
  have hlex : lexF ⟨b.toArray⟩ = (l.map tokS, ((⟨b.toArray⟩ : ByteArray).size : Int), 0) := by
    rw [lexF_small (by omega), hbd, hl]; rfl
  obtain ⟨K, hK⟩ := h
  refine ⟨K, fun j hj => ?_⟩
  have := hK j hj
  dsimp only at this ⊢
  unfold parse_Parse.f
  rw [hlex]
  dsimp only
  rw [if_pos rfl, this]; rfl
theorem repS_kind {m k p : Nat} {d : T4} {t : S76} (h : t ∈ (repT m d k p).map tokS) : t.f0 = d.1 := by
  obtain ⟨x, hx, rfl⟩ := List.mem_map.1 h
  show x.2.1 = _
  rw [repT_mem k p hx]
theorem brac_len (u : List UInt8) : (brac u).length = u.length + 4 := by simp [brac]
def endU : List UInt8 := [101, 110, 100]
theorem end_dir : dirF (fieldsG endU []) = (0, 8, [], [], false) := by decide
/-- The four answers that the law looks at. -/
structure NestLaw (u : List UInt8) (k : Nat) : Prop where
  good : k ≤ 32 → ∃ l : List S78, Ev (fun j => parse_Parse.f j ⟨(Lib.repeatL (brac u) k ++ 120 :: Lib.repeatL (brac endU) k).toArray⟩) (l, (((u.length + 4) * k + 1 + 7 * k : Nat) : Int), 0) ∧ cntL l = k + 1 ∧ nstL l = k ∧ nL l = k + 1
  deep : 32 < k → Ev (fun j => parse_Parse.f j ⟨(Lib.repeatL (brac u) k ++ 120 :: Lib.repeatL (brac endU) k).toArray⟩) ([], (((u.length + 4) * 32 : Nat) : Int), 13)
  cut : k < 32 → Ev (fun j => parse_Parse.f j ⟨(Lib.repeatL (brac u) (k + 1)).toArray⟩) ([], (((u.length + 4) * k : Nat) : Int), 7)
  cut2 : k = 32 → Ev (fun j => parse_Parse.f j ⟨(Lib.repeatL (brac u) (k + 1)).toArray⟩) ([], (((u.length + 4) * 32 : Nat) : Int), 13)
  inner : Ev (fun j => parse_Parse.f j ⟨(brac u ++ brac [100, 101, 102, 105, 110, 101, 32, 102] ++ brac endU ++ brac endU).toArray⟩) ([], ((u.length + 4 : Nat) : Int), 13)
theorem nest_law {u : List UInt8} {d : T4} (hu : noPair 125 (u ++ [125])) (hd : dirF (fieldsG u []) = (0, d)) (hk : d.1 = 2 ∨ d.1 = 3) (hul : u.length ≤ 8) (k : Nat) (hk39 : k ≤ 39) : NestLaw u k := by
  have hO : ∀ k p, opens2 ((repT (u.length + 4) d k p).map tokS) := fun k p t ht => by rw [repS_kind ht]; exact hk
  have hE : noPair 125 (endU ++ [125]) := by simp [noPair, endU]
  have hlen : (Lib.repeatL (brac u) k ++ 120 :: Lib.repeatL (brac endU) k).length = (u.length + 4) * k + 1 + 7 * k := by
    rw [List.length_append, List.length_cons, Lib.repeatL_length, Lib.repeatL_length, brac_len, brac_len, show endU.length = 3 from rfl, Nat.mul_comm]; omega
  have hlen2 : (Lib.repeatL (brac u) (k + 1)).length = (u.length + 4) * (k + 1) := by
    rw [Lib.repeatL_length, brac_len, Nat.mul_comm]
  have hm : (u.length + 4) * k ≤ 12 * 39 := Nat.mul_le_mul (by omega) hk39
  have hm2 : (u.length + 4) * (k + 1) ≤ 12 * 40 := Nat.mul_le_mul (by omega) (by omega)
  have hlex := lexS_rep hu hd k 0 (lexS_xrep (c := 120) (by decide) hE end_dir k (0 + (u.length + 4) * k))
  have hlex2 := lexS_rep hu hd (tail := []) (l := []) (k + 1) 0 (lexS_text (s := []) trivial)
  rw [List.append_nil, List.append_nil] at hlex2
  have hget : ∀ k j, j < k → ((repT (u.length + 4) d k 0).map tokS)[j]? = some (tokS ((u.length + 4) * j, d)) := fun k j h => by
    rw [List.getElem?_map, repT_get k 0 j h, Nat.zero_add]; rfl
  have hOl : ∀ k p, ((repT (u.length + 4) d k p).map tokS).length = k := fun k p => by rw [List.length_map, repT_len]
  refine ⟨fun h => ?_, fun h => ?_, fun h => ?_, fun h => ?_, ?_⟩
  · obtain ⟨y, hy, hc, hs, hn⟩ := nest_good ((repT (u.length + 4) d k 0).map tokS) ((repT (endU.length + 4) (8, [], [], false) k (0 + (u.length + 4) * k + 1)).map tokS) [] (tokS (0 + (u.length + 4) * k, 0, [120], [], false)) 0 0 (hO _ _)
      (by rw [hOl, List.length_map, repT_len]) (fun t ht => repS_kind ht) (fun t ht => by simp at ht) rfl (Int.le_refl _) (Int.le_refl _) (by rw [hOl]; omega) (by rw [hOl]; omega)
    rw [hOl] at hc hs hn hy
    rw [List.append_nil] at hy
    refine ⟨[y], ?_, by rw [cntL_cons, hc]; simp [cntL], by rw [nstL_cons, hs]; simp [nstL], by rw [nL_one, hn]⟩
    have q := parse_toks (by rw [hlen]; omega) hlex (res := .ok ([y], [], (0 : Int) + k + 1)) (by simpa [List.map_append] using hy)
    have e : parseR ⟨(Lib.repeatL (brac u) k ++ 120 :: Lib.repeatL (brac endU) k).toArray⟩ (.ok ([y], [], (0 : Int) + k + 1)) = ([y], (((u.length + 4) * k + 1 + 7 * k : Nat) : Int), 0) := by
      show ([y], ((⟨(Lib.repeatL (brac u) k ++ 120 :: Lib.repeatL (brac endU) k).toArray⟩ : ByteArray).size : Int), (0 : Int)) = _
      rw [← hlen, ← data_length]
    rw [e] at q
    exact q
  · refine parse_toks (by rw [hlen]; omega) hlex (res := .error ((((u.length + 4) * 32 : Nat) : Int), 13)) ?_
    rw [List.map_append]
    exact nest_deep 32 _ _ (tokS ((u.length + 4) * 32, d)) 0 0 (hO _ _) (hget k 32 h) (Int.le_refl _) (Int.le_refl _) (by omega) (by omega)
  · refine parse_toks (by rw [hlen2]; omega) hlex2 (res := .error ((((u.length + 4) * k : Nat) : Int), 7)) ?_
    exact nest_cut k _ (tokS ((u.length + 4) * k, d)) 0 0 (hO _ _) (hOl _ _) (hget (k + 1) k (by omega)) (Int.le_refl _) (Int.le_refl _) (by rw [hOl]; omega) (by rw [hOl]; omega)
  · refine parse_toks (by rw [hlen2]; omega) hlex2 (res := .error ((((u.length + 4) * 32 : Nat) : Int), 13)) ?_
    rw [← List.append_nil (List.map tokS _)]
    exact nest_deep 32 _ _ (tokS ((u.length + 4) * 32, d)) 0 0 (hO _ _) (hget (k + 1) 32 (by omega)) (Int.le_refl _) (Int.le_refl _) (by omega) (by omega)
  · have hdf : dirF (fieldsG [100, 101, 102, 105, 110, 101, 32, 102] []) = (0, 6, [102], [], false) := by decide
    have l1 := lexS_rep hE end_dir (tail := []) (l := []) 2 (0 + (u.length + 4) * 1 + 12 * 1) (lexS_text (s := []) trivial)
    have l2 := lexS_rep (u := [100, 101, 102, 105, 110, 101, 32, 102]) (by simp [noPair]) hdf 1 (0 + (u.length + 4) * 1) l1
    have l3 := lexS_rep hu hd 1 0 l2
    refine parse_toks (by simp [brac_len, endU]; omega) (by simpa [Lib.repeatL] using l3) (res := .error (((u.length + 4 : Nat) : Int), 13)) ?_
    refine ⟨4, fun k hk4 => ?_⟩
    obtain ⟨k, rfl⟩ : ∃ i, k = i + 2 + 2 := ⟨k - 4, by omega⟩
    simp only [repT, List.map_append, List.map_cons, List.map_nil, List.cons_append, List.nil_append]
    rw [plist_open (t := tokS (0, d)) hk _ _ _ _ ⟨Int.le_refl _, Int.le_refl _⟩, if_neg (by omega), if_neg (by omega)]
    unfold pblk
    rw [plist_cons, if_pos (by simp), if_neg (by show ¬ ((6 : Int) = 7 ∨ (6 : Int) = 8); decide), pnode_eq, if_pos (by omega), if_pos ⟨rfl, by omega⟩]
    simp [tokS]
theorem if_law (k : Nat) (h : k ≤ 39) : NestLaw [105, 102, 32, 46, 97] k := nest_law (d := (2, [], [97], true)) (by simp [noPair]) (by decide) (.inl rfl) (by decide) k h
theorem range_law (k : Nat) (h : k ≤ 39) : NestLaw [114, 97, 110, 103, 101, 32, 46, 97] k := nest_law (d := (3, [], [97], true)) (by simp [noPair]) (by decide) (.inr rfl) (by decide) k h
end Go.Proofs.YtkpnfejfbmandaaDoor.Px
