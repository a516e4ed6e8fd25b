import Derived.Test.YtgdpojleejdfaaaDoorPOPt
import Derived.Test.YtgdpojleejdfaaaDoorPOQa1
import Derived.Test.YtgdpojleejdfaaaDoorPOPx0
import Derived.Test.YtgdpojleejdfaaaDoorPOEq
/- Plain laws: rounds; the number of nodes; the reference's Equal; what Parse answers. -/
namespace Go.Proofs.YtgdpojleejdfaaaDoor.Px
open Go.RowKit Go.Proofs.YtgdpojleejdfaaaDoorW.PrintWords Go.Proofs.YtgdpojleejdfaaaDoorW.PrintLast Go.Proofs.YtgdpojleejdfaaaDoorW.PrintMore
set_option linter.unusedVariables false
set_option linter.unusedSimpArgs false
/-- From some round on it tells this. -/
def Ev {α : Type} (f : Nat → Option α) (v : α) : Prop := ∃ K, ∀ k, K ≤ k → f k = some v
theorem Ev.up {α : Type} {f : Nat → Option α} (hm : ∀ k, LeO (f k) (f (k + 1))) {v : α} {K : Nat} (h : f K = some v) : Ev f v := by
  refine ⟨K, fun k hk => ?_⟩
  induction hk with
  | refl => exact h
  | step _ ih => exact hm _ _ ih
theorem Ev.pure {α : Type} (v : α) : Ev (fun _ => some v) v := ⟨0, fun _ _ => rfl⟩
theorem Ev.bind {α β : Type} {f : Nat → Option α} {v : α} {g : Nat → α → Option β} {r : β} (h : Ev f v) (k : Ev (fun n => g n v) r) : Ev (fun n => (f n).bind (g n)) r := by
  obtain ⟨K, hK⟩ := h
  obtain ⟨L, hL⟩ := k
  exact ⟨max K L, fun n hn => by show (f n).bind (g n) = _; rw [hK n (by omega)]; exact hL n (by omega)⟩
theorem Ev.shift {α : Type} {f g : Nat → Option α} {v : α} (h : Ev f v) (e : ∀ k, g (k + 1) = f k) : Ev g v := by
  obtain ⟨K, hK⟩ := h
  exact ⟨K + 1, fun n hn => by
    obtain ⟨n, rfl⟩ : ∃ m, n = m + 1 := ⟨n - 1, by omega⟩
    rw [e]; exact hK n (by omega)⟩
theorem Ev.of {α : Type} {f g : Nat → Option α} {v : α} (h : Ev f v) (e : ∀ k, g k = f k) : Ev g v := by
  obtain ⟨K, hK⟩ := h
  exact ⟨K, fun n hn => by rw [e]; exact hK n hn⟩
theorem Ev.one {α : Type} {f : Nat → Option α} {v : α} (h : Ev f v) : ∃ k, f k = some v := h.imp fun K hK => hK K (Nat.le_refl _)
mutual
def nL : List S39 → Nat
  | [] => 0
  | x :: xs => nN x + nL xs
def nN : S39 → Nat
  | ⟨_, _, _, _, _, _, b, l⟩ => 1 + nL b + nL l
end
theorem nN_eq (x : S39) : nN x = 1 + nL x.f6 + nL x.f7 := by cases x; simp [nN]
theorem nL_cons (x : S39) (xs : List S39) : nL (x :: xs) = nN x + nL xs := by simp [nL]
theorem nL_len : ∀ l : List S39, l.length ≤ nL l
  | [] => by simp [nL]
  | x :: xs => by have := nL_len xs; rw [nL_cons, nN_eq, List.length_cons]; omega
theorem nL_mem : ∀ (l : List S39) (x : S39), x ∈ l → nN x ≤ nL l
  | y :: ys, x, h => by
    rw [nL_cons]
    rcases List.mem_cons.1 h with rfl | h
    · omega
    · have := nL_mem ys x h; omega
theorem nL_append : ∀ (xs ys : List S39), nL (xs ++ ys) = nL xs + nL ys
  | [], ys => by simp [nL]
  | x :: xs, ys => by rw [List.cons_append, nL_cons, nL_cons, nL_append xs ys]; omega
theorem nL_one (x : S39) : nL [x] = nN x := by rw [nL_cons]; simp [nL]
/-- Nodes of what is parsed. -/
theorem parse_cnt : ∀ k, (∀ l n d out o l' n', plist k l n d out = some (.ok (o, l', n')) → n' = n + (nL o : Int) - nL out ∧ (n ≤ 4096 → n' ≤ 4096)) ∧
    (∀ t r n d x l' n', pnode k t r n d = some (.ok (x, l', n')) → n' = n + (nN x : Int) ∧ (n ≤ 4096 → n' ≤ 4096))
  | 0 => ⟨fun l n d out o l' n' h => by simp [plist] at h, fun t r n d x l' n' h => by simp [pnode] at h⟩
  | k + 1 => by
    obtain ⟨ihl, ihn⟩ := parse_cnt k
    refine ⟨?_, ?_⟩
    · intro l n d out o l' n' h
      cases l with
      | nil => rw [plist_nil] at h; cases h; exact ⟨by omega, fun h => h⟩
      | cons t r =>
        rw [plist_cons] at h
        by_cases h1 : out.length < 100000
        case neg => rw [if_neg h1] at h; cases h
        rw [if_pos h1] at h
        by_cases h2 : t.f0 = 7 ∨ t.f0 = 8
        · rw [if_pos h2] at h; cases h; exact ⟨by omega, fun h => h⟩
        rw [if_neg h2] at h
        cases hp : pnode k t r n d with
        | none => rw [hp] at h; cases h
        | some x =>
          rw [hp] at h
          cases x with
          | error e => cases h
          | ok q =>
            obtain ⟨x, r', n1⟩ := q
            obtain ⟨a1, a2⟩ := ihn _ _ _ _ _ _ _ hp
            obtain ⟨b1, b2⟩ := ihl _ _ _ _ _ _ _ h
            rw [nL_append, nL_one] at b1
            exact ⟨by omega, fun h => b2 (a2 h)⟩
    · intro t r n d x l' n' h
      rw [pnode_eq] at h
      by_cases h1 : 0 ≤ n ∧ 0 ≤ d
      case neg => rw [if_neg h1] at h; cases h
      rw [if_pos h1] at h
      by_cases h2 : t.f0 = 6 ∧ d > 0
      · rw [if_pos h2] at h; cases h
      rw [if_neg h2] at h
      by_cases h3 : opK t.f0 ∧ d ≥ 32
      · rw [if_pos h3] at h; cases h
      rw [if_neg h3] at h
      by_cases h4 : n ≥ 4096
      · rw [if_pos h4] at h; cases h
      rw [if_neg h4] at h
      by_cases h5 : opK t.f0
      case neg =>
        rw [if_neg h5] at h; cases h
        refine ⟨?_, fun _ => by omega⟩
        rw [nN_eq]; simp [nL]
      rw [if_pos h5] at h
      have hend : ∀ (hh : Bool) (body els : List S39) (l1 : List S28) (n1 : Int), endB t hh body els l1 n1 = .ok (x, l', n') → n' = n1 ∧ nN x = 1 + nL body + nL els := by
        intro hh body els l1 n1 e
        cases l1 with
        | nil => cases e
        | cons t3 r4 =>
          simp only [endB] at e
          by_cases h8 : t3.f0 = 8
          · rw [if_pos h8] at e; cases e; exact ⟨rfl, by rw [nN_eq]⟩
          · rw [if_neg h8] at e; cases e
      unfold pblk at h
      cases hp : plist k r (n + 1) (d + 1) [] with
      | none => rw [hp] at h; cases h
      | some q =>
        rw [hp] at h
        cases q with
        | error e => cases h
        | ok q =>
          obtain ⟨body, l1, n1⟩ := q
          obtain ⟨a1, a2⟩ := ihl _ _ _ _ _ _ _ hp
          cases l1 with
          | nil => cases h
          | cons t1 r2 =>
            dsimp only at h
            by_cases h7 : t1.f0 = 7
            · rw [if_pos h7] at h
              by_cases h8 : t.f0 = 2
              case neg => rw [if_neg h8] at h; cases h
              rw [if_pos h8] at h
              cases hp2 : plist k r2 n1 (d + 1) [] with
              | none => rw [hp2] at h; cases h
              | some q =>
                rw [hp2] at h
                cases q with
                | error e => cases h
                | ok q =>
                  obtain ⟨els, r3, n3⟩ := q
                  obtain ⟨b1, b2⟩ := ihl _ _ _ _ _ _ _ hp2
                  obtain ⟨c1, c2⟩ := hend _ _ _ _ _ (Option.some.inj h)
                  simp only [nL] at a1 b1
                  exact ⟨by omega, fun _ => by rw [c1]; exact b2 (a2 (by omega))⟩
            · rw [if_neg h7] at h
              obtain ⟨c1, c2⟩ := hend _ _ _ _ _ (Option.some.inj h)
              simp only [nL] at a1 c2
              exact ⟨by omega, fun _ => by rw [c1]; exact a2 (by omega)⟩
theorem lexS_len : ∀ (n p : Nat) (s : List UInt8) (l : List T5), s.length ≤ n → lexS p s = .ok l → l.length ≤ s.length
  | n, p, s, l, hn, e => by
    cases way s with
    | text _ h =>
      rw [lexS_text h] at e; cases e
      unfold txtT; split
      · simp
      · rename_i h0; have := List.length_pos_iff.2 h0; show 1 ≤ _; omega
    | open_ t r h hr => rw [lexS_open h hr] at e; cases e
    | dir t u r h hu =>
      obtain ⟨dd, l', hd, hl', rfl⟩ := lexS_dirOk h hu e
      cases n with
      | zero => simp at hn
      | succ n =>
        have := lexS_len n _ r l' (by simp at hn; omega) hl'
        have h2 : (txtT p t).length ≤ t.length := by
          unfold txtT; split
          · simp
          · rename_i h0; have := List.length_pos_iff.2 h0; show 1 ≤ _; omega
        simp only [List.length_append, List.length_cons]; omega
theorem lexF_len (s : ByteArray) : (lexF s).2.2 = 0 → (lexF s).1.length ≤ 70000 := by
  rcases lexF_cases s with ⟨L, hs, hL, e⟩ | ⟨n, er, e, he, _⟩
  · intro _; rw [e]; rw [List.length_map]; have := lexS_len _ 0 _ L (Nat.le_refl _) hL; rw [data_length] at this; omega
  · intro h; rw [e] at h; exact absurd h he
theorem parse_ev (s : ByteArray) : ∃ r, Ev (fun k => parse_Parse.f k s) r := by
  by_cases he : (lexF s).2.2 = 0
  · obtain ⟨res, h, _⟩ := (parse_tot (lexF s).1.length).1 (lexF s).1 0 0 [] (Nat.le_refl _) (by have := lexF_len s he; simp; omega) (by decide) (by decide)
    exact ⟨parseR s res, 2 * (lexF s).1.length + 1, fun k hk => by
      show parse_Parse.f k s = _
      unfold parse_Parse.f
      rw [if_pos he, h k hk]; rfl⟩
  · exact ⟨_, 0, fun k hk => by
      show parse_Parse.f k s = _
      unfold parse_Parse.f
      rw [if_neg he]⟩
/-- The lexer by rounds: it can be reckoned. -/
def lexK : Nat → Nat → List UInt8 → Except (Nat × Int) (List T5)
  | 0, _, _ => .ok []
  | k + 1, p, s =>
    if Lib.index s [123, 123] < 0 then .ok (txtT p s)
    else if Lib.index (s.drop ((Lib.index s [123, 123]).toNat + 2)) [125, 125] < 0 then .error (p + (Lib.index s [123, 123]).toNat, 7)
    else
      let i := (Lib.index s [123, 123]).toNat
      let j := (Lib.index (s.drop (i + 2)) [125, 125]).toNat
      let d := dirF (fieldsG ((s.drop (i + 2)).take j) [])
      if d.1 = 0 then
        match lexK k (p + i + j + 4) ((s.drop (i + 2)).drop (j + 2)) with
        | .error e => .error e
        | .ok l => .ok (txtT p (s.take i) ++ (p + i, d.2) :: l)
      else .error (p + i, d.1)
theorem lexK_is : ∀ (k p : Nat) (s : List UInt8), s.length < k → lexS p s = lexK k p s
  | 0, p, s, h => absurd h (Nat.not_lt_zero _)
  | k + 1, p, s, h => by
    rw [lexS, lexK]
    by_cases h1 : Lib.index s [123, 123] < 0
    · rw [dif_pos h1, if_pos h1]
    rw [dif_neg h1, if_neg h1]
    by_cases h2 : Lib.index (s.drop ((Lib.index s [123, 123]).toNat + 2)) [125, 125] < 0
    · rw [dif_pos h2, if_pos h2]
    rw [dif_neg h2, if_neg h2]
    have r1 := Lib.index_room s [123, 123] (by omega)
    have r2 : ([123, 123] : List UInt8).length = 2 := rfl
    rw [r2] at r1
    have hk := fun p' => lexK_is k p' ((s.drop ((Lib.index s [123, 123]).toNat + 2)).drop ((Lib.index (s.drop ((Lib.index s [123, 123]).toNat + 2)) [125, 125]).toNat + 2)) (by rw [List.length_drop, List.length_drop]; omega)
    dsimp only
    rw [hk]
    rfl
def lexFK (s : ByteArray) : List S28 × Int × Int := if (s.size : Int) > 65536 then ([], 0, 6) else lexR s (lexK (s.data.toList.length + 1) 0 s.data.toList)
theorem lexFK_is (s : ByteArray) : lexF s = lexFK s := by unfold lexF lexFK; rw [lexK_is _ _ _ (Nat.lt_succ_self _)]
theorem parseK_is (k : Nat) (s : ByteArray) : parse_Parse.f k s = if (lexFK s).2.2 = 0 then (plist k (lexFK s).1 0 0 []).map (parseR s) else some ([], (lexFK s).2.1, (lexFK s).2.2) := by unfold parse_Parse.f; rw [lexFK_is]
theorem alive12_true : tmplpipelaw12_alive.f 12 = some true := by
  unfold tmplpipelaw12_alive.f
  rw [parseK_is, parseK_is]
  decide +kernel
theorem alive12_ev : Ev (fun k => tmplpipelaw12_alive.f k) true := Ev.up (tmplpipelaw12_alive.mono ·) alive12_true
end Go.Proofs.YtgdpojleejdfaaaDoor.Px
