import Derived.Test.YtgdpojleejdfaaaDoorRTPt
import Derived.Test.YtgdpojleejdfaaaDoorRTPx0
import Derived.Test.YtgdpojleejdfaaaDoorRTPz
import Derived.Test.YtgdpojleejdfaaaDoorRTQa2
import Derived.Test.YtgdpojleejdfaaaDoorRTEq
/- Plain laws: rounds; the number of nodes; the reference's Equal; what Parse answers. -/
namespace Go.Proofs.YtgdpojleejdfaaaDoor.Px
open Go.RowKit Go.Proofs.YtgdpojleejdfaaaDoorW.PrintWords Go.Proofs.YtgdpojleejdfaaaDoorW.PrintLast Go.Proofs.YtgdpojleejdfaaaDoorW.PrintMore
set_option linter.unusedVariables false
set_option linter.unusedSimpArgs false
/-- From some round on it tells this. -/
def Ev {α : Type} (f : Nat → Option α) (v : α) : Prop := ∃ K, ∀ k, K ≤ k → f k = some v
theorem Ev.up {α : Type} {f : Nat → Option α} (hm : ∀ k, LeO (f k) (f (k + 1))) {v : α} {K : Nat} (h : f K = some v) : Ev f v := by
  refine ⟨K, fun k hk => ?_⟩
  induction hk with
  | refl => exact h
  | step _ ih => exact hm _ _ ih
theorem Ev.pure {α : Type} (v : α) : Ev (fun _ => some v) v := ⟨0, fun _ _ => rfl⟩
theorem Ev.bind {α β : Type} {f : Nat → Option α} {v : α} {g : Nat → α → Option β} {r : β} (h : Ev f v) (k : Ev (fun n => g n v) r) : Ev (fun n => (f n).bind (g n)) r := by
  obtain ⟨K, hK⟩ := h
  obtain ⟨L, hL⟩ := k
  exact ⟨max K L, fun n hn => by show (f n).bind (g n) = _; rw [hK n (by omega)]; exact hL n (by omega)⟩
theorem Ev.of {α : Type} {f g : Nat → Option α} {v : α} (h : Ev f v) (e : ∀ k, g k = f k) : Ev g v := by
  obtain ⟨K, hK⟩ := h
  exact ⟨K, fun n hn => by rw [e]; exact hK n hn⟩
theorem Ev.one {α : Type} {f : Nat → Option α} {v : α} (h : Ev f v) : ∃ k, f k = some v := h.imp fun K hK => hK K (Nat.le_refl _)
mutual
def nL : List S39 → Nat
  | [] => 0
  | x :: xs => nN x + nL xs
def nN : S39 → Nat
  | ⟨_, _, _, _, _, _, b, l⟩ => 1 + nL b + nL l
end
theorem nN_eq (x : S39) : nN x = 1 + nL x.f6 + nL x.f7 := by cases x; simp [nN]
theorem nL_cons (x : S39) (xs : List S39) : nL (x :: xs) = nN x + nL xs := by simp [nL]
theorem nL_len : ∀ l : List S39, l.length ≤ nL l
  | [] => by simp [nL]
  | x :: xs => by have := nL_len xs; rw [nL_cons, nN_eq, List.length_cons]; omega
theorem nL_mem : ∀ (l : List S39) (x : S39), x ∈ l → nN x ≤ nL l
  | y :: ys, x, h => by
    rw [nL_cons]
    rcases List.mem_cons.1 h with rfl | h
    · omega
    · have := nL_mem ys x h; omega
theorem nL_append : ∀ (xs ys : List S39), nL (xs ++ ys) = nL xs + nL ys
  | [], ys => by simp [nL]
  | x :: xs, ys => by rw [List.cons_append, nL_cons, nL_cons, nL_append xs ys]; omega
theorem nL_one (x : S39) : nL [x] = nN x := by rw [nL_cons]; simp [nL]
/-- The reference's Equal. -/
def hdR (at_ : Bool) (x y : S39) : Bool := (x.f0 == y.f0) && ((!at_) || (x.f1 == y.f1)) && decide (x.f2.toList = y.f2.toList) && decide (x.f3.toList = y.f3.toList) && (x.f4 == y.f4) && (x.f5 == y.f5)
mutual
def eqRL (at_ : Bool) : List S39 → List S39 → Bool
  | [], [] => true
  | x :: xs, y :: ys => eqRN at_ x y && eqRL at_ xs ys
  | _, _ => false
def eqRN (at_ : Bool) : S39 → S39 → Bool
  | ⟨k, a, s, p, h, e, b, l⟩, y => hdR at_ ⟨k, a, s, p, h, e, [], []⟩ y && (eqRL at_ b y.f6 && eqRL at_ l y.f7)
end
theorem eqRN_eq (at_ : Bool) (x y : S39) : eqRN at_ x y = (hdR at_ x y && (eqRL at_ x.f6 y.f6 && eqRL at_ x.f7 y.f7)) := by cases x; simp [eqRN, hdR]
theorem eqRL_cons (at_ : Bool) (x y : S39) (xs ys : List S39) : eqRL at_ (x :: xs) (y :: ys) = (eqRN at_ x y && eqRL at_ xs ys) := by simp [eqRL]
theorem eqRL_len (at_ : Bool) : ∀ (a b : List S39), a.length ≠ b.length → eqRL at_ a b = false
  | [], [], h => absurd rfl h
  | [], _ :: _, _ => by simp [eqRL]
  | _ :: _, [], _ => by simp [eqRL]
  | x :: xs, y :: ys, h => by rw [eqRL_cons, eqRL_len at_ xs ys (fun e => h (by simp [e])), Bool.and_false]
theorem ref12_l0 (k : Nat) (l m : List S39) (at_ : Bool) (i : Int) (h0 : 0 ≤ i) (h1 : i < (l.length : Int)) (h2 : i < (m.length : Int)) :
    tmplpiperef12_Equal.l0 (k + 1) l m at_ i = tmplpiperef12_Equal.j1 k l m at_ i (!(hdR at_ (rd_T39 l i) (rd_T39 m i))) (rd_T39 l i).f0 (rd_T39 l i).f1 (rd_T39 l i).f2 (rd_T39 l i).f3 (rd_T39 l i).f4 (rd_T39 l i).f5 (rd_T39 l i).f6 (rd_T39 l i).f7 (rd_T39 m i).f0 (rd_T39 m i).f1 (rd_T39 m i).f2 (rd_T39 m i).f3 (rd_T39 m i).f4 (rd_T39 m i).f5 (rd_T39 m i).f6 (rd_T39 m i).f7 := by
  rw [tmplpiperef12_Equal.l0, if_pos h1, if_pos h0, if_pos h2]
  generalize rd_T39 l i = x
  generalize rd_T39 m i = y
  unfold hdR
  by_cases c0 : x.f0 = y.f0
  case neg => rw [if_neg c0]; simp [beq_eq_false_iff_ne.2 c0]
  rw [if_pos c0]
  have tail : (if x.f2.toList = y.f2.toList then (if x.f3.toList = y.f3.toList then (if (x.f4 != y.f4) = true then (tmplpiperef12_Equal.j1 k l m at_ i true x.f0 x.f1 x.f2 x.f3 x.f4 x.f5 x.f6 x.f7 y.f0 y.f1 y.f2 y.f3 y.f4 y.f5 y.f6 y.f7) else (tmplpiperef12_Equal.j1 k l m at_ i (x.f5 != y.f5) x.f0 x.f1 x.f2 x.f3 x.f4 x.f5 x.f6 x.f7 y.f0 y.f1 y.f2 y.f3 y.f4 y.f5 y.f6 y.f7)) else (tmplpiperef12_Equal.j1 k l m at_ i true x.f0 x.f1 x.f2 x.f3 x.f4 x.f5 x.f6 x.f7 y.f0 y.f1 y.f2 y.f3 y.f4 y.f5 y.f6 y.f7)) else (tmplpiperef12_Equal.j1 k l m at_ i true x.f0 x.f1 x.f2 x.f3 x.f4 x.f5 x.f6 x.f7 y.f0 y.f1 y.f2 y.f3 y.f4 y.f5 y.f6 y.f7))
      = tmplpiperef12_Equal.j1 k l m at_ i (!(decide (x.f2.toList = y.f2.toList) && decide (x.f3.toList = y.f3.toList) && (x.f4 == y.f4) && (x.f5 == y.f5))) x.f0 x.f1 x.f2 x.f3 x.f4 x.f5 x.f6 x.f7 y.f0 y.f1 y.f2 y.f3 y.f4 y.f5 y.f6 y.f7 := by
    by_cases c2 : x.f2.toList = y.f2.toList
    case neg => rw [if_neg c2, decide_eq_false c2]; rfl
    by_cases c3 : x.f3.toList = y.f3.toList
    case neg => rw [if_pos c2, if_neg c3, decide_eq_false c3]; simp
    rw [if_pos c2, if_pos c3, decide_eq_true c2, decide_eq_true c3]
    by_cases c4 : x.f4 = y.f4
    · rw [c4]; simp [bne]
    · rw [if_pos (by simpa using c4), beq_eq_false_iff_ne.2 c4]; simp
  cases at_ with
  | false => rw [if_neg (by decide), tail, c0]; simp
  | true =>
    rw [if_pos rfl]
    by_cases c1 : x.f1 = y.f1
    · rw [if_pos c1, tail, c0, c1]; simp
    · rw [if_neg c1, beq_eq_false_iff_ne.2 c1]; simp
abbrev RE (l : List S39) : Prop := ∀ (m : List S39) (at_ : Bool), nL l ≤ 1000000000 → Ev (fun k => tmplpiperef12_Equal.f k l m at_) (eqRL at_ l m)
theorem ref12_step (l : List S39) (ih : ∀ x ∈ l, RE x.f6 ∧ RE x.f7) : RE l := by
  intro m at_ hn
  by_cases hlen : l.length = m.length
  case neg =>
    refine ⟨1, fun k hk => ?_⟩
    obtain ⟨k, rfl⟩ : ∃ j, k = j + 1 := ⟨k - 1, by omega⟩
    show tmplpiperef12_Equal.f (k + 1) l m at_ = _
    rw [tmplpiperef12_Equal.f, if_neg (by omega), eqRL_len at_ l m hlen]
  have hll := nL_len l
  have loop : ∀ (d i : Nat), i ≤ l.length → l.length - i = d → Ev (fun k => tmplpiperef12_Equal.l0 k l m at_ (i : Int)) (eqRL at_ (l.drop i) (m.drop i)) := by
    intro d
    induction d with
    | zero =>
      intro i hi hd
      obtain rfl : i = l.length := by omega
      refine ⟨1, fun k hk => ?_⟩
      obtain ⟨k, rfl⟩ : ∃ j, k = j + 1 := ⟨k - 1, by omega⟩
      show tmplpiperef12_Equal.l0 (k + 1) l m at_ _ = _
      rw [tmplpiperef12_Equal.l0, if_neg (by omega), List.drop_length, hlen, List.drop_length]
      simp [eqRL]
    | succ d ihd =>
      intro i hi hd
      have hlt : i < l.length := by omega
      have hlt2 : i < m.length := by omega
      have e1 : l.drop i = l[i] :: l.drop (i + 1) := List.drop_eq_getElem_cons hlt
      have e2 : m.drop i = m[i] :: m.drop (i + 1) := List.drop_eq_getElem_cons hlt2
      have r1 : rd_T39 l (i : Int) = l[i] := rd_T39_at l i hlt
      have r2 : rd_T39 m (i : Int) = m[i] := rd_T39_at m i hlt2
      obtain ⟨ih6, ih7⟩ := ih l[i] (List.getElem_mem hlt)
      have hnn : nL l[i].f6 ≤ 1000000000 ∧ nL l[i].f7 ≤ 1000000000 := by
        have h1 := nL_mem l l[i] (List.getElem_mem hlt)
        rw [nN_eq] at h1
        omega
      rw [e1, e2, eqRL_cons, eqRN_eq]
      generalize l[i] = x at *
      generalize m[i] = y at *
      have hw : wrap64 ((i : Int) + 1) = ((i + 1 : Nat) : Int) := by rw [w64 (by omega) (by omega)]; rfl
      obtain ⟨K6, h6⟩ := ih6 y.f6 at_ hnn.1
      obtain ⟨K7, h7⟩ := ih7 y.f7 at_ hnn.2
      obtain ⟨K1, h1⟩ := ihd (i + 1) (by omega) (by omega)
      dsimp only at h1 h6 h7
      refine ⟨K6 + K7 + K1 + 2, fun k hk => ?_⟩
      obtain ⟨k, rfl⟩ : ∃ j, k = j + 1 + 1 := ⟨k - 2, by omega⟩
      show tmplpiperef12_Equal.l0 (k + 1 + 1) l m at_ _ = _
      rw [ref12_l0 (k + 1) l m at_ i (by omega) (by omega) (by omega), r1, r2, tmplpiperef12_Equal.j1]
      cases hh : hdR at_ x y with
      | false => simp
      | true =>
        rw [if_neg (by simp), h6 k (by omega), Option.bind_some]
        cases he6 : eqRL at_ x.f6 y.f6 with
        | false => simp
        | true =>
          rw [if_pos rfl, h7 k (by omega), Option.bind_some]
          cases he7 : eqRL at_ x.f7 y.f7 with
          | false => simp
          | true => rw [if_pos rfl, hw, h1 k (by omega)]; simp
  obtain ⟨K, hK⟩ := loop l.length 0 (by omega) (by omega)
  refine ⟨K + 1, fun k hk => ?_⟩
  obtain ⟨k, rfl⟩ : ∃ j, k = j + 1 := ⟨k - 1, by omega⟩
  show tmplpiperef12_Equal.f (k + 1) l m at_ = _
  rw [tmplpiperef12_Equal.f, if_pos (by omega)]
  have := hK k (by omega)
  dsimp only at this
  rw [List.drop_zero, List.drop_zero] at this
  exact this
theorem ref12_equal : ∀ (n : Nat) (l : List S39), SizeOf.sizeOf l < n → RE l
  | 0, l, h => absurd h (Nat.not_lt_zero _)
  | n + 1, l, h => ref12_step l fun x hx => by
      have h1 := List.sizeOf_lt_of_mem hx
      exact ⟨ref12_equal n x.f6 (by have := S39.size6 x; omega), ref12_equal n x.f7 (by have := S39.size7 x; omega)⟩
theorem hdR_refl (at_ : Bool) (x : S39) : hdR at_ x x = true := by unfold hdR; simp
theorem eqRL_refl (at_ : Bool) : ∀ (n : Nat) (a : List S39), SizeOf.sizeOf a < n → eqRL at_ a a = true
  | 0, a, h => absurd h (Nat.not_lt_zero _)
  | n + 1, [], h => by simp [eqRL]
  | n + 1, x :: xs, h => by
    simp only [List.cons.sizeOf_spec] at h
    have h6 := S39.size6 x
    have h7 := S39.size7 x
    rw [eqRL_cons, eqRN_eq, hdR_refl, eqRL_refl at_ n x.f6 (by omega), eqRL_refl at_ n x.f7 (by omega), eqRL_refl at_ n xs (by omega)]
    rfl
/-- Nodes of what is parsed. -/
theorem parse_cnt : ∀ k, (∀ l n d out o l' n', plist k l n d out = some (.ok (o, l', n')) → n' = n + (nL o : Int) - nL out ∧ (n ≤ 4096 → n' ≤ 4096)) ∧
    (∀ t r n d x l' n', pnode k t r n d = some (.ok (x, l', n')) → n' = n + (nN x : Int) ∧ (n ≤ 4096 → n' ≤ 4096))
  | 0 => ⟨fun l n d out o l' n' h => by simp [plist] at h, fun t r n d x l' n' h => by simp [pnode] at h⟩
  | k + 1 => by
    obtain ⟨ihl, ihn⟩ := parse_cnt k
    refine ⟨?_, ?_⟩
    · intro l n d out o l' n' h
      cases l with
      | nil => rw [plist_nil] at h; cases h; exact ⟨by omega, fun h => h⟩
      | cons t r =>
        rw [plist_cons] at h
        by_cases h1 : out.length < 100000
        case neg => rw [if_neg h1] at h; cases h
        rw [if_pos h1] at h
        by_cases h2 : t.f0 = 7 ∨ t.f0 = 8
        · rw [if_pos h2] at h; cases h; exact ⟨by omega, fun h => h⟩
        rw [if_neg h2] at h
        cases hp : pnode k t r n d with
        | none => rw [hp] at h; cases h
        | some x =>
          rw [hp] at h
          cases x with
          | error e => cases h
          | ok q =>
            obtain ⟨x, r', n1⟩ := q
            obtain ⟨a1, a2⟩ := ihn _ _ _ _ _ _ _ hp
            obtain ⟨b1, b2⟩ := ihl _ _ _ _ _ _ _ h
            rw [nL_append, nL_one] at b1
            exact ⟨by omega, fun h => b2 (a2 h)⟩
    · intro t r n d x l' n' h
      rw [pnode_eq] at h
      by_cases h1 : 0 ≤ n ∧ 0 ≤ d
      case neg => rw [if_neg h1] at h; cases h
      rw [if_pos h1] at h
      by_cases h2 : t.f0 = 6 ∧ d > 0
      · rw [if_pos h2] at h; cases h
      rw [if_neg h2] at h
      by_cases h3 : opK t.f0 ∧ d ≥ 32
      · rw [if_pos h3] at h; cases h
      rw [if_neg h3] at h
      by_cases h4 : n ≥ 4096
      · rw [if_pos h4] at h; cases h
      rw [if_neg h4] at h
      by_cases h5 : opK t.f0
      case neg =>
        rw [if_neg h5] at h; cases h
        refine ⟨?_, fun _ => by omega⟩
        rw [nN_eq]; simp [nL]
      rw [if_pos h5] at h
      have hend : ∀ (hh : Bool) (body els : List S39) (l1 : List S28) (n1 : Int), endB t hh body els l1 n1 = .ok (x, l', n') → n' = n1 ∧ nN x = 1 + nL body + nL els := by
        intro hh body els l1 n1 e
        cases l1 with
        | nil => cases e
        | cons t3 r4 =>
          simp only [endB] at e
          by_cases h8 : t3.f0 = 8
          · rw [if_pos h8] at e; cases e; exact ⟨rfl, by rw [nN_eq]⟩
          · rw [if_neg h8] at e; cases e
      unfold pblk at h
      cases hp : plist k r (n + 1) (d + 1) [] with
      | none => rw [hp] at h; cases h
      | some q =>
        rw [hp] at h
        cases q with
        | error e => cases h
        | ok q =>
          obtain ⟨body, l1, n1⟩ := q
          obtain ⟨a1, a2⟩ := ihl _ _ _ _ _ _ _ hp
          cases l1 with
          | nil => cases h
          | cons t1 r2 =>
            dsimp only at h
            by_cases h7 : t1.f0 = 7
            · rw [if_pos h7] at h
              by_cases h8 : t.f0 = 2
              case neg => rw [if_neg h8] at h; cases h
              rw [if_pos h8] at h
              cases hp2 : plist k r2 n1 (d + 1) [] with
              | none => rw [hp2] at h; cases h
              | some q =>
                rw [hp2] at h
                cases q with
                | error e => cases h
                | ok q =>
                  obtain ⟨els, r3, n3⟩ := q
                  obtain ⟨b1, b2⟩ := ihl _ _ _ _ _ _ _ hp2
                  obtain ⟨c1, c2⟩ := hend _ _ _ _ _ (Option.some.inj h)
                  simp only [nL] at a1 b1
                  exact ⟨by omega, fun _ => by rw [c1]; exact b2 (a2 (by omega))⟩
            · rw [if_neg h7] at h
              obtain ⟨c1, c2⟩ := hend _ _ _ _ _ (Option.some.inj h)
              simp only [nL] at a1 c2
              exact ⟨by omega, fun _ => by rw [c1]; exact a2 (by omega)⟩
theorem lexS_len : ∀ (n p : Nat) (s : List UInt8) (l : List T5), s.length ≤ n → lexS p s = .ok l → l.length ≤ s.length
  | n, p, s, l, hn, e => by
    cases way s with
    | text _ h =>
      rw [lexS_text h] at e; cases e
      unfold txtT; split
      · simp
      · rename_i h0; have := List.length_pos_iff.2 h0; show 1 ≤ _; omega
    | open_ t r h hr => rw [lexS_open h hr] at e; cases e
    | dir t u r h hu =>
      obtain ⟨dd, l', hd, hl', rfl⟩ := lexS_dirOk h hu e
      cases n with
      | zero => simp at hn
      | succ n =>
        have := lexS_len n _ r l' (by simp at hn; omega) hl'
        have h2 : (txtT p t).length ≤ t.length := by
          unfold txtT; split
          · simp
          · rename_i h0; have := List.length_pos_iff.2 h0; show 1 ≤ _; omega
        simp only [List.length_append, List.length_cons]; omega
theorem lexF_len (s : ByteArray) : (lexF s).2.2 = 0 → (lexF s).1.length ≤ 70000 := by
  rcases lexF_cases s with ⟨L, hs, hL, e⟩ | ⟨n, er, e, he, _⟩
  · intro _; rw [e]; rw [List.length_map]; have := lexS_len _ 0 _ L (Nat.le_refl _) hL; rw [data_length] at this; omega
  · intro h; rw [e] at h; exact absurd h he
theorem parse_ev (s : ByteArray) : ∃ r, Ev (fun k => parse_Parse.f k s) r := by
  by_cases he : (lexF s).2.2 = 0
  · obtain ⟨res, h, _⟩ := (parse_tot (lexF s).1.length).1 (lexF s).1 0 0 [] (Nat.le_refl _) (by have := lexF_len s he; simp; omega) (by decide) (by decide)
    exact ⟨parseR s res, 2 * (lexF s).1.length + 1, fun k hk => by
      show parse_Parse.f k s = _
      unfold parse_Parse.f
      rw [if_pos he, h k hk]; rfl⟩
  · exact ⟨_, 0, fun k hk => by
      show parse_Parse.f k s = _
      unfold parse_Parse.f
      rw [if_neg he]⟩
/-- The reference's Parse answers as the program's. -/
theorem parse_ref (s : ByteArray) (hs : s.size ≤ 5000) {r : List S39 × Int × Int} (h : Ev (fun k => parse_Parse.f k s) r) : Ev (fun k => tmplpiperef12_Parse.f k s) r := by
  obtain ⟨K0, h0⟩ := h
  obtain ⟨L, N, E, e1, e2, _⟩ := lex_both s hs
  obtain ⟨t, ht, _⟩ := lex_ends s (by omega) (s.size + 2) (s.size + 2 + 5 * s.size + 100) [] 0 (Int.le_refl _) (by omega) (by omega) (Nat.le_refl _) (fun t ht => by cases ht) (by simp)
  have hx := rlex_is s (by omega) _ _ _ _ (Int.le_refl _) (by omega) ht
  rw [Int.toNat_zero, List.drop_zero, e2] at hx
  subst hx
  have hL : Ev (fun k => rlexF k s) (L.map tokR, N, E) := Ev.up (rlexF.mono · s) (K := s.size + 2 + 5 * s.size + 100) (by unfold rlexF; rw [if_neg (by omega)]; exact ht)
  by_cases hE : E = 0
  case neg =>
    have hk := h0 K0 (Nat.le_refl _)
    dsimp only at hk
    unfold parse_Parse.f at hk
    rw [e1] at hk
    dsimp only at hk
    rw [if_neg hE] at hk
    cases hk
    exact Ev.bind hL (Ev.of (Ev.pure _) (fun _ => if_neg hE))
  have hlen : L.length ≤ 70000 := by have h := lexF_len s (by rw [e1]; exact hE); rw [e1] at h; simpa using h
  have hk := h0 K0 (Nat.le_refl _)
  dsimp only at hk
  unfold parse_Parse.f at hk
  rw [e1] at hk
  dsimp only at hk
  rw [if_pos hE] at hk
  obtain ⟨res, hp, hr⟩ := Option.map_eq_some_iff.1 hk
  obtain ⟨q, hq, hR⟩ := (ref_is L hlen K0).1 0 0 (-1) false 0 [] res (Nat.zero_le _) (Int.le_refl _) (Int.le_refl _) (by rw [List.drop_zero]; exact hp)
  have hP : Ev (fun k => rlist k (L.map tokR) 0 0 (-1) false 0 []) q := Ev.up (fun k => (rparse.mono k).1 _ _ _ _ _ _ _) hq
  have fin : ∀ r', (if q.2.2.1 = 0 then some (q.1, (s.size : Int), (0 : Int)) else some ([], q.2.1, q.2.2.1)) = some r' → Ev (fun k => tmplpiperef12_Parse.f k s) r' := fun r' e => by
    refine Ev.bind hL ?_
    refine Ev.of (f := fun k => (rlist k (L.map tokR) 0 0 (-1) false 0 []).bind fun q => if q.2.2.1 = 0 then some (q.1, (s.size : Int), (0 : Int)) else some ([], q.2.1, q.2.2.1)) (Ev.bind hP (Ev.of (Ev.pure _) (fun _ => e))) (fun k => if_pos hE)
  refine fin r ?_
  subst hr
  cases res with
  | error e =>
    obtain ⟨a, er⟩ := e
    obtain ⟨h1, h2, h3, h4⟩ := hR
    rw [if_neg (by rw [h3]; exact h4), h2, h3]; rfl
  | ok x =>
    obtain ⟨o, l', n'⟩ := x
    cases l' with
    | nil =>
      obtain ⟨_, rfl⟩ := hR
      rw [if_pos rfl]; rfl
    | cons t l' =>
      obtain ⟨_, j, hj, rfl, rfl, hk7, rfl⟩ := hR
      unfold stopR
      by_cases h7 : (tokS L[j]).f0 = 7
      · rw [if_pos h7, if_neg (by simp)]
        rfl
      · rw [if_neg h7, if_pos (show (-1 : Int) < 0 by decide)]
        rfl
end Go.Proofs.YtgdpojleejdfaaaDoor.Px
