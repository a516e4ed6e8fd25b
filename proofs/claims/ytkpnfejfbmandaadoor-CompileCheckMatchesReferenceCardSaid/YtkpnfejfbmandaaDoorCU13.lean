import Derived.Test.YtkpnfejfbmandaaDoorCU12
import Derived.Test.YtkpnfejfbmandaaDoorCU2
import Derived.Outline
import Derived.Test.YtkpnfejfbmandaaDoorCU8
import Derived.Maps.OwnSet
import Derived.Maps.OwnOps
/- Plain laws: rounds; the number of nodes; the reference's Equal; what Parse answers. -/
namespace Go.Proofs.YtkpnfejfbmandaaDoor.Px
open Go.RowKit Go.Proofs.YtkpnfejfbmandaaDoorW.PrintWords Go.Proofs.YtkpnfejfbmandaaDoorW.PrintLast Go.Proofs.YtkpnfejfbmandaaDoorW.PrintMore
set_option linter.unusedVariables false
set_option linter.unusedSimpArgs false
/-- From some round on it tells this. -/
def Ev {α : Type} (f : Nat → Option α) (v : α) : Prop := ∃ K, ∀ k, K ≤ k → f k = some v
theorem Ev.up {α : Type} {f : Nat → Option α} (hm : ∀ k, LeO (f k) (f (k + 1))) {v : α} {K : Nat} (h : f K = some v) : Ev f v := by
  refine ⟨K, fun k hk => ?_⟩
  induction hk with
  | refl => exact h
  | step _ ih => exact hm _ _ ih
theorem Ev.pure {α : Type} (v : α) : Ev (fun _ => some v) v := ⟨0, fun _ _ => rfl⟩
theorem Ev.bind {α β : Type} {f : Nat → Option α} {v : α} {g : Nat → α → Option β} {r : β} (h : Ev f v) (k : Ev (fun n => g n v) r) : Ev (fun n => (f n).bind (g n)) r := by
  obtain ⟨K, hK⟩ := h
  obtain ⟨L, hL⟩ := k
  exact ⟨max K L, fun n hn => by show (f n).bind (g n) = _; rw [hK n (by omega)]; exact hL n (by omega)⟩
theorem Ev.shift {α : Type} {f g : Nat → Option α} {v : α} (h : Ev f v) (e : ∀ k, g (k + 1) = f k) : Ev g v := by
  obtain ⟨K, hK⟩ := h
  exact ⟨K + 1, fun n hn => by
    obtain ⟨n, rfl⟩ : ∃ m, n = m + 1 := ⟨n - 1, by omega⟩
    rw [e]; exact hK n (by omega)⟩
theorem Ev.of {α : Type} {f g : Nat → Option α} {v : α} (h : Ev f v) (e : ∀ k, g k = f k) : Ev g v := by
  obtain ⟨K, hK⟩ := h
  exact ⟨K, fun n hn => by rw [e]; exact hK n hn⟩
theorem Ev.one {α : Type} {f : Nat → Option α} {v : α} (h : Ev f v) : ∃ k, f k = some v := h.imp fun K hK => hK K (Nat.le_refl _)
mutual
def nL : List S78 → Nat
  | [] => 0
  | x :: xs => nN x + nL xs
def nN : S78 → Nat
  | ⟨_, _, _, _, _, _, b, l⟩ => 1 + nL b + nL l
end
theorem nN_eq (x : S78) : nN x = 1 + nL x.f6 + nL x.f7 := by cases x; simp [nN]
theorem nL_cons (x : S78) (xs : List S78) : nL (x :: xs) = nN x + nL xs := by simp [nL]
theorem nL_len : ∀ l : List S78, l.length ≤ nL l
  | [] => by simp [nL]
  | x :: xs => by have := nL_len xs; rw [nL_cons, nN_eq, List.length_cons]; omega
theorem nL_mem : ∀ (l : List S78) (x : S78), x ∈ l → nN x ≤ nL l
  | y :: ys, x, h => by
    rw [nL_cons]
    rcases List.mem_cons.1 h with rfl | h
    · omega
    · have := nL_mem ys x h; omega
theorem nL_append : ∀ (xs ys : List S78), nL (xs ++ ys) = nL xs + nL ys
  | [], ys => by simp [nL]
  | x :: xs, ys => by rw [List.cons_append, nL_cons, nL_cons, nL_append xs ys]; omega
theorem nL_one (x : S78) : nL [x] = nN x := by rw [nL_cons]; simp [nL]
/-- The reference's Equal. -/
def hdR (at_ : Bool) (x y : S78) : Bool := (x.f0 == y.f0) && ((!at_) || (x.f1 == y.f1)) && decide (x.f2.toList = y.f2.toList) && decide (x.f3.toList = y.f3.toList) && (x.f4 == y.f4) && (x.f5 == y.f5)
mutual
def eqRL (at_ : Bool) : List S78 → List S78 → Bool
  | [], [] => true
  | x :: xs, y :: ys => eqRN at_ x y && eqRL at_ xs ys
  | _, _ => false
def eqRN (at_ : Bool) : S78 → S78 → Bool
  | ⟨k, a, s, p, h, e, b, l⟩, y => hdR at_ ⟨k, a, s, p, h, e, [], []⟩ y && (eqRL at_ b y.f6 && eqRL at_ l y.f7)
end
theorem eqRN_eq (at_ : Bool) (x y : S78) : eqRN at_ x y = (hdR at_ x y && (eqRL at_ x.f6 y.f6 && eqRL at_ x.f7 y.f7)) := by cases x; simp [eqRN, hdR]
theorem eqRL_cons (at_ : Bool) (x y : S78) (xs ys : List S78) : eqRL at_ (x :: xs) (y :: ys) = (eqRN at_ x y && eqRL at_ xs ys) := by simp [eqRL]
theorem hdR_refl (at_ : Bool) (x : S78) : hdR at_ x x = true := by unfold hdR; simp
theorem eqRL_refl (at_ : Bool) : ∀ (n : Nat) (a : List S78), SizeOf.sizeOf a < n → eqRL at_ a a = true
  | 0, a, h => absurd h (Nat.not_lt_zero _)
  | n + 1, [], h => by simp [eqRL]
  | n + 1, x :: xs, h => by
    simp only [List.cons.sizeOf_spec] at h
    have h6 := S78.size6 x
    have h7 := S78.size7 x
    rw [eqRL_cons, eqRN_eq, hdR_refl, eqRL_refl at_ n x.f6 (by omega), eqRL_refl at_ n x.f7 (by omega), eqRL_refl at_ n xs (by omega)]
    rfl
/-- Nodes of what is parsed. -/
theorem parse_cnt : ∀ k, (∀ l n d out o l' n', plist k l n d out = some (.ok (o, l', n')) → n' = n + (nL o : Int) - nL out ∧ (n ≤ 4096 → n' ≤ 4096)) ∧
    (∀ t r n d x l' n', pnode k t r n d = some (.ok (x, l', n')) → n' = n + (nN x : Int) ∧ (n ≤ 4096 → n' ≤ 4096))
  | 0 => ⟨fun l n d out o l' n' h => by simp [plist] at h, fun t r n d x l' n' h => by simp [pnode] at h⟩
  | k + 1 => by
    obtain ⟨ihl, ihn⟩ := parse_cnt k
    refine ⟨?_, ?_⟩
    · intro l n d out o l' n' h
      cases l with
      | nil => rw [plist_nil] at h; cases h; exact ⟨by omega, fun h => h⟩
      | cons t r =>
        rw [plist_cons] at h
        by_cases h1 : out.length < 100000
        case neg => rw [if_neg h1] at h; cases h
        rw [if_pos h1] at h
        by_cases h2 : t.f0 = 7 ∨ t.f0 = 8
        · rw [if_pos h2] at h; cases h; exact ⟨by omega, fun h => h⟩
        rw [if_neg h2] at h
        cases hp : pnode k t r n d with
        | none => rw [hp] at h; cases h
        | some x =>
          rw [hp] at h
          cases x with
          | error e => cases h
          | ok q =>
            obtain ⟨x, r', n1⟩ := q
            obtain ⟨a1, a2⟩ := ihn _ _ _ _ _ _ _ hp
            obtain ⟨b1, b2⟩ := ihl _ _ _ _ _ _ _ h
            rw [nL_append, nL_one] at b1
            exact ⟨by omega, fun h => b2 (a2 h)⟩
    · intro t r n d x l' n' h
      rw [pnode_eq] at h
      by_cases h1 : 0 ≤ n ∧ 0 ≤ d
      case neg => rw [if_neg h1] at h; cases h
      rw [if_pos h1] at h
      by_cases h2 : t.f0 = 6 ∧ d > 0
      · rw [if_pos h2] at h; cases h
      rw [if_neg h2] at h
      by_cases h3 : opK t.f0 ∧ d ≥ 32
      · rw [if_pos h3] at h; cases h
      rw [if_neg h3] at h
      by_cases h4 : n ≥ 4096
      · rw [if_pos h4] at h; cases h
      rw [if_neg h4] at h
      by_cases h5 : opK t.f0
      case neg =>
        rw [if_neg h5] at h; cases h
        refine ⟨?_, fun _ => by omega⟩
        rw [nN_eq]; simp [nL]
      rw [if_pos h5] at h
      have hend : ∀ (hh : Bool) (body els : List S78) (l1 : List S76) (n1 : Int), endB t hh body els l1 n1 = .ok (x, l', n') → n' = n1 ∧ nN x = 1 + nL body + nL els := by
        intro hh body els l1 n1 e
        cases l1 with
        | nil => cases e
        | cons t3 r4 =>
          simp only [endB] at e
          by_cases h8 : t3.f0 = 8
          · rw [if_pos h8] at e; cases e; exact ⟨rfl, by rw [nN_eq]⟩
          · rw [if_neg h8] at e; cases e
      unfold pblk at h
      cases hp : plist k r (n + 1) (d + 1) [] with
      | none => rw [hp] at h; cases h
      | some q =>
        rw [hp] at h
        cases q with
        | error e => cases h
        | ok q =>
          obtain ⟨body, l1, n1⟩ := q
          obtain ⟨a1, a2⟩ := ihl _ _ _ _ _ _ _ hp
          cases l1 with
          | nil => cases h
          | cons t1 r2 =>
            dsimp only at h
            by_cases h7 : t1.f0 = 7
            · rw [if_pos h7] at h
              by_cases h8 : t.f0 = 2
              case neg => rw [if_neg h8] at h; cases h
              rw [if_pos h8] at h
              cases hp2 : plist k r2 n1 (d + 1) [] with
              | none => rw [hp2] at h; cases h
              | some q =>
                rw [hp2] at h
                cases q with
                | error e => cases h
                | ok q =>
                  obtain ⟨els, r3, n3⟩ := q
                  obtain ⟨b1, b2⟩ := ihl _ _ _ _ _ _ _ hp2
                  obtain ⟨c1, c2⟩ := hend _ _ _ _ _ (Option.some.inj h)
                  simp only [nL] at a1 b1
                  exact ⟨by omega, fun _ => by rw [c1]; exact b2 (a2 (by omega))⟩
            · rw [if_neg h7] at h
              obtain ⟨c1, c2⟩ := hend _ _ _ _ _ (Option.some.inj h)
              simp only [nL] at a1 c2
              exact ⟨by omega, fun _ => by rw [c1]; exact a2 (by omega)⟩
theorem lexS_len : ∀ (n p : Nat) (s : List UInt8) (l : List T5), s.length ≤ n → lexS p s = .ok l → l.length ≤ s.length
  | n, p, s, l, hn, e => by
    cases way s with
    | text _ h =>
      rw [lexS_text h] at e; cases e
      unfold txtT; split
      · simp
      · rename_i h0; have := List.length_pos_iff.2 h0; show 1 ≤ _; omega
    | open_ t r h hr => rw [lexS_open h hr] at e; cases e
    | dir t u r h hu =>
      obtain ⟨dd, l', hd, hl', rfl⟩ := lexS_dirOk h hu e
      cases n with
      | zero => simp at hn
      | succ n =>
        have := lexS_len n _ r l' (by simp at hn; omega) hl'
        have h2 : (txtT p t).length ≤ t.length := by
          unfold txtT; split
          · simp
          · rename_i h0; have := List.length_pos_iff.2 h0; show 1 ≤ _; omega
        simp only [List.length_append, List.length_cons]; omega
theorem lexF_len (s : ByteArray) : (lexF s).2.2 = 0 → (lexF s).1.length ≤ 70000 := by
  rcases lexF_cases s with ⟨L, hs, hL, e⟩ | ⟨n, er, e, he, _⟩
  · intro _; rw [e]; rw [List.length_map]; have := lexS_len _ 0 _ L (Nat.le_refl _) hL; rw [data_length] at this; omega
  · intro h; rw [e] at h; exact absurd h he
theorem parse_ev (s : ByteArray) : ∃ r, Ev (fun k => parse_Parse.f k s) r := by
  by_cases he : (lexF s).2.2 = 0
  · obtain ⟨res, h, _⟩ := (parse_tot (lexF s).1.length).1 (lexF s).1 0 0 [] (Nat.le_refl _) (by have := lexF_len s he; simp; omega) (by decide) (by decide)
    exact ⟨parseR s res, 2 * (lexF s).1.length + 1, fun k hk => by
      show parse_Parse.f k s = _
      unfold parse_Parse.f
      rw [if_pos he, h k hk]; rfl⟩
  · exact ⟨_, 0, fun k hk => by
      show parse_Parse.f k s = _
      unfold parse_Parse.f
      rw [if_neg he]⟩
/-- The lexer by rounds: it can be reckoned. -/
def lexK : Nat → Nat → List UInt8 → Except (Nat × Int) (List T5)
  | 0, _, _ => .ok []
  | k + 1, p, s =>
    if Lib.index s [123, 123] < 0 then .ok (txtT p s)
    else if Lib.index (s.drop ((Lib.index s [123, 123]).toNat + 2)) [125, 125] < 0 then .error (p + (Lib.index s [123, 123]).toNat, 7)
    else
      let i := (Lib.index s [123, 123]).toNat
      let j := (Lib.index (s.drop (i + 2)) [125, 125]).toNat
      let d := dirF (fieldsG ((s.drop (i + 2)).take j) [])
      if d.1 = 0 then
        match lexK k (p + i + j + 4) ((s.drop (i + 2)).drop (j + 2)) with
        | .error e => .error e
        | .ok l => .ok (txtT p (s.take i) ++ (p + i, d.2) :: l)
      else .error (p + i, d.1)
theorem lexK_is : ∀ (k p : Nat) (s : List UInt8), s.length < k → lexS p s = lexK k p s
  | 0, p, s, h => absurd h (Nat.not_lt_zero _)
  | k + 1, p, s, h => by
    rw [lexS, lexK]
    by_cases h1 : Lib.index s [123, 123] < 0
    · rw [dif_pos h1, if_pos h1]
    rw [dif_neg h1, if_neg h1]
    by_cases h2 : Lib.index (s.drop ((Lib.index s [123, 123]).toNat + 2)) [125, 125] < 0
    · rw [dif_pos h2, if_pos h2]
    rw [dif_neg h2, if_neg h2]
    have r1 := Lib.index_room s [123, 123] (by omega)
    have r2 : ([123, 123] : List UInt8).length = 2 := rfl
    rw [r2] at r1
    have hk := fun p' => lexK_is k p' ((s.drop ((Lib.index s [123, 123]).toNat + 2)).drop ((Lib.index (s.drop ((Lib.index s [123, 123]).toNat + 2)) [125, 125]).toNat + 2)) (by rw [List.length_drop, List.length_drop]; omega)
    dsimp only
    rw [hk]
    rfl
def lexFK (s : ByteArray) : List S76 × Int × Int := if (s.size : Int) > 65536 then ([], 0, 6) else lexR s (lexK (s.data.toList.length + 1) 0 s.data.toList)
theorem lexFK_is (s : ByteArray) : lexF s = lexFK s := by unfold lexF lexFK; rw [lexK_is _ _ _ (Nat.lt_succ_self _)]
theorem parseK_is (k : Nat) (s : ByteArray) : parse_Parse.f k s = if (lexFK s).2.2 = 0 then (plist k (lexFK s).1 0 0 []).map (parseR s) else some ([], (lexFK s).2.1, (lexFK s).2.2) := by unfold parse_Parse.f; rw [lexFK_is]
end Go.Proofs.YtkpnfejfbmandaaDoor.Px

/- parse.Parse where the answer is known; tmplpipelaw12.alive. -/
namespace Go.Proofs.YtkpnfejfbmandaaDoor.Px
open Go.RowKit Go.Proofs.YtkpnfejfbmandaaDoorW.PrintWords Go.Proofs.YtkpnfejfbmandaaDoorW.PrintLast Go.Proofs.YtkpnfejfbmandaaDoorW.PrintMore
set_option linter.unusedVariables false
set_option linter.unusedSimpArgs false
theorem parse_any {s : ByteArray} {r : List S78 × Int × Int} (h : Ev (fun k => parse_Parse.f k s) r) (w : World) (hG : GS w) :
    Calls Tryd.prog 10 #[.string s] w fun e w' => ∃ (A : Option Addr) (c : Nat), e = .returned (.tuple #[.slice A r.1.length c, .int .i64 r.2.1, .int .i64 r.2.2]) ∧ Kd.C k78 w' A r.1.length r.1 ∧ r.1.length ≤ c ∧ Below w.heap.size w w' := by
  obtain ⟨K, hK⟩ := h
  refine (parse_Parse.calls K s r.1 r.2.1 r.2.2 w hG (hK K (Nat.le_refl _))).mono ?_
  rintro e w' ⟨v, rfl, HR, HB⟩
  obtain ⟨A, c, rfl⟩ := Kd.R_slice HR
  have q := Kd.R_reads' HR
  exact ⟨A, c, rfl, q.2.2, q.2.1, HB⟩
theorem parse_12 {s : ByteArray} {r : List S78 × Int × Int} (h : parse_Parse.f 12 s = some r) : Ev (fun k => parse_Parse.f k s) r := Ev.up (parse_Parse.mono s) h
end Go.Proofs.YtkpnfejfbmandaaDoor.Px

/- infer: a node of each kind. -/
namespace Go.Proofs.YtkpnfejfbmandaaDoor.Px
open Go.RowKit Go.Proofs.YtkpnfejfbmandaaDoorW.PrintWords Go.Proofs.YtkpnfejfbmandaaDoorW.PrintLast Go.Proofs.YtkpnfejfbmandaaDoorW.PrintMore
set_option linter.unusedVariables false
set_option linter.unusedSimpArgs false
mutual
/-- Strings of a bounded length, all the way down. -/
def smL : List S78 → Prop
  | [] => True
  | x :: xs => smN x ∧ smL xs
def smN : S78 → Prop
  | ⟨_, _, S, _, _, _, b, l⟩ => S.size ≤ 65536 ∧ smL b ∧ smL l
end
theorem AOut.appended {w0 w g v0 v st W p v1 w1} (h : AOut w0 w g v0 v st W) (h1 : Kd.R (Kd.int .i64) 3 w1 w0.heap.size (fun k => k ≠ g) v1 (st.1 ++ [p])) (hB : Below w0.heap.size w0 w1) (hg : W.grownBy w1 v.ownBlock)
    (hr : v1.ownBlock = v.ownBlock ∨ ∃ b, v1.ownBlock = some b ∧ W.heap.size ≤ b) : AOut w0 w g v0 v1 (st.1 ++ [p], st.2) (w1.setCell ⟨g, 0, none⟩ v1) :=
  ⟨⟨blk_set (blk_grown h.st.blk hg (fun e => h.st.own.1 g e.symm rfl)) 0 v1, Kd.R_far h1 (fun _ h => h) _, hB.setCell h.st.ge _, h.st.ge⟩, (keep_tr h.keep (KeepBut.of_grown hg g) h.row).set_ 0 _, by
    rcases hr with e | ⟨b, e, hb⟩
    · rw [e]; exact h.row
    · exact .inr (.inr ⟨b, e, Nat.le_trans h.keep.1 hb⟩)⟩
theorem AOut.set4 {w0 w g v0 v st W k cs} (h : AOut w0 w g v0 v st W) (hb : W.heap[k]? = some (.cells cs 88 (0, 0))) (hk : k ≠ g) (hw : w.heap.size ≤ k) (hw0 : w0.heap.size ≤ w.heap.size) (a b c d : Value) :
    AOut w0 w g v0 v st ((((W.setCell ⟨k, 0, none⟩ a).setCell ⟨k, 1, none⟩ b).setCell ⟨k, 2, none⟩ c).setCell ⟨k, 3, none⟩ d) :=
  (((h.setbox hb (by decide) hk hw hw0 _).setbox (blk_set hb 0 _) (by decide) hk hw hw0 _).setbox (blk_set (blk_set hb 0 _) 1 _) (by decide) hk hw hw0 _).setbox (blk_set (blk_set (blk_set hb 0 _) 1 _) 2 _) (by decide) hk hw hw0 _
/-- The contract of a node. -/
abbrev iNode.Con (x : S78) : Prop := ∀ (w0 : World) (g : Nat) (v : Value) (st : IS) (s : HS) (A6 A7 : Option Addr) (c6 c7 : Nat) (w : World), AIn w0 g v st w → Kd.C k78 w0 A6 x.f6.length x.f6 → x.f6.length ≤ c6 → Kd.C k78 w0 A7 x.f7.length x.f7 → x.f7.length ≤ c7 → s.gd → smN x → st.1.length + nN x ≤ 1000000 →
  Calls Tryd.prog 60 #[.pointer (some ⟨g, 0, none⟩), .agg #[.int .i64 s.c, .string s.n, .string s.a, .string s.p], .agg #[.int .i64 x.f0, .int .i64 x.f1, .string x.f2, .string x.f3, .bool x.f4, .bool x.f5, .slice A6 x.f6.length c6, .slice A7 x.f7.length c7]] w fun e w' =>
    e = .returned (.agg #[.int .i64 (iN x s st).1.c, .string (iN x s st).1.n, .string (iN x s st).1.a, .string (iN x s st).1.p]) ∧ ∃ v', AOut w0 w g v v' (iN x s st).2 w'
abbrev iList.Con (l : List S78) : Prop := ∀ (w0 : World) (g : Nat) (v : Value) (st : IS) (s : HS) (A : Option Addr) (c : Nat) (w : World), AIn w0 g v st w → Kd.C k78 w0 A l.length l → l.length ≤ c → s.gd → smL l → st.1.length + nL l ≤ 1000000 →
  Calls Tryd.prog 38 #[.pointer (some ⟨g, 0, none⟩), .agg #[.int .i64 s.c, .string s.n, .string s.a, .string s.p], .slice A l.length c] w fun e w' =>
    e = .returned (.agg #[.int .i64 (iL l s st).1.c, .string (iL l s st).1.n, .string (iL l s st).1.a, .string (iL l s st).1.p]) ∧ ∃ v', AOut w0 w g v v' (iL l s st).2 w'
theorem iN_at (x : S78) (s : HS) (st : IS) : iN x s st =
    if x.f0 = 0 then (runF s x.f2.data.toList, st)
    else if x.f0 = 1 then (s, ((if (escF s).2 then st else failI st x.f1 15).1 ++ [(escF s).1], (if (escF s).2 then st else failI st x.f1 15).2))
    else if x.f0 = 4 then (s, expI st x.f1 s hz 15)
    else if x.f0 = 2 then ((iL x.f6 s st).1, expI (iL x.f7 s (iL x.f6 s st).2).2 x.f1 (iL x.f7 s (iL x.f6 s st).2).1 (iL x.f6 s st).1 16)
    else if x.f0 = 3 then (s, expI (iL x.f6 s st).2 x.f1 (iL x.f6 s st).1 s 16)
    else if x.f0 = 6 then (s, expI (iL x.f6 hz st).2 x.f1 (iL x.f6 hz st).1 hz 16)
    else (s, st) := by cases x; rw [iN]
theorem al3 (w : World) (o1 o2 o3 o4 : Obj) : ((((w.alloc o1).alloc o2).alloc o3).alloc o4).heap[w.heap.size + 1 + 1]? = some o3 := by
  have := blk_alloc (blk_new ((w.alloc o1).alloc o2) o3) o4
  rwa [World.size_alloc, World.size_alloc] at this
set_option maxHeartbeats 4000000 in
set_option maxRecDepth 100000 in
theorem iNode.text (x : S78) (hk : x.f0 = 0) : iNode.Con x := by
  intro w0 g v st s A6 A7 c6 c7 w hS hC6 hc6 hC7 hc7 hs hx hl
  rw [iN_at, if_pos hk]
  rw [hk]
  have hz0 : x.f2.size ≤ 65536 := by cases x; simp only [smN] at hx; exact hx.1
  have hrun := run_any s x.f2 hz0 (fun i => (runF_gd _ hs).ok)
  have hgw := blk_lt hS.blk
  have hw0 := hS.bel.size
  have hS4 := Aside0.mk (fun o1 o2 o3 o4 => (((hS.out.alloc o1).alloc o2).alloc o3).alloc o4)
  clear hS hC6 hC7 hx hl
  go_enter Tryd.func60, Tryd.ntmps60
  go_wp2_with (go_at_call 81; refine (hrun _).mono ?_; rintro e w2 ⟨rfl, hb⟩; have hB := Aside0.mk (blk_below (al3 w _ _ _ _) hb); have c0 : w2.cell? ⟨w.heap.size + 1 + 1, 0, none⟩ = some (.int .i64 0) := (blk_cell hB.out 0).trans rfl; have c1 : w2.cell? ⟨w.heap.size + 1 + 1, 1, none⟩ = some (.string ⟨#[]⟩) := (blk_cell hB.out 1).trans rfl; have c2 : w2.cell? ⟨w.heap.size + 1 + 1, 2, none⟩ = some (.string ⟨#[]⟩) := (blk_cell hB.out 2).trans rfl; have c3 : w2.cell? ⟨w.heap.size + 1 + 1, 3, none⟩ = some (.string ⟨#[]⟩) := (blk_cell hB.out 3).trans rfl; have f0 := blk_frozen hB.out 0; have f1 := blk_frozen hB.out 1; have f2 := blk_frozen hB.out 2; have f3 := blk_frozen hB.out 3; have hS5 := Aside0.mk ((hS4.out _ _ _ _).below hb); clear hb)
  refine ret88 rfl rfl rfl rfl (blk_put4 hB.out rfl _ _ _ _) ⟨rfl, v, hS5.out.set4 hB.out (by omega) (by omega) hw0 _ _ _ _⟩
theorem info3 : (Tryd.prog.info? 3).map (fun i => (i.zero, i.size, i.bytes)) = some (some (.int .i64 0), 1, 8) := by kernel_rfl
def nd8 (x : S78) (v6 v7 : Value) : Array Value := #[.int .i64 x.f0, .int .i64 x.f1, .string x.f2, .string x.f3, .bool x.f4, .bool x.f5, v6, v7]
/-- The frame of a node's walk: its four blocks. -/
structure Frm (w : World) (s : HS) (x : S78) (v6 v7 : Value) (W : World) : Prop where
  b0 : W.heap[w.heap.size]? = some (.cells (ag4 s) 88 (0, 0))
  b1 : W.heap[w.heap.size + 1]? = some (.cells (nd8 x v6 v7) 78 (0, 0))
  b2 : W.heap[w.heap.size + 1 + 1]? = some (.cells (ag4 hz) 88 (0, 0))
  b3 : W.heap[w.heap.size + 1 + 1 + 1]? = some (.cells (ag4 hz) 88 (0, 0))
theorem Frm.start (w : World) (s : HS) (x : S78) (v6 v7 : Value) : Frm w s x v6 v7 ((((w.alloc (.cells (ag4 s) 88)).alloc (.cells (nd8 x v6 v7) 78)).alloc (.cells (ag4 hz) 88)).alloc (.cells (ag4 hz) 88)) :=
  ⟨blk_alloc (blk_alloc (blk_alloc (blk_new _ _) _) _) _, blk_alloc (blk_alloc (blk_n1 _ _ _) _) _, al3 _ _ _ _ _, by
    have := blk_new (((w.alloc (.cells (ag4 s) 88)).alloc (.cells (nd8 x v6 v7) 78)).alloc (.cells (ag4 hz) 88)) (.cells (ag4 hz) 88)
    rwa [World.size_alloc, World.size_alloc, World.size_alloc] at this⟩
theorem Frm.below {w s x v6 v7 W W2} (h : Frm w s x v6 v7 W) (hb : Below W.heap.size W W2) : Frm w s x v6 v7 W2 := ⟨blk_below h.b0 hb, blk_below h.b1 hb, blk_below h.b2 hb, blk_below h.b3 hb⟩
theorem Frm.out {w s x v6 v7 W W2 w0 g v0 v st st0} (h : Frm w s x v6 v7 W) (hX : AOut w0 W g v0 v st W2) (h0 : AIn w0 g v0 st0 W) (hg : g < w.heap.size) : Frm w s x v6 v7 W2 :=
  ⟨hX.box h0 h.b0 (by decide) (by omega), hX.box h0 h.b1 (by decide) (by omega), hX.box h0 h.b2 (by decide) (by omega), hX.box h0 h.b3 (by decide) (by omega)⟩
theorem Frm.grown {w s x v6 v7 W W2 w0 g v st} (h : Frm w s x v6 v7 W) (hI : AIn w0 g v st W) (hg : W.grownBy W2 v.ownBlock) : Frm w s x v6 v7 W2 := by
  obtain ⟨inner, ho⟩ := Kd.R_own hI.own
  exact ⟨blk_grown h.b0 hg (own_ne ho h.b0 (by decide)), blk_grown h.b1 hg (own_ne ho h.b1 (by decide)), blk_grown h.b2 hg (own_ne ho h.b2 (by decide)), blk_grown h.b3 hg (own_ne ho h.b3 (by decide))⟩
theorem Frm.al {w s x v6 v7 W} (h : Frm w s x v6 v7 W) (o : Obj) : Frm w s x v6 v7 (W.alloc o) := ⟨blk_alloc h.b0 o, blk_alloc h.b1 o, blk_alloc h.b2 o, blk_alloc h.b3 o⟩
theorem Frm.set {w s x v6 v7 W} (h : Frm w s x v6 v7 W) {g j : Nat} (hg : g < w.heap.size) (u : Value) : Frm w s x v6 v7 (W.setCell ⟨g, j, none⟩ u) :=
  ⟨blk_far h.b0 (by simp; omega) _, blk_far h.b1 (by simp; omega) _, blk_far h.b2 (by simp; omega) _, blk_far h.b3 (by simp; omega) _⟩
structure FrmC (w : World) (s : HS) (x : S78) (v6 v7 : Value) (W : World) : Prop where
  s0 : W.cell? ⟨w.heap.size, 0, none⟩ = some (.int .i64 s.c)
  s1 : W.cell? ⟨w.heap.size, 1, none⟩ = some (.string s.n)
  s2 : W.cell? ⟨w.heap.size, 2, none⟩ = some (.string s.a)
  s3 : W.cell? ⟨w.heap.size, 3, none⟩ = some (.string s.p)
  n0 : W.cell? ⟨w.heap.size + 1, 0, none⟩ = some (.int .i64 x.f0)
  n1 : W.cell? ⟨w.heap.size + 1, 1, none⟩ = some (.int .i64 x.f1)
  n2 : W.cell? ⟨w.heap.size + 1, 2, none⟩ = some (.string x.f2)
  n3 : W.cell? ⟨w.heap.size + 1, 3, none⟩ = some (.string x.f3)
  n4 : W.cell? ⟨w.heap.size + 1, 4, none⟩ = some (.bool x.f4)
  n5 : W.cell? ⟨w.heap.size + 1, 5, none⟩ = some (.bool x.f5)
  n6 : W.cell? ⟨w.heap.size + 1, 6, none⟩ = some v6
  n7 : W.cell? ⟨w.heap.size + 1, 7, none⟩ = some v7
  r0 : W.cell? ⟨w.heap.size + 1 + 1, 0, none⟩ = some (.int .i64 0)
  r1 : W.cell? ⟨w.heap.size + 1 + 1, 1, none⟩ = some (.string ⟨#[]⟩)
  r2 : W.cell? ⟨w.heap.size + 1 + 1, 2, none⟩ = some (.string ⟨#[]⟩)
  r3 : W.cell? ⟨w.heap.size + 1 + 1, 3, none⟩ = some (.string ⟨#[]⟩)
  f0 : W.frozen? ⟨w.heap.size + 1 + 1, 0, none⟩ = false
  f1 : W.frozen? ⟨w.heap.size + 1 + 1, 1, none⟩ = false
  f2 : W.frozen? ⟨w.heap.size + 1 + 1, 2, none⟩ = false
  f3 : W.frozen? ⟨w.heap.size + 1 + 1, 3, none⟩ = false
  z0 : W.cell? ⟨w.heap.size + 1 + 1 + 1, 0, none⟩ = some (.int .i64 0)
  z1 : W.cell? ⟨w.heap.size + 1 + 1 + 1, 1, none⟩ = some (.string ⟨#[]⟩)
  z2 : W.cell? ⟨w.heap.size + 1 + 1 + 1, 2, none⟩ = some (.string ⟨#[]⟩)
  z3 : W.cell? ⟨w.heap.size + 1 + 1 + 1, 3, none⟩ = some (.string ⟨#[]⟩)
theorem Frm.cells {w s x v6 v7 W} (h : Frm w s x v6 v7 W) : FrmC w s x v6 v7 W :=
  ⟨blk_cell h.b0 0, blk_cell h.b0 1, blk_cell h.b0 2, blk_cell h.b0 3, blk_cell h.b1 0, blk_cell h.b1 1, blk_cell h.b1 2, blk_cell h.b1 3, blk_cell h.b1 4, blk_cell h.b1 5, blk_cell h.b1 6, blk_cell h.b1 7, blk_cell h.b2 0, blk_cell h.b2 1, blk_cell h.b2 2, blk_cell h.b2 3, blk_frozen h.b2 0, blk_frozen h.b2 1, blk_frozen h.b2 2, blk_frozen h.b2 3, blk_cell h.b3 0, blk_cell h.b3 1, blk_cell h.b3 2, blk_cell h.b3 3⟩
theorem Frm.lt {w s x v6 v7 W} (h : Frm w s x v6 v7 W) : w.heap.size + 1 + 1 + 1 < W.heap.size := blk_lt h.b3
/-- What a node's walk begins with. -/
theorem node_begin {w0 g v st} {w : World} (hS : AIn w0 g v st w) (s : HS) (x : S78) (v6 v7 : Value) : ∃ W4, W4 = ((((w.alloc (.cells (ag4 s) 88)).alloc (.cells (nd8 x v6 v7) 78)).alloc (.cells (ag4 hz) 88)).alloc (.cells (ag4 hz) 88)) ∧ AOut w0 w g v v st W4 ∧ Frm w s x v6 v7 W4 ∧ g < w.heap.size ∧ w0.heap.size ≤ w.heap.size :=
  ⟨_, rfl, (((hS.out.alloc _).alloc _).alloc _).alloc _, Frm.start _ _ _ _ _, blk_lt hS.blk, hS.bel.size⟩
set_option maxHeartbeats 4000000 in
set_option maxRecDepth 100000 in
theorem iNode.print (x : S78) (hk : x.f0 = 1) : iNode.Con x := by
  intro w0 g v st s A6 A7 c6 c7 w hS hC6 hc6 hC7 hc7 hs hx hl
  obtain ⟨W4, e4, hA, hF, hgw, hw0⟩ := node_begin hS s x (.slice A6 x.f6.length c6) (.slice A7 x.f7.length c7)
  have hlen : (st.1.length + 1) * 8 ≤ 140737488355328 := by have : 1 ≤ nN x := by rw [nN_eq]; omega
                                                            omega
  clear hS hC6 hC7 hx hl hc6 hc7
  rw [iN_at, if_neg (by rw [hk]; decide), if_pos hk]
  replace e4 : W4 = ((((w.alloc (.cells #[.int .i64 s.c, .string s.n, .string s.a, .string s.p] 88)).alloc (.cells #[.int .i64 x.f0, .int .i64 x.f1, .string x.f2, .string x.f3, .bool x.f4, .bool x.f5, .slice A6 x.f6.length c6, .slice A7 x.f7.length c7] 78)).alloc (.cells #[.int .i64 0, .string ⟨#[]⟩, .string ⟨#[]⟩, .string ⟨#[]⟩] 88)).alloc (.cells #[.int .i64 0, .string ⟨#[]⟩, .string ⟨#[]⟩, .string ⟨#[]⟩] 88)) := e4
  rw [hk] at e4 ⊢
  generalize x.f6.length = n6 at *
  generalize x.f7.length = n7 at *
  replace hA := Aside0.mk hA
  replace hF := Aside0.mk hF
  have hlt := hF.out.lt
  obtain ⟨⟨c0, c1, c2⟩, k0, k1, k2⟩ := hA.out.st.cells
  obtain ⟨s0, s1, s2, s3, n0, n1, n2, n3, n4, n5, n6', n7', r0, r1, r2, r3, f0, f1, f2, f3, z0, z1, z2, z3⟩ := hF.out.cells
  rw [hk] at n0
  have lt0 : w.heap.size < W4.heap.size := by omega
  have lt1 : w.heap.size + 1 < W4.heap.size := by omega
  have lt2 : w.heap.size + 1 + 1 < W4.heap.size := by omega
  have ltg : g < W4.heap.size := by omega
  cases hok : (escF s).2
  · simp only [Bool.false_eq_true, if_false]
    have hfl : Aside0 ((failI st x.f1 15).1 = st.1) := ⟨by unfold failI; split <;> rfl⟩
    go_enter Tryd.func60, Tryd.ntmps60
    go_upto_region 2 with fail
    rw [← e4]
    clear e4
    go_wp2_with (first | (go_at_call 82; refine (escaper_any s _).mono ?_; rintro e w2 ⟨rfl, o, rfl⟩) | (go_at_call 61; refine (fail_any 1 x.f1 x.f2 x.f3 x.f4 x.f5 _ _ 15 _ (hA.out.st.alloc _)).mono ?_; rintro e w3 ⟨rfl, h3⟩; have hF2 := Aside0.mk ((hF.out.al o).out h3 (hA.out.st.alloc o) hgw); have hB3 := Aside0.mk ((hA.out.alloc o).call h3); clear h3; clear s0 s1 s2 s3 n0 n1 n2 n3 n4 n5 n6' n7' r0 r1 r2 r3 f0 f1 f2 f3 z0 z1 z2 z3 c0 c1 c2 k0 k1 k2; obtain ⟨⟨c0, c1, c2⟩, k0, k1, k2⟩ := hB3.out.st.cells; obtain ⟨s0, s1, s2, s3, n0, n1, n2, n3, n4, n5, n6', n7', r0, r1, r2, r3, f0, f1, f2, f3, z0, z1, z2, z3⟩ := hF2.out.cells; have lt5 := hF2.out.lt; have ltg5 := blk_lt hB3.out.st.blk) | (at_builtin; go_loud (refine Kd.R_append (Kd.int .i64) w0.heap.size rfl _ _ 35 3 _ 8 rfl Tryd.underlying35 info3 rfl (by decide) (by decide) v (failI st x.f1 15).1 (escF s).1 [.int .i64 (escF s).1] (fun k => k ≠ g) (fun k => k ≠ g ∧ some k ≠ v.ownBlock) rfl rfl rfl (fun k hk => hk) (fun k hk e => by have := blk_lt hB3.out.st.blk; omega) hB3.out.st.own hB3.out.st.bel hB3.out.st.bel.size (by rw [hfl.out]; exact hlen) ?_; intro v1 w5 h1 hB1 hg1 hr1; obtain ⟨A1, c1', rfl⟩ := Kd.R_slice h1; have hX := Aside0.mk (hB3.out.appended h1 hB1 hg1 hr1); simp only [List.length_append, List.length_cons, List.length_nil, Nat.zero_add] at hX; have hF3 := Aside0.mk (hF2.out.grown hB3.out.st hg1); have hb3 := blk_grown hB3.out.st.blk hg1 (fun e => (hB3.out.st.own.1 g e.symm) rfl); have c0' := blk_cell hb3 0; have k0' := blk_frozen hb3 0; clear h1 hB1 hg1 hr1 hb3 s0 s1 s2 s3 n0 n1 n2 n3 n4 n5 n6' n7' r0 r1 r2 r3 f0 f1 f2 f3 z0 z1 z2 z3 c0 c1 c2 k0 k1 k2; obtain ⟨s0, s1, s2, s3, -, -, -, -, -, -, -, -, r0, r1, r2, r3, f0, f1, f2, f3, -, -, -, -⟩ := hF3.out.cells)))
    exact ret88 rfl rfl rfl rfl (blk_put4 (hF3.out.set hgw _).b2 rfl _ _ _ _) ⟨rfl, _, hX.out.set4 (hF3.out.set hgw _).b2 (by omega) (by omega) hw0 _ _ _ _⟩
  · simp only [if_true]
    go_enter Tryd.func60, Tryd.ntmps60
    go_upto_region 2 with fail
    rw [← e4]
    clear e4
    go_wp2_with (first | (go_at_call 82; refine (escaper_any s _).mono ?_; rintro e w2 ⟨rfl, o, rfl⟩) | (at_builtin; go_loud (refine Kd.R_append (Kd.int .i64) w0.heap.size rfl _ _ 35 3 _ 8 rfl Tryd.underlying35 info3 rfl (by decide) (by decide) v st.1 (escF s).1 [.int .i64 (escF s).1] (fun k => k ≠ g) (fun k => k ≠ g ∧ some k ≠ v.ownBlock) rfl (by rw [World.size_alloc]; rfl) rfl (fun k hk => hk) (fun k hk e => by have := blk_lt (hA.out.alloc o).st.blk; omega) (hA.out.alloc o).st.own (hA.out.alloc o).st.bel (hA.out.alloc o).st.bel.size hlen ?_; intro v1 w5 h1 hB1 hg1 hr1; obtain ⟨A1, c1', rfl⟩ := Kd.R_slice h1; have hX := Aside0.mk ((hA.out.alloc o).appended h1 hB1 hg1 hr1); simp only [List.length_append, List.length_cons, List.length_nil, Nat.zero_add] at hX; have hF3 := Aside0.mk ((hF.out.al o).grown (hA.out.alloc o).st hg1); have hb3 := blk_grown (hA.out.alloc o).st.blk hg1 (fun e => ((hA.out.alloc o).st.own.1 g e.symm) rfl); have c0' := blk_cell hb3 0; have k0' := blk_frozen hb3 0; clear h1 hB1 hg1 hr1 hb3 s0 s1 s2 s3 n0 n1 n2 n3 n4 n5 n6' n7' r0 r1 r2 r3 f0 f1 f2 f3 z0 z1 z2 z3 c0 c1 c2 k0 k1 k2; obtain ⟨s0, s1, s2, s3, -, -, -, -, -, -, -, -, r0, r1, r2, r3, f0, f1, f2, f3, -, -, -, -⟩ := hF3.out.cells)))
    exact ret88 rfl rfl rfl rfl (blk_put4 (hF3.out.set hgw _).b2 rfl _ _ _ _) ⟨rfl, _, hX.out.set4 (hF3.out.set hgw _).b2 (by omega) (by omega) hw0 _ _ _ _⟩
end Go.Proofs.YtkpnfejfbmandaaDoor.Px

/- defines.Check: what it computes; a map of names. -/
namespace Go.Proofs.YtkpnfejfbmandaaDoor.Px
open Go.RowKit Go.Proofs.YtkpnfejfbmandaaDoorW.PrintWords Go.Proofs.YtkpnfejfbmandaaDoorW.PrintLast Go.Proofs.YtkpnfejfbmandaaDoorW.PrintMore
open Go.Maps Go.ChangeMaps Go.MapKept
set_option linter.unusedVariables false
set_option linter.unusedSimpArgs false
def inN (ns : List ByteArray) (s : ByteArray) : Bool := ns.any fun n => n.data.toList == s.data.toList
/-- The definitions' names, or the error. -/
def dS : List S78 → List ByteArray → Except (Int × Int) (List ByteArray)
  | [], ns => .ok ns
  | x :: xs, ns => if x.f0 = 6 then (if inN ns x.f2 then .error (x.f1, 12) else if ns.length = 64 then .error (x.f1, 14) else dS xs (ns ++ [x.f2])) else dS xs ns
mutual
/-- The first call of a name that is not defined. -/
def cS : List S78 → List ByteArray → Option Int
  | [], _ => none
  | x :: xs, ns => match cN x ns with
    | some a => some a
    | none => cS xs ns
def cN : S78 → List ByteArray → Option Int
  | ⟨k, at_, S, _, _, _, b, l⟩, ns => if (k == 4 && !inN ns S) = true then some at_ else match cS b ns with
    | some a => some a
    | none => cS l ns
end
def checkF (l : List S78) : Int × Int := match dS l [] with
  | .error e => e
  | .ok ns => match cS l ns with
    | some a => (a, 11)
    | none => (0, 0)
def kS (s : ByteArray) : Lit := .string s.data.toList
/-- Block b is the map of these names. -/
structure MpB (w : World) (b : Nat) (ns : List ByteArray) (n : Nat) (D : DataW Unit) : Prop where
  own : w.ownsMap Tryd.prog 9 (plainElem Tryd.prog 4) b n D
  le : n ≤ ns.length
  size : Maps.size D = ns.length
  at_ : ∀ s : ByteArray, D.atKey (kS s) (.lit (.bool false)) = .lit (.bool (inN ns s))
  has : ∀ s : ByteArray, Maps.has D (kS s) = inN ns s
theorem zero4 (w : World) : (zeroValue 4).run Tryd.prog w = .ok (.bool false) w := by kernel_rfl
set_option maxRecDepth 100000 in
theorem plainBool_inv {v : Value} {x : Bool} {ps : List MemPlace} (h : plainElem (H := Unit) Tryd.prog 4 v = some (.lit (.bool x), ps)) : v = .bool x := by
  unfold plainElem at h
  rw [Tryd.underlying4] at h
  cases v <;> simp at h
  rw [h.1]
set_option maxRecDepth 100000 in
theorem MpB.look {w : World} {b : Nat} {ns : List ByteArray} {n : Nat} {D : DataW Unit} (h : MpB w b ns n D) (s : ByteArray) (hs : s.size ≤ 65536) : (Instr.lookup 82 (.map (some b)) (.string s) false).run Tryd.prog w = .ok (.bool (inN ns s)) w := by
  obtain ⟨v, ps, hr, hv⟩ := h.own.lookup law9 Tryd.underlying82 (zero4 w) (plainElem_bool (H := Unit) Tryd.underlying4 false) (Go.WideMaps.keyOf_string_mk Tryd.underlying9 (show s.size ≤ maxLen by unfold maxLen; omega))
  rw [show (Lit.string s.data.toList) = kS s from rfl, h.at_ s] at hv
  rw [hr, plainBool_inv hv]
theorem MpB.start (w : World) : MpB (w.alloc (.map #[] 0)) w.heap.size [] 0 (.map []) :=
  ⟨World.ownsMap_made _ _ _ _, Nat.le_refl _, rfl, fun s => rfl, fun s => rfl⟩
theorem inN_snoc (ns : List ByteArray) (x s : ByteArray) : inN (ns ++ [x]) s = (inN ns s || x.data.toList == s.data.toList) := by unfold inN; simp
theorem kS_key (s : ByteArray) : WideAt.IsKeyLit (kS s) := by unfold kS; trivial
theorem MpB.put {w w1 : World} {b : Nat} {ns : List ByteArray} {n : Nat} {D : DataW Unit} (h : MpB w b ns n D) (x : ByteArray) (hx : inN ns x = false)
    (h1 : w1.ownsMap Tryd.prog 9 (plainElem Tryd.prog 4) b (n + 1) (D.put (kS x) (.lit (.bool true)))) : MpB w1 b (ns ++ [x]) (n + 1) (D.put (kS x) (.lit (.bool true))) := by
  have ht := h.own.tidy law9
  refine ⟨h1, ?_, ?_, fun s => ?_, fun s => ?_⟩
  · rw [List.length_append]; exact Nat.add_le_add_right h.le 1
  · rw [size_put ht, h.has, hx, h.size, List.length_append]; simp
  · rw [inN_snoc]
    by_cases e : x.data.toList = s.data.toList
    · rw [show kS x = kS s by unfold kS; rw [e], atKey_put_same ht.isMap (kS_key s), beq_iff_eq.mpr e, Bool.or_true]
    · rw [atKey_put_other (fun q => e (by unfold kS at q; simpa using q.symm)), h.at_, beq_eq_false_iff_ne.mpr e, Bool.or_false]
  · rw [inN_snoc]
    by_cases e : x.data.toList = s.data.toList
    · rw [show kS x = kS s by unfold kS; rw [e], has_put_same ht.isMap (kS_key s), beq_iff_eq.mpr e, Bool.or_true]
    · rw [has_put_other (fun q => e (by unfold kS at q; simpa using q.symm)), h.has, beq_eq_false_iff_ne.mpr e, Bool.or_false]
theorem MpB.move {w w1 : World} {b : Nat} {ns : List ByteArray} {n : Nat} {D : DataW Unit} (h : MpB w b ns n D) (hb : w1.heap[b]? = w.heap[b]?) : MpB w1 b ns n D := by
  obtain ⟨⟨es, clock, h1, h2, h3, h4⟩, a1, a2, a3, a4⟩ := h
  exact ⟨⟨es, clock, hb.trans h1, h2, h3, h4⟩, a1, a2, a3, a4⟩
end Go.Proofs.YtkpnfejfbmandaaDoor.Px
