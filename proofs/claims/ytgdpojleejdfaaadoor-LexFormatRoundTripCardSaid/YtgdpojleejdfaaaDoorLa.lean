/- What lex.Lex tells, over lists of bytes, and the plain laws on it. -/
import Derived.Test.YtgdpojleejdfaaaDoorKw
import Derived.Lib.FieldsP
import Derived.Lib.Split
import Derived.Lib.IndexMore
import Derived.Lib.DecodeN
namespace Go.Proofs.YtgdpojleejdfaaaDoor.Px
open Go.RowKit Go.Proofs.YtgdpojleejdfaaaDoorW.PrintWords Go.Proofs.YtgdpojleejdfaaaDoorW.PrintLast Go.Proofs.YtgdpojleejdfaaaDoorW.PrintMore
set_option linter.unusedVariables false
set_option linter.unusedSimpArgs false

/-- A letter; a name. -/
def letB (b : UInt8) : Bool := (decide (97 ≤ b.toNat) && decide (b.toNat ≤ 122)) || (decide (65 ≤ b.toNat) && decide (b.toNat ≤ 90))
def digB (b : UInt8) : Bool := decide (48 ≤ b.toNat) && decide (b.toNat ≤ 57)
def nmGo : Bool → List UInt8 → Bool
  | _, [] => true
  | first, b :: r => (letB b || (!first && (b == 95 || digB b))) && nmGo false r
def nameL (s : List UInt8) : Bool := !s.isEmpty && (decide (s.length ≤ 32) && nmGo true s)
/-- A path. -/
def pathL (s : List UInt8) : Bool := s.isEmpty || (decide ((Lib.split s [46]).length ≤ 8) && (Lib.split s [46]).all nameL)

/-- The words between spaces. -/
def wordCons (cur : List UInt8) (l : List (List UInt8)) : List (List UInt8) := if cur = [] then l else cur :: l
def fieldsG : List UInt8 → List UInt8 → List (List UInt8)
  | [], cur => wordCons cur []
  | b :: r, cur => if b = 32 then wordCons cur (fieldsG r []) else fieldsG r (cur ++ [b])

/-- A token without its offset: kind, name, path, whether it has a path. -/
abbrev T4 := Int × List UInt8 × List UInt8 × Bool
def zeroT : T4 := (0, [], [], false)
def kwKind (w : List UInt8) : Option Int := (kwList.find? (fun p => p.1 == w)).map (·.2)
def named (k : Int) : Bool := k == 4 || k == 6
def leastOf (k : Int) : Nat := if k = 1 ∨ k = 2 ∨ k = 3 then 1 else 0
def mostOf (k : Int) : Nat := if k = 1 ∨ k = 2 ∨ k = 3 ∨ k = 4 then 1 else 0
def dirE (k : Int) (s p : List UInt8) (h : Bool) : Int × T4 := if pathL p = true ∧ (named k = true → nameL s = true) then (0, k, s, p, h) else (11, zeroT)
def dirP (k : Int) (s : List UInt8) (ws : List (List UInt8)) : Int × T4 :=
  if ws.length < leastOf k ∨ mostOf k < ws.length then (5, zeroT)
  else match ws with
    | [] => dirE k s [] false
    | w :: _ => if Lib.hasPrefix w [46] = true then dirE k s (w.drop 1) true else (5, zeroT)
def dirK (k : Int) (ws : List (List UInt8)) : Int × T4 :=
  if named k = true then match ws with
    | [] => (5, zeroT)
    | w :: r => if Lib.hasPrefix w [46] = true then (5, zeroT) else dirP k w r
  else dirP k [] ws
/-- lex.directive. -/
def dirF (ws : List (List UInt8)) : Int × T4 :=
  match ws with
  | [] => (5, zeroT)
  | w :: r => match kwKind w with
    | some k => dirK k r
    | none => if Lib.hasPrefix w [46] = true then dirK 1 (w :: r) else (5, zeroT)

/-- A token with its offset. -/
abbrev T5 := Nat × T4
def txtT (p : Nat) (s : List UInt8) : List T5 := if s = [] then [] else [(p, 0, s, [], false)]
def lexS (p : Nat) (s : List UInt8) : Except (Nat × Int) (List T5) :=
  if h1 : Lib.index s [123, 123] < 0 then .ok (txtT p s)
  else if h2 : Lib.index (s.drop ((Lib.index s [123, 123]).toNat + 2)) [125, 125] < 0 then .error (p + (Lib.index s [123, 123]).toNat, 7)
  else
    let i := (Lib.index s [123, 123]).toNat
    let j := (Lib.index (s.drop (i + 2)) [125, 125]).toNat
    let d := dirF (fieldsG ((s.drop (i + 2)).take j) [])
    if d.1 = 0 then
      match lexS (p + i + j + 4) ((s.drop (i + 2)).drop (j + 2)) with
      | .error e => .error e
      | .ok l => .ok (txtT p (s.take i) ++ (p + i, d.2) :: l)
    else .error (p + i, d.1)
termination_by s.length
decreasing_by
  have r1 := Lib.index_room s [123, 123] (by omega)
  simp only [List.length_cons, List.length_nil] at r1
  simp only [List.length_drop]
  omega

/-! Where two equal bytes stand first. -/
def noPair (c : UInt8) : List UInt8 → Prop
  | a :: b :: r => ¬ (a = c ∧ b = c) ∧ noPair c (b :: r)
  | _ => True
theorem noPair_tail {c a : UInt8} : ∀ {s : List UInt8}, noPair c (a :: s) → noPair c s
  | [], _ => trivial
  | _ :: _, h => h.2
theorem pre2 (c a : UInt8) (s : List UInt8) : List.isPrefixOf [c, c] (a :: s) = true ↔ a = c ∧ s.head? = some c := by
  cases s with
  | nil =>
    constructor
    · intro h; simp only [List.isPrefixOf, Bool.and_false] at h; cases h
    · intro h; cases h.2
  | cons b r =>
    simp only [List.isPrefixOf, Bool.and_true, Bool.and_eq_true, beq_iff_eq, List.head?_cons, Option.some.injEq]
    exact ⟨fun h => ⟨h.1.symm, h.2.symm⟩, fun h => ⟨h.1.symm, h.2.symm⟩⟩
theorem idx_none {c : UInt8} : ∀ {s : List UInt8}, noPair c s → Lib.index s [c, c] = -1
  | [], _ => rfl
  | a :: s, h => by
    have ih := idx_none (noPair_tail h)
    have hp : ¬ List.isPrefixOf [c, c] (a :: s) = true := fun e => by
      obtain ⟨h1, h2⟩ := (pre2 c a s).1 e
      cases s with
      | nil => cases h2
      | cons b r => simp only [List.head?_cons, Option.some.injEq] at h2; exact h.1 ⟨h1, h2⟩
    unfold Lib.index
    rw [if_neg hp, ih]
    rfl
theorem idx_at {c : UInt8} (r : List UInt8) : ∀ {t : List UInt8}, noPair c (t ++ [c]) → Lib.index (t ++ c :: c :: r) [c, c] = t.length
  | [], _ => by
    show Lib.index (c :: c :: r) [c, c] = 0
    unfold Lib.index
    rw [if_pos ((pre2 c c _).2 ⟨rfl, rfl⟩)]
  | a :: t, h => by
    have ih := idx_at r (noPair_tail (s := t ++ [c]) h)
    have hp : ¬ List.isPrefixOf [c, c] (a :: (t ++ c :: c :: r)) = true := fun e => by
      obtain ⟨h1, h2⟩ := (pre2 c a _).1 e
      cases t with
      | nil => exact h.1 ⟨h1, rfl⟩
      | cons b t => simp only [List.cons_append, List.head?_cons, Option.some.injEq] at h2; exact h.1 ⟨h1, h2⟩
    show Lib.index (a :: (t ++ c :: c :: r)) [c, c] = _
    unfold Lib.index
    rw [if_neg hp, ih]
    have : ((t.length : Int) == -1) = false := by rw [beq_eq_false_iff_ne]; omega
    rw [this]
    simp
theorem idx_cases (c : UInt8) : ∀ (s : List UInt8), noPair c s ∨ ∃ t r, s = t ++ c :: c :: r ∧ noPair c (t ++ [c])
  | [] => .inl trivial
  | [a] => .inl trivial
  | a :: b :: s => by
    by_cases hp : a = c ∧ b = c
    · exact .inr ⟨[], s, by rw [hp.1, hp.2]; rfl, trivial⟩
    · rcases idx_cases c (b :: s) with h | ⟨t, r, e, h⟩
      · exact .inl ⟨hp, h⟩
      · refine .inr ⟨a :: t, r, by rw [e]; rfl, ?_⟩
        cases t with
        | nil =>
          simp only [List.nil_append, List.cons.injEq] at e
          exact ⟨fun x => hp ⟨x.1, e.1⟩, trivial⟩
        | cons d t =>
          simp only [List.cons_append, List.cons.injEq] at e
          exact ⟨fun x => hp ⟨x.1, by rw [e.1]; exact x.2⟩, h⟩

/-! The rounds of the lexer. -/
theorem lexS_text {p : Nat} {s : List UInt8} (h : noPair 123 s) : lexS p s = .ok (txtT p s) := by
  rw [lexS, dif_pos (by rw [idx_none h]; decide)]
theorem lexS_open {p : Nat} {t r : List UInt8} (h : noPair 123 (t ++ [123])) (hr : noPair 125 r) : lexS p (t ++ 123 :: 123 :: r) = .error (p + t.length, 7) := by
  have e := idx_at r h
  have hd : (t ++ 123 :: 123 :: r).drop (t.length + 2) = r := by rw [← List.drop_drop, List.drop_left]; rfl
  rw [lexS, dif_neg (by rw [e]; omega), e, Int.toNat_natCast, hd, dif_pos (by rw [idx_none hr]; decide)]
theorem lexS_dir {p : Nat} {t u r : List UInt8} (h : noPair 123 (t ++ [123])) (hu : noPair 125 (u ++ [125])) :
    lexS p (t ++ 123 :: 123 :: (u ++ 125 :: 125 :: r)) =
      if (dirF (fieldsG u [])).1 = 0 then
        match lexS (p + t.length + u.length + 4) r with
        | .error e => .error e
        | .ok l => .ok (txtT p t ++ (p + t.length, (dirF (fieldsG u [])).2) :: l)
      else .error (p + t.length, (dirF (fieldsG u [])).1) := by
  have e := idx_at (u ++ 125 :: 125 :: r) h
  have e2 := idx_at r hu
  have hd : (t ++ 123 :: 123 :: (u ++ 125 :: 125 :: r)).drop (t.length + 2) = u ++ 125 :: 125 :: r := by rw [← List.drop_drop, List.drop_left]; rfl
  have hd2 : (u ++ 125 :: 125 :: r).drop (u.length + 2) = r := by rw [← List.drop_drop, List.drop_left]; rfl
  have ht : (t ++ 123 :: 123 :: (u ++ 125 :: 125 :: r)).take t.length = t := List.take_left
  have ht2 : (u ++ 125 :: 125 :: r).take u.length = u := List.take_left
  rw [lexS, dif_neg (by rw [e]; omega), e, Int.toNat_natCast, hd, dif_neg (by rw [e2]; omega)]
  simp only [Int.toNat_natCast]
  rw [hd, e2]
  simp only [Int.toNat_natCast]
  rw [hd2, ht, ht2]
/-- The three ways that a source goes on. -/
inductive Way : List UInt8 → Prop
  | text (s) (h : noPair 123 s) : Way s
  | open_ (t r) (h : noPair 123 (t ++ [123])) (hr : noPair 125 r) : Way (t ++ 123 :: 123 :: r)
  | dir (t u r) (h : noPair 123 (t ++ [123])) (hu : noPair 125 (u ++ [125])) : Way (t ++ 123 :: 123 :: (u ++ 125 :: 125 :: r))
theorem way (s : List UInt8) : Way s := by
  rcases idx_cases 123 s with h | ⟨t, r, rfl, h⟩
  · exact .text s h
  · rcases idx_cases 125 r with hr | ⟨u, r, rfl, hu⟩
    · exact .open_ t r h hr
    · exact .dir t u r h hu

/-- What Lex returns. -/
def tokS (x : T5) : S28 := ⟨x.2.1, x.1, ⟨x.2.2.1.toArray⟩, ⟨x.2.2.2.1.toArray⟩, x.2.2.2.2⟩
def lexR (s : ByteArray) : Except (Nat × Int) (List T5) → List S28 × Int × Int
  | .ok l => (l.map tokS, s.size, 0)
  | .error (p, e) => ([], p, e)
def lexF (s : ByteArray) : List S28 × Int × Int := if (s.size : Int) > 65536 then ([], 0, 6) else lexR s (lexS 0 s.data.toList)
end Go.Proofs.YtgdpojleejdfaaaDoor.Px
