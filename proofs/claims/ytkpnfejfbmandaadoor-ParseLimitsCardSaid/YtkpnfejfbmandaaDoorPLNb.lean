import Derived.Test.YtkpnfejfbmandaaDoorPLPz
import Derived.Test.YtkpnfejfbmandaaDoorPLRn
import Derived.Test.YtkpnfejfbmandaaDoorPLMr
import Derived.Test.YtkpnfejfbmandaaDoorPLMt
import Derived.Test.YtkpnfejfbmandaaDoorPLPx0
import Derived.Test.YtkpnfejfbmandaaDoorPLEq
/- Plain laws: rounds; the number of nodes; the reference's Equal; what Parse answers. -/
namespace Go.Proofs.YtkpnfejfbmandaaDoor.Px
open Go.RowKit Go.Proofs.YtkpnfejfbmandaaDoorW.PrintWords Go.Proofs.YtkpnfejfbmandaaDoorW.PrintLast Go.Proofs.YtkpnfejfbmandaaDoorW.PrintMore
set_option linter.unusedVariables false
set_option linter.unusedSimpArgs false
/-- From some round on it tells this. -/
def Ev {α : Type} (f : Nat → Option α) (v : α) : Prop := ∃ K, ∀ k, K ≤ k → f k = some v
theorem Ev.up {α : Type} {f : Nat → Option α} (hm : ∀ k, LeO (f k) (f (k + 1))) {v : α} {K : Nat} (h : f K = some v) : Ev f v := by
  refine ⟨K, fun k hk => ?_⟩
  induction hk with
  | refl => exact h
  | step _ ih => exact hm _ _ ih
theorem Ev.pure {α : Type} (v : α) : Ev (fun _ => some v) v := ⟨0, fun _ _ => rfl⟩
theorem Ev.bind {α β : Type} {f : Nat → Option α} {v : α} {g : Nat → α → Option β} {r : β} (h : Ev f v) (k : Ev (fun n => g n v) r) : Ev (fun n => (f n).bind (g n)) r := by
  obtain ⟨K, hK⟩ := h
  obtain ⟨L, hL⟩ := k
  exact ⟨max K L, fun n hn => by show (f n).bind (g n) = _; rw [hK n (by omega)]; exact hL n (by omega)⟩
theorem Ev.shift {α : Type} {f g : Nat → Option α} {v : α} (h : Ev f v) (e : ∀ k, g (k + 1) = f k) : Ev g v := by
  obtain ⟨K, hK⟩ := h
  exact ⟨K + 1, fun n hn => by
    obtain ⟨n, rfl⟩ : ∃ m, n = m + 1 := ⟨n - 1, by omega⟩
    rw [e]; exact hK n (by omega)⟩
theorem Ev.of {α : Type} {f g : Nat → Option α} {v : α} (h : Ev f v) (e : ∀ k, g k = f k) : Ev g v := by
  obtain ⟨K, hK⟩ := h
  exact ⟨K, fun n hn => by rw [e]; exact hK n hn⟩
theorem Ev.one {α : Type} {f : Nat → Option α} {v : α} (h : Ev f v) : ∃ k, f k = some v := h.imp fun K hK => hK K (Nat.le_refl _)
mutual
def nL : List S78 → Nat
  | [] => 0
  | x :: xs => nN x + nL xs
def nN : S78 → Nat
  | ⟨_, _, _, _, _, _, b, l⟩ => 1 + nL b + nL l
end
theorem nN_eq (x : S78) : nN x = 1 + nL x.f6 + nL x.f7 := by cases x; simp [nN]
theorem nL_cons (x : S78) (xs : List S78) : nL (x :: xs) = nN x + nL xs := by simp [nL]
theorem nL_len : ∀ l : List S78, l.length ≤ nL l
  | [] => by simp [nL]
  | x :: xs => by have := nL_len xs; rw [nL_cons, nN_eq, List.length_cons]; omega
theorem nL_mem : ∀ (l : List S78) (x : S78), x ∈ l → nN x ≤ nL l
  | y :: ys, x, h => by
    rw [nL_cons]
    rcases List.mem_cons.1 h with rfl | h
    · omega
    · have := nL_mem ys x h; omega
theorem nL_one (x : S78) : nL [x] = nN x := by rw [nL_cons]; simp [nL]
/-- The lexer by rounds: it can be reckoned. -/
def lexK : Nat → Nat → List UInt8 → Except (Nat × Int) (List T5)
  | 0, _, _ => .ok []
  | k + 1, p, s =>
    if Lib.index s [123, 123] < 0 then .ok (txtT p s)
    else if Lib.index (s.drop ((Lib.index s [123, 123]).toNat + 2)) [125, 125] < 0 then .error (p + (Lib.index s [123, 123]).toNat, 7)
    else
      let i := (Lib.index s [123, 123]).toNat
      let j := (Lib.index (s.drop (i + 2)) [125, 125]).toNat
      let d := dirF (fieldsG ((s.drop (i + 2)).take j) [])
      if d.1 = 0 then
        match lexK k (p + i + j + 4) ((s.drop (i + 2)).drop (j + 2)) with
        | .error e => .error e
        | .ok l => .ok (txtT p (s.take i) ++ (p + i, d.2) :: l)
      else .error (p + i, d.1)
theorem lexK_is : ∀ (k p : Nat) (s : List UInt8), s.length < k → lexS p s = lexK k p s
  | 0, p, s, h => absurd h (Nat.not_lt_zero _)
  | k + 1, p, s, h => by
    rw [lexS, lexK]
    by_cases h1 : Lib.index s [123, 123] < 0
    · rw [dif_pos h1, if_pos h1]
    rw [dif_neg h1, if_neg h1]
    by_cases h2 : Lib.index (s.drop ((Lib.index s [123, 123]).toNat + 2)) [125, 125] < 0
    · rw [dif_pos h2, if_pos h2]
    rw [dif_neg h2, if_neg h2]
    have r1 := Lib.index_room s [123, 123] (by omega)
    have r2 : ([123, 123] : List UInt8).length = 2 := rfl
    rw [r2] at r1
    have hk := fun p' => lexK_is k p' ((s.drop ((Lib.index s [123, 123]).toNat + 2)).drop ((Lib.index (s.drop ((Lib.index s [123, 123]).toNat + 2)) [125, 125]).toNat + 2)) (by rw [List.length_drop, List.length_drop]; omega)
    dsimp only
    rw [hk]
    rfl
def lexFK (s : ByteArray) : List S76 × Int × Int := if (s.size : Int) > 65536 then ([], 0, 6) else lexR s (lexK (s.data.toList.length + 1) 0 s.data.toList)
theorem lexFK_is (s : ByteArray) : lexF s = lexFK s := by unfold lexF lexFK; rw [lexK_is _ _ _ (Nat.lt_succ_self _)]
theorem parseK_is (k : Nat) (s : ByteArray) : parse_Parse.f k s = if (lexFK s).2.2 = 0 then (plist k (lexFK s).1 0 0 []).map (parseR s) else some ([], (lexFK s).2.1, (lexFK s).2.2) := by unfold parse_Parse.f; rw [lexFK_is]
end Go.Proofs.YtkpnfejfbmandaaDoor.Px
