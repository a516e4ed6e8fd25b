import Derived.Test.YtgdpojleejdfaaaDoorPCCc
import Derived.Test.YtgdpojleejdfaaaDoorPCNe
/- The nodes of two templates one after the other are the nodes of their concatenation (the plain law). -/
namespace Go.Proofs.YtgdpojleejdfaaaDoor.Pure
open Go.RowKit Go.Proofs.YtgdpojleejdfaaaDoor.Px Go.Proofs.YtgdpojleejdfaaaDoorW.PrintWords Go.Proofs.YtgdpojleejdfaaaDoorW.PrintLast
theorem mergeT_far : ∀ (l : List T5) (u : T5) (m : List T5), u.2.1 ≠ 0 → mergeT (l ++ [u]) m = l ++ u :: m
  | [], u, m, h => by
    rw [List.nil_append, mergeT_dir u [] m h]; rfl
  | [a], u, m, h => by
    show a :: mergeT [u] m = _
    rw [mergeT_dir u [] m h]; rfl
  | a :: b :: l, u, m, h => by
    show a :: mergeT ((b :: l) ++ [u]) m = _
    rw [mergeT_far (b :: l) u m h]; rfl
theorem lexS_nil (p : Nat) (s : List UInt8) (h : lexS p s = .ok []) : s = [] := by
  cases way s with
  | text _ h1 =>
    rw [lexS_text h1] at h
    unfold txtT at h
    split at h
    · assumption
    · cases h
  | open_ t r h1 h2 => rw [lexS_open h1 h2] at h; cases h
  | dir t u r h1 h2 =>
    obtain ⟨_, _, _, _, e⟩ := lexS_dirOk h1 h2 h
    simp at e
theorem last_brace : ∀ (n p : Nat) (s : List UInt8) (L : List T5) (l : List T5) (u : T5), s.length ≤ n → lexS p s = .ok L → L = l ++ [u] → u.2.1 ≠ 0 → s.getLast? = some 125
  | n, p, s, L, l, u, hn, e, hl, hu => by
    have htx : ∀ t : List UInt8, txtT p t = l ++ [u] → False := fun t h => by
      unfold txtT at h
      split at h
      · simp at h
      · have := congrArg List.getLast? h
        simp at this
        exact hu (by rw [← this])
    cases way s with
    | text _ h => rw [lexS_text h] at e; cases e; exact (htx _ hl).elim
    | open_ t r h hr => rw [lexS_open h hr] at e; cases e
    | dir t u' r h hu' =>
      obtain ⟨dd, l', hd, hl', rfl⟩ := lexS_dirOk h hu' e
      cases n with
      | zero => simp at hn
      | succ n =>
        by_cases hr : l' = []
        · subst hr
          obtain rfl := lexS_nil _ _ hl'
          rw [show t ++ 123 :: 123 :: (u' ++ 125 :: 125 :: []) = (t ++ 123 :: 123 :: (u' ++ [125])) ++ [125] by simp, List.getLast?_concat]
        · obtain ⟨l2, u2, rfl⟩ : ∃ l2 u2, l' = l2 ++ [u2] := ⟨l'.dropLast, l'.getLast hr, (List.dropLast_concat_getLast hr).symm⟩
          have hu2 : u2 = u := by
            rw [show txtT p t ++ (p + t.length, dd) :: (l2 ++ [u2]) = (txtT p t ++ (p + t.length, dd) :: l2) ++ [u2] by simp] at hl
            have := (List.append_inj' hl rfl).2
            simpa using this
          subst hu2
          simp only [List.length_append, List.length_cons] at hn
          have := last_brace n _ r _ l2 u2 (by omega) hl' rfl hu
          rw [show t ++ 123 :: 123 :: (u' ++ 125 :: 125 :: r) = (t ++ 123 :: 123 :: (u' ++ [125, 125])) ++ r by simp, List.getLast?_append, this]
          rfl
theorem keys_shift (d : Nat) (M : List T5) : ((shiftT d M).map tokS).map keyT = (M.map tokS).map keyT := by
  unfold shiftT
  rw [List.map_map, List.map_map, List.map_map]
  rfl
theorem catLaw (a b : ByteArray) : CatLaw a b := by
  intro x y n1 n2 hx hy ha hb hx0 hk hcnt
  obtain ⟨K1, h1⟩ := hx
  obtain ⟨K2, h2⟩ := hy
  obtain ⟨La, na, _, hLa, hpa, _⟩ := parse_good (h1 K1 (Nat.le_refl _)) rfl
  obtain ⟨Lb, nb, _, hLb, hpb, _⟩ := parse_good (h2 K2 (Nat.le_refl _)) rfl
  dsimp only at hpa hpb
  have ca := (parse_cnt K1).1 _ _ _ _ _ _ _ hpa
  have cb := (parse_cnt K2).1 _ _ _ _ _ _ _ hpb
  obtain ⟨_, _, _, ea, ga⟩ := (pgood K1).1 _ _ _ _ _ _ _ (by decide) (by decide) hpa
  obtain ⟨_, _, _, eb, gb⟩ := (pgood K2).1 _ _ _ _ _ _ _ (by decide) (by decide) hpb
  rw [List.nil_append] at ea eb
  subst ea eb
  have gca := ga.cnt
  have gcb := gb.cnt
  simp only [nL] at ca cb
  have hLa0 : La.map tokS ≠ [] := by
    intro h0
    rw [h0] at hpa
    cases K1 with
    | zero => simp [plist] at hpa
    | succ K => rw [plist_nil] at hpa; cases hpa; exact hx0 rfl
  obtain ⟨_, pre, u, eu, hu⟩ := last_list K1 _ _ _ _ _ _ hpa hLa0
  have hu0 : u.f0 ≠ 0 := by
    rcases hu with hu | hu
    · rw [hu]; decide
    · rw [hu]; exact hk
  obtain ⟨l, v, hLv, hv⟩ : ∃ l v, La = l ++ [v] ∧ tokS v = u := by
    have hne : La ≠ [] := fun h => hLa0 (by rw [h]; rfl)
    refine ⟨La.dropLast, La.getLast hne, (List.dropLast_concat_getLast hne).symm, ?_⟩
    rw [← List.dropLast_concat_getLast hne, List.map_append] at eu
    have := (List.append_inj' eu rfl).2
    simpa using this
  have hv0 : v.2.1 ≠ 0 := by rw [← hv] at hu0; exact hu0
  have hbr := last_brace _ 0 _ La l v (Nat.le_refl _) hLa hLv hv0
  have hsh := lexS_shift a.size _ 0 b.data.toList Lb (Nat.le_refl _) hLb
  have hc := lexS_concat _ 0 a.data.toList b.data.toList La (shiftT a.size Lb) (Nat.le_refl _) (by rw [hbr]; decide) hLa (by rw [data_length]; exact hsh)
  rw [hLv, mergeT_far l v _ hv0] at hc
  have hd : (a ++ b).data.toList = a.data.toList ++ b.data.toList := by simp
  have hlex : lexF (a ++ b) = ((La.map tokS) ++ (shiftT a.size Lb).map tokS, ((a.size + b.size : Nat) : Int), 0) := by
    rw [lexF_small (by rw [ByteArray.size_append]; omega), hd, hc, hLv]
    simp [lexR, ByteArray.size_append]
  have hlb : Lb.length ≤ 3000 := by have := lexS_len _ 0 _ Lb (Nat.le_refl _) hLb; rw [data_length] at this; omega
  have hxl := nL_len x
  have key := keys_shift a.size Lb
  obtain ⟨ys, zs, l1', b1, b2, b3, b4, _, _⟩ := (same_key K2).1 _ _ _ _ _ _ _ (by decide) hpb ((shiftT a.size Lb).map tokS) na x key (by omega) (by omega) (by have := key_len key; simp only [List.length_map] at this ⊢; omega)
  rw [List.nil_append] at b1
  subst b1
  obtain rfl := key_nil b3
  have hev := more_list K1 _ _ _ _ _ _ hpa ((shiftT a.size Lb).map tokS) _ (Ev.up (fun k => (parser.mono k).1 _ _ _ _) b2)
  have hzy : zs.length = y.length := by
    by_cases h : zs.length = y.length
    · exact h
    · rw [eqRL_len false zs y h] at b4; cases b4
  refine ⟨zs, ?_, hzy, b4, ?_⟩
  · refine Ev.of (f := fun k => (plist k ((La.map tokS) ++ (shiftT a.size Lb).map tokS) 0 0 []).map (parseR (a ++ b))) ?_ (fun k => by
      unfold parse_Parse.f
      rw [hlex]
      exact if_pos rfl)
    obtain ⟨K, hK⟩ := hev
    refine ⟨K, fun k hk => ?_⟩
    have := hK k hk
    dsimp only at this ⊢
    rw [this]
    show some (parseR (a ++ b) (.ok (x ++ zs, [], _))) = _
    simp [parseR, ByteArray.size_append]
  · obtain ⟨K, hK⟩ := hev
    have := (parse_cnt K).1 _ _ _ _ _ _ _ (hK K (Nat.le_refl _))
    simp only [nL] at this
    have h2 := this.2 (by decide)
    omega
end Go.Proofs.YtgdpojleejdfaaaDoor.Pure
