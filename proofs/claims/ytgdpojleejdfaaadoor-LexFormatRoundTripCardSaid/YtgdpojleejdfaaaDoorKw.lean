/- Contract of lex.keywords. -/
import Derived.Test.YtgdpojleejdfaaaDoorU
import Derived.Maps.RangeWalk
namespace Go.Proofs.YtgdpojleejdfaaaDoor.Px
open Go.RowKit Go.Proofs.YtgdpojleejdfaaaDoorW.PrintWords Go.Proofs.YtgdpojleejdfaaaDoorW.PrintLast Go.Proofs.YtgdpojleejdfaaaDoorW.PrintMore
open Go.Maps (Keyed)
set_option linter.unusedVariables false
set_option linter.unusedSimpArgs false

/-- 'T{k: v}' at the operation: as wpList_mapUpdate_own, for the insert of a literal. -/
theorem wpList_insert_own {H : Type} {P : Program} (w : World) {ops : Array Oper} {rest : List Oper} {o : Oper} {a : Act} {Q : Exit → Act → World → Prop}
    (hg : o.guard = none) (m x v : Operand) (t : TypeId) (hop : o.op = Op.insert t m x v)
    (k e : TypeId) (K : Keyed P k) (ht : P.underlying t = some (.map k e)) (R : Value → Option (DataW H × List MemPlace)) (b n : Nat) (D : DataW H)
    (hm : a.eval m = .map (some b)) (hown : w.ownsMap P k R b n D) (hn : n < maxLen) (key val : Value) (kl : Lit) (hx : a.eval x = key) (hv : a.eval v = val) (hkey : keyOf P k key = some kl)
    (d : DataW H) (ps : List MemPlace) (hval : R val = some (d, ps))
    (hK : ∀ w', w'.ownsMap P k R b (n + 1) (D.put kl d) → w.grownBy w' (some b) → wpList P ops Q rest (a.put o.dst undef) w') :
    wpList P ops Q (o :: rest) a w := by
  refine wpList_plain hg fun K' hK' => ?_
  obtain ⟨w', hrun, r1, r2⟩ := hown.update K ht hn hkey hval
  unfold Oper.wp
  simp [execOp, hop, hm, hx, hv, hrun, Result.andThen]
  exact hK' _ _ (hK w' r1 r2)

def kwList : List (List UInt8 × Int) := [([99, 97, 108, 108], 4), ([100, 101, 102, 105, 110, 101], 6), ([101, 108, 115, 101], 7), ([101, 110, 100], 8), ([102, 108, 117, 115, 104], 5), ([105, 102], 2), ([114, 97, 110, 103, 101], 3)]
def kwD : DataW Unit := .map (kwList.map fun p => (.string p.1, .lit (.int .i64 p.2)))
def kwD0 : DataW Unit := ((((((((DataW.map []).put (.string [105, 102]) (.lit (.int .i64 2))).put (.string [114, 97, 110, 103, 101]) (.lit (.int .i64 3))).put (.string [99, 97, 108, 108]) (.lit (.int .i64 4))).put (.string [102, 108, 117, 115, 104]) (.lit (.int .i64 5))).put (.string [100, 101, 102, 105, 110, 101]) (.lit (.int .i64 6))).put (.string [101, 108, 115, 101]) (.lit (.int .i64 7))).put (.string [101, 110, 100]) (.lit (.int .i64 8)))
theorem kwD_eq : kwD0 = kwD := by rfl
theorem law9 : Keyed Tryd.prog 9 := Maps.string_keyed Tryd.underlying9
theorem kwKey (l : List UInt8) (h : l.length ≤ 100) : keyOf Tryd.prog 9 (.string ⟨l.toArray⟩) = some (.string l) := by
  have := Go.WideMaps.keyOf_string_mk (s := ⟨l.toArray⟩) Tryd.underlying9 (by unfold maxLen; show l.toArray.size ≤ _; simp; omega)
  simpa using this

set_option maxHeartbeats 1000000 in
theorem keywords_any (w : World) : Calls Tryd.prog 50 #[] w fun e w' => e = .returned (.map (some w.heap.size)) ∧ w'.ownsMap Tryd.prog 9 (plainElem (H := Unit) Tryd.prog 3) w.heap.size 7 kwD ∧ Below w.heap.size w w' := by
  have hmm := @run_makeMap Tryd.prog
  have hB0 := Aside0.mk ((Below.refl w.heap.size w).alloc (Nat.le_refl _) (.map #[] 0))
  have hO0 := Aside0.mk (World.ownsMap_made w Tryd.prog 9 (plainElem (H := Unit) Tryd.prog 3))
  go_enter Tryd.func50, Tryd.ntmps50
  go_wp2_with (first | (refine wpList_insert_own _ rfl (.tmp 1) (.const (.string ⟨#[105, 102]⟩)) (.const (.int .i64 2)) 81 rfl 9 3 law9 Tryd.underlying81 _ w.heap.size 0 _ rfl hO0.out (by unfold maxLen; omega) _ _ _ rfl rfl (kwKey [105, 102] (by decide)) _ [] (plainElem_int Tryd.underlying3 (by decide)) ?_; intro w1 q1 g1; have hB1 := Aside0.mk (hB0.out.grown g1 hB0.out.size (fun k e => by cases e; exact Nat.le_refl _)); have hO1 := Aside0.mk q1; clear q1 g1 hO0 hB0) | (refine wpList_insert_own _ rfl (.tmp 1) (.const (.string ⟨#[114, 97, 110, 103, 101]⟩)) (.const (.int .i64 3)) 81 rfl 9 3 law9 Tryd.underlying81 _ w.heap.size 1 _ rfl hO1.out (by unfold maxLen; omega) _ _ _ rfl rfl (kwKey [114, 97, 110, 103, 101] (by decide)) _ [] (plainElem_int Tryd.underlying3 (by decide)) ?_; intro w2 q2 g2; have hB2 := Aside0.mk (hB1.out.grown g2 hB1.out.size (fun k e => by cases e; exact Nat.le_refl _)); have hO2 := Aside0.mk q2; clear q2 g2 hO1 hB1) | (refine wpList_insert_own _ rfl (.tmp 1) (.const (.string ⟨#[99, 97, 108, 108]⟩)) (.const (.int .i64 4)) 81 rfl 9 3 law9 Tryd.underlying81 _ w.heap.size 2 _ rfl hO2.out (by unfold maxLen; omega) _ _ _ rfl rfl (kwKey [99, 97, 108, 108] (by decide)) _ [] (plainElem_int Tryd.underlying3 (by decide)) ?_; intro w3 q3 g3; have hB3 := Aside0.mk (hB2.out.grown g3 hB2.out.size (fun k e => by cases e; exact Nat.le_refl _)); have hO3 := Aside0.mk q3; clear q3 g3 hO2 hB2) | (refine wpList_insert_own _ rfl (.tmp 1) (.const (.string ⟨#[102, 108, 117, 115, 104]⟩)) (.const (.int .i64 5)) 81 rfl 9 3 law9 Tryd.underlying81 _ w.heap.size 3 _ rfl hO3.out (by unfold maxLen; omega) _ _ _ rfl rfl (kwKey [102, 108, 117, 115, 104] (by decide)) _ [] (plainElem_int Tryd.underlying3 (by decide)) ?_; intro w4 q4 g4; have hB4 := Aside0.mk (hB3.out.grown g4 hB3.out.size (fun k e => by cases e; exact Nat.le_refl _)); have hO4 := Aside0.mk q4; clear q4 g4 hO3 hB3) | (refine wpList_insert_own _ rfl (.tmp 1) (.const (.string ⟨#[100, 101, 102, 105, 110, 101]⟩)) (.const (.int .i64 6)) 81 rfl 9 3 law9 Tryd.underlying81 _ w.heap.size 4 _ rfl hO4.out (by unfold maxLen; omega) _ _ _ rfl rfl (kwKey [100, 101, 102, 105, 110, 101] (by decide)) _ [] (plainElem_int Tryd.underlying3 (by decide)) ?_; intro w5 q5 g5; have hB5 := Aside0.mk (hB4.out.grown g5 hB4.out.size (fun k e => by cases e; exact Nat.le_refl _)); have hO5 := Aside0.mk q5; clear q5 g5 hO4 hB4) | (refine wpList_insert_own _ rfl (.tmp 1) (.const (.string ⟨#[101, 108, 115, 101]⟩)) (.const (.int .i64 7)) 81 rfl 9 3 law9 Tryd.underlying81 _ w.heap.size 5 _ rfl hO5.out (by unfold maxLen; omega) _ _ _ rfl rfl (kwKey [101, 108, 115, 101] (by decide)) _ [] (plainElem_int Tryd.underlying3 (by decide)) ?_; intro w6 q6 g6; have hB6 := Aside0.mk (hB5.out.grown g6 hB5.out.size (fun k e => by cases e; exact Nat.le_refl _)); have hO6 := Aside0.mk q6; clear q6 g6 hO5 hB5) | (refine wpList_insert_own _ rfl (.tmp 1) (.const (.string ⟨#[101, 110, 100]⟩)) (.const (.int .i64 8)) 81 rfl 9 3 law9 Tryd.underlying81 _ w.heap.size 6 _ rfl hO6.out (by unfold maxLen; omega) _ _ _ rfl rfl (kwKey [101, 110, 100] (by decide)) _ [] (plainElem_int Tryd.underlying3 (by decide)) ?_; intro w7 q7 g7; have hB7 := Aside0.mk (hB6.out.grown g7 hB6.out.size (fun k e => by cases e; exact Nat.le_refl _)); have hO7 := Aside0.mk q7; clear q7 g7 hO6 hB6))
  go_ret
  exact ⟨rfl, by rw [← kwD_eq]; exact hO7.out, hB7.out⟩

theorem keyOf_string_inv {P : Program} {k : TypeId} (hk : P.underlying k = some .string) {key : Value} {kl : Lit} (h : keyOf P k key = some kl) : ∃ x : ByteArray, key = .string x ∧ kl = .string x.data.toList := by
  cases key <;> simp [keyOf, hk, mapKey] at h
  exact ⟨_, rfl, h.2.symm⟩
theorem kw_mem {l : List UInt8} (h : Maps.has kwD (.string l) = true) : ∃ c, (l, c) ∈ kwList := by
  unfold kwD at h
  rw [Maps.has_eq, List.any_map, List.any_eq_true] at h
  obtain ⟨p, hp, he⟩ := h
  have : p.1 = l := by simpa [Lit.sameKey] using he
  subst this
  exact ⟨p.2, hp⟩
theorem kw_has {l : List UInt8} {c : Int} (h : (l, c) ∈ kwList) : Maps.has kwD (.string l) = true := by
  unfold kwD
  rw [Maps.has_eq, List.any_map, List.any_eq_true]
  exact ⟨_, h, by simp [Lit.sameKey]⟩
theorem kw_at {l : List UInt8} {c : Int} (h : (l, c) ∈ kwList) (zd : DataW Unit) : kwD.atKey (.string l) zd = .lit (.int .i64 c) := by
  simp only [kwList, List.mem_cons, Prod.mk.injEq, List.not_mem_nil, or_false] at h
  rcases h with ⟨rfl, rfl⟩ | ⟨rfl, rfl⟩ | ⟨rfl, rfl⟩ | ⟨rfl, rfl⟩ | ⟨rfl, rfl⟩ | ⟨rfl, rfl⟩ | ⟨rfl, rfl⟩ <;> rfl
set_option maxRecDepth 100000 in
/-- The step of a range over the map of keywords. -/
theorem wpList_next_kw {w : World} {ops : Array Oper} {rest : List Oper} {o : Oper} {a : Act} {Q : Exit → Act → World → Prop} (hg : o.guard = none) (it : Operand) (hop : o.op = Op.next it false)
    (b r n : Nat) (left : Lit → Bool) (cnt : Nat) (hit : a.eval it = .pointer (some ⟨r, 0, none⟩)) (h : w.ranges Tryd.prog 9 (plainElem (H := Unit) Tryd.prog 3) b r n kwD left cnt) (hleft : ∀ kl, left kl = true → Maps.has kwD kl = true)
    (hDone : (∀ kl, left kl = false) → wpList Tryd.prog ops Q rest (a.put o.dst (.tuple #[.bool false])) w)
    (hMore : ∀ (s : List UInt8) (c : Int) (w' : World) (cnt' : Nat), (s, c) ∈ kwList → left (.string s) = true → w'.ranges Tryd.prog 9 (plainElem (H := Unit) Tryd.prog 3) b r n kwD (fun z => left z && !z.sameKey (.string s)) cnt' → cnt' < cnt →
      w.grownBy w' (some r) → w'.heap.size = w.heap.size → (Instr.entry (.pointer (some ⟨r, 0, none⟩))).run Tryd.prog w' = .ok (.tuple #[.string ⟨s.toArray⟩, .int .i64 c]) w' → wpList Tryd.prog ops Q rest (a.put o.dst (.tuple #[.bool true, .string ⟨s.toArray⟩, .int .i64 c])) w') :
    wpList Tryd.prog ops Q (o :: rest) a w :=
  wpList_next_ranges w hg it hop 9 law9 (plainElem Tryd.prog 3) Value.string (Value.int .i64) (fun key kl hkey => by obtain ⟨x, rfl, _⟩ := keyOf_string_inv Tryd.underlying9 hkey; exact ⟨x, rfl⟩) (fun v y hv => by obtain ⟨c, rfl, _⟩ := plainElem_int_inv Tryd.underlying3 hv; exact ⟨c, rfl⟩)
    b r n kwD left cnt hit h (fun _ hl => hDone hl) (fun x c kl y w' cnt' hkey hlk hv hat hrg hlt hgr hsz hen => by
      obtain ⟨x', ex, rfl⟩ := keyOf_string_inv Tryd.underlying9 hkey
      cases ex
      obtain ⟨c', ec, rfl, hwc⟩ := plainElem_int_inv Tryd.underlying3 hv
      cases ec
      obtain ⟨c2, hm⟩ := kw_mem (hleft _ hlk)
      have e1 := hat (.lit (.int .i64 0))
      rw [kw_at hm] at e1
      have e2 : c2 = c := by injection e1 with e1; injection e1
      subst e2
      have hx : (⟨x.data.toList.toArray⟩ : ByteArray) = x := by cases x; simp
      have hM := hMore x.data.toList c2 w' cnt' hm hlk hrg hlt hgr hsz (by rw [hx]; exact hen)
      rw [hx] at hM
      exact hM)
def kwOf (k : Int) : Option (List UInt8) := (kwList.find? (fun p => p.2 == k)).map (·.1)
theorem kwOf_mem {k : Int} {s : List UInt8} (h : kwOf k = some s) : (s, k) ∈ kwList := by
  unfold kwOf at h
  obtain ⟨p, hp, rfl⟩ := Option.map_eq_some_iff.1 h
  have h1 := List.mem_of_find?_eq_some hp
  have h2 := List.find?_some hp
  simp only [beq_iff_eq] at h2
  rw [← h2]
  exact h1
theorem kwOf_of {k : Int} {s : List UInt8} (h : (s, k) ∈ kwList) : kwOf k = some s := by
  simp only [kwList, List.mem_cons, Prod.mk.injEq, List.not_mem_nil, or_false] at h
  rcases h with ⟨rfl, rfl⟩ | ⟨rfl, rfl⟩ | ⟨rfl, rfl⟩ | ⟨rfl, rfl⟩ | ⟨rfl, rfl⟩ | ⟨rfl, rfl⟩ | ⟨rfl, rfl⟩ <;> rfl
/-- What has been collected of the keywords of kind K, when 'left' are still to come. -/
def kwGot (K : Int) (left : Lit → Bool) : List ByteArray := match kwOf K with | none => [] | some s => if left (.string s) = true then [] else [⟨s.toArray⟩]
set_option maxRecDepth 100000 in
theorem kwGot_start (K : Int) : kwGot K (Maps.has kwD) = [] := by
  unfold kwGot
  split
  · rfl
  · rename_i s h
    rw [if_pos (kw_has (kwOf_mem h))]
set_option maxRecDepth 100000 in
theorem kwGot_end (K : Int) {left : Lit → Bool} (h : ∀ kl, left kl = false) : kwGot K left = (match kwOf K with | none => [] | some s => [⟨s.toArray⟩]) := by
  unfold kwGot
  split
  · rfl
  · rename_i s e; rw [h]; rfl
set_option maxRecDepth 100000 in
theorem kwGot_hit {K : Int} {left : Lit → Bool} {s : List UInt8} (h : (s, K) ∈ kwList) (hl : left (.string s) = true) : kwGot K left = [] ∧ kwGot K (fun z => left z && !z.sameKey (.string s)) = [⟨s.toArray⟩] := by
  unfold kwGot
  rw [kwOf_of h]
  simp [hl, Lit.sameKey]
set_option maxRecDepth 100000 in
theorem kwGot_miss {K c : Int} {left : Lit → Bool} {s : List UInt8} (h : (s, c) ∈ kwList) (hc : c ≠ K) : kwGot K (fun z => left z && !z.sameKey (.string s)) = kwGot K left := by
  unfold kwGot
  split
  · rfl
  · rename_i s' e
    have hm := kwOf_mem e
    have hne : s' ≠ s := by
      rintro rfl
      have e1 := kwOf_of h
      have := kw_at h (.lit (.int .i64 0))
      rw [kw_at hm] at this
      injection this with this
      injection this with _ this
      exact hc this.symm
    have : (Lit.string s').sameKey (.string s) = false := by simp [Lit.sameKey, hne]
    simp [this]
end Go.Proofs.YtgdpojleejdfaaaDoor.Px
