/- Contracts of slices.Clone and printer.Strip. -/
import Derived.Lib.BufferMore
import Derived.Deep.RegionWith
import Derived.Test.YtgdpojleejdfaaaU
import Derived.Test.YtgdpojleejdfaaaRp
namespace Go.Proofs.Ytgdpojleejdfaaa.Px
open Go.RowKit Go.Proofs.YtgdpojleejdfaaaW.PrintWords Go.Proofs.YtgdpojleejdfaaaW.PrintLast Go.Proofs.YtgdpojleejdfaaaW.PrintMore
set_option linter.unusedVariables false
set_option linter.unusedSimpArgs false

theorem k29_heap : Kd.Heap k29 := Kd.heap_fix (fun _ h_ => Kd.heap_iso _ (Kd.heap_pair (Kd.heap_int _) (Kd.heap_pair (Kd.heap_int _) (Kd.heap_pair Kd.heap_string (Kd.heap_pair Kd.heap_string (Kd.heap_pair Kd.heap_bool (Kd.heap_pair Kd.heap_bool (Kd.heap_pair (Kd.heap_slice 29 h_) (Kd.heap_slice 29 h_)))))))))
theorem run_eql_slice_none_nil {P : Program} (w : World) {t e : TypeId} (n c : Nat) (ht : P.underlying t = some (.slice e)) :
    (binOp .eql t (.slice none n c) (.slice none 0 0)).run P w = .ok (.bool true) w := by
  have h : ∀ d : Nat, (Op.equalIn (d + 1) t (.slice none n c) (.slice none 0 0)).run P w = .ok true w := fun d => by
    simp [Op.equalIn, run_underlying ht]
  simp only [binOp]
  simp [Op.equal, Op.maxDepth, h 9999]

theorem clone_calls (A : Option Addr) (c : Nat) (l : List S29) (w : World) (ha : Kd.C k29 w A l.length l) (hc : l.length ≤ c) (hl : l.length ≤ 1000000000) :
    Calls Try.prog 21 #[.slice A l.length c] w fun e w' => ∃ v, e = .returned v ∧ Kd.N k29 29 w' w.heap.size (fun _ => True) v l ∧ Below w.heap.size w w' := by
  have h0 : A = none → l = [] := fun h => by
    rcases Nat.eq_zero_or_pos l.length with h' | h'
    · exact List.length_eq_zero_iff.1 h'
    · obtain ⟨ad, e, _⟩ := ha.2.2 h'; rw [h] at e; cases e
  have HR := Aside0.mk ha
  clear ha
  go_enter Try.func21, Try.ntmps21
  cases A with
  | none =>
    obtain rfl := h0 rfl
    go_wp2
    rw [run_eql_slice_none_nil w _ _ Try.underlying22]
    simp only [Result.andThen]
    rw [Oper.upon_value]
    go_wp2
    go_ret
    exact ⟨_, rfl, Kd.N_nil _ _ _ _ _, Below.refl _ _⟩
  | some ad =>
    clear h0
    go_wp2
    rw [Lib.run_eql_slice_some_nil w ad _ _ Try.underlying22]
    simp only [Result.andThen]
    rw [Oper.upon_value]
    have hN : Kd.N k29 29 (w.alloc (.cells #[] 29)) w.heap.size (fun _ => True) (.slice (some ⟨w.heap.size, 0, none⟩) 0 0) [] :=
      Kd.R_N ⟨fun _ _ => trivial, [], ⟨rfl, .inr ⟨w.heap.size, 0, #[], rfl, Nat.le_refl _, blk_new _ _, Nat.le_refl _, by decide, rfl, rfl⟩⟩, Reps.none _ _⟩
    have hF : Kd.F k29 (w.alloc (.cells #[] 29)) (fun k => k < w.heap.size) (some ad) l.length l := Kd.F_alloc (Kd.C_F k29_heap HR.out) _
    have hB := below_alloc (Below.refl w.heap.size w) (.cells #[] 29)
    replace hN := Aside0.mk hN
    replace hF := Aside0.mk hF
    replace hB := Aside0.mk hB
    go_wp2_with (at_builtin; go_loud (refine Kd.N_append_rows k29 w.heap.size rfl _ _ 22 29 _ 104 rfl Try.underlying22 info29 rfl (by decide) (by decide) (.slice (some ⟨w.heap.size, 0, none⟩) 0 0) [] l (some ad) l.length c (fun _ => True) (fun k => k < w.heap.size) rfl rfl hN.out hF.out (fun k hk => ⟨trivial, fun e => by simp [Value.ownBlock] at e; omega⟩) (fun _ _ => trivial) hB.out (by simp) (by simp; omega) ?_; intro v1 w1 hN1 hB1 _ _))
    replace hN1 := Aside0.mk hN1
    replace hB1 := Aside0.mk hB1
    obtain ⟨A1, c1, rfl⟩ := Kd.N_slice hN1.out
    go_wp2
    go_ret
    exact ⟨_, rfl, by simpa using hN1.out, hB1.out⟩

mutual
def stripL : List S29 → List S29
  | [] => []
  | x :: xs => stripN x :: stripL xs
def stripN : S29 → S29
  | ⟨k, _, s, p, h, e, b, l⟩ => ⟨k, 0, s, p, h, e, stripL b, stripL l⟩
end
mutual
def nL : List S29 → Nat
  | [] => 0
  | x :: xs => nN x + nL xs
def nN : S29 → Nat
  | ⟨_, _, _, _, _, _, b, l⟩ => 1 + nL b + nL l
end
theorem stripN_eq (x : S29) : stripN x = ⟨x.f0, 0, x.f2, x.f3, x.f4, x.f5, stripL x.f6, stripL x.f7⟩ := by cases x; simp [stripN]
theorem nN_eq (x : S29) : nN x = 1 + nL x.f6 + nL x.f7 := by cases x; simp [nN]
theorem nL_cons (x : S29) (xs : List S29) : nL (x :: xs) = nN x + nL xs := by simp [nL]
theorem nL_len : ∀ l : List S29, l.length ≤ nL l
  | [] => by simp [nL]
  | x :: xs => by have := nL_len xs; rw [nL_cons, nN_eq, List.length_cons]; omega
theorem nL_mem : ∀ (l : List S29) (x : S29), x ∈ l → nN x ≤ nL l
  | y :: ys, x, h => by
    rw [nL_cons]
    rcases List.mem_cons.1 h with rfl | h
    · omega
    · have := nL_mem ys x h; omega
theorem stripL_len : ∀ l : List S29, (stripL l).length = l.length
  | [] => by simp [stripL]
  | x :: xs => by simp [stripL, stripL_len xs]
theorem stripL_get : ∀ (l : List S29) (j : Nat), (stripL l)[j]? = l[j]?.map stripN
  | [], j => by simp [stripL]
  | x :: xs, 0 => by simp [stripL]
  | x :: xs, j + 1 => by simp [stripL, stripL_get xs j]

def seg (C : Array Value) (j : Nat) : List Value := (C.toList.drop (j * 8)).take 8
theorem seg_get (C : Array Value) (j o : Nat) (ho : o < 8) : C[j * 8 + o]? = (seg C j)[o]? := by
  unfold seg
  rw [List.getElem?_take, if_pos ho, List.getElem?_drop, Array.getElem?_toList]
theorem seg_set (C : Array Value) (i j o : Nat) (u : Value) (ho : o < 8) : seg (C.setIfInBounds (i * 8 + o) u) j = if j = i then (seg C j).set o u else seg C j := by
  unfold seg
  apply List.ext_getElem?
  intro m
  by_cases hm : m < 8
  · by_cases hji : j = i
    · subst hji
      rw [if_pos rfl, List.getElem?_take, if_pos hm, List.getElem?_drop, Array.toList_setIfInBounds, List.getElem?_set, List.getElem?_set, List.getElem?_take, if_pos hm, List.getElem?_drop]
      by_cases hmo : o = m
      · subst hmo; simp only [if_true, List.length_take, List.length_drop, Array.length_toList]; congr 1; exact propext ⟨fun h => by omega, fun h => by omega⟩
      · rw [if_neg (by omega), if_neg hmo]
    · rw [if_neg hji, List.getElem?_take, if_pos hm, List.getElem?_drop, Array.toList_setIfInBounds, List.getElem?_set, List.getElem?_take, if_pos hm, List.getElem?_drop, if_neg (by omega)]
  · rw [List.getElem?_take, if_neg hm]
    split
    · rw [List.getElem?_set, List.getElem?_take, if_neg hm]
      split <;> simp_all
    · rw [List.getElem?_take, if_neg hm]

structure StRel (w : World) (l : List S29) (g cap i : Nat) (C : Array Value) (wr : World) : Prop where
  blk : wr.heap[g]? = some (.cells C 29 (0, 0))
  size : C.size = cap * 8
  cap : l.length ≤ cap ∧ cap ≤ maxLen
  base : w.heap.size ≤ g
  below : Below w.heap.size w wr
  done : ∀ j x, l[j]? = some x → j < i → k29.M wr w.heap.size (fun k => k ≠ g) (stripN x) (seg C j)
  left : ∀ j x, l[j]? = some x → i ≤ j → Kd.FK k29 wr (fun k => k ≠ g) x (seg C j)
theorem StRel.next {w wr w2 w3 : World} {l : List S29} {g cap i : Nat} {C : Array Value} {x : S29} {A6 A7 : Option Addr} {c6 c7 : Nat} {v6 v7 : Value} (hS : StRel w l g cap i C wr) (hi : i < l.length) (hx : l[i]? = some x)
    (hseg : seg C i = [.int .i64 x.f0, .int .i64 x.f1, .string x.f2, .string x.f3, .bool x.f4, .bool x.f5, .slice A6 x.f6.length c6, .slice A7 x.f7.length c7])
    (R6 : Kd.R k29 29 w2 wr.heap.size (fun _ => True) v6 (stripL x.f6)) (b6 : Below wr.heap.size wr w2) (R7 : Kd.R k29 29 w3 w2.heap.size (fun _ => True) v7 (stripL x.f7)) (b7 : Below w2.heap.size w2 w3) :
    StRel w l g cap (i + 1) (((C.setIfInBounds (i * 8 + 1) (.int .i64 0)).setIfInBounds (i * 8 + 6) v6).setIfInBounds (i * 8 + 7) v7)
      (((w3.setCell ⟨g, i * 8 + 1, none⟩ (.int .i64 0)).setCell ⟨g, i * 8 + 6, none⟩ v6).setCell ⟨g, i * 8 + 7, none⟩ v7) := by
  obtain ⟨hblk, hsz, hcap, hbase, hB, hdone, hleft⟩ := hS
  have hg := blk_lt hblk
  have hk3 := blk_below (blk_below hblk b6) b7
  have hs2 := b6.size
  have hs3 := b7.size
  have hb3 : Below w.heap.size w w3 := (hB.trans (b6.mono hB.size)).trans (b7.mono (Nat.le_trans hB.size hs2))
  have far : ∀ {k : Nat} (v : Value), k ≠ g → ((((w3.setCell ⟨g, i * 8 + 1, none⟩ (.int .i64 0)).setCell ⟨g, i * 8 + 6, none⟩ v6).setCell ⟨g, i * 8 + 7, none⟩ v7).heap[k]? = w3.heap[k]?) := fun _ hk =>
    (Below.heap_setCell _ _ _ _ hk).trans ((Below.heap_setCell _ _ _ _ hk).trans (Below.heap_setCell _ _ _ _ hk))
  have hR6 : Kd.R k29 29 (((w3.setCell ⟨g, i * 8 + 1, none⟩ (.int .i64 0)).setCell ⟨g, i * 8 + 6, none⟩ v6).setCell ⟨g, i * 8 + 7, none⟩ v7) w.heap.size (fun k => k ≠ g) v6 (stripL x.f6) := by
    refine Kd.R_step (Kd.R_lower (Kd.R_mono (Kd.R_bound (Kd.R_below R6 b7)) (ok' := fun k => k ≠ g) (fun k hk => by have := hk.2.1; omega)) hB.size) (fun k hk _ => far (.int .i64 0) hk)
  have hR7 : Kd.R k29 29 (((w3.setCell ⟨g, i * 8 + 1, none⟩ (.int .i64 0)).setCell ⟨g, i * 8 + 6, none⟩ v6).setCell ⟨g, i * 8 + 7, none⟩ v7) w.heap.size (fun k => k ≠ g) v7 (stripL x.f7) := by
    refine Kd.R_step (Kd.R_lower (Kd.R_mono (Kd.R_bound R7) (ok' := fun k => k ≠ g) (fun k hk => by have := hk.2.1; omega)) (Nat.le_trans hB.size hs2)) (fun k hk _ => far (.int .i64 0) hk)
  have hsg : ∀ j, seg (((C.setIfInBounds (i * 8 + 1) (.int .i64 0)).setIfInBounds (i * 8 + 6) v6).setIfInBounds (i * 8 + 7) v7) j = if j = i then [.int .i64 x.f0, .int .i64 0, .string x.f2, .string x.f3, .bool x.f4, .bool x.f5, v6, v7] else seg C j := by
    intro j
    rw [seg_set _ _ _ _ _ (by omega), seg_set _ _ _ _ _ (by omega), seg_set _ _ _ _ _ (by omega)]
    by_cases hj : j = i
    · subst hj; simp only [if_true, hseg]; rfl
    · simp only [if_neg hj]
  refine ⟨blk_set (blk_set (blk_set hk3 _ _) _ _) _ _, by simp [hsz], hcap, hbase, ((hb3.setCell hbase _).setCell hbase _).setCell hbase _, ?_, ?_⟩
  · intro j y hj hji
    rw [hsg]
    by_cases hji' : j = i
    · subst hji'
      rw [if_pos rfl]
      rw [hx] at hj
      cases hj
      rw [stripN_eq]
      exact k29_mkM _ _ _ ⟨x.f0, 0, x.f2, x.f3, x.f4, x.f5, stripL x.f6, stripL x.f7⟩ hR6 hR7
    · rw [if_neg hji']
      refine Kd.M_step (Kd.M_below (Kd.M_below (hdone j y hj (by omega)) b6) b7) (fun k hk _ => far (.int .i64 0) hk)
  · intro j y hj hji
    rw [hsg, if_neg (by omega)]
    exact Foot.step (Foot.step (Foot.step (hleft j y hj (by omega)) (fun k _ hk => b6.block k hk)) (fun k _ hk => b7.block k hk)) (fun k hk _ => far (.int .i64 0) hk)
abbrev strip.Con (l : List S29) : Prop := ∀ (A : Option Addr) (c : Nat) (w : World), Kd.C k29 w A l.length l → l.length ≤ c → nL l ≤ 1000000000 →
  Calls Try.prog 11 #[.slice A l.length c] w fun e w' => ∃ v, e = .returned v ∧ Kd.R k29 29 w' w.heap.size (fun _ => True) v (stripL l) ∧ Below w.heap.size w w'

set_option maxHeartbeats 2000000 in
set_option maxRecDepth 100000 in
theorem strip.step (l : List S29) (ih : ∀ x ∈ l, strip.Con x.f6 ∧ strip.Con x.f7) : strip.Con l := by
  intro A c w ha hc hn
  have hll := nL_len l
  have HC := Aside0.mk (clone_calls A c l w ha hc (by omega))
  have HI := Aside0.mk ih
  have HN := Aside0.mk hn
  have hm := Kd.C_max ha
  clear ih ha hll hn
  go_enter Try.func11, Try.ntmps11
  go_wp2_with fail
  refine HC.out.mono ?_
  clear HC
  rintro e w1 ⟨v, rfl, hN, hB⟩
  obtain ⟨A1, c1, rfl⟩ := Kd.N_slice hN
  by_cases h0 : l.length = 0
  case pos =>
    obtain rfl := List.length_eq_zero_iff.1 h0
    have hR : Aside0 (Kd.R k29 29 w1 w.heap.size (fun _ => True) (.slice A1 ([] : List S29).length c1) (stripL [])) := by
      obtain ⟨_, rows, hlr, ⟨_, inner, hown, hreps⟩, _⟩ := hN
      obtain rfl := List.length_eq_zero_iff.1 hlr
      exact ⟨fun _ _ => trivial, inner, hown, hreps.1, fun j p h => by simp [stripL] at h⟩
    clear hN
    replace hB := Aside0.mk hB
    go_wp2
    go_loopw [10] (fun v wr => v = .int .i64 0 ∧ wr = w1) (fun _ _ => 0)
    case atStart => exact ⟨rfl, rfl⟩
    case round =>
      obtain ⟨rfl, rfl⟩ := hrel
      go_wp2
      go_ret
      exact ⟨_, rfl, hR.out, hB.out⟩
  have hN' := hN
  obtain ⟨g, cap, he, hbase, hlt, _⟩ := Kd.N_form hN' (by omega)
  obtain ⟨rfl, rfl⟩ : A1 = some ⟨g, 0, none⟩ ∧ c1 = cap := by injection he with h1 h2 h3; exact ⟨h1, h3⟩
  obtain ⟨C, hS⟩ : ∃ C, StRel w l g c1 0 C w1 := by
    obtain ⟨_, rows, hlr, ⟨_, inner, hown, hreps⟩, hf⟩ := hN
    rcases hown.2 with ⟨hv, _⟩ | ⟨g', cap', cur, hv, hg', hh, hn', hcap', hsz', htk⟩
    · cases hv
    · injection hv with h1 h2 h3
      obtain rfl : g' = g := by cases h1; rfl
      obtain rfl : c1 = cap' := h3
      refine ⟨cur, hh, hsz', ⟨by rw [← hlr]; exact hn', hcap'⟩, hbase, hB, fun j x _ h => absurd h (Nat.not_lt_zero _), fun j x hx _ => ?_⟩
      have hj : j < l.length := (List.getElem?_eq_some_iff.1 hx).1
      have hr : rows[j]? = some rows[j] := List.getElem?_eq_getElem (by omega)
      have hc := (hreps.2 j _ hr).1
      have hsj : seg cur j = rows[j] := by
        rw [← hc, ← htk]
        unfold seg
        rw [List.drop_take, List.take_take]
        congr 1
        show 8 = min 8 (rows.length * 8 - j * 8)
        omega
      rw [hsj]
      refine Foot.mono (hf j x _ hx hr) (fun k hk e => hk.2 ?_)
      rw [e]; rfl
  clear hN hN' he hbase hlt hB
  replace hS := Aside0.mk hS
  go_wp2
  go_loopw [10] (fun v wr => ∃ i C, i ≤ l.length ∧ v = .int .i64 (i : Nat) ∧ Aside0 (StRel w l g c1 i C wr)) (fun v _ => l.length - (intOf v).toNat)
  case atStart => exact ⟨0, C, Nat.zero_le _, rfl, hS⟩
  case round =>
    clear hS C
    obtain ⟨i, C, hi, rfl, hS⟩ := hrel
    by_cases hlt : i < l.length
    case neg =>
      obtain rfl : i = l.length := by omega
      have hR : Aside0 (Kd.R k29 29 wr w.heap.size (fun _ => True) (.slice (some ⟨g, 0, none⟩) l.length c1) (stripL l)) := by
        obtain ⟨hblk, hsz, ⟨hcap, hcm⟩, hbase, hB, hdone, hleft⟩ := hS.out
        have hlen : C.toList.length = c1 * 8 := by rw [Array.length_toList]; exact hsz
        refine ⟨fun _ _ => trivial, C.toList.take (l.length * 8), ⟨?_, .inr ⟨g, c1, C, ?_, hbase, hblk, ?_, hcm, hsz, ?_⟩⟩, ?_, ?_⟩
        · rw [stripL_len, List.length_take, hlen]; show min (l.length * 8) (c1 * 8) = l.length * 8; omega
        · rw [stripL_len]
        · rw [stripL_len]; exact hcap
        · rw [stripL_len]; rfl
        · rw [stripL_len, List.length_take, hlen]; show min (l.length * 8) (c1 * 8) = l.length * 8; omega
        · intro j y hj
          rw [stripL_get] at hj
          obtain ⟨x, hx, rfl⟩ := Option.map_eq_some_iff.1 hj
          have hj' : j < l.length := (List.getElem?_eq_some_iff.1 hx).1
          have hsj : ((C.toList.take (l.length * 8)).drop (j * 8)).take 8 = seg C j := by
            unfold seg
            rw [List.drop_take, List.take_take]
            congr 1
            omega
          show k29.M wr w.heap.size _ (stripN x) (((C.toList.take (l.length * 8)).drop (j * 8)).take 8)
          rw [hsj]
          exact k29.M_mono (fun k hk => ⟨trivial, fun e => hk (by simpa [Value.ownBlock] using e)⟩) (hdone j x hx hj')
      have hB := Aside0.mk hS.out.below
      clear hS
      go_wp2
      go_ret
      exact ⟨_, rfl, hR.out, hB.out⟩
    obtain ⟨hblk, hsz, ⟨hcap, hcm⟩, hbase, hB, hdone, hleft⟩ := hS.out
    have hxl : l[i]? = some l[i] := List.getElem?_eq_getElem hlt
    have hxK := Kd.FK_now (hleft i l[i] hxl (Nat.le_refl _))
    obtain ⟨ih6, ih7⟩ := HI.out l[i] (List.getElem_mem hlt)
    have hn6 : nL l[i].f6 ≤ 1000000000 ∧ nL l[i].f7 ≤ 1000000000 := by
      have h1 := nL_mem l l[i] (List.getElem_mem hlt)
      have h2 := HN.out
      rw [nN_eq] at h1
      omega
    generalize l[i] = x at *
    obtain ⟨A6, c6, A7, c7, hseg, l6, g6, l7, g7⟩ := k29_open hxK
    have hin : ∀ o, o < 8 → i * 8 + o < C.size := fun o ho => by rw [hsz]; omega
    have y6 : wr.cell? ⟨g, i * 8 + 6, none⟩ = some (.slice A6 x.f6.length c6) := (blk_cell hblk _).trans (by rw [seg_get C i 6 (by omega), hseg]; rfl)
    have y7 : wr.cell? ⟨g, i * 8 + 7, none⟩ = some (.slice A7 x.f7.length c7) := (blk_cell hblk _).trans (by rw [seg_get C i 7 (by omega), hseg]; rfl)
    have C6 := Aside0.mk g6
    have C7 := Aside0.mk g7
    replace hblk := Aside0.mk hblk
    replace hdone := Aside0.mk hdone
    replace hleft := Aside0.mk hleft
    replace ih6 := Aside0.mk ih6
    replace ih7 := Aside0.mk ih7
    replace hB := Aside0.mk hB
    replace hseg := Aside0.mk hseg
    replace hin := Aside0.mk hin
    clear hxK hS HI g6 g7
    have hi1 : (i : Int) < (l.length : Int) := by omega
    go_wp2
    have D6 := Aside0.mk (Kd.C_drew C6.out)
    have D7 := Aside0.mk (Kd.C_drew C7.out)
    have hblkd := Aside0.mk (show wr.drew.heap[g]? = some (.cells C 29 (0, 0)) from hblk.out)
    go_region_with (first
      | (go_at_call 11; (with_reducible refine (ih6.out A6 c6 wr.drew D6.out l6 hn6.1).mono ?_); rintro e w2 ⟨v6, rfl, R6, hb6⟩
         obtain ⟨B6, d6, rfl⟩ := Kd.R_slice R6
         have hk2 := Aside0.mk (blk_below hblkd.out hb6)
         have y7 : w2.cell? ⟨g, i * 8 + 7, none⟩ = some (.slice A7 x.f7.length c7) := (blk_cell hk2.out _).trans (by rw [seg_get C i 7 (by omega), hseg.out]; rfl)
         have E7 := Aside0.mk (Kd.C_below D7.out hb6)
         replace R6 := Aside0.mk R6
         replace hb6 := Aside0.mk hb6)
      | (go_at_call 11; (with_reducible refine (ih7.out A7 c7 w2 E7.out l7 hn6.2).mono ?_); rintro e w3 ⟨v7, rfl, R7, hb7⟩
         obtain ⟨B7, d7, rfl⟩ := Kd.R_slice R7
         have hk3 := Aside0.mk (blk_below hk2.out hb7)
         have z1 : w3.cell? ⟨g, i * 8 + 1, none⟩ = some (.int .i64 x.f1) := (blk_cell hk3.out _).trans (by rw [seg_get C i 1 (by omega), hseg.out]; rfl)
         have z6 : w3.cell? ⟨g, i * 8 + 6, none⟩ = some (.slice A6 x.f6.length c6) := (blk_cell hk3.out _).trans (by rw [seg_get C i 6 (by omega), hseg.out]; rfl)
         have z7 : w3.cell? ⟨g, i * 8 + 7, none⟩ = some (.slice A7 x.f7.length c7) := (blk_cell hk3.out _).trans (by rw [seg_get C i 7 (by omega), hseg.out]; rfl)
         have f1 := blk_frozen hk3.out (i * 8 + 1)
         have f6 := blk_frozen hk3.out (i * 8 + 6)
         have f7 := blk_frozen hk3.out (i * 8 + 7)
         replace R7 := Aside0.mk R7
         replace hb7 := Aside0.mk hb7))
    all_goals
      have hnext := Aside0.mk (StRel.next ⟨hblk.out, hsz, ⟨hcap, hcm⟩, hbase, hB.out, hdone.out, hleft.out⟩ hlt hxl hseg.out R6.out ⟨hb6.out.os, hb6.out.tape, hb6.out.output, hb6.out.size, hb6.out.block⟩ R7.out hb7.out)
      generalize (((w3.setCell ⟨g, i * 8 + 1, none⟩ (.int .i64 0)).setCell ⟨g, i * 8 + 6, none⟩ (.slice B6 (stripL x.f6).length d6)).setCell ⟨g, i * 8 + 7, none⟩ (.slice B7 (stripL x.f7).length d7)) = W at *
      clear hk2 hk3 z1 z6 z7 f1 f6 f7 R6 R7 hb6 hb7 E7 hblk hblkd hdone hleft hB D6 D7
      go_wp2
      exact ⟨⟨i + 1, _, by omega, by go_num, hnext⟩, by simp [intOf]; omega⟩

theorem strip.all : ∀ (n : Nat) (l : List S29), SizeOf.sizeOf l < n → strip.Con l
  | 0, l, h => absurd h (Nat.not_lt_zero _)
  | n + 1, l, h => strip.step l fun x hx => by
      have h1 := List.sizeOf_lt_of_mem hx
      have h2 : SizeOf.sizeOf x.f6 < SizeOf.sizeOf x ∧ SizeOf.sizeOf x.f7 < SizeOf.sizeOf x := by cases x; simp; omega
      exact ⟨strip.all n x.f6 (by omega), strip.all n x.f7 (by omega)⟩
def printer_Strip.f (l : List S29) : Option (List S29) := if nL l ≤ 1000000000 then some (stripL l) else none
theorem printer_Strip.calls (A0 : Option Addr) (c0 : Nat) (l0 : List S29) (r : List S29) (w : World) (hr0 : Kd.C k29 w A0 l0.length l0) (hc0 : l0.length ≤ c0) (h : printer_Strip.f l0 = some r) :
    Calls Try.prog 11 #[.slice A0 l0.length c0] w fun e w' => ∃ v0_ : Value, e = .returned (v0_) ∧ Kd.R k29 29 w' w.heap.size (fun _ => True) v0_ r ∧ Below w.heap.size w w' := by
  unfold printer_Strip.f at h
  split at h
  · cases h
    exact strip.all _ l0 (Nat.lt_succ_self _) A0 c0 w hr0 hc0 (by assumption)
  · cases h
end Go.Proofs.Ytgdpojleejdfaaa.Px
