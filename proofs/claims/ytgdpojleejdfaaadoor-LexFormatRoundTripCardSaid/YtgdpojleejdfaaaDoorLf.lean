/- Contract of lex.Format. -/
import Derived.Test.YtgdpojleejdfaaaDoorKw
import Derived.Test.YtgdpojleejdfaaaDoorShelf
namespace Go.Proofs.YtgdpojleejdfaaaDoor.Px
open Go.RowKit Go.Proofs.YtgdpojleejdfaaaDoorW.PrintWords Go.Proofs.YtgdpojleejdfaaaDoorW.PrintLast Go.Proofs.YtgdpojleejdfaaaDoorW.PrintMore
set_option linter.unusedVariables false
set_option linter.unusedSimpArgs false

def kwWords (k : Int) : List ByteArray := match kwOf k with | none => [] | some s => [⟨s.toArray⟩]
def tokWords (k : Int) (s p : ByteArray) (h : Bool) : List ByteArray := (kwWords k ++ (if s.toList = [] then [] else [s])) ++ (if h = true then [(⟨#[46]⟩ : ByteArray) ++ p] else [])
def joinB (l : List ByteArray) : ByteArray := ⟨(Lib.join (l.map (·.data.toList)) [32]).toArray⟩
def fmtTok (k : Int) (s p : ByteArray) (h : Bool) : ByteArray := if k = 0 then s else ((⟨#[123, 123]⟩ : ByteArray) ++ joinB (tokWords k s p h)) ++ (⟨#[125, 125]⟩ : ByteArray)

theorem join_any (v : Value) (xs : List ByteArray) (B : Nat) (w : World) (HO : Kd.R Kd.string 9 w B (fun _ => True) v xs) (hn : xs.length ≤ 3) (hl : (Lib.join (xs.map (·.data.toList)) [32]).length ≤ 140737488355328) :
    Calls Tryd.prog 51 #[v, .string ⟨#[32]⟩] w fun e w' => e = .returned (.string (joinB xs)) ∧ Below w.heap.size w w' := by
  by_cases h0 : 0 < xs.length
  · obtain ⟨g, cap, rfl, _, hlt, _⟩ := Kd.R_form HO h0
    obtain ⟨_, hc, HC⟩ := Kd.R_reads' HO
    refine (Tryd.strings_Join g 0 cap xs ⟨#[32]⟩ w (fun j x hx => ?_) hlt (by omega) hc hl)
    obtain ⟨hj, rfl⟩ := List.getElem?_eq_some_iff.1 hx
    obtain ⟨ad, e, hcell⟩ := Kd.at_string HC (j : Int) (by omega) (by omega)
    cases e
    rw [Int.toNat_natCast, add_plain] at hcell
    rw [Nat.zero_add, hcell]
    simp [rdOf, List.getD_eq_getElem?_getD, hj]
  · obtain rfl : xs = [] := List.eq_nil_of_length_eq_zero (by omega)
    obtain ⟨A, c, rfl⟩ := Kd.R_slice HO
    refine (Tryd.strings_Join_none A c ⟨#[32]⟩ w).mono ?_
    rintro e w' ⟨rfl, rfl⟩
    exact ⟨by simp [joinB, Lib.join_nil], Below.refl _ _⟩
theorem kwWords_small (k : Int) : (kwWords k).length ≤ 1 ∧ ∀ x ∈ kwWords k, x.data.toList.length ≤ 100 := by
  unfold kwWords
  split
  · simp
  · rename_i s' e
    refine ⟨by simp, fun x hx => ?_⟩
    have hm := kwOf_mem e
    simp only [List.mem_singleton] at hx
    subst hx
    simp only [kwList, List.mem_cons, Prod.mk.injEq, List.not_mem_nil, or_false] at hm
    rcases hm with ⟨rfl, _⟩ | ⟨rfl, _⟩ | ⟨rfl, _⟩ | ⟨rfl, _⟩ | ⟨rfl, _⟩ | ⟨rfl, _⟩ | ⟨rfl, _⟩ <;> decide
theorem join_len (B : Nat) : ∀ (l : List (List UInt8)), (∀ x ∈ l, x.length ≤ B) → (Lib.join l [32]).length ≤ l.length * (B + 1)
  | [], _ => by simp [Lib.join_nil]
  | [x], h => by rw [Lib.join_one]; have := h x (by simp); simp; omega
  | x :: y :: r, h => by
    have ih := join_len B (y :: r) (fun z hz => h z (by simp at hz ⊢; exact .inr hz))
    have hx := h x (by simp)
    have : Lib.join (x :: y :: r) [32] = x ++ [32] ++ Lib.join (y :: r) [32] := by simp [Lib.join, List.intercalate, List.intersperse]
    rw [this]
    simp only [List.length_append, List.length_cons, List.length_nil] at ih ⊢
    rw [Nat.add_mul (r.length + 1) 1]
    omega
theorem tokWords_join (k : Int) (s p : ByteArray) (h : Bool) (hs : s.size ≤ 1099511627776) (hp : p.size ≤ 1099511627776) : (Lib.join ((tokWords k s p h).map (·.data.toList)) [32]).length ≤ 140737488355328 := by
  obtain ⟨h1, h2⟩ := kwWords_small k
  have hs' : s.data.toList.length ≤ 1099511627777 := by rw [data_length]; omega
  have hp' : (⟨#[46]⟩ ++ p : ByteArray).data.toList.length ≤ 1099511627777 := by rw [data_length, ByteArray.size_append]; show 1 + p.size ≤ _; omega
  refine Nat.le_trans (join_len 1099511627777 _ ?_) ?_
  · intro x hx
    obtain ⟨y, hy, rfl⟩ := List.mem_map.1 hx
    unfold tokWords at hy
    rw [List.mem_append, List.mem_append] at hy
    rcases hy with (hy | hy) | hy
    · exact Nat.le_trans (h2 y hy) (by omega)
    · split at hy
      · cases hy
      · simp only [List.mem_singleton] at hy; subst hy; exact hs'
    · split at hy
      · simp only [List.mem_singleton] at hy; subst hy; exact hp'
      · cases hy
  · have : (tokWords k s p h).length ≤ 3 := by
      unfold tokWords
      rw [List.length_append, List.length_append]
      have a : (if s.toList = [] then ([] : List ByteArray) else [s]).length ≤ 1 := by split <;> simp
      have b : (if h = true then [(⟨#[46]⟩ : ByteArray) ++ p] else []).length ≤ 1 := by split <;> simp
      omega
    rw [List.length_map]
    exact Nat.le_trans (Nat.mul_le_mul_right _ this) (by omega)
def FmRel (K at_ : Int) (s p : ByteArray) (h : Bool) (r : Nat) (w : World) (v3 : Value) (wr : World) : Prop :=
  ∃ left cnt, wr.ranges Tryd.prog 9 (plainElem (H := Unit) Tryd.prog 3) (w.heap.size + 1) r 7 kwD left cnt ∧ (∀ kl, left kl = true → Maps.has kwD kl = true) ∧ Kd.R Kd.string 9 wr (r + 1) (fun _ => True) v3 (kwGot K left) ∧ Below w.heap.size w wr ∧ r + 1 ≤ wr.heap.size ∧ w.heap.size + 1 < r ∧
    wr.heap[w.heap.size]? = some (.cells #[.int .i64 K, .int .i64 at_, .string s, .string p, .bool h] 28 (0, 0))

set_option maxHeartbeats 1000000 in
set_option maxRecDepth 100000 in
theorem lex_Format_any (k at_ : Int) (s p : ByteArray) (h : Bool) (w : World) (hs : s.size ≤ 1099511627776) (hp : p.size ≤ 1099511627776) :
    Calls Tryd.prog 25 #[.agg #[.int .i64 k, .int .i64 at_, .string s, .string p, .bool h]] w fun e w' => e = .returned (.string (fmtTok k s p h)) ∧ Below w.heap.size w w' := by
  by_cases hk : k = 0
  case pos =>
    subst hk
    go_enter Tryd.func25, Tryd.ntmps25
    go_wp2
    go_ret
    exact ⟨by simp [fmtTok], (Below.refl _ _).alloc (Nat.le_refl _) _⟩
  have hk' : (k == 0) = false := by simpa using hk
  have hF := Aside0.mk (show fmtTok k s p h = ((⟨#[123, 123]⟩ : ByteArray) ++ joinB (tokWords k s p h)) ++ (⟨#[125, 125]⟩ : ByteArray) by unfold fmtTok; rw [if_neg hk])
  clear hk
  go_enter Tryd.func25, Tryd.ntmps25
  go_wp2_with fail
  refine (keywords_any _).mono ?_
  rintro e w1 ⟨rfl, hO, hB⟩
  have c0 : w1.heap[w.heap.size]? = some (.cells #[.int .i64 k, .int .i64 at_, .string s, .string p, .bool h] 28 (0, 0)) := blk_below (blk_new _ _) hB
  have hsz := hB.size
  have hlt1 := hO.lt
  replace hB := Aside0.mk (below_step ((Below.refl _ w).alloc (Nat.le_refl _) _) hB)
  simp only [World.size_alloc] at hO hsz hlt1
  replace hO := Aside0.mk hO
  replace c0 := Aside0.mk c0
  go_wp2_with (at_range; refine wpList_range_own _ rfl _ 81 rfl 9 3 law9 Tryd.underlying81 _ (w.heap.size + 1) 7 kwD rfl hO.out ?_; intro w0 hrg0 hg0 hs0)
  go_frame
  have H0 : FmRel k at_ s p h w1.heap.size w (.slice none 0 0) w0 := ⟨_, _, hrg0, fun _ h => h, by rw [kwGot_start]; exact Kd.R_nil _ _ _ _ _, hB.out.grown hg0 hB.out.size (by simp), by omega, by omega, blk_grown c0.out hg0 (by simp)⟩
  clear hrg0 hg0 hs0 hB hO c0
  go_loopw [3] (fun v wr => FmRel k at_ s p h w1.heap.size w v wr) (fun _ wr => wr.rangeLeft (w.heap.size + 1) w1.heap.size)
  case atStart => exact H0
  case round =>
    clear H0
    generalize w1.heap.size = r at *
    obtain ⟨left, cnt, hrg, hleft, HO, HB, hrs, hrw, hc0⟩ := hrel
    have hlt := hrg.left_eq
    replace hlt := Aside0.mk hlt
    have HL := Aside0.mk hleft
    have b0 : wr.cell? ⟨w.heap.size, 0, none⟩ = some (.int .i64 k) := (blk_cell hc0 0).trans rfl
    have b2 : wr.cell? ⟨w.heap.size, 2, none⟩ = some (.string s) := (blk_cell hc0 2).trans rfl
    have b3 : wr.cell? ⟨w.heap.size, 3, none⟩ = some (.string p) := (blk_cell hc0 3).trans rfl
    have b4 : wr.cell? ⟨w.heap.size, 4, none⟩ = some (.bool h) := (blk_cell hc0 4).trans rfl
    clear hleft
    replace hrg := Aside0.mk hrg
    replace HO := Aside0.mk HO
    replace HB := Aside0.mk HB
    replace hc0 := Aside0.mk hc0
    go_wp2_with (at_next; refine wpList_next_kw rfl _ rfl (w.heap.size + 1) r 7 left cnt rfl hrg.out HL.out ?_ ?_)
    · intro hnone
      have HW := Aside0.mk (show Kd.R Kd.string 9 wr (r + 1) (fun _ => True) u3 (kwWords k) by have := HO.out; rwa [kwGot_end k hnone] at this)
      clear HO HL hrg hlt hnone
      have hkl := (kwWords_small k).1
      have hJ := Aside0.mk (tokWords_join k s p h hs hp)
      have hZ := Aside0.mk (show (joinB (tokWords k s p h)).size ≤ 140737488355328 from by show (Lib.join _ _).toArray.size ≤ _; rw [List.size_toArray]; exact hJ.out)
      have hT := Aside0.mk (rfl : tokWords k s p h = tokWords k s p h)
      by_cases hse : s.toList = []
      case pos =>
        have e1 : (s.toList = []) = True := eq_true hse
        have e2 : s.toList.isEmpty = true := by simp [hse]
        cases h with
        | false =>
          have hW := Aside0.mk (show tokWords k s p false = kwWords k by simp [tokWords, hse])
          clear hse hT
          go_wp2_with fail
          refine (join_any _ (tokWords k s p false) (r + 1) _ (by rw [hW.out]; exact HW.out) (by rw [hW.out]; (try simp); omega) hJ.out).mono ?_
          rintro e w6 ⟨rfl, HB6⟩
          replace HB := Aside0.mk (below_step HB.out HB6)
          have hjs := hZ.out
          clear HB6 hW hZ
          generalize joinB (tokWords k s p false) = J at *
          go_wp2
          go_ret
          exact ⟨by rw [hF.out]; rfl, HB.out⟩
        | true =>
          have hW := Aside0.mk (show tokWords k s p true = kwWords k ++ [⟨#[46]⟩ ++ p] by simp [tokWords, hse])
          clear hse hT
          go_wp2_with (at_builtin; refine Kd.R_append Kd.string (r + 1) rfl (.tmp 36) (.tmp 40) 60 9 (.string ⟨#[]⟩) 16 rfl Tryd.underlying60 info9 rfl (by decide) (by decide) u3 (kwWords k) ((⟨#[46]⟩ : ByteArray) ++ p) [.string ((⟨#[46]⟩ : ByteArray) ++ p)] (fun _ => True) (fun q_ => some q_ ≠ (u3 : Value).ownBlock) rfl rfl rfl (fun k hk => ⟨trivial, hk⟩) (fun _ _ => trivial) HW.out (Below.refl _ _) hrs (by (try simp); omega) ?_; intro v7 w7 q7 _ g7 _; obtain ⟨A7, c7, rfl⟩ := Kd.R_slice q7; have bs := Kd.R_base HW.out; have hrs7 := Nat.le_trans hrs g7.size; have hc7 := Aside0.mk (blk_grown hc0.out g7 (fun e => by have := bs _ e.symm; omega)); have HB7 := Aside0.mk (HB.out.grown g7 HB.out.size (fun q e => by have := bs _ e; omega)); have HO7 := Aside0.mk (by (repeat rw [List.length_append, List.length_singleton] at q7); exact q7); clear q7 g7 bs HW HB hc0 hrs; have b3 : w7.cell? ⟨w.heap.size, 3, none⟩ = some (.string p) := (blk_cell hc7.out 3).trans rfl; have b4 : w7.cell? ⟨w.heap.size, 4, none⟩ = some (.bool _) := (blk_cell hc7.out 4).trans rfl)
          refine (join_any _ (tokWords k s p true) (r + 1) _ (by rw [hW.out]; exact HO7.out) (by rw [hW.out]; (try simp); omega) hJ.out).mono ?_
          rintro e w6 ⟨rfl, HB6⟩
          replace HB := Aside0.mk (below_step HB7.out HB6)
          have hjs := hZ.out
          clear HB6 hW hZ
          generalize joinB (tokWords k s p true) = J at *
          go_wp2
          go_ret
          exact ⟨by rw [hF.out]; rfl, HB.out⟩
      case neg =>
        have e1 : (s.toList = []) = False := eq_false hse
        have e2 : s.toList.isEmpty = false := by simp [hse]
        cases h with
        | false =>
          have hW := Aside0.mk (show tokWords k s p false = kwWords k ++ [s] by simp [tokWords, hse])
          clear hse hT
          go_wp2_with (at_builtin; refine Kd.R_append Kd.string (r + 1) rfl (.tmp 29) (.tmp 32) 60 9 (.string ⟨#[]⟩) 16 rfl Tryd.underlying60 info9 rfl (by decide) (by decide) u3 (kwWords k) s [.string s] (fun _ => True) (fun q_ => some q_ ≠ (u3 : Value).ownBlock) rfl rfl rfl (fun k hk => ⟨trivial, hk⟩) (fun _ _ => trivial) HW.out (Below.refl _ _) hrs (by (try simp); omega) ?_; intro v7 w7 q7 _ g7 _; obtain ⟨A7, c7, rfl⟩ := Kd.R_slice q7; have bs := Kd.R_base HW.out; have hrs7 := Nat.le_trans hrs g7.size; have hc7 := Aside0.mk (blk_grown hc0.out g7 (fun e => by have := bs _ e.symm; omega)); have HB7 := Aside0.mk (HB.out.grown g7 HB.out.size (fun q e => by have := bs _ e; omega)); have HO7 := Aside0.mk (by (repeat rw [List.length_append, List.length_singleton] at q7); exact q7); clear q7 g7 bs HW HB hc0 hrs; have b3 : w7.cell? ⟨w.heap.size, 3, none⟩ = some (.string p) := (blk_cell hc7.out 3).trans rfl; have b4 : w7.cell? ⟨w.heap.size, 4, none⟩ = some (.bool _) := (blk_cell hc7.out 4).trans rfl)
          refine (join_any _ (tokWords k s p false) (r + 1) _ (by rw [hW.out]; exact HO7.out) (by rw [hW.out]; (try simp); omega) hJ.out).mono ?_
          rintro e w6 ⟨rfl, HB6⟩
          replace HB := Aside0.mk (below_step HB7.out HB6)
          have hjs := hZ.out
          clear HB6 hW hZ
          generalize joinB (tokWords k s p false) = J at *
          go_wp2
          go_ret
          exact ⟨by rw [hF.out]; rfl, HB.out⟩
        | true =>
          have hW := Aside0.mk (show tokWords k s p true = (kwWords k ++ [s]) ++ [⟨#[46]⟩ ++ p] by simp [tokWords, hse])
          clear hse hT
          go_wp2_with (first | (at_builtin; refine Kd.R_append Kd.string (r + 1) rfl (.tmp 29) (.tmp 32) 60 9 (.string ⟨#[]⟩) 16 rfl Tryd.underlying60 info9 rfl (by decide) (by decide) u3 (kwWords k) s [.string s] (fun _ => True) (fun q_ => some q_ ≠ (u3 : Value).ownBlock) rfl rfl rfl (fun k hk => ⟨trivial, hk⟩) (fun _ _ => trivial) HW.out (Below.refl _ _) hrs (by (try simp); omega) ?_; intro v7 w7 q7 _ g7 _; obtain ⟨A7, c7, rfl⟩ := Kd.R_slice q7; have bs := Kd.R_base HW.out; have hrs7 := Nat.le_trans hrs g7.size; have hc7 := Aside0.mk (blk_grown hc0.out g7 (fun e => by have := bs _ e.symm; omega)); have HB7 := Aside0.mk (HB.out.grown g7 HB.out.size (fun q e => by have := bs _ e; omega)); have HO7 := Aside0.mk (by (repeat rw [List.length_append, List.length_singleton] at q7); exact q7); clear q7 g7 bs HW HB hc0 hrs; have b3 : w7.cell? ⟨w.heap.size, 3, none⟩ = some (.string p) := (blk_cell hc7.out 3).trans rfl; have b4 : w7.cell? ⟨w.heap.size, 4, none⟩ = some (.bool _) := (blk_cell hc7.out 4).trans rfl) | (at_builtin; refine Kd.R_append Kd.string (r + 1) rfl (.tmp 36) (.tmp 40) 60 9 (.string ⟨#[]⟩) 16 rfl Tryd.underlying60 info9 rfl (by decide) (by decide) (.slice A7 ((kwWords k).length + 1) c7) (kwWords k ++ [s]) ((⟨#[46]⟩ : ByteArray) ++ p) [.string ((⟨#[46]⟩ : ByteArray) ++ p)] (fun _ => True) (fun q_ => some q_ ≠ ((.slice A7 ((kwWords k).length + 1) c7) : Value).ownBlock) rfl rfl rfl (fun k hk => ⟨trivial, hk⟩) (fun _ _ => trivial) HO7.out (Below.refl _ _) hrs7 (by (try simp); omega) ?_; intro v8 w8 q8 _ g8 _; obtain ⟨A8, c8, rfl⟩ := Kd.R_slice q8; have bs := Kd.R_base HO7.out; have hrs8 := Nat.le_trans hrs7 g8.size; have hc8 := Aside0.mk (blk_grown hc7.out g8 (fun e => by have := bs _ e.symm; omega)); have HB8 := Aside0.mk (HB7.out.grown g8 HB7.out.size (fun q e => by have := bs _ e; omega)); have HO8 := Aside0.mk (by (repeat rw [List.length_append, List.length_singleton] at q8); exact q8); clear q8 g8 bs HO7 HB7 hc7 hrs7; have b3 : w8.cell? ⟨w.heap.size, 3, none⟩ = some (.string p) := (blk_cell hc8.out 3).trans rfl; have b4 : w8.cell? ⟨w.heap.size, 4, none⟩ = some (.bool _) := (blk_cell hc8.out 4).trans rfl))
          refine (join_any _ (tokWords k s p true) (r + 1) _ (by rw [hW.out]; exact HO8.out) (by rw [hW.out]; (try simp); omega) hJ.out).mono ?_
          rintro e w6 ⟨rfl, HB6⟩
          replace HB := Aside0.mk (below_step HB8.out HB6)
          have hjs := hZ.out
          clear HB6 hW hZ
          generalize joinB (tokWords k s p true) = J at *
          go_wp2
          go_ret
          exact ⟨by rw [hF.out]; rfl, HB.out⟩
    · intro s1 c w2 cnt' hm hl hrg2 hcnt hg2 hs2 hen
      have HO2 := Aside0.mk (Kd.R_grown (Kd.R_bound HO.out) hg2 (fun q hq => by have := hq.2.1; intro e; injection e with e; omega))
      have HB2 := Aside0.mk (HB.out.grown hg2 HB.out.size (fun q e => by cases e; omega))
      have hc2 := Aside0.mk (blk_grown hc0.out hg2 (by intro e; injection e with e; omega))
      have b0 : w2.cell? ⟨w.heap.size, 0, none⟩ = some (.int .i64 k) := (blk_cell hc2.out 0).trans rfl
      have hL2 := Aside0.mk (show ∀ kl, (left kl && !kl.sameKey (.string s1)) = true → Maps.has kwD kl = true from fun kl h => HL.out kl (by rw [Bool.and_eq_true] at h; exact h.1))
      have hlt2 := Aside0.mk hrg2.left_eq
      clear HO HB hc0 HL hrg
      replace hrg2 := Aside0.mk hrg2
      by_cases hck : c = k
      · subst hck
        have hG := Aside0.mk (kwGot_hit hm hl)
        have HO3 := Aside0.mk (show Kd.R Kd.string 9 w2 (r + 1) (fun _ => True) u3 [] by have := Kd.R_mono HO2.out (fun _ _ => trivial); rwa [hG.out.1] at this)
        have hr2 : r + 1 ≤ w2.heap.size := by omega
        replace hg2 := Aside0.mk hg2
        replace hm := Aside0.mk hm
        replace hl := Aside0.mk hl
        clear HO2 hs2
        go_wp2_with (at_builtin; refine Kd.R_append Kd.string (r + 1) rfl _ _ 60 9 (.string ⟨#[]⟩) 16 rfl Tryd.underlying60 info9 rfl (by decide) (by decide) u3 [] ⟨s1.toArray⟩ [.string ⟨s1.toArray⟩] (fun _ => True) (fun k => some k ≠ u3.ownBlock) rfl rfl rfl (fun k hk => ⟨trivial, hk⟩) (fun _ _ => trivial) HO3.out (Below.refl _ _) hr2 (by simp) ?_; intro v1 w5 HO5 _ hg5 _; obtain ⟨A1, c1, rfl⟩ := Kd.R_slice HO5; replace HO5 := Aside0.mk HO5; replace hg5 := Aside0.mk hg5)
        go_roundw
        case rel =>
          have hb5 := Kd.R_base HO3.out
          exact ⟨_, _, hrg2.out.kept hg5.out (fun e => by have := hb5 _ e.symm; omega) (fun e => by have := hb5 _ e.symm; omega), hL2.out, (by rw [hG.out.2]; exact HO5.out), HB2.out.grown hg5.out HB2.out.size (fun q e => by have := hb5 _ e; omega), (by have := hg5.out.size; omega), hrw, blk_grown hc2.out hg5.out (fun e => by have := hb5 _ e.symm; omega)⟩
        case measure =>
          have hb5 := Kd.R_base HO3.out
          have := (hrg2.out.kept hg5.out (fun e => by have := hb5 _ e.symm; omega) (fun e => by have := hb5 _ e.symm; omega)).left_eq
          rw [this, hlt.out]; omega
      · have hck' : (c == k) = false := by simpa using hck
        have hG := Aside0.mk (kwGot_miss hm hck (left := left))
        replace hm := Aside0.mk hm
        replace hl := Aside0.mk hl
        clear hck
        go_wp2
        go_roundw
        case rel => exact ⟨_, _, hrg2.out, hL2.out, (by rw [hG.out]; exact Kd.R_mono HO2.out (fun _ _ => trivial)), HB2.out, by omega, hrw, hc2.out⟩
        case measure => rw [hlt2.out, hlt.out]; omega
end Go.Proofs.YtgdpojleejdfaaaDoor.Px
