import Derived.Test.YtkpnfejfbmandaaDoorCIM8
import Derived.Test.YtkpnfejfbmandaaDoorCIM9
import Derived.Defers
import Derived.Recover
import Derived.Test.YtkpnfejfbmandaaDoorCIM3
/- Package parse: the closure that recovers, Parse. -/
namespace Go.Proofs.YtkpnfejfbmandaaDoor.Px
open Go.RowKit Go.Proofs.YtkpnfejfbmandaaDoorW.PrintWords Go.Proofs.YtkpnfejfbmandaaDoorW.PrintLast Go.Proofs.YtkpnfejfbmandaaDoorW.PrintMore
set_option linter.unusedVariables false
set_option linter.unusedSimpArgs false
theorem parser.all (k : Nat) : plist.Con k ∧ pnode.Con k ∧ pblk.Con k := by
  induction k using Nat.strongRecOn with
  | _ k ih =>
    have hl := plist.step k (fun m h => (ih m h).2.1)
    exact ⟨hl, pnode.step k (fun m h => (ih m h).2.2), pblk.step k hl⟩
theorem frame42 (p0 p1 p2 i t g b q : Value) : #[p0, p1, p2] ++ (((((((Array.replicate 12 undef).setIfInBounds 3 i).setIfInBounds 4 t).setIfInBounds 2 t).setIfInBounds 5 g).setIfInBounds 6 b).setIfInBounds 0 q).setIfInBounds 1 b = #[p0, p1, p2, q, b, t, i, t, g, b, undef, undef, undef, undef, undef] := by
  apply Array.ext'
  simp [Array.toList_replicate, List.replicate]
set_option maxHeartbeats 4000000 in
set_option maxRecDepth 100000 in
theorem catch_boom (b0 b1 b2 : Nat) (at_ er a1 a2 : Int) (v0 : Value) (older : List PanicEntry) (w : World)
    (h0 : w.cell? ⟨b0, 0, none⟩ = some v0) (h1 : w.cell? ⟨b1, 0, none⟩ = some (.int .i64 a1)) (h2 : w.cell? ⟨b2, 0, none⟩ = some (.int .i64 a2))
    (z0 : w.frozen? ⟨b0, 0, none⟩ = false) (z1 : w.frozen? ⟨b1, 0, none⟩ = false) (z2 : w.frozen? ⟨b2, 0, none⟩ = false)
    (l0 : b0 < w.heap.size) (l1 : b1 < w.heap.size) (l2 : b2 < w.heap.size) (n01 : b0 ≠ b1) (n02 : b0 ≠ b2) (n12 : b1 ≠ b2) :
    CallsD Tryd.prog 31 #[.pointer (some ⟨b0, 0, none⟩), .pointer (some ⟨b1, 0, none⟩), .pointer (some ⟨b2, 0, none⟩)] (.panicking ({ v := .iface 68 (.agg #[.int .i64 at_, .int .i64 er]), recovered := false } :: older)) w fun e u' w' =>
      e = .returned (.tuple #[]) ∧ u' = .panicking ({ v := .iface 68 (.agg #[.int .i64 at_, .int .i64 er]), recovered := true } :: older) ∧ w' = ((((w.setCell ⟨b0, 0, none⟩ (.slice none 0 0)).setCell ⟨b1, 0, none⟩ (.int .i64 at_)).setCell ⟨b2, 0, none⟩ (.int .i64 er)).alloc (.cells #[.int .i64 at_, .int .i64 er] 68)).drew := by
  have hta : ∀ (x y : Int) (W : World), (Instr.typeAssert (.iface 68 (.agg #[.int .i64 x, .int .i64 y])) 20 68 true).run Tryd.prog W = .ok (.tuple #[.agg #[.int .i64 x, .int .i64 y], .bool true]) W := fun _ _ _ => by kernel_rfl
  refine callsD_of_wpS Tryd.func31 rfl fun c₀ cs hu => ?_
  apply wpS_seq
  apply wpS_region
  simp [wpOpsS, go_sem, recoverD, hu, Tryd.ntmps31, Exit.thenS, hta]
  refine wpS_of_wp (wp_mono (Q := fun e a' w' => e = .normal ∧ a'.defers = [] ∧ w' = ((((w.setCell ⟨b0, 0, none⟩ (.slice none 0 0)).setCell ⟨b1, 0, none⟩ (.int .i64 at_)).setCell ⟨b2, 0, none⟩ (.int .i64 er)).alloc (.cells #[.int .i64 at_, .int .i64 er] 68)).drew) ?_ ?_)
  · clear hu hta
    rw [frame42]
    go_wp2
    go_region
    all_goals exact ⟨rfl, rfl, rfl⟩
  · rintro e a' w' ⟨rfl, hd, rfl⟩
    simp [hd, bodyPostS, results, Tryd.results31]
set_option maxRecDepth 100000 in
theorem catch_idle (b0 b1 b2 : Nat) (w : World) :
    CallsD Tryd.prog 31 #[.pointer (some ⟨b0, 0, none⟩), .pointer (some ⟨b1, 0, none⟩), .pointer (some ⟨b2, 0, none⟩)] .returning w fun e u' w' =>
      e = .returned (.tuple #[]) ∧ u' = .returning ∧ w' = w.alloc (.cells #[.int .i64 0, .int .i64 0] 68) := by
  have hta : ∀ (W : World), (Instr.typeAssert .nilIface 20 68 true).run Tryd.prog W = .ok (.tuple #[.agg #[.int .i64 0, .int .i64 0], .bool false]) W := fun _ => by kernel_rfl
  refine callsD_of_wpS Tryd.func31 rfl fun c₀ cs hu => ?_
  apply wpS_seq
  apply wpS_region
  simp [wpOpsS, go_sem, recoverD, hu, Tryd.ntmps31, Exit.thenS, hta]
  refine wpS_of_wp (wp_mono (Q := fun e a' w' => e = .normal ∧ a'.defers = [] ∧ w' = w.alloc (.cells #[.int .i64 0, .int .i64 0] 68)) ?_ ?_)
  · clear hta
    rw [frame42]
    go_wp2
  · rintro e a' w' ⟨rfl, hd, rfl⟩
    simp [hd, hu, bodyPostS, results, Tryd.results31]
    cases c₀
    simp_all
def parseR (s : ByteArray) : PA (List S78) → List S78 × Int × Int
  | .error (a, e) => ([], a, e)
  | .ok (out, [], _) => (out, s.size, 0)
  | .ok (_, t :: _, _) => ([], t.f1, 13)
def parse_Parse.f (k : Nat) (s : ByteArray) : Option (List S78 × Int × Int) :=
  if (lexF s).2.2 = 0 then (plist k (lexF s).1 0 0 []).map (parseR s) else some ([], (lexF s).2.1, (lexF s).2.2)
theorem plist_nil (k : Nat) (n d : Int) (out : List S78) : plist (k + 1) [] n d out = some (.ok (out, [], n)) := by rw [plist]
theorem plist_cons (k : Nat) (t : S76) (r : List S76) (n d : Int) (out : List S78) : plist (k + 1) (t :: r) n d out =
    if out.length < 100000 then
      if t.f0 = 7 ∨ t.f0 = 8 then some (.ok (out, t :: r, n))
      else match pnode k t r n d with
        | none => none
        | some (.error e) => some (.error e)
        | some (.ok (x, r', n')) => plist k r' n' d (out ++ [x])
    else none := by rw [plist]; try rfl
theorem pblk.mono {k : Nat} (h : ∀ l n d out, LeO (plist k l n d out) (plist (k + 1) l n d out)) (t : S76) (r : List S76) (n d : Int) : LeO (pblk k t r n d) (pblk (k + 1) t r n d) := by
  intro res hr
  unfold pblk at hr ⊢
  cases hp : plist k r n (d + 1) [] with
  | none => rw [hp] at hr; cases hr
  | some q =>
    rw [hp] at hr
    rw [h _ _ _ _ _ hp]
    cases q with
    | error e => exact hr
    | ok q =>
      obtain ⟨body, l1, n1⟩ := q
      cases l1 with
      | nil => exact hr
      | cons t1 r2 =>
        dsimp only at hr ⊢
        by_cases h7 : t1.f0 = 7
        · rw [if_pos h7] at hr ⊢
          by_cases h2 : t.f0 = 2
          · rw [if_pos h2] at hr ⊢
            cases hp2 : plist k r2 n1 (d + 1) [] with
            | none => rw [hp2] at hr; cases hr
            | some q =>
              rw [hp2] at hr
              rw [h _ _ _ _ _ hp2]
              exact hr
          · rw [if_neg h2] at hr ⊢; exact hr
        · rw [if_neg h7] at hr ⊢; exact hr
theorem parser.mono : ∀ k, (∀ l n d out, LeO (plist k l n d out) (plist (k + 1) l n d out)) ∧ (∀ t r n d, LeO (pnode k t r n d) (pnode (k + 1) t r n d))
  | 0 => ⟨fun l n d out r h => by simp [plist] at h, fun t r n d q h => by simp [pnode] at h⟩
  | k + 1 => by
    obtain ⟨ihl, ihn⟩ := parser.mono k
    refine ⟨?_, ?_⟩
    · intro l n d out
      cases l with
      | nil => rw [plist_nil, plist_nil]; exact LeO.refl _
      | cons t r =>
        rw [plist_cons, plist_cons]
        refine LeO.ite (LeO.ite (LeO.refl _) ?_) (LeO.refl _)
        intro q h
        cases hp : pnode k t r n d with
        | none => rw [hp] at h; cases h
        | some x =>
          rw [hp] at h
          rw [ihn _ _ _ _ _ hp]
          cases x with
          | error e => exact h
          | ok y => exact ihl _ _ _ _ _ h
    · intro t r n d
      rw [pnode_eq, pnode_eq]
      refine LeO.ite (LeO.ite (LeO.refl _) (LeO.ite (LeO.refl _) (LeO.ite (LeO.refl _) (LeO.ite ?_ (LeO.refl _))))) (LeO.refl _)
      exact pblk.mono ihl _ _ _ _
theorem res19 (tmps : Array Value) (w : World) (b0 b1 b2 : Nat) (A : Option Addr) (m c : Nat) (x y : Int)
    (h2 : tmps.getD 2 undef = .pointer (some ⟨b0, 0, none⟩)) (h3 : tmps.getD 3 undef = .pointer (some ⟨b1, 0, none⟩)) (h4 : tmps.getD 4 undef = .pointer (some ⟨b2, 0, none⟩))
    (c0 : w.cell? ⟨b0, 0, none⟩ = some (.slice A m c)) (c1 : w.cell? ⟨b1, 0, none⟩ = some (.int .i64 x)) (c2 : w.cell? ⟨b2, 0, none⟩ = some (.int .i64 y)) :
    (results Tryd.f10 tmps).run Tryd.prog w = .ok (.tuple #[.slice A m c, .int .i64 x, .int .i64 y]) w := by
  have h2' : tmps[2]?.getD undef = .pointer (some ⟨b0, 0, none⟩) := by simpa using h2
  have h3' : tmps[3]?.getD undef = .pointer (some ⟨b1, 0, none⟩) := by simpa using h3
  have h4' : tmps[4]?.getD undef = .pointer (some ⟨b2, 0, none⟩) := by simpa using h4
  simp [results, Tryd.results19, go_sem, asAddr, h2', h3', h4', c0, c1, c2]
theorem parse_Parse.mono (s : ByteArray) (k : Nat) : LeO (parse_Parse.f k s) (parse_Parse.f (k + 1) s) := LeO.ite (LeO.map _ ((parser.mono k).1 _ _ _ _)) (LeO.refl _)
set_option maxHeartbeats 4000000 in
set_option maxRecDepth 100000 in
theorem parse_Parse.calls (k : Nat) (s : ByteArray) (r1 : List S78) (r2 r3 : Int) (w : World) (hG_ : GS w) (h : parse_Parse.f k s = some (r1, r2, r3)) :
    Calls Tryd.prog 10 #[.string s] w fun e w' => ∃ v : Value, e = .returned (.tuple #[v, .int .i64 r2, .int .i64 r3]) ∧ Kd.R k78 78 w' w.heap.size (fun _ => True) v r1 ∧ Below w.heap.size w w' := by
  have HG := Aside0.mk hG_
  have H := Aside0.mk h
  clear hG_ h
  obtain ⟨l, n, er, hL⟩ : ∃ l n er, lexF s = (l, n, er) := ⟨_, _, _, rfl⟩
  have HX : lex_Lex.f s = some (l, n, er) := by unfold lex_Lex.f; rw [hL]
  replace hL := Aside0.mk hL
  replace HX := Aside0.mk HX
  have hmf : ∀ (fn : Fn) (first cap : Array Value) (w : World), (Instr.makeFunc fn first cap).run Tryd.prog w = .ok (.func fn first cap) w := fun _ _ _ _ => rfl
  go_enter_defers Tryd.func10, Tryd.ntmps10
  go_wp2_with fail
  refine (lex_Lex.calls s l n er _ (HG.out.below (below_alloc (below_alloc (below_alloc (Below.refl _ _) _) _) _)) HX.out).mono ?_
  rintro e w1 ⟨v, rfl, HR, HB⟩
  have HRs := Kd.R_slice HR
  obtain ⟨A, c, rfl⟩ := HRs
  replace HR := Aside0.mk HR
  have b0 : w1.heap[w.heap.size]? = some (.cells #[.slice none 0 0] 23 (0, 0)) := blk_below (blk_alloc (blk_alloc (blk_new _ _) _) _) HB
  have b1 : w1.heap[w.heap.size + 1]? = some (.cells #[.int .i64 0] 3 (0, 0)) := blk_below (blk_alloc (blk_new' (by simp)) _) HB
  have b2 : w1.heap[w.heap.size + 1 + 1]? = some (.cells #[.int .i64 0] 24 (0, 0)) := blk_below (blk_new' (by simp)) HB
  have l2 := blk_lt b2
  have c0 : w1.cell? ⟨w.heap.size, 0, none⟩ = some (.slice none 0 0) := (blk_cell b0 0).trans rfl
  have c1 : w1.cell? ⟨w.heap.size + 1, 0, none⟩ = some (.int .i64 0) := (blk_cell b1 0).trans rfl
  have c2 : w1.cell? ⟨w.heap.size + 1 + 1, 0, none⟩ = some (.int .i64 0) := (blk_cell b2 0).trans rfl
  have z0 := blk_frozen b0 0
  have z1 := blk_frozen b1 0
  have z2 := blk_frozen b2 0
  have HB0 := Aside0.mk b0
  clear b0 b1 b2
  replace HB := Aside0.mk (below_step (below_alloc (below_alloc (below_alloc (Below.refl w.heap.size w) _) _) _) HB)
  by_cases he : er = 0
  case neg =>
    have he' : (er != 0) = true := by rw [bne_iff_ne]; exact he
    have H2 := H.out
    unfold parse_Parse.f at H2
    rw [hL.out] at H2
    dsimp only at H2
    rw [if_neg he] at H2
    simp only [Option.some.injEq, Prod.mk.injEq] at H2
    obtain ⟨rfl, rfl, rfl⟩ := H2
    clear he hmf HR H hL HX
    go_wp2
    go_region
    all_goals
      go_wp2
      refine ⟨.tuple #[.slice none 0 0, .int .i64 n, .int .i64 er], res19 _ _ w.heap.size (w.heap.size + 1) (w.heap.size + 1 + 1) _ _ _ _ _ rfl rfl rfl (by go_simp) (by go_simp) (by go_simp; exact World.cell?_setCell_same' _ _ _ (by go_simp)), ?_⟩
      refine ⟨_, rfl, Kd.R_nil _ _ _ _ _, ?_⟩
      repeat (first | exact HB.out | apply below_drew1 | apply pw_below_drewN | apply below_alloc | (refine below_set ?_ (by omega)))
  subst he
  have hsz : s.size ≤ 65536 := by
    have h := hL.out
    unfold lexF at h
    split at h
    · simp only [Prod.mk.injEq] at h; have := h.2.2; omega
    · omega
  clear HX
  have H2 := H.out; clear H
  unfold parse_Parse.f at H2
  rw [hL.out] at H2
  dsimp only at H2
  rw [if_pos rfl] at H2
  obtain ⟨res, hp, hr⟩ := Option.map_eq_some_iff.1 H2
  clear H2
  replace hp := Aside0.mk hp
  replace hr := Aside0.mk hr
  replace hsz := Aside0.mk hsz
  clear hL
  go_wp2_with fail
  have hX : ((w1.setCell ⟨w.heap.size + 1, 0, none⟩ (.int .i64 n)).setCell ⟨w.heap.size + 1 + 1, 0, none⟩ (.int .i64 0)).heap.size = w1.heap.size := by simp
  have HX0 : ((w1.setCell ⟨w.heap.size + 1, 0, none⟩ (.int .i64 n)).setCell ⟨w.heap.size + 1 + 1, 0, none⟩ (.int .i64 0)).cell? ⟨w.heap.size, 0, none⟩ = some (.slice none 0 0) := by go_simp
  have HX1 : ((w1.setCell ⟨w.heap.size + 1, 0, none⟩ (.int .i64 n)).setCell ⟨w.heap.size + 1 + 1, 0, none⟩ (.int .i64 0)).cell? ⟨w.heap.size + 1, 0, none⟩ = some (.int .i64 n) := by go_simp
  have HX2 : ((w1.setCell ⟨w.heap.size + 1, 0, none⟩ (.int .i64 n)).setCell ⟨w.heap.size + 1 + 1, 0, none⟩ (.int .i64 0)).cell? ⟨w.heap.size + 1 + 1, 0, none⟩ = some (.int .i64 0) := by first | (go_simp; done) | exact World.cell?_setCell_same' _ _ _ (by go_simp)
  have HZ0 : ((w1.setCell ⟨w.heap.size + 1, 0, none⟩ (.int .i64 n)).setCell ⟨w.heap.size + 1 + 1, 0, none⟩ (.int .i64 0)).frozen? ⟨w.heap.size, 0, none⟩ = false := by go_simp
  have HZ1 : ((w1.setCell ⟨w.heap.size + 1, 0, none⟩ (.int .i64 n)).setCell ⟨w.heap.size + 1 + 1, 0, none⟩ (.int .i64 0)).frozen? ⟨w.heap.size + 1, 0, none⟩ = false := by go_simp
  have HZ2 : ((w1.setCell ⟨w.heap.size + 1, 0, none⟩ (.int .i64 n)).setCell ⟨w.heap.size + 1 + 1, 0, none⟩ (.int .i64 0)).frozen? ⟨w.heap.size + 1 + 1, 0, none⟩ = false := by go_simp
  replace HB0 := Aside0.mk (show ((w1.setCell ⟨w.heap.size + 1, 0, none⟩ (.int .i64 n)).setCell ⟨w.heap.size + 1 + 1, 0, none⟩ (.int .i64 0)).heap[w.heap.size]? = some (.cells #[.slice none 0 0] 23 (0, 0)) from blk_far' (blk_far' HB0.out (by omega) _) (by omega) _)
  have HBX := Aside0.mk (below_set (j := 0) (v := .int .i64 0) (below_set (j := 0) (v := .int .i64 n) HB.out (show w.heap.size ≤ w.heap.size + 1 by omega)) (show w.heap.size ≤ w.heap.size + 1 + 1 by omega))
  have hrl : w.heap.size + 1 + 1 < (((w.alloc (.cells #[.slice none 0 0] 23)).alloc (.cells #[.int .i64 0] 3)).alloc (.cells #[.int .i64 0] 24)).heap.size := by simp
  have HRX := Aside0.mk (Kd.R_reads' (R_farB (R_farB HR.out (k := w.heap.size + 1) (j := 0) (by omega) (.int .i64 n)) (j := 0) hrl (.int .i64 0)))
  clear HR HB c0 c1 c2 z0 z1 z2 hrl
  rw [← hX] at l2 ⊢
  generalize (w1.setCell ⟨w.heap.size + 1, 0, none⟩ (.int .i64 n)).setCell ⟨w.heap.size + 1 + 1, 0, none⟩ (.int .i64 0) = X at *
  clear hX
  have hSt : PSt X (X.alloc (.cells (stP A c l 0 0) 72)) X.heap.size l 0 0 (X.alloc (.cells (stP A c l 0 0) 72)) := ⟨A, c, Stp.start (blk_new _ _) (below_alloc (Below.refl _ _) _) (Nat.le_refl _), HRX.out.2.2, HRX.out.2.1⟩
  have HL := (parser.all k).1 X.heap.size l 0 0 res X (X.alloc (.cells (stP A c l 0 0) 72)) hSt hp.out
  clear hSt HRX hp
  refine HL.mono ?_
  clear HL
  cases res with
  | error q =>
    obtain ⟨at_, er⟩ := q
    rintro e w2 ⟨rfl, HB2⟩
    have H2 := hr.out; clear hr
    simp only [parseR, Prod.mk.injEq] at H2
    obtain ⟨rfl, rfl, rfl⟩ := H2
    have g0 : w2.cell? ⟨w.heap.size, 0, none⟩ = some (.slice none 0 0) := (HB2.cell (by show w.heap.size < X.heap.size; omega)).trans HX0
    have g1 : w2.cell? ⟨w.heap.size + 1, 0, none⟩ = some (.int .i64 n) := (HB2.cell (by show w.heap.size + 1 < X.heap.size; omega)).trans HX1
    have g2 : w2.cell? ⟨w.heap.size + 1 + 1, 0, none⟩ = some (.int .i64 0) := (HB2.cell (by show w.heap.size + 1 + 1 < X.heap.size; omega)).trans HX2
    have f0 : w2.frozen? ⟨w.heap.size, 0, none⟩ = false := (HB2.frozen (by show w.heap.size < X.heap.size; omega)).trans HZ0
    have f1 : w2.frozen? ⟨w.heap.size + 1, 0, none⟩ = false := (HB2.frozen (by show w.heap.size + 1 < X.heap.size; omega)).trans HZ1
    have f2 : w2.frozen? ⟨w.heap.size + 1 + 1, 0, none⟩ = false := (HB2.frozen (by show w.heap.size + 1 + 1 < X.heap.size; omega)).trans HZ2
    have hl2 : w.heap.size + 1 + 1 < w2.heap.size := Nat.lt_of_lt_of_le l2 HB2.size
    have hl1 : w.heap.size + 1 < w2.heap.size := by omega
    have hl0 : w.heap.size < w2.heap.size := by omega
    replace HB2 := Aside0.mk (below_step HBX.out HB2)
    clear HX0 HX1 HX2 HZ0 HZ1 HZ2 HBX l2 hsz
    go_wp2
    refine leaves_cons (f := 31) (args := #[.pointer (some ⟨w.heap.size, 0, none⟩), .pointer (some ⟨w.heap.size + 1, 0, none⟩), .pointer (some ⟨w.heap.size + 1 + 1, 0, none⟩)]) (by simp) (by simp [go_sem]) ?_
    refine (catch_boom w.heap.size (w.heap.size + 1) (w.heap.size + 1 + 1) at_ er n 0 _ [] _ g0 g1 g2 f0 f1 f2 (by omega) (by omega) hl2 (by omega) (by omega) (by omega)).mono ?_
    rintro e u' w'' ⟨rfl, rfl, rfl⟩
    refine ⟨.tuple #[.slice none 0 0, .int .i64 at_, .int .i64 er], res19 _ _ w.heap.size (w.heap.size + 1) (w.heap.size + 1 + 1) _ _ _ _ _ rfl rfl rfl (by go_simp) (by go_simp) (by first | (go_simp; done) | (go_simp; exact World.cell?_setCell_same' _ _ _ (by go_simp))), ?_⟩
    refine ⟨_, rfl, Kd.R_nil _ _ _ _ _, ?_⟩
    repeat (first | exact HB2.out | apply below_drew1 | apply pw_below_drewN | apply below_alloc | (refine below_set ?_ (by omega)))
  | ok q =>
    obtain ⟨out, l', n'⟩ := q
    rintro e w2 ⟨⟨v, rfl, RO⟩, A', c', S2, HC2, hc2⟩
    obtain ⟨Ao, co, rfl⟩ := Kd.R_slice RO
    have HB2 := S2.bel
    have g0 : w2.cell? ⟨w.heap.size, 0, none⟩ = some (.slice none 0 0) := (HB2.cell (by show w.heap.size < X.heap.size; omega)).trans HX0
    have g1 : w2.cell? ⟨w.heap.size + 1, 0, none⟩ = some (.int .i64 n) := (HB2.cell (by show w.heap.size + 1 < X.heap.size; omega)).trans HX1
    have g2 : w2.cell? ⟨w.heap.size + 1 + 1, 0, none⟩ = some (.int .i64 0) := (HB2.cell (by show w.heap.size + 1 + 1 < X.heap.size; omega)).trans HX2
    have f0 : w2.frozen? ⟨w.heap.size, 0, none⟩ = false := (HB2.frozen (by show w.heap.size < X.heap.size; omega)).trans HZ0
    have f1 : w2.frozen? ⟨w.heap.size + 1, 0, none⟩ = false := (HB2.frozen (by show w.heap.size + 1 < X.heap.size; omega)).trans HZ1
    have f2 : w2.frozen? ⟨w.heap.size + 1 + 1, 0, none⟩ = false := (HB2.frozen (by show w.heap.size + 1 + 1 < X.heap.size; omega)).trans HZ2
    have hl2 : w.heap.size + 1 + 1 < w2.heap.size := Nat.lt_of_lt_of_le l2 HB2.size
    have hl1 : w.heap.size + 1 < w2.heap.size := by omega
    have hl0 : w.heap.size < w2.heap.size := by omega
    have hb0 : w2.cell? ⟨X.heap.size, 0, none⟩ = some (.slice A' l'.length c') := (S2.cell 0).trans rfl
    have hlX : w.heap.size + 1 + 1 < X.heap.size := l2
    have HB3 := Aside0.mk (below_step HBX.out HB2)
    have hss : w2.heap.size = w2.heap.size := rfl
    clear HX0 HX1 HX2 HZ0 HZ1 HZ2 HBX l2 hss
    cases l' with
    | nil =>
      have H2 := hr.out; clear hr
      simp only [parseR, Prod.mk.injEq] at H2
      obtain ⟨rfl, rfl, rfl⟩ := H2
      rw [show ([] : List S76).length = 0 from rfl] at hb0
      have RO' := Aside0.mk RO
      have hsz1 := Aside0.mk hsz.out
      clear RO S2 HC2 hc2 HB2 HB0 hsz
      have hszI : (s.size : Int) ≤ 65536 := by have := hsz1.out; omega
      go_wp2
      refine leaves_cons (f := 31) (args := #[.pointer (some ⟨w.heap.size, 0, none⟩), .pointer (some ⟨w.heap.size + 1, 0, none⟩), .pointer (some ⟨w.heap.size + 1 + 1, 0, none⟩)]) (by simp) (by simp [go_sem]) ?_
      refine (catch_idle w.heap.size (w.heap.size + 1) (w.heap.size + 1 + 1) _).mono ?_
      rintro e u' w'' ⟨rfl, rfl, rfl⟩
      refine ⟨.tuple #[.slice Ao out.length co, .int .i64 s.size, .int .i64 0], res19 _ _ w.heap.size (w.heap.size + 1) (w.heap.size + 1 + 1) _ _ _ _ _ rfl rfl rfl (by go_simp) (by go_simp) (by first | (go_simp; done) | (go_simp; exact World.cell?_setCell_same' _ _ _ (by go_simp))), ?_⟩
      have hbs : w.heap.size + 1 + 1 < (X.alloc (.cells (stP A c l 0 0) 72)).heap.size := by simp; omega
      refine ⟨_, rfl, Kd.R_lower (Kd.R_alloc (R_farB (R_farB (R_farB (R_farB RO'.out (j := 0) (show w.heap.size < _ by omega) _) (j := 0) (show w.heap.size < _ by omega) _) (j := 0) (show w.heap.size + 1 < _ by omega) _) (j := 0) hbs _) _) (by omega), ?_⟩
      repeat (first | exact HB3.out | apply below_drew1 | apply pw_below_drewN | apply below_alloc | (refine below_set ?_ (by omega)))
    | cons t r =>
      obtain ⟨bb, oo, ss, rfl, x0, x1, _, _, _⟩ := head_T28 HC2
      have hbw : bb ≠ w.heap.size := by
        rintro rfl
        have h := blk_cell HB0.out (oo + 1)
        rw [x1] at h
        simp at h
      have H2 := hr.out; clear hr
      simp only [parseR, Prod.mk.injEq] at H2
      obtain ⟨rfl, rfl, rfl⟩ := H2
      replace x1 := S2.old x1
      rw [List.length_cons] at hb0
      have hlen : (0 : Int) < ((r.length + 1 : Nat) : Int) := by omega
      have hlen' : 0 < r.length + 1 := by omega
      have hm := Kd.C_max HC2
      have hbl := World.block_lt_of_cell? _ _ x1
      clear RO S2 HC2 hc2 HB2 HB0 hsz x0
      rw [List.length_cons] at hm
      go_wp2_with (go_at_call 33; (with_reducible refine (must_no _ _ _).mono ?_); rintro e w' ⟨rfl, rfl⟩)
      refine leaves_cons (f := 31) (args := #[.pointer (some ⟨w.heap.size, 0, none⟩), .pointer (some ⟨w.heap.size + 1, 0, none⟩), .pointer (some ⟨w.heap.size + 1 + 1, 0, none⟩)]) (by simp) (by simp [go_sem]) ?_
      refine (catch_boom w.heap.size (w.heap.size + 1) (w.heap.size + 1 + 1) t.f1 13 n 0 (.slice Ao out.length co) [] _ (by go_simp) (by go_simp) (by go_simp) (by go_simp) (by go_simp) (by go_simp) (by simp; omega) (by simp; omega) (by simp; omega) (by omega) (by omega) (by omega)).mono ?_
      rintro e u' w'' ⟨rfl, rfl, rfl⟩
      refine ⟨.tuple #[.slice none 0 0, .int .i64 t.f1, .int .i64 13], res19 _ _ w.heap.size (w.heap.size + 1) (w.heap.size + 1 + 1) _ _ _ _ _ rfl rfl rfl (by go_simp) (by go_simp) (by first | (go_simp; done) | (go_simp; exact World.cell?_setCell_same' _ _ _ (by go_simp))), ?_⟩
      refine ⟨_, rfl, Kd.R_nil _ _ _ _ _, ?_⟩
      repeat (first | exact HB3.out | apply below_drew1 | apply pw_below_drewN | apply below_alloc | (refine below_set ?_ (by omega)))
end Go.Proofs.YtkpnfejfbmandaaDoor.Px
namespace Go.Proofs.YtkpnfejfbmandaaDoor.Px
open Go.RowKit Go.Proofs.YtkpnfejfbmandaaDoorW.PrintWords Go.Proofs.YtkpnfejfbmandaaDoorW.PrintLast Go.Proofs.YtkpnfejfbmandaaDoorW.PrintMore
set_option linter.unusedVariables false
set_option linter.unusedSimpArgs false
mutual
def rlist : Nat → List S140 → Int → Int → Int → Bool → Int → List S78 → Option (List S78 × Int × Int × Int × Int)
  | 0, _, _, _, _, _, _, _ => none
  | k + 1, l, i, n, op, ie, dp, out =>
    if i < (l.length : Int) then
      if 0 ≤ i ∧ out.length < 100000 then
        if (rd_T140 l i).f0 = 7 then (if op = 2 then (if ie = true then some ([], (rd_T140 l i).f1, 13, i, n) else some (out, 0, 0, i, n)) else some ([], (rd_T140 l i).f1, 13, i, n))
        else if (rd_T140 l i).f0 = 8 then (if op < 0 then some ([], (rd_T140 l i).f1, 13, i, n) else some (out, 0, 0, i, n))
        else (rnode k l i n dp).bind fun r => if r.2.2.1 = 0 then rlist k l r.2.2.2.1 r.2.2.2.2 op ie dp (out ++ [r.1]) else some ([], r.2.1, r.2.2.1, r.2.2.2.1, r.2.2.2.2)
      else none
    else some (out, 0, 0, i, n)
def rnode : Nat → List S140 → Int → Int → Int → Option (S78 × Int × Int × Int × Int)
  | 0, _, _, _, _ => none
  | k + 1, l, i, n, dp =>
    if 0 ≤ i ∧ i < (l.length : Int) ∧ i ≤ 100000 ∧ 0 ≤ n ∧ 0 ≤ dp then
      let t := rd_T140 l i
      if t.f0 = 6 ∧ dp > 0 then some (z78, t.f1, 13, i, n)
      else if (t.f0 = 2 ∨ t.f0 = 3 ∨ t.f0 = 6) ∧ dp ≥ 32 then some (z78, t.f1, 13, i, n)
      else if n ≥ 4096 then some (z78, t.f1, 14, i, n)
      else if t.f0 = 2 ∨ t.f0 = 3 ∨ t.f0 = 6 then
        (rlist k l (i + 1) (n + 1) t.f0 false (dp + 1) []).bind fun r =>
          if r.2.2.1 = 0 then
            if r.2.2.2.1 < (l.length : Int) then
              if 0 ≤ r.2.2.2.1 ∧ r.2.2.2.1 ≤ 100000 then
                if (rd_T140 l r.2.2.2.1).f0 = 7 then
                  (rlist k l (r.2.2.2.1 + 1) r.2.2.2.2 t.f0 true (dp + 1) []).bind fun q =>
                    if q.2.2.1 = 0 then
                      if q.2.2.2.1 ≥ (l.length : Int) then some (z78, t.f1, 7, q.2.2.2.1, q.2.2.2.2)
                      else if 0 ≤ q.2.2.2.1 ∧ q.2.2.2.1 ≤ 100000 then some (⟨t.f0, t.f1, t.f2, t.f3, t.f4, true, r.1, q.1⟩, 0, 0, q.2.2.2.1 + 1, q.2.2.2.2) else none
                    else some (z78, q.2.1, q.2.2.1, q.2.2.2.1, q.2.2.2.2)
                else some (⟨t.f0, t.f1, t.f2, t.f3, t.f4, false, r.1, []⟩, 0, 0, r.2.2.2.1 + 1, r.2.2.2.2)
              else none
            else some (z78, t.f1, 7, r.2.2.2.1, r.2.2.2.2)
          else some (z78, r.2.1, r.2.2.1, r.2.2.2.1, r.2.2.2.2)
      else some (⟨t.f0, t.f1, t.f2, t.f3, t.f4, false, [], []⟩, 0, 0, i + 1, n + 1)
    else none
end
def stC (A : Option Addr) (c : Nat) (l : List S140) (i n : Int) : Array Value := #[.slice A l.length c, .int .i64 i, .int .i64 n]
abbrev rlist.Con (k : Nat) : Prop := ∀ (g : Nat) (A : Option Addr) (c : Nat) (l : List S140) (i n op : Int) (ie : Bool) (dp : Int) (r1 : List S78) (r2 r3 i' n' : Int) (w0 w : World)
  (hS : Stp w0 w g 98 (stC A c l i n) w) (hr : Kd.C k140 w0 A l.length l) (hc : l.length ≤ c)
  (h : rlist k l i n op ie dp [] = some (r1, r2, r3, i', n')),
  Calls Tryd.prog 43 #[.pointer (some ⟨g, 0, none⟩), .int .i64 op, .bool ie, .int .i64 dp] w fun e w' => ∃ v : Value, e = .returned (.tuple #[v, .int .i64 r2, .int .i64 r3]) ∧ Kd.R k78 78 w' w.heap.size (fun _ => True) v r1 ∧ Stp w0 w g 98 (stC A c l i' n') w'
abbrev rnode.Con (k : Nat) : Prop := ∀ (g : Nat) (A : Option Addr) (c : Nat) (l : List S140) (i n dp : Int) (x : S78) (r2 r3 i' n' : Int) (w0 w : World)
  (hS : Stp w0 w g 98 (stC A c l i n) w) (hr : Kd.C k140 w0 A l.length l) (hc : l.length ≤ c)
  (h : rnode k l i n dp = some (x, r2, r3, i', n')),
  Calls Tryd.prog 68 #[.pointer (some ⟨g, 0, none⟩), .int .i64 dp] w fun e w' => ∃ v6 v7 : Value, e = .returned (.tuple #[.agg #[.int .i64 x.f0, .int .i64 x.f1, .string x.f2, .string x.f3, .bool x.f4, .bool x.f5, v6, v7], .int .i64 r2, .int .i64 r3]) ∧ Kd.R k78 78 w' w.heap.size (fun _ => True) v6 x.f6 ∧ Kd.R k78 78 w' w.heap.size (fun _ => True) v7 x.f7 ∧ Stp w0 w g 98 (stC A c l i' n') w'
theorem info78r : (Tryd.prog.info? 78).map (fun i => (i.zero, i.size, i.bytes)) = some (some (.agg #[.int .i64 0, .int .i64 0, .string ⟨#[]⟩, .string ⟨#[]⟩, .bool false, .bool false, .slice none 0 0, .slice none 0 0]), 8, 104) := by kernel_rfl
def RlRel (l : List S140) (g : Nat) (A : Option Addr) (c : Nat) (op : Int) (ie : Bool) (dp : Int) (R : List S78 × Int × Int × Int × Int) (w0 w : World) (kq : Nat) (v : Value) (wr : World) : Prop :=
  ∃ (out : List S78) (i n : Int), rlist kq l i n op ie dp out = some R ∧ Kd.R k78 78 wr w.heap.size (fun _ => True) v out ∧ Stp w0 w g 98 (stC A c l i n) wr
set_option maxHeartbeats 1000000 in
set_option maxRecDepth 100000 in
theorem rlist.step (k : Nat) (ihn : ∀ m, m < k → rnode.Con m) : rlist.Con k := by
  intro g A c l i n op ie dp r1 r2 r3 i' n' w0 w hS hr hc h
  have hgw : g < w.heap.size := hS.lt
  have HN := Aside0.mk ihn; clear ihn
  have HR := Aside0.mk hr; clear hr
  have H0 : RlRel l g A c op ie dp (r1, r2, r3, i', n') w0 w k (.slice none 0 0) w := ⟨[], i, n, h, Kd.R_nil _ _ _ _ _, hS⟩
  clear hS h
  go_enter Tryd.func43, Tryd.ntmps43
  go_wp2
  go_loopg [11] k (fun kq v wr => kq ≤ k ∧ RlRel l g A c op ie dp (r1, r2, r3, i', n') w0 w kq v wr)
  case atStart => exact ⟨Nat.le_refl _, H0⟩
  case round =>
    clear H0 i n
    obtain ⟨hk, out, i, n, H, HO, HS⟩ := hrel
    cases gk with
    | zero => exact absurd H (by simp [rlist])
    | succ k1 =>
      have hb0 : wr.cell? ⟨g, 0, none⟩ = some (.slice A l.length c) := (HS.cell 0).trans rfl
      have hb1 : wr.cell? ⟨g, 1, none⟩ = some (.int .i64 i) := (HS.cell 1).trans rfl
      replace HS := Aside0.mk HS
      replace HO := Aside0.mk HO
      simp only [rlist] at H
      by_cases hlt : i < (l.length : Int)
      · rw [if_pos hlt] at H
        by_cases h0 : 0 ≤ i ∧ out.length < 100000
        · rw [if_pos h0] at H
          replace H := Aside0.mk H
          obtain ⟨h00, hol⟩ := h0
          obtain ⟨ad, rfl, x0, x1, x2, x3, x4⟩ := at_T140 HR.out i h00 hlt
          replace x0 := HS.out.old x0
          replace x1 := HS.out.old x1
          replace x2 := HS.out.old x2
          replace x3 := HS.out.old x3
          replace x4 := HS.out.old x4
          go_wp2
          go_quiet (fail)
          rename_i nq
          replace hb0 : (wr.drewN nq).cell? _ = _ := hb0
          replace hb1 : (wr.drewN nq).cell? _ = _ := hb1
          replace x0 : (wr.drewN nq).cell? _ = _ := x0
          replace x1 : (wr.drewN nq).cell? _ = _ := x1
          replace x2 : (wr.drewN nq).cell? _ = _ := x2
          replace x3 : (wr.drewN nq).cell? _ = _ := x3
          replace x4 : (wr.drewN nq).cell? _ = _ := x4
          replace HO := Aside0.mk (Kd.R_drewN HO.out nq)
          replace HS := Aside0.mk (HS.out.drewN nq)
          generalize wr.drewN nq = w1 at *
          have hgs : g < w1.heap.size := HS.out.lt
          have hads := World.block_lt_of_cell? _ _ x1
          go_wp2
          go_region
          clear x0 x1 x2 x3 x4 hb0 hb1
          by_cases h7 : (rd_T140 l i).f0 = 7
          · rw [if_pos h7] at H
            have h7' : ((rd_T140 l i).f0 == 7) = true := beq_iff_eq.mpr h7
            have HS1 := Aside0.mk ((HS.out.alloc (.cells #[.int .i64 (rd_T140 l i).f0, .int .i64 (rd_T140 l i).f1, .string (rd_T140 l i).f2, .string (rd_T140 l i).f3, .bool (rd_T140 l i).f4] 140)).drew)
            have HO1 := Aside0.mk (Kd.R_drew (Kd.R_alloc HO.out (.cells #[.int .i64 (rd_T140 l i).f0, .int .i64 (rd_T140 l i).f1, .string (rd_T140 l i).f2, .string (rd_T140 l i).f3, .bool (rd_T140 l i).f4] 140)))
            clear HS HO h7
            by_cases hop : op = 2
            · rw [if_pos hop] at H
              have hop' : (op != 2) = false := by simp [hop]
              clear hop
              cases ie with
              | true =>
                have H2 := H.out; clear H
                simp only [if_true, Option.some.injEq, Prod.mk.injEq] at H2
                obtain ⟨rfl, rfl, rfl, rfl, rfl⟩ := H2
                go_wp2
                go_quiet (fail)
                rename_i nq
                go_wp2
                go_ret3
                exact ⟨_, rfl, Kd.R_nil _ _ _ _ _, HS1.out.drewN nq⟩
              | false =>
                have H2 := H.out; clear H
                simp only [Bool.false_eq_true, if_false, Option.some.injEq, Prod.mk.injEq] at H2
                obtain ⟨rfl, rfl, rfl, rfl, rfl⟩ := H2
                go_wp2
                go_ret3
                exact ⟨_, rfl, HO1.out, HS1.out⟩
            · rw [if_neg hop] at H
              have hop' : (op != 2) = true := by simp [hop]
              clear hop
              have H2 := H.out; clear H
              simp only [Option.some.injEq, Prod.mk.injEq] at H2
              obtain ⟨rfl, rfl, rfl, rfl, rfl⟩ := H2
              go_wp2
              go_quiet (fail)
              rename_i nq
              go_wp2
              go_ret3
              exact ⟨_, rfl, Kd.R_nil _ _ _ _ _, HS1.out.drewN nq⟩
          · rw [if_neg h7] at H
            by_cases h8 : (rd_T140 l i).f0 = 8
            · rw [if_pos h8] at H
              have h7' : ((rd_T140 l i).f0 == 7) = false := beq_eq_false_iff_ne.mpr h7
              have h8' : ((rd_T140 l i).f0 == 8) = true := beq_iff_eq.mpr h8
              have HS1 := Aside0.mk ((HS.out.alloc (.cells #[.int .i64 (rd_T140 l i).f0, .int .i64 (rd_T140 l i).f1, .string (rd_T140 l i).f2, .string (rd_T140 l i).f3, .bool (rd_T140 l i).f4] 140)).drew)
              have HO1 := Aside0.mk (Kd.R_drew (Kd.R_alloc HO.out (.cells #[.int .i64 (rd_T140 l i).f0, .int .i64 (rd_T140 l i).f1, .string (rd_T140 l i).f2, .string (rd_T140 l i).f3, .bool (rd_T140 l i).f4] 140)))
              clear HS HO h7 h8
              by_cases hop : op < 0
              · rw [if_pos hop] at H
                have H2 := H.out; clear H
                simp only [Option.some.injEq, Prod.mk.injEq] at H2
                obtain ⟨rfl, rfl, rfl, rfl, rfl⟩ := H2
                go_wp2
                go_quiet (fail)
                rename_i nq
                go_wp2
                go_ret3
                exact ⟨_, rfl, Kd.R_nil _ _ _ _ _, HS1.out.drewN nq⟩
              · rw [if_neg hop] at H
                have H2 := H.out; clear H
                simp only [Option.some.injEq, Prod.mk.injEq] at H2
                obtain ⟨rfl, rfl, rfl, rfl, rfl⟩ := H2
                go_wp2
                go_ret3
                exact ⟨_, rfl, HO1.out, HS1.out⟩
            · rw [if_neg h8] at H
              obtain ⟨⟨x, q2, q3, i1, n1⟩, hn, H⟩ := Option.bind_eq_some_iff.1 H.out
              have HN1 := Aside0.mk (HN.out k1 (by omega) g _ c l i n dp x q2 q3 i1 n1 w0 _ ((HS.out.alloc (.cells #[.int .i64 (rd_T140 l i).f0, .int .i64 (rd_T140 l i).f1, .string (rd_T140 l i).f2, .string (rd_T140 l i).f3, .bool (rd_T140 l i).f4] 140)).drew.again) HR.out hc hn)
              have HS1 := Aside0.mk ((HS.out.alloc (.cells #[.int .i64 (rd_T140 l i).f0, .int .i64 (rd_T140 l i).f1, .string (rd_T140 l i).f2, .string (rd_T140 l i).f3, .bool (rd_T140 l i).f4] 140)).drew)
              have HO1 := Aside0.mk (Kd.R_drew (Kd.R_alloc HO.out (.cells #[.int .i64 (rd_T140 l i).f0, .int .i64 (rd_T140 l i).f1, .string (rd_T140 l i).f2, .string (rd_T140 l i).f3, .bool (rd_T140 l i).f4] 140)))
              clear HS HO hn
              have h7' : ((rd_T140 l i).f0 == 7) = false := beq_eq_false_iff_ne.mpr h7
              have h8' : ((rd_T140 l i).f0 == 8) = false := beq_eq_false_iff_ne.mpr h8
              clear h7 h8
              go_wp2_with fail
              refine HN1.out.mono ?_
              rintro e w2 ⟨v6, v7, rfl, R6, R7, S2⟩
              clear HN1
              obtain ⟨A6, c6, rfl⟩ := Kd.R_slice R6
              obtain ⟨A7, c7, rfl⟩ := Kd.R_slice R7
              have HO2 := Aside0.mk (R_keepBut HO1.out S2.keep hgw)
              have HS2 := Aside0.mk (HS1.out.call S2)
              have HM := Aside0.mk (And.intro (R_apart R6 HO1.out HS1.out.size) (R_apart R7 HO1.out HS1.out.size))
              clear R6 R7 S2 HO1 HS1
              by_cases h3 : q3 = 0
              · rw [if_pos h3] at H
                have h3' : (q3 != 0) = false := by simp [h3]
                replace H := Aside0.mk H
                clear h3
                go_wp2_with (at_builtin; refine Kd.R_append k78 w.heap.size rfl _ _ 23 78 _ 104 rfl Tryd.underlying23 info78r rfl (by decide) (by decide) u11 out x [.int .i64 x.f0, .int .i64 x.f1, .string x.f2, .string x.f3, .bool x.f4, .bool x.f5, .slice A6 x.f6.length c6, .slice A7 x.f7.length c7] (fun _ => True) (fun k => some k ≠ u11.ownBlock) rfl (by rw [World.size_alloc]; rfl) (k78_mkM _ _ _ x (Kd.R_alloc HM.out.1 _) (Kd.R_alloc HM.out.2 _)) (fun k hk => ⟨trivial, hk⟩) (fun _ _ => trivial) (Kd.R_alloc HO2.out _) (Below.refl _ _) (Nat.le_trans HS2.out.size (by simp)) (by omega) ?_; intro v1 w3 HO3 _ hg3 _; have HS3 := Aside0.mk ((HS2.out.alloc _).grown hg3 (Kd.R_base HO2.out) hgw); clear HS2 HM hg3; obtain ⟨A1, c1, rfl⟩ := Kd.R_slice HO3; replace HO3 := Aside0.mk HO3)
                go_roundg k1
                case measure => omega
                case rel => exact ⟨by omega, out ++ [x], i1, n1, H.out, (by have h5 := HO3.out; rwa [List.length_append, List.length_singleton] at h5), HS3.out⟩
              · rw [if_neg h3] at H
                have h3' : (q3 != 0) = true := by simp [h3]
                clear h3
                simp only [Option.some.injEq, Prod.mk.injEq] at H
                obtain ⟨rfl, rfl, rfl, rfl, rfl⟩ := H
                go_wp2
                go_ret3
                exact ⟨_, rfl, Kd.R_nil _ _ _ _ _, HS2.out.alloc _⟩
        · rw [if_neg h0] at H; cases H
      · rw [if_neg hlt] at H
        simp only [Option.some.injEq, Prod.mk.injEq] at H
        obtain ⟨rfl, rfl, rfl, rfl, rfl⟩ := H
        go_wp2
        go_quiet (fail)
        rename_i nq
        go_wp2
        go_ret3
        exact ⟨_, rfl, Kd.R_drewN HO.out nq, HS.out.drewN nq⟩
end Go.Proofs.YtkpnfejfbmandaaDoor.Px
