import Derived.Test.YtkpnfejfbmandaaDoorCU3
import Derived.Test.YtkpnfejfbmandaaDoorCU2
namespace Go.Proofs.YtkpnfejfbmandaaDoor.Px
open Go.RowKit Go.Proofs.YtkpnfejfbmandaaDoorW.PrintWords Go.Proofs.YtkpnfejfbmandaaDoorW.PrintLast Go.Proofs.YtkpnfejfbmandaaDoorW.PrintMore
set_option linter.unusedVariables false
set_option linter.unusedSimpArgs false
mutual
def rlist : Nat → List S140 → Int → Int → Int → Bool → Int → List S78 → Option (List S78 × Int × Int × Int × Int)
  | 0, _, _, _, _, _, _, _ => none
  | k + 1, l, i, n, op, ie, dp, out =>
    if i < (l.length : Int) then
      if 0 ≤ i ∧ out.length < 100000 then
        if (rd_T140 l i).f0 = 7 then (if op = 2 then (if ie = true then some ([], (rd_T140 l i).f1, 13, i, n) else some (out, 0, 0, i, n)) else some ([], (rd_T140 l i).f1, 13, i, n))
        else if (rd_T140 l i).f0 = 8 then (if op < 0 then some ([], (rd_T140 l i).f1, 13, i, n) else some (out, 0, 0, i, n))
        else (rnode k l i n dp).bind fun r => if r.2.2.1 = 0 then rlist k l r.2.2.2.1 r.2.2.2.2 op ie dp (out ++ [r.1]) else some ([], r.2.1, r.2.2.1, r.2.2.2.1, r.2.2.2.2)
      else none
    else some (out, 0, 0, i, n)
def rnode : Nat → List S140 → Int → Int → Int → Option (S78 × Int × Int × Int × Int)
  | 0, _, _, _, _ => none
  | k + 1, l, i, n, dp =>
    if 0 ≤ i ∧ i < (l.length : Int) ∧ i ≤ 100000 ∧ 0 ≤ n ∧ 0 ≤ dp then
      let t := rd_T140 l i
      if t.f0 = 6 ∧ dp > 0 then some (z78, t.f1, 13, i, n)
      else if (t.f0 = 2 ∨ t.f0 = 3 ∨ t.f0 = 6) ∧ dp ≥ 32 then some (z78, t.f1, 13, i, n)
      else if n ≥ 4096 then some (z78, t.f1, 14, i, n)
      else if t.f0 = 2 ∨ t.f0 = 3 ∨ t.f0 = 6 then
        (rlist k l (i + 1) (n + 1) t.f0 false (dp + 1) []).bind fun r =>
          if r.2.2.1 = 0 then
            if r.2.2.2.1 < (l.length : Int) then
              if 0 ≤ r.2.2.2.1 ∧ r.2.2.2.1 ≤ 100000 then
                if (rd_T140 l r.2.2.2.1).f0 = 7 then
                  (rlist k l (r.2.2.2.1 + 1) r.2.2.2.2 t.f0 true (dp + 1) []).bind fun q =>
                    if q.2.2.1 = 0 then
                      if q.2.2.2.1 ≥ (l.length : Int) then some (z78, t.f1, 7, q.2.2.2.1, q.2.2.2.2)
                      else if 0 ≤ q.2.2.2.1 ∧ q.2.2.2.1 ≤ 100000 then some (⟨t.f0, t.f1, t.f2, t.f3, t.f4, true, r.1, q.1⟩, 0, 0, q.2.2.2.1 + 1, q.2.2.2.2) else none
                    else some (z78, q.2.1, q.2.2.1, q.2.2.2.1, q.2.2.2.2)
                else some (⟨t.f0, t.f1, t.f2, t.f3, t.f4, false, r.1, []⟩, 0, 0, r.2.2.2.1 + 1, r.2.2.2.2)
              else none
            else some (z78, t.f1, 7, r.2.2.2.1, r.2.2.2.2)
          else some (z78, r.2.1, r.2.2.1, r.2.2.2.1, r.2.2.2.2)
      else some (⟨t.f0, t.f1, t.f2, t.f3, t.f4, false, [], []⟩, 0, 0, i + 1, n + 1)
    else none
end
def stC (A : Option Addr) (c : Nat) (l : List S140) (i n : Int) : Array Value := #[.slice A l.length c, .int .i64 i, .int .i64 n]
abbrev rlist.Con (k : Nat) : Prop := ∀ (g : Nat) (A : Option Addr) (c : Nat) (l : List S140) (i n op : Int) (ie : Bool) (dp : Int) (r1 : List S78) (r2 r3 i' n' : Int) (w0 w : World)
  (hS : Stp w0 w g 98 (stC A c l i n) w) (hr : Kd.C k140 w0 A l.length l) (hc : l.length ≤ c)
  (h : rlist k l i n op ie dp [] = some (r1, r2, r3, i', n')),
  Calls Tryd.prog 43 #[.pointer (some ⟨g, 0, none⟩), .int .i64 op, .bool ie, .int .i64 dp] w fun e w' => ∃ v : Value, e = .returned (.tuple #[v, .int .i64 r2, .int .i64 r3]) ∧ Kd.R k78 78 w' w.heap.size (fun _ => True) v r1 ∧ Stp w0 w g 98 (stC A c l i' n') w'
abbrev rnode.Con (k : Nat) : Prop := ∀ (g : Nat) (A : Option Addr) (c : Nat) (l : List S140) (i n dp : Int) (x : S78) (r2 r3 i' n' : Int) (w0 w : World)
  (hS : Stp w0 w g 98 (stC A c l i n) w) (hr : Kd.C k140 w0 A l.length l) (hc : l.length ≤ c)
  (h : rnode k l i n dp = some (x, r2, r3, i', n')),
  Calls Tryd.prog 68 #[.pointer (some ⟨g, 0, none⟩), .int .i64 dp] w fun e w' => ∃ v6 v7 : Value, e = .returned (.tuple #[.agg #[.int .i64 x.f0, .int .i64 x.f1, .string x.f2, .string x.f3, .bool x.f4, .bool x.f5, v6, v7], .int .i64 r2, .int .i64 r3]) ∧ Kd.R k78 78 w' w.heap.size (fun _ => True) v6 x.f6 ∧ Kd.R k78 78 w' w.heap.size (fun _ => True) v7 x.f7 ∧ Stp w0 w g 98 (stC A c l i' n') w'
theorem info78r : (Tryd.prog.info? 78).map (fun i => (i.zero, i.size, i.bytes)) = some (some (.agg #[.int .i64 0, .int .i64 0, .string ⟨#[]⟩, .string ⟨#[]⟩, .bool false, .bool false, .slice none 0 0, .slice none 0 0]), 8, 104) := by kernel_rfl
def RlRel (l : List S140) (g : Nat) (A : Option Addr) (c : Nat) (op : Int) (ie : Bool) (dp : Int) (R : List S78 × Int × Int × Int × Int) (w0 w : World) (kq : Nat) (v : Value) (wr : World) : Prop :=
  ∃ (out : List S78) (i n : Int), rlist kq l i n op ie dp out = some R ∧ Kd.R k78 78 wr w.heap.size (fun _ => True) v out ∧ Stp w0 w g 98 (stC A c l i n) wr
set_option maxHeartbeats 1000000 in
set_option maxRecDepth 100000 in
theorem rlist.step (k : Nat) (ihn : ∀ m, m < k → rnode.Con m) : rlist.Con k := by
  intro g A c l i n op ie dp r1 r2 r3 i' n' w0 w hS hr hc h
  have hgw : g < w.heap.size := hS.lt
  have HN := Aside0.mk ihn; clear ihn
  have HR := Aside0.mk hr; clear hr
  have H0 : RlRel l g A c op ie dp (r1, r2, r3, i', n') w0 w k (.slice none 0 0) w := ⟨[], i, n, h, Kd.R_nil _ _ _ _ _, hS⟩
  clear hS h
  go_enter Tryd.func43, Tryd.ntmps43
  go_wp2
  go_loopg [11] k (fun kq v wr => kq ≤ k ∧ RlRel l g A c op ie dp (r1, r2, r3, i', n') w0 w kq v wr)
  case atStart => exact ⟨Nat.le_refl _, H0⟩
  case round =>
    clear H0 i n
    obtain ⟨hk, out, i, n, H, HO, HS⟩ := hrel
    cases gk with
    | zero => exact absurd H (by simp [rlist])
    | succ k1 =>
      have hb0 : wr.cell? ⟨g, 0, none⟩ = some (.slice A l.length c) := (HS.cell 0).trans rfl
      have hb1 : wr.cell? ⟨g, 1, none⟩ = some (.int .i64 i) := (HS.cell 1).trans rfl
      replace HS := Aside0.mk HS
      replace HO := Aside0.mk HO
      simp only [rlist] at H
      by_cases hlt : i < (l.length : Int)
      · rw [if_pos hlt] at H
        by_cases h0 : 0 ≤ i ∧ out.length < 100000
        · rw [if_pos h0] at H
          replace H := Aside0.mk H
          obtain ⟨h00, hol⟩ := h0
          obtain ⟨ad, rfl, x0, x1, x2, x3, x4⟩ := at_T140 HR.out i h00 hlt
          replace x0 := HS.out.old x0
          replace x1 := HS.out.old x1
          replace x2 := HS.out.old x2
          replace x3 := HS.out.old x3
          replace x4 := HS.out.old x4
          go_wp2
          go_quiet (fail)
          rename_i nq
          replace hb0 : (wr.drewN nq).cell? _ = _ := hb0
          replace hb1 : (wr.drewN nq).cell? _ = _ := hb1
          replace x0 : (wr.drewN nq).cell? _ = _ := x0
          replace x1 : (wr.drewN nq).cell? _ = _ := x1
          replace x2 : (wr.drewN nq).cell? _ = _ := x2
          replace x3 : (wr.drewN nq).cell? _ = _ := x3
          replace x4 : (wr.drewN nq).cell? _ = _ := x4
          replace HO := Aside0.mk (Kd.R_drewN HO.out nq)
          replace HS := Aside0.mk (HS.out.drewN nq)
          generalize wr.drewN nq = w1 at *
          have hgs : g < w1.heap.size := HS.out.lt
          have hads := World.block_lt_of_cell? _ _ x1
          go_wp2
          go_region
          clear x0 x1 x2 x3 x4 hb0 hb1
          by_cases h7 : (rd_T140 l i).f0 = 7
          · rw [if_pos h7] at H
            have h7' : ((rd_T140 l i).f0 == 7) = true := beq_iff_eq.mpr h7
            have HS1 := Aside0.mk ((HS.out.alloc (.cells #[.int .i64 (rd_T140 l i).f0, .int .i64 (rd_T140 l i).f1, .string (rd_T140 l i).f2, .string (rd_T140 l i).f3, .bool (rd_T140 l i).f4] 140)).drew)
            have HO1 := Aside0.mk (Kd.R_drew (Kd.R_alloc HO.out (.cells #[.int .i64 (rd_T140 l i).f0, .int .i64 (rd_T140 l i).f1, .string (rd_T140 l i).f2, .string (rd_T140 l i).f3, .bool (rd_T140 l i).f4] 140)))
            clear HS HO h7
            by_cases hop : op = 2
            · rw [if_pos hop] at H
              have hop' : (op != 2) = false := by simp [hop]
              clear hop
              cases ie with
              | true =>
                have H2 := H.out; clear H
                simp only [if_true, Option.some.injEq, Prod.mk.injEq] at H2
                obtain ⟨rfl, rfl, rfl, rfl, rfl⟩ := H2
                go_wp2
                go_quiet (fail)
                rename_i nq
                go_wp2
                go_ret3
                exact ⟨_, rfl, Kd.R_nil _ _ _ _ _, HS1.out.drewN nq⟩
              | false =>
                have H2 := H.out; clear H
                simp only [Bool.false_eq_true, if_false, Option.some.injEq, Prod.mk.injEq] at H2
                obtain ⟨rfl, rfl, rfl, rfl, rfl⟩ := H2
                go_wp2
                go_ret3
                exact ⟨_, rfl, HO1.out, HS1.out⟩
            · rw [if_neg hop] at H
              have hop' : (op != 2) = true := by simp [hop]
              clear hop
              have H2 := H.out; clear H
              simp only [Option.some.injEq, Prod.mk.injEq] at H2
              obtain ⟨rfl, rfl, rfl, rfl, rfl⟩ := H2
              go_wp2
              go_quiet (fail)
              rename_i nq
              go_wp2
              go_ret3
              exact ⟨_, rfl, Kd.R_nil _ _ _ _ _, HS1.out.drewN nq⟩
          · rw [if_neg h7] at H
            by_cases h8 : (rd_T140 l i).f0 = 8
            · rw [if_pos h8] at H
              have h7' : ((rd_T140 l i).f0 == 7) = false := beq_eq_false_iff_ne.mpr h7
              have h8' : ((rd_T140 l i).f0 == 8) = true := beq_iff_eq.mpr h8
              have HS1 := Aside0.mk ((HS.out.alloc (.cells #[.int .i64 (rd_T140 l i).f0, .int .i64 (rd_T140 l i).f1, .string (rd_T140 l i).f2, .string (rd_T140 l i).f3, .bool (rd_T140 l i).f4] 140)).drew)
              have HO1 := Aside0.mk (Kd.R_drew (Kd.R_alloc HO.out (.cells #[.int .i64 (rd_T140 l i).f0, .int .i64 (rd_T140 l i).f1, .string (rd_T140 l i).f2, .string (rd_T140 l i).f3, .bool (rd_T140 l i).f4] 140)))
              clear HS HO h7 h8
              by_cases hop : op < 0
              · rw [if_pos hop] at H
                have H2 := H.out; clear H
                simp only [Option.some.injEq, Prod.mk.injEq] at H2
                obtain ⟨rfl, rfl, rfl, rfl, rfl⟩ := H2
                go_wp2
                go_quiet (fail)
                rename_i nq
                go_wp2
                go_ret3
                exact ⟨_, rfl, Kd.R_nil _ _ _ _ _, HS1.out.drewN nq⟩
              · rw [if_neg hop] at H
                have H2 := H.out; clear H
                simp only [Option.some.injEq, Prod.mk.injEq] at H2
                obtain ⟨rfl, rfl, rfl, rfl, rfl⟩ := H2
                go_wp2
                go_ret3
                exact ⟨_, rfl, HO1.out, HS1.out⟩
            · rw [if_neg h8] at H
              obtain ⟨⟨x, q2, q3, i1, n1⟩, hn, H⟩ := Option.bind_eq_some_iff.1 H.out
              have HN1 := Aside0.mk (HN.out k1 (by omega) g _ c l i n dp x q2 q3 i1 n1 w0 _ ((HS.out.alloc (.cells #[.int .i64 (rd_T140 l i).f0, .int .i64 (rd_T140 l i).f1, .string (rd_T140 l i).f2, .string (rd_T140 l i).f3, .bool (rd_T140 l i).f4] 140)).drew.again) HR.out hc hn)
              have HS1 := Aside0.mk ((HS.out.alloc (.cells #[.int .i64 (rd_T140 l i).f0, .int .i64 (rd_T140 l i).f1, .string (rd_T140 l i).f2, .string (rd_T140 l i).f3, .bool (rd_T140 l i).f4] 140)).drew)
              have HO1 := Aside0.mk (Kd.R_drew (Kd.R_alloc HO.out (.cells #[.int .i64 (rd_T140 l i).f0, .int .i64 (rd_T140 l i).f1, .string (rd_T140 l i).f2, .string (rd_T140 l i).f3, .bool (rd_T140 l i).f4] 140)))
              clear HS HO hn
              have h7' : ((rd_T140 l i).f0 == 7) = false := beq_eq_false_iff_ne.mpr h7
              have h8' : ((rd_T140 l i).f0 == 8) = false := beq_eq_false_iff_ne.mpr h8
              clear h7 h8
              go_wp2_with fail
              refine HN1.out.mono ?_
              rintro e w2 ⟨v6, v7, rfl, R6, R7, S2⟩
              clear HN1
              obtain ⟨A6, c6, rfl⟩ := Kd.R_slice R6
              obtain ⟨A7, c7, rfl⟩ := Kd.R_slice R7
              have HO2 := Aside0.mk (R_keepBut HO1.out S2.keep hgw)
              have HS2 := Aside0.mk (HS1.out.call S2)
              have HM := Aside0.mk (And.intro (R_apart R6 HO1.out HS1.out.size) (R_apart R7 HO1.out HS1.out.size))
              clear R6 R7 S2 HO1 HS1
              by_cases h3 : q3 = 0
              · rw [if_pos h3] at H
                have h3' : (q3 != 0) = false := by simp [h3]
                replace H := Aside0.mk H
                clear h3
                go_wp2_with (at_builtin; refine Kd.R_append k78 w.heap.size rfl _ _ 23 78 _ 104 rfl Tryd.underlying23 info78r rfl (by decide) (by decide) u11 out x [.int .i64 x.f0, .int .i64 x.f1, .string x.f2, .string x.f3, .bool x.f4, .bool x.f5, .slice A6 x.f6.length c6, .slice A7 x.f7.length c7] (fun _ => True) (fun k => some k ≠ u11.ownBlock) rfl (by rw [World.size_alloc]; rfl) (k78_mkM _ _ _ x (Kd.R_alloc HM.out.1 _) (Kd.R_alloc HM.out.2 _)) (fun k hk => ⟨trivial, hk⟩) (fun _ _ => trivial) (Kd.R_alloc HO2.out _) (Below.refl _ _) (Nat.le_trans HS2.out.size (by simp)) (by omega) ?_; intro v1 w3 HO3 _ hg3 _; have HS3 := Aside0.mk ((HS2.out.alloc _).grown hg3 (Kd.R_base HO2.out) hgw); clear HS2 HM hg3; obtain ⟨A1, c1, rfl⟩ := Kd.R_slice HO3; replace HO3 := Aside0.mk HO3)
                go_roundg k1
                case measure => omega
                case rel => exact ⟨by omega, out ++ [x], i1, n1, H.out, (by have h5 := HO3.out; rwa [List.length_append, List.length_singleton] at h5), HS3.out⟩
              · rw [if_neg h3] at H
                have h3' : (q3 != 0) = true := by simp [h3]
                clear h3
                simp only [Option.some.injEq, Prod.mk.injEq] at H
                obtain ⟨rfl, rfl, rfl, rfl, rfl⟩ := H
                go_wp2
                go_ret3
                exact ⟨_, rfl, Kd.R_nil _ _ _ _ _, HS2.out.alloc _⟩
        · rw [if_neg h0] at H; cases H
      · rw [if_neg hlt] at H
        simp only [Option.some.injEq, Prod.mk.injEq] at H
        obtain ⟨rfl, rfl, rfl, rfl, rfl⟩ := H
        go_wp2
        go_quiet (fail)
        rename_i nq
        go_wp2
        go_ret3
        exact ⟨_, rfl, Kd.R_drewN HO.out nq, HS.out.drewN nq⟩
end Go.Proofs.YtkpnfejfbmandaaDoor.Px

/- Contract of the reference parser's node: written by hand. -/
namespace Go.Proofs.YtkpnfejfbmandaaDoor.Px
open Go.RowKit Go.Proofs.YtkpnfejfbmandaaDoorW.PrintWords Go.Proofs.YtkpnfejfbmandaaDoorW.PrintLast Go.Proofs.YtkpnfejfbmandaaDoorW.PrintMore
set_option linter.unusedVariables false
set_option linter.unusedSimpArgs false
@[irreducible] def blkB (a : Int) : Bool := a == 2 || a == 3 || a == 6
theorem blkB_iff (a : Int) : blkB a = true ↔ (a = 2 ∨ a = 3 ∨ a = 6) := by unfold blkB; simp [or_assoc]
end Go.Proofs.YtkpnfejfbmandaaDoor.Px

/- Merged texts: Rl Pa Ls Lb Ld Le. -/
/- Contract of the reference's Lex: written by hand over the printed contracts of find, words and form. -/
namespace Go.Proofs.YtkpnfejfbmandaaDoor.Px
open Go.RowKit Go.Proofs.YtkpnfejfbmandaaDoorW.PrintWords Go.Proofs.YtkpnfejfbmandaaDoorW.PrintLast Go.Proofs.YtkpnfejfbmandaaDoorW.PrintMore
set_option linter.unusedVariables false
set_option linter.unusedSimpArgs false
end Go.Proofs.YtkpnfejfbmandaaDoor.Px
/- Plain laws: the reference's lexer ends, and what its tokens look like. -/
namespace Go.Proofs.YtkpnfejfbmandaaDoor.Px
open Go.RowKit Go.Proofs.YtkpnfejfbmandaaDoorW.PrintWords Go.Proofs.YtkpnfejfbmandaaDoorW.PrintLast Go.Proofs.YtkpnfejfbmandaaDoorW.PrintMore
set_option linter.unusedVariables false
set_option linter.unusedSimpArgs false
theorem w64 {n : Int} (h0 : 0 ≤ n) (h1 : n ≤ 4611686018427387904) : wrap64 n = n := by unfold wrap64; omega
/-- What the token holds so far. -/
structure OkS (n : Nat) (kd : Int) (s p : ByteArray) (hp : Bool) : Prop where
  hi : kd ≤ 8
  ne : kd ≠ 0
  s0 : kd ≥ 0 → (s.size = 0 ↔ ¬ (kd = 4 ∨ kd = 6))
  sn : s.size ≤ n
  p0 : p.size = 0
  hp0 : hp = false
/-- A token as the lexer makes it of a source of n bytes. -/
structure okT (n : Nat) (t : S140) : Prop where
  k0 : 0 ≤ t.f0
  k8 : t.f0 ≤ 8
  s0 : t.f0 ≠ 0 → (t.f2.size = 0 ↔ ¬ (t.f0 = 4 ∨ t.f0 = 6))
  sn : t.f2.size ≤ n
  pn : t.f3.size ≤ n
  h0 : t.f0 = 0 → t.f4 = false
end Go.Proofs.YtkpnfejfbmandaaDoor.Px
/- strings.Split at periods, over lists. -/
namespace Go.Proofs.YtkpnfejfbmandaaDoor.Px
open Go.RowKit Go.Proofs.YtkpnfejfbmandaaDoorW.PrintWords Go.Proofs.YtkpnfejfbmandaaDoorW.PrintLast Go.Proofs.YtkpnfejfbmandaaDoorW.PrintMore
set_option linter.unusedVariables false
set_option linter.unusedSimpArgs false
def dotG : List UInt8 → List UInt8 → List (List UInt8)
  | [], cur => [cur]
  | b :: r, cur => if b = 46 then cur :: dotG r [] else dotG r (cur ++ [b])
theorem pre1 (c a : UInt8) (s : List UInt8) : List.isPrefixOf [c] (a :: s) = true ↔ a = c := by
  simp only [List.isPrefixOf, Bool.and_true, beq_iff_eq]
  exact ⟨fun h => h.symm, fun h => h.symm⟩
theorem idx1 : ∀ (s : List UInt8), (Lib.index s [46] = -1 ∧ (46 : UInt8) ∉ s) ∨ ∃ t r, s = t ++ 46 :: r ∧ (46 : UInt8) ∉ t ∧ Lib.index s [46] = t.length
  | [] => .inl ⟨rfl, by simp⟩
  | a :: s => by
    by_cases ha : a = 46
    · subst ha
      exact .inr ⟨[], s, rfl, by simp, by unfold Lib.index; rw [if_pos ((pre1 _ _ _).2 rfl)]; rfl⟩
    · have hp : ¬ List.isPrefixOf [(46 : UInt8)] (a :: s) = true := fun e => ha ((pre1 _ _ _).1 e)
      rcases idx1 s with ⟨h1, h2⟩ | ⟨t, r, h1, h2, h3⟩
      · refine .inl ⟨by unfold Lib.index; rw [if_neg hp, h1]; rfl, ?_⟩
        intro e
        rcases List.mem_cons.1 e with e | e
        · exact ha e.symm
        · exact h2 e
      · refine .inr ⟨a :: t, r, by rw [h1]; rfl, ?_, ?_⟩
        · intro e
          rcases List.mem_cons.1 e with e | e
          · exact ha e.symm
          · exact h2 e
        · unfold Lib.index
          rw [if_neg hp, h3]
          have : ((t.length : Int) == -1) = false := by rw [beq_eq_false_iff_ne]; omega
          rw [this]; simp
theorem dotG_none : ∀ (t cur : List UInt8), (46 : UInt8) ∉ t → dotG t cur = [cur ++ t]
  | [], cur, _ => by simp [dotG]
  | b :: t, cur, h => by
    have hb : ¬ b = 46 := fun e => h (by rw [e]; simp)
    rw [dotG, if_neg hb, dotG_none t _ (fun e => h (by simp [e]))]; simp
theorem dotG_hit : ∀ (t r cur : List UInt8), (46 : UInt8) ∉ t → dotG (t ++ 46 :: r) cur = (cur ++ t) :: dotG r []
  | [], r, cur, _ => by simp [dotG]
  | b :: t, r, cur, h => by
    have hb : ¬ b = 46 := fun e => h (by rw [e]; simp)
    show dotG (b :: (t ++ 46 :: r)) cur = _
    rw [dotG, if_neg hb, dotG_hit t r _ (fun e => h (by simp [e]))]; simp
theorem split_dot : ∀ (n : Nat) (s : List UInt8), s.length ≤ n → Lib.split s [46] = dotG s [] := by
  intro n
  induction n with
  | zero =>
    intro s h
    have : s = [] := List.eq_nil_of_length_eq_zero (by omega)
    subst this; rfl
  | succ n ih =>
    intro s h
    unfold Lib.split
    rcases idx1 s with ⟨h1, h2⟩ | ⟨t, r, h1, h2, h3⟩
    · rw [Lib.count_miss h1, dotG_none _ _ h2]; rfl
    · have ih := ih r (by rw [h1] at h; simp at h; omega)
      unfold Lib.split at ih
      rw [Lib.count_hit (by simp) h3]
      have hd : s.drop (t.length + [(46 : UInt8)].length) = r := by rw [h1, ← List.drop_drop, List.drop_left]; rfl
      have hm : ¬ (Lib.index s [46] == -1) = true := by rw [h3, beq_iff_eq]; omega
      rw [hd, Nat.add_comm 1, Lib.splitK, if_neg hm, h3, Int.toNat_natCast, hd, ih]
      rw [show s.take (t.length + 0) = t by rw [h1, Nat.add_zero, List.take_left]]
      conv => rhs; rw [h1]
      rw [dotG_hit _ _ _ h2]; rfl
end Go.Proofs.YtkpnfejfbmandaaDoor.Px
/- The reference's names, paths, words and forms are those of La. -/
namespace Go.Proofs.YtkpnfejfbmandaaDoor.Px
open Go.RowKit Go.Proofs.YtkpnfejfbmandaaDoorW.PrintWords Go.Proofs.YtkpnfejfbmandaaDoorW.PrintLast Go.Proofs.YtkpnfejfbmandaaDoorW.PrintMore
set_option linter.unusedVariables false
set_option linter.unusedSimpArgs false
end Go.Proofs.YtkpnfejfbmandaaDoor.Px
/- The reference's form tells what dirF tells; the reference's Lex what lexF tells. -/
namespace Go.Proofs.YtkpnfejfbmandaaDoor.Px
open Go.RowKit Go.Proofs.YtkpnfejfbmandaaDoorW.PrintWords Go.Proofs.YtkpnfejfbmandaaDoorW.PrintLast Go.Proofs.YtkpnfejfbmandaaDoorW.PrintMore
set_option linter.unusedVariables false
set_option linter.unusedSimpArgs false
end Go.Proofs.YtkpnfejfbmandaaDoor.Px
/- The reference's Lex tells what lexS tells. -/
namespace Go.Proofs.YtkpnfejfbmandaaDoor.Px
open Go.RowKit Go.Proofs.YtkpnfejfbmandaaDoorW.PrintWords Go.Proofs.YtkpnfejfbmandaaDoorW.PrintLast Go.Proofs.YtkpnfejfbmandaaDoorW.PrintMore
set_option linter.unusedVariables false
set_option linter.unusedSimpArgs false
def pre (l0 : List T5) : Except (Nat × Int) (List T5) → Except (Nat × Int) (List T5)
  | .ok l => .ok (l0 ++ l)
  | .error e => .error e
def tokR (x : T5) : S140 := ⟨x.2.1, x.1, ⟨x.2.2.1.toArray⟩, ⟨x.2.2.2.1.toArray⟩, x.2.2.2.2⟩
end Go.Proofs.YtkpnfejfbmandaaDoor.Px

namespace Go.Proofs.YtkpnfejfbmandaaDoor.Px
open Go.RowKit Go.Proofs.YtkpnfejfbmandaaDoorW.PrintWords Go.Proofs.YtkpnfejfbmandaaDoorW.PrintLast Go.Proofs.YtkpnfejfbmandaaDoorW.PrintMore
attribute [local go_sem] max2_int min2_int max_two min_two max_three min_three max_four min_four   -- for this text's walks alone
set_option linter.unusedVariables false
set_option linter.unusedSimpArgs false
theorem eqA28 (d : Nat) (w : World) (x0 y0 : Int) (x1 y1 : Int) (x2 y2 : ByteArray) (x3 y3 : ByteArray) (x4 y4 : Bool) :
    (Op.equalIn (d + 2) 76 (.agg #[.int .i64 x0, .int .i64 x1, .string x2, .string x3, .bool x4]) (.agg #[.int .i64 y0, .int .i64 y1, .string y2, .string y3, .bool y4])).run Tryd.prog w = .ok (x0 == y0 && (x1 == y1 && (x2.toList == y2.toList && (x3.toList == y3.toList && (x4 == y4))))) w := by
  refine eqA_of Tryd.underlying76 (by kernel_rfl) ?_
  refine eqf_cons (by rfl) (by go_simp; rfl) (by go_simp; rfl) (by go_simp) ?_
  refine eqf_cons (by rfl) (by go_simp; rfl) (by go_simp; rfl) (by go_simp) ?_
  refine eqf_cons (by rfl) (by go_simp; rfl) (by go_simp; rfl) (by go_simp) ?_
  refine eqf_cons (by rfl) (by go_simp; rfl) (by go_simp; rfl) (by go_simp) ?_
  exact eqf_last (by rfl) (by go_simp; rfl) (by go_simp; rfl) (by go_simp)
end Go.Proofs.YtkpnfejfbmandaaDoor.Px
