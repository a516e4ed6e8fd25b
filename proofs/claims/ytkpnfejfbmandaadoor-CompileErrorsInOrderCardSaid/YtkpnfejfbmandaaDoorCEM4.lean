import Derived.Test.YtkpnfejfbmandaaDoorCEM2
import Derived.WalkSmall
import Derived.RegionDies
import Derived.StillTailTactics
import Derived.Defers
import Derived.Recover
import Derived.Test.YtkpnfejfbmandaaDoorCEM1
/- parse.Parse: what it computes; parse.must, parse.opens; slices of tokens. -/
namespace Go.Proofs.YtkpnfejfbmandaaDoor.Px
open Go.RowKit Go.Proofs.YtkpnfejfbmandaaDoorW.PrintWords Go.Proofs.YtkpnfejfbmandaaDoorW.PrintLast Go.Proofs.YtkpnfejfbmandaaDoorW.PrintMore
set_option linter.unusedVariables false
set_option linter.unusedSimpArgs false
/-- An answer of the parser: what was parsed, the tokens that are left, the number of nodes; or an offset and an error. -/
abbrev PA (α : Type) := Except (Int × Int) (α × List S76 × Int)
def endB (t : S76) (h : Bool) (body els : List S78) : List S76 → Int → PA S78
  | [], _ => .error (t.f1, 7)
  | t3 :: r4, n => if t3.f0 = 8 then .ok (⟨t.f0, t.f1, t.f2, t.f3, t.f4, h, body, els⟩, r4, n) else .error (t3.f1, 13)
def opK (k : Int) : Prop := k = 2 ∨ k = 3 ∨ k = 6
instance (k : Int) : Decidable (opK k) := by unfold opK; infer_instance
mutual
def plist : Nat → List S76 → Int → Int → List S78 → Option (PA (List S78))
  | 0, _, _, _, _ => none
  | k + 1, [], n, d, out => some (.ok (out, [], n))
  | k + 1, t :: r, n, d, out =>
    if out.length < 100000 then
      if t.f0 = 7 ∨ t.f0 = 8 then some (.ok (out, t :: r, n))
      else match pnode k t r n d with
        | none => none
        | some (.error e) => some (.error e)
        | some (.ok (x, r', n')) => plist k r' n' d (out ++ [x])
    else none
def pnode : Nat → S76 → List S76 → Int → Int → Option (PA S78)
  | 0, _, _, _, _ => none
  | k + 1, t, r, n, d =>
    if 0 ≤ n ∧ 0 ≤ d then
      if t.f0 = 6 ∧ d > 0 then some (.error (t.f1, 13))
      else if opK t.f0 ∧ d ≥ 32 then some (.error (t.f1, 13))
      else if n ≥ 4096 then some (.error (t.f1, 14))
      else if opK t.f0 then
        match plist k r (n + 1) (d + 1) [] with
        | none => none
        | some (.error e) => some (.error e)
        | some (.ok (body, [], n1)) => some (.error (t.f1, 7))
        | some (.ok (body, t1 :: r2, n1)) =>
          if t1.f0 = 7 then
            if t.f0 = 2 then
              match plist k r2 n1 (d + 1) [] with
              | none => none
              | some (.error e) => some (.error e)
              | some (.ok (els, r3, n3)) => some (endB t true body els r3 n3)
            else some (.error (t1.f1, 13))
          else some (endB t false body [] (t1 :: r2) n1)
      else some (.ok (⟨t.f0, t.f1, t.f2, t.f3, t.f4, false, [], []⟩, r, n + 1))
    else none
end
/-- The rest of a block. -/
def pblk (k : Nat) (t : S76) (r : List S76) (n d : Int) : Option (PA S78) :=
  match plist k r n (d + 1) [] with
  | none => none
  | some (.error e) => some (.error e)
  | some (.ok (body, [], n1)) => some (.error (t.f1, 7))
  | some (.ok (body, t1 :: r2, n1)) =>
    if t1.f0 = 7 then
      if t.f0 = 2 then
        match plist k r2 n1 (d + 1) [] with
        | none => none
        | some (.error e) => some (.error e)
        | some (.ok (els, r3, n3)) => some (endB t true body els r3 n3)
      else some (.error (t1.f1, 13))
    else some (endB t false body [] (t1 :: r2) n1)
theorem pnode_eq (k : Nat) (t : S76) (r : List S76) (n d : Int) : pnode (k + 1) t r n d =
    if 0 ≤ n ∧ 0 ≤ d then
      if t.f0 = 6 ∧ d > 0 then some (.error (t.f1, 13))
      else if opK t.f0 ∧ d ≥ 32 then some (.error (t.f1, 13))
      else if n ≥ 4096 then some (.error (t.f1, 14))
      else if opK t.f0 then pblk k t r (n + 1) d
      else some (.ok (⟨t.f0, t.f1, t.f2, t.f3, t.f4, false, [], []⟩, r, n + 1))
    else none := by
  rw [pnode]; rfl
@[irreducible] def opB (a : Int) : Bool := a == 2 || a == 3 || a == 6
theorem opB_iff (a : Int) : opB a = true ↔ opK a := by unfold opB opK; simp [or_assoc]
theorem opens_any (a : Int) (w : World) : Calls Tryd.prog 78 #[.int .i64 a] w fun e w' => e = .returned (.bool (opB a)) ∧ w = w' := by
  unfold opB
  by_cases h2 : (a == 2) = true
  · go_enter Tryd.func78, Tryd.ntmps78
    go_wp2
    go_ret
    exact ⟨by simp [h2], rfl⟩
  · have h2' : (a == 2) = false := by simpa using h2
    by_cases h3 : (a == 3) = true
    · go_enter Tryd.func78, Tryd.ntmps78
      go_wp2
      go_ret
      exact ⟨by simp [h2, h3], rfl⟩
    · have h3' : (a == 3) = false := by simpa using h3
      go_enter Tryd.func78, Tryd.ntmps78
      go_wp2
      go_ret
      exact ⟨by simp [h2', h3'], rfl⟩
/-- The panic of a syntax error. -/
abbrev boom (at_ e : Int) : Ending := .panicked [{ v := .iface 68 (.agg #[.int .i64 at_, .int .i64 e]), recovered := false }]
theorem must_ok (at_ er : Int) (w : World) : Calls Tryd.prog 33 #[.bool true, .int .i64 at_, .int .i64 er] w fun e w' => e = .returned (.tuple #[]) ∧ w = w' := by
  go_enter Tryd.func33, Tryd.ntmps33
  go_wp2
  go_end0
  exact ⟨rfl, rfl⟩
theorem must_no (at_ er : Int) (w : World) : Calls Tryd.prog 33 #[.bool false, .int .i64 at_, .int .i64 er] w fun e w' => e = boom at_ er ∧ w = w' := by
  go_enter Tryd.func33, Tryd.ntmps33
  go_wp2
  exact ⟨rfl, rfl, rfl⟩
set_option maxRecDepth 100000 in
theorem info76d : ∃ i, Tryd.prog.info? 76 = some i ∧ i.size = 5 := ⟨_, rfl, rfl⟩
def cutT (A : Option Addr) (c : Nat) : Option Addr := if c = 1 then A else A.map (·.add 5)
theorem cutT_C {w : World} {A : Option Addr} {c : Nat} {x : S76} {l : List S76} (h : Kd.C k76 w A (x :: l).length (x :: l)) (hc : (x :: l).length ≤ c) : Kd.C k76 w (cutT A c) l.length l :=
  Kd.C_drop (m := 1) h (by rw [List.length_cons]; omega) hc
theorem cutT1 (A : Option Addr) (n c : Nat) (h : 1 ≤ n) : ∀ W : World, (Instr.slice 64 (.slice A n c) (some (.int .i64 1)) none none).run Tryd.prog W = .ok (.slice (cutT A c) (n - 1) (c - 1)) W := by
  obtain ⟨i, hi, hsz⟩ := info76d
  exact cut_from 64 76 .i64 Tryd.underlying64 hi 5 hsz A n c 1 (by decide) (by omega)
theorem head_T28 {w : World} {A : Option Addr} {t : S76} {r : List S76} (h : Kd.C k76 w A (t :: r).length (t :: r)) : ∃ b o s, A = some ⟨b, o, s⟩ ∧ w.cell? ⟨b, o, s⟩ = some (.int .i64 t.f0) ∧ w.cell? ⟨b, o + 1, none⟩ = some (.int .i64 t.f1) ∧ w.cell? ⟨b, o + 2, none⟩ = some (.string t.f2) ∧ w.cell? ⟨b, o + 3, none⟩ = some (.string t.f3) ∧ w.cell? ⟨b, o + 4, none⟩ = some (.bool t.f4) := by
  obtain ⟨ad, e, x0, x1, x2, x3, x4⟩ := at_T76 h 0 (Int.le_refl _) (by rw [List.length_cons]; omega)
  obtain ⟨b, o, s⟩ := ad
  have e0 : rd_T76 (t :: r) 0 = t := rfl
  rw [e0] at x0 x1 x2 x3 x4
  simp only [Addr.add, Int.toNat_zero, Nat.zero_mul, if_true, Nat.add_zero] at x0 x1 x2 x3 x4
  exact ⟨b, o, s, e, x0, x1, x2, x3, x4⟩
def stP (A : Option Addr) (c : Nat) (l : List S76) (n d : Int) : Array Value := #[.slice A l.length c, .int .i64 n, .int .i64 d]
/-- The parser g in a world W: the tokens that are left, the number of nodes, the depth. -/
def PSt (w0 w : World) (g : Nat) (l : List S76) (n d : Int) (W : World) : Prop := ∃ A c, Stp w0 w g 72 (stP A c l n d) W ∧ Kd.C k76 w0 A l.length l ∧ l.length ≤ c
def PPost {α : Type} (w0 w : World) (g : Nat) (d : Int) (Q : Ending → α → World → Prop) : PA α → Ending → World → Prop
  | .ok (x, l', n'), e, w' => Q e x w' ∧ PSt w0 w g l' n' d w'
  | .error (at_, er), e, w' => e = boom at_ er ∧ Below w0.heap.size w0 w'
abbrev plist.Con (k : Nat) : Prop := ∀ (g : Nat) (l : List S76) (n d : Int) (res : PA (List S78)) (w0 w : World) (hS : PSt w0 w g l n d w) (h : plist k l n d [] = some res),
  Calls Tryd.prog 32 #[.pointer (some ⟨g, 0, none⟩)] w fun e w' => PPost w0 w g d (fun e r w' => ∃ v : Value, e = .returned v ∧ Kd.R k78 78 w' w.heap.size (fun _ => True) v r) res e w'
abbrev pnode.Con (k : Nat) : Prop := ∀ (g : Nat) (t : S76) (r : List S76) (n d : Int) (res : PA S78) (w0 w : World) (hS : PSt w0 w g (t :: r) n d w) (h : pnode k t r n d = some res),
  Calls Tryd.prog 55 #[.pointer (some ⟨g, 0, none⟩)] w fun e w' => PPost w0 w g d (fun e x w' => ∃ v6 v7 : Value, e = .returned (.agg #[.int .i64 x.f0, .int .i64 x.f1, .string x.f2, .string x.f3, .bool x.f4, .bool x.f5, v6, v7]) ∧ Kd.R k78 78 w' w.heap.size (fun _ => True) v6 x.f6 ∧ Kd.R k78 78 w' w.heap.size (fun _ => True) v7 x.f7) res e w'
theorem info78 : (Tryd.prog.info? 78).map (fun i => (i.zero, i.size, i.bytes)) = some (some (.agg #[.int .i64 0, .int .i64 0, .string ⟨#[]⟩, .string ⟨#[]⟩, .bool false, .bool false, .slice none 0 0, .slice none 0 0]), 8, 104) := by kernel_rfl
end Go.Proofs.YtkpnfejfbmandaaDoor.Px

/- (*parse.parser).list. -/
namespace Go.Proofs.YtkpnfejfbmandaaDoor.Px
open Go.RowKit Go.Proofs.YtkpnfejfbmandaaDoorW.PrintWords Go.Proofs.YtkpnfejfbmandaaDoorW.PrintLast Go.Proofs.YtkpnfejfbmandaaDoorW.PrintMore
set_option linter.unusedVariables false
set_option linter.unusedSimpArgs false
def PlRel (g : Nat) (d : Int) (res : PA (List S78)) (w0 w : World) (kq : Nat) (v : Value) (wr : World) : Prop :=
  ∃ (out : List S78) (l : List S76) (n : Int), plist kq l n d out = some res ∧ Kd.R k78 78 wr w.heap.size (fun _ => True) v out ∧ PSt w0 w g l n d wr
set_option maxHeartbeats 1000000 in
set_option maxRecDepth 100000 in
theorem plist.step (k : Nat) (ihn : ∀ m, m < k → pnode.Con m) : plist.Con k := by
  intro g l n d res w0 w hS h
  have hgw : g < w.heap.size := by obtain ⟨A, c, hS, _⟩ := hS; exact hS.lt
  have HN := Aside0.mk ihn; clear ihn
  have H0 : PlRel g d res w0 w k (.slice none 0 0) w := ⟨[], l, n, h, Kd.R_nil _ _ _ _ _, hS⟩
  clear hS h
  go_enter Tryd.func32, Tryd.ntmps32
  go_wp2
  go_loopg [3] k (fun kq v wr => kq ≤ k ∧ PlRel g d res w0 w kq v wr)
  case atStart => exact ⟨Nat.le_refl _, H0⟩
  case round =>
    clear H0 l n
    obtain ⟨hk, out, l, n, H, HO, A, c, HS, HC, hc⟩ := hrel
    cases gk with
    | zero => exact absurd H (by simp [plist])
    | succ k1 =>
      have hb0 : wr.cell? ⟨g, 0, none⟩ = some (.slice A l.length c) := (HS.cell 0).trans rfl
      replace HS := Aside0.mk HS
      replace HO := Aside0.mk HO
      cases l with
      | nil =>
        simp only [plist, Option.some.injEq] at H
        obtain rfl := H
        have hl : (([] : List S76).length : Int) = 0 := rfl
        rw [show ([] : List S76).length = 0 from rfl] at hb0
        go_wp2
        go_ret
        exact ⟨⟨_, rfl, HO.out⟩, A, c, HS.out, HC, hc⟩
      | cons t r =>
        simp only [plist] at H
        by_cases hol : out.length < 100000
        case neg => rw [if_neg hol] at H; cases H
        rw [if_pos hol] at H
        obtain ⟨bb, oo, ss, rfl, x0, x1, x2, x3, x4⟩ := head_T28 HC
        replace x0 := HS.out.old x0
        have hlp : decide (0 < (((t :: r).length : Nat) : Int)) = true := decide_eq_true (by rw [List.length_cons]; omega)
        have hlp' : 0 < (t :: r).length := by rw [List.length_cons]; omega
        have hm := Kd.C_max HC
        replace HC := Aside0.mk HC
        replace H := Aside0.mk H
        generalize hnl : (t :: r).length = nl at *
        replace hnl := Aside0.mk hnl
        clear x1 x2 x3 x4
        by_cases h7 : t.f0 = 7
        · have H2 := H.out; clear H
          rw [if_pos (.inl h7)] at H2
          cases H2
          have h7' : (t.f0 != 7) = false := by simp [h7]
          clear h7
          go_wp2
          go_ret
          have HS2 := HS.out
          rw [← hnl.out] at hc
          exact ⟨⟨_, rfl, HO.out⟩, _, c, HS2, by rw [hnl.out]; exact HC.out, hc⟩
        by_cases h8 : t.f0 = 8
        · have H2 := H.out; clear H
          rw [if_pos (.inr h8)] at H2
          cases H2
          have h7' : (t.f0 != 7) = true := by simp [h7]
          have h8' : (t.f0 != 8) = false := by simp [h8]
          clear h7 h8
          go_wp2
          go_ret
          have HS2 := HS.out
          rw [← hnl.out] at hc
          exact ⟨⟨_, rfl, HO.out⟩, _, c, HS2, by rw [hnl.out]; exact HC.out, hc⟩
        have h7' : (t.f0 != 7) = true := by simp [h7]
        have h8' : (t.f0 != 8) = true := by simp [h8]
        replace H := H.out
        rw [if_neg (by rintro (h | h); exact h7 h; exact h8 h)] at H
        clear h7 h8
        cases hn : pnode k1 t r n d with
        | none => rw [hn] at H; cases H
        | some rn =>
        rw [hn] at H
        have hSt : PSt w0 wr g (t :: r) n d wr := ⟨_, c, HS.out.again, by rw [hnl.out]; exact HC.out, by rw [hnl.out]; exact hc⟩
        have HN1 := Aside0.mk (HN.out k1 (by omega) g t r n d rn w0 wr hSt hn)
        clear hn hSt
        cases rn with
        | error e =>
          obtain ⟨at_, er⟩ := e
          cases H
          go_wp2_with fail
          refine HN1.out.mono ?_
          rintro e w2 ⟨rfl, hb⟩
          go_wp2
          exact ⟨rfl, rfl, hb⟩
        | ok q =>
          obtain ⟨x, r', n'⟩ := q
          replace H := Aside0.mk H
          go_wp2_with fail
          refine HN1.out.mono ?_
          rintro e w2 ⟨⟨v6, v7, rfl, R6, R7⟩, A', c', S2, HC2, hc2⟩
          clear HN1
          obtain ⟨A6, c6, rfl⟩ := Kd.R_slice R6
          obtain ⟨A7, c7, rfl⟩ := Kd.R_slice R7
          have HO2 := Aside0.mk (R_keepBut HO.out S2.keep hgw)
          have HS2 := Aside0.mk (HS.out.call S2)
          have HM := Aside0.mk (And.intro (R_apart R6 HO.out HS.out.size) (R_apart R7 HO.out HS.out.size))
          replace HC2 := Aside0.mk HC2
          clear R6 R7 S2 HO HS
          go_wp2_with (at_builtin; go_loud (refine Kd.R_append k78 w.heap.size rfl _ _ 23 78 _ 104 rfl Tryd.underlying23 info78 rfl (by decide) (by decide) u3 out x [.int .i64 x.f0, .int .i64 x.f1, .string x.f2, .string x.f3, .bool x.f4, .bool x.f5, .slice A6 x.f6.length c6, .slice A7 x.f7.length c7] (fun _ => True) (fun k => some k ≠ u3.ownBlock) rfl rfl (k78_mkM _ _ _ x HM.out.1 HM.out.2) (fun k hk => ⟨trivial, hk⟩) (fun _ _ => trivial) HO2.out (Below.refl _ _) HS2.out.size (by omega) ?_; intro v1 w3 HO3 _ hg3 _; have HS3 := Aside0.mk (HS2.out.grown hg3 (Kd.R_base HO2.out) hgw); clear HS2 HM hg3; obtain ⟨A1, c1, rfl⟩ := Kd.R_slice HO3; replace HO3 := Aside0.mk HO3))
          go_roundg k1
          case measure => omega
          case rel => exact ⟨by omega, out ++ [x], r', n', H.out, (by have h5 := HO3.out; rwa [List.length_append, List.length_singleton] at h5), A', c', HS3.out, HC2.out, hc2⟩
end Go.Proofs.YtkpnfejfbmandaaDoor.Px

/- (*parse.parser).block. -/
namespace Go.Proofs.YtkpnfejfbmandaaDoor.Px
open Go.RowKit Go.Proofs.YtkpnfejfbmandaaDoorW.PrintWords Go.Proofs.YtkpnfejfbmandaaDoorW.PrintLast Go.Proofs.YtkpnfejfbmandaaDoorW.PrintMore
set_option linter.unusedVariables false
set_option linter.unusedSimpArgs false
/-- The cells of a node under way. -/
def ndC (t : S76) (h : Bool) (v6 v7 : Value) : Array Value := #[.int .i64 t.f0, .int .i64 t.f1, .string t.f2, .string t.f3, .bool t.f4, .bool h, v6, v7]
/-- What a block's parsing leaves. -/
def PBPost (w0 wn w : World) (g b : Nat) (d : Int) : PA S78 → Ending → World → Prop
  | .ok (x, l', n'), e, w' => e = .returned (.tuple #[]) ∧ PSt w0 wn g l' n' d w' ∧
      (∃ v6 v7 : Value, w'.heap[b]? = some (.cells #[.int .i64 x.f0, .int .i64 x.f1, .string x.f2, .string x.f3, .bool x.f4, .bool x.f5, v6, v7] 78 (0, 0)) ∧ Kd.R k78 78 w' w.heap.size (fun _ => True) v6 x.f6 ∧ Kd.R k78 78 w' w.heap.size (fun _ => True) v7 x.f7) ∧
      (∀ k o, w.heap[k]? = some o → k ≠ g → k ≠ b → w'.heap[k]? = some o)
  | .error (at_, er), e, w' => e = boom at_ er ∧ Below w0.heap.size w0 w'
abbrev pblk.Con (k : Nat) : Prop := ∀ (g b : Nat) (t : S76) (r : List S76) (n d : Int) (res : PA S78) (w0 wn w : World) (hS : PSt w0 wn g r n d w)
  (hB : w.heap[b]? = some (.cells (ndC t false (.slice none 0 0) (.slice none 0 0)) 78 (0, 0))) (hb : wn.heap.size ≤ b) (hgb : g ≠ b) (hg : g < wn.heap.size) (hd : 0 ≤ d ∧ d ≤ 100000) (h : pblk k t r n d = some res),
  Calls Tryd.prog 79 #[.pointer (some ⟨g, 0, none⟩), .pointer (some ⟨b, 0, none⟩)] w fun e w' => PBPost w0 wn w g b d res e w'
/-- The state between the parts of a block. -/
structure BkR (w0 wn w : World) (g b : Nat) (t : S76) (d : Int) (res : PA S78) (h : Bool) (body els : List S78) (r : List S76) (n : Int) (v6 v7 : Value) (W : World) : Prop where
  e : res = endB t h body els r n
  st : PSt w0 wn g r n (d + 1) W
  blk : W.heap[b]? = some (.cells (ndC t h v6 v7) 78 (0, 0))
  r6 : Kd.R k78 78 W w.heap.size (fun _ => True) v6 body
  r7 : Kd.R k78 78 W w.heap.size (fun _ => True) v7 els
  keep : ∀ k o, w.heap[k]? = some o → k ≠ g → k ≠ b → W.heap[k]? = some o
def BkRel (w0 wn w : World) (g b : Nat) (t : S76) (d : Int) (res : PA S78) (W : World) : Prop := ∃ h body els r n v6 v7, BkR w0 wn w g b t d res h body els r n v6 v7 W
set_option maxHeartbeats 4000000 in
set_option maxRecDepth 100000 in
theorem pblk.step (k : Nat) (ihl : plist.Con k) : pblk.Con k := by
  intro g b t r n d res w0 wn w hS hB hb hgb hgn hd h
  obtain ⟨A, c, HS, HC, hc⟩ := hS
  have hgw : g < w.heap.size := HS.lt
  have hbw : b < w.heap.size := blk_lt hB
  have hsz := HS.size
  have HL := Aside0.mk ihl; clear ihl
  have hb2 : w.cell? ⟨g, 2, none⟩ = some (.int .i64 d) := (HS.cell 2).trans rfl
  have hf2 := HS.frozen 2
  have hw1 : IntKind.i64.wrap (d + 1) = d + 1 := by rw [IntKind.wrap_i64]; omega
  have HS1 := Aside0.mk ((HS.set 2 (.int .i64 (d + 1))).cast (cs' := stP A c r n (d + 1)) rfl)
  have HB1 := Aside0.mk (show (w.setCell ⟨g, 2, none⟩ (.int .i64 (d + 1))).heap[b]? = some (.cells (ndC t false (.slice none 0 0) (.slice none 0 0)) 78 (0, 0)) from blk_far' hB (Ne.symm hgb) _)
  have hkeep1 := Aside0.mk (show ∀ k o, w.heap[k]? = some o → k ≠ g → k ≠ b → (w.setCell ⟨g, 2, none⟩ (.int .i64 (d + 1))).heap[k]? = some o from fun k o ho hkg _ => by
    rw [← ho]; simp only [World.setCell, Array.getElem?_modify]; rw [if_neg (Ne.symm hkg)])
  have hsize1 : (w.setCell ⟨g, 2, none⟩ (.int .i64 (d + 1))).heap.size = w.heap.size := by simp
  have H := Aside0.mk h; clear h
  clear hB
  replace HC := Aside0.mk HC
  replace hd := Aside0.mk hd
  go_enter Tryd.func79, Tryd.ntmps79
  go_wp2_with fail
  generalize w.setCell ⟨g, 2, none⟩ (.int .i64 (d + 1)) = w1 at *
  clear HS hb2 hf2 hw1
  unfold pblk at H
  have hSt1 : PSt w0 w1 g r n (d + 1) w1 := ⟨A, c, HS1.out.again, HC.out, hc⟩
  cases hp : plist k r n (d + 1) [] with
  | none => have H2 := H.out; rw [hp] at H2; cases H2
  | some res1 =>
  have HL1 := Aside0.mk (HL.out g r n (d + 1) res1 w0 w1 hSt1 hp)
  replace H := H.out
  rw [hp] at H
  clear hp hSt1
  cases res1 with
  | error e =>
    obtain ⟨at_, er⟩ := e
    cases H
    refine HL1.out.mono ?_
    rintro e w2 ⟨rfl, hbe⟩
    go_wp2
    exact ⟨rfl, rfl, hbe⟩
  | ok q =>
  obtain ⟨body, r1, n1⟩ := q
  replace H := Aside0.mk H
  refine HL1.out.mono ?_
  rintro e w2 ⟨⟨v6, rfl, R6⟩, A2, c2, S2, HC2, hc2⟩
  clear HL1 HC hc
  have HS2 := Aside0.mk (HS1.out.call S2)
  have hkeep2 := Aside0.mk (show ∀ k o, w.heap[k]? = some o → k ≠ g → k ≠ b → w2.heap[k]? = some o from fun k o ho hkg hkb => S2.other (hkeep1.out k o ho hkg hkb) hkg)
  have HB2 := S2.other HB1.out (Ne.symm hgb)
  rw [hsize1] at R6
  have hsz2 : w.heap.size ≤ w2.heap.size := by have := S2.size; omega
  obtain ⟨A6, c6, rfl⟩ := Kd.R_slice R6
  clear S2 HS1 HB1 hkeep1
  have c80 : w2.cell? ⟨b, 0, none⟩ = some (.int .i64 t.f0) := (blk_cell HB2 0).trans rfl
  have c81 : w2.cell? ⟨b, 1, none⟩ = some (.int .i64 t.f1) := (blk_cell HB2 1).trans rfl
  have c85 : w2.cell? ⟨b, 5, none⟩ = some (.bool false) := (blk_cell HB2 5).trans rfl
  have c86 : w2.cell? ⟨b, 6, none⟩ = some (.slice none 0 0) := (blk_cell HB2 6).trans rfl
  have c87 : w2.cell? ⟨b, 7, none⟩ = some (.slice none 0 0) := (blk_cell HB2 7).trans rfl
  have z85 := blk_frozen HB2 5
  have z86 := blk_frozen HB2 6
  have z87 := blk_frozen HB2 7
  have hb0 : w2.cell? ⟨g, 0, none⟩ = some (.slice A2 r1.length c2) := (HS2.out.cell 0).trans rfl
  have hf0 := HS2.out.frozen 0
  have hbg : b ≠ g := Ne.symm hgb
  cases r1 with
  | nil =>
    have H2 := H.out; clear H
    cases H2
    rw [show ([] : List S76).length = 0 from rfl] at hb0
    have HB3 := Aside0.mk (HS2.out.far' (j := 6) hb hgb (.slice A6 body.length c6)).bel
    clear HB2 HS2 R6 HC2 hkeep2
    go_wp2
    go_region_dies
    all_goals
      go_wp2_with (go_at_call 33; (with_reducible refine (must_no _ _ _).mono ?_); rintro e w' ⟨rfl, rfl⟩)
      exact ⟨rfl, rfl, by repeat (first | exact HB3.out | apply below_alloc | apply pw_below_drewN | apply below_drew1)⟩
  | cons t1 r2 =>
  obtain ⟨bb, oo, ss, rfl, x0, x1, _, _, _⟩ := head_T28 HC2
  rw [List.length_cons] at hb0 hc2 HC2
  have hCt := Aside0.mk (cutT_C (by rw [List.length_cons]; exact HC2) (by rw [List.length_cons]; exact hc2) : Kd.C k76 w0 (cutT (some ⟨bb, oo, ss⟩) c2) r2.length r2)
  have hw1 := cutT1 (some ⟨bb, oo, ss⟩) (r2.length + 1) c2 (by omega)
  simp only [Nat.add_sub_cancel] at hw1
  have hm := Kd.C_max HC2
  have hx1 := World.block_lt_of_cell? _ _ x1
  have hb1l : bb < wn.heap.size := Nat.lt_of_lt_of_le hx1 HS2.out.le
  replace x0 := HS2.out.old x0
  replace x1 := HS2.out.old x1
  have hlen : (0 : Int) < ((r2.length + 1 : Nat) : Int) := by omega
  have hlen' : 0 < r2.length + 1 := by omega
  have hbb : bb ≠ b := by omega
  replace HC2 := Aside0.mk HC2
  replace HB2 := Aside0.mk HB2
  replace R6 := Aside0.mk R6
  go_upto_if 31 with fail
  have HS3 := Aside0.mk (HS2.out.far' (j := 6) hb hgb (.slice A6 body.length c6))
  have HB3 := Aside0.mk (show (w2.setCell ⟨b, 6, none⟩ (.slice A6 body.length c6)).heap[b]? = some (.cells (ndC t false (.slice A6 body.length c6) (.slice none 0 0)) 78 (0, 0)) from blk_set HB2.out 6 _)
  have R63 := Aside0.mk (show Kd.R k78 78 (w2.setCell ⟨b, 6, none⟩ (.slice A6 body.length c6)) w.heap.size (fun _ => True) (.slice A6 body.length c6) body from R_farB R6.out hbw _)
  have hkeep3 := Aside0.mk (show ∀ k o, w.heap[k]? = some o → k ≠ g → k ≠ b → (w2.setCell ⟨b, 6, none⟩ (.slice A6 body.length c6)).heap[k]? = some o from fun k o ho hkg hkb => by
    have h2 := hkeep2.out k o ho hkg hkb
    rw [← h2]; simp only [World.setCell, Array.getElem?_modify]; rw [if_neg (Ne.symm hkb)])
  have hsz3 : w.heap.size ≤ (w2.setCell ⟨b, 6, none⟩ (.slice A6 body.length c6)).heap.size := by simpa using hsz2
  generalize w2.setCell ⟨b, 6, none⟩ (.slice A6 body.length c6) = w3 at *
  clear HS2 HB2 R6 hkeep2 c80 c81 c85 c86 c87 z85 z86 z87 hb0 hf0 x0 x1
  have c80 : w3.cell? ⟨b, 0, none⟩ = some (.int .i64 t.f0) := (blk_cell HB3.out 0).trans rfl
  have c81 : w3.cell? ⟨b, 1, none⟩ = some (.int .i64 t.f1) := (blk_cell HB3.out 1).trans rfl
  have hb0 : w3.cell? ⟨g, 0, none⟩ = some (.slice (some ⟨bb, oo, ss⟩) (r2.length + 1) c2) := (HS3.out.cell 0).trans rfl
  have hf0 := HS3.out.frozen 0
  obtain ⟨bb', oo', ss', hee, x0, x1, _, _, _⟩ := head_T28 (t := t1) (r := r2) (by rw [List.length_cons]; exact HC2.out)
  cases hee
  replace x0 := HS3.out.old x0
  replace x1 := HS3.out.old x1
  replace H := Aside0.mk (show (if t1.f0 = 7 then (if t.f0 = 2 then (match plist k r2 n1 (d + 1) [] with | none => none | some (.error e) => some (.error e) | some (.ok (els, r3, n3)) => some (endB t true body els r3 n3)) else some (.error (t1.f1, 13))) else some (endB t false body [] (t1 :: r2) n1)) = some res from H.out)
  go_cut [] (fun wc => BkRel w0 wn w g b t d res wc)
  case first =>
    by_cases h7 : t1.f0 = 7
    case neg =>
      have H2 := H.out; clear H
      rw [if_neg h7] at H2
      have h7' : (t1.f0 == 7) = false := by simp [h7]
      clear h7
      go_wp2
      go_meet
      case rel => exact ⟨false, body, [], t1 :: r2, n1, _, _, (Option.some.inj H2).symm, ⟨_, c2, HS3.out, by rw [List.length_cons]; exact HC2.out, by rw [List.length_cons]; exact hc2⟩, HB3.out, R63.out, Kd.R_nil _ _ _ _ _, hkeep3.out⟩
    have h7' : (t1.f0 == 7) = true := by simp [h7]
    have H2 := H.out; clear H
    rw [if_pos h7] at H2
    clear h7
    by_cases h2 : t.f0 = 2
    case neg =>
      rw [if_neg h2] at H2
      cases H2
      have h2' : (t.f0 == 2) = false := by simp [h2]
      clear h2
      go_wp2
      go_region_dies
      all_goals
        go_wp2_with (go_at_call 33; (with_reducible refine (must_no _ _ _).mono ?_); rintro e w' ⟨rfl, rfl⟩)
        exact ⟨rfl, rfl, by repeat (first | exact HS3.out.bel | apply below_alloc | apply pw_below_drewN | apply below_drew1)⟩
    rw [if_pos h2] at H2
    have h2' : (t.f0 == 2) = true := by simp [h2]
    clear h2
    cases hp2 : plist k r2 n1 (d + 1) [] with
    | none => rw [hp2] at H2; cases H2
    | some res2 =>
    rw [hp2] at H2
    replace H2 := Aside0.mk H2
    have hp2 := Aside0.mk hp2
    go_upto_region 3 with fail
    go_cut [] (fun wc => wc = w3.drew)
    case first =>
      go_region_with (go_at_call 33; (with_reducible refine (must_ok _ _ _).mono ?_); rintro e w' ⟨rfl, rfl⟩)
      all_goals
        go_wp2
        go_meet
        case rel => rfl
    case rest =>
      subst hcut
      have HS4 := Aside0.mk (HS3.out.drew)
      have HB4 := Aside0.mk (show w3.drew.heap[b]? = _ from HB3.out)
      have R64 := Aside0.mk (Kd.R_drew R63.out)
      have hkeep4 := Aside0.mk (show ∀ k o, w.heap[k]? = some o → k ≠ g → k ≠ b → w3.drew.heap[k]? = some o from hkeep3.out)
      replace hb0 : w3.drew.cell? _ = _ := hb0
      replace hf0 : w3.drew.frozen? _ = _ := hf0
      have hsz4 : w.heap.size ≤ w3.drew.heap.size := hsz3
      clear HS3 HB3 R63 hkeep3 c80 c81 x0 x1 hsz3
      generalize w3.drew = w4 at *
      have HS5 := Aside0.mk ((HS4.out.set 0 (.slice (cutT (some ⟨bb, oo, ss⟩) c2) r2.length (c2 - 1))).cast (cs' := stP (cutT (some ⟨bb, oo, ss⟩) c2) (c2 - 1) r2 n1 (d + 1)) rfl)
      have HB5 := Aside0.mk (show (w4.setCell ⟨g, 0, none⟩ (.slice (cutT (some ⟨bb, oo, ss⟩) c2) r2.length (c2 - 1))).heap[b]? = _ from blk_far' HB4.out hbg _)
      have R65 := Aside0.mk (show Kd.R k78 78 (w4.setCell ⟨g, 0, none⟩ (.slice (cutT (some ⟨bb, oo, ss⟩) c2) r2.length (c2 - 1))) w.heap.size (fun _ => True) (.slice A6 body.length c6) body from R_farB R64.out hgw _)
      have hkeep5 := Aside0.mk (show ∀ k o, w.heap[k]? = some o → k ≠ g → k ≠ b → (w4.setCell ⟨g, 0, none⟩ (.slice (cutT (some ⟨bb, oo, ss⟩) c2) r2.length (c2 - 1))).heap[k]? = some o from fun k o ho hkg hkb => by
        have h2 := hkeep4.out k o ho hkg hkb
        rw [← h2]; simp only [World.setCell, Array.getElem?_modify]; rw [if_neg (Ne.symm hkg)])
      have hsz5 : w.heap.size ≤ (w4.setCell ⟨g, 0, none⟩ (.slice (cutT (some ⟨bb, oo, ss⟩) c2) r2.length (c2 - 1))).heap.size := by simpa using hsz4
      go_wp2_with fail
      generalize w4.setCell ⟨g, 0, none⟩ (.slice (cutT (some ⟨bb, oo, ss⟩) c2) r2.length (c2 - 1)) = w5 at *
      clear HS4 HB4 R64 hkeep4 hb0 hf0 hsz4
      have hc4 : r2.length ≤ c2 - 1 := by omega
      refine (HL.out g r2 n1 (d + 1) res2 w0 w5 ⟨_, _, HS5.out.again, hCt.out, hc4⟩ hp2.out).mono ?_
      clear hw1
      cases res2 with
      | error e =>
        obtain ⟨at_, er⟩ := e
        have H3 := H2.out
        cases H3
        rintro e w6 ⟨rfl, hbe⟩
        go_wp2
        exact ⟨rfl, rfl, hbe⟩
      | ok q =>
      obtain ⟨els, r3, n3⟩ := q
      rintro e w6 ⟨⟨v7, rfl, R7⟩, A7', c7', S6, HC6, hc6⟩
      have H3 := Aside0.mk (Option.some.inj H2.out)
      replace R7 := Kd.R_lower R7 hsz5
      have HB6 := S6.other HB5.out hbg
      have R66 := Aside0.mk (R_keepBut R65.out S6.keep hgw)
      have hkeep6 := Aside0.mk (show ∀ k o, w.heap[k]? = some o → k ≠ g → k ≠ b → w6.heap[k]? = some o from fun k o ho hkg hkb => S6.other (hkeep5.out k o ho hkg hkb) hkg)
      have HS6 := Aside0.mk (HS5.out.call S6)
      obtain ⟨A7, c7, rfl⟩ := Kd.R_slice R7
      clear S6 HS5 HB5 R65 hkeep5 H2
      have c85 : w6.cell? ⟨b, 5, none⟩ = some (.bool false) := (blk_cell HB6 5).trans rfl
      have c87 : w6.cell? ⟨b, 7, none⟩ = some (.slice none 0 0) := (blk_cell HB6 7).trans rfl
      have z85 := blk_frozen HB6 5
      have z87 := blk_frozen HB6 7
      replace HB6 := Aside0.mk HB6
      replace R7 := Aside0.mk R7
      replace HC6 := Aside0.mk HC6
      go_wp2
      go_meet
      case rel =>
        exact ⟨true, body, els, r3, n3, .slice A6 body.length c6, .slice A7 els.length c7, H3.out.symm, ⟨_, _, (HS6.out.far' (j := 5) hb hgb _).far' (j := 7) hb hgb _, HC6.out, hc6⟩, blk_set (blk_set HB6.out 5 _) 7 _, R_farB (R_farB R66.out hbw _) hbw _, R_farB (R_farB R7.out hbw _) hbw _, fun k o ho hkg hkb => by
          have h2 := hkeep6.out k o ho hkg hkb
          rw [← h2]; simp only [World.setCell, Array.getElem?_modify]; rw [if_neg (Ne.symm hkb), if_neg (Ne.symm hkb)]⟩
  case rest =>
    obtain ⟨hh, body', els, r, n, v6, v7, he, ⟨A8, c8, HS8, HC8, hc8⟩, HB8, R68, R78, hkeep8⟩ := hcut
    clear HS3 HB3 R63 hkeep3 c80 c81 hb0 hf0 x0 x1 hCt hw1 H hx1 hb1l hbb hlen hlen' hm hc2 HC2
    have c81 : wc.cell? ⟨b, 1, none⟩ = some (.int .i64 t.f1) := (blk_cell HB8 1).trans rfl
    have hb0 : wc.cell? ⟨g, 0, none⟩ = some (.slice A8 r.length c8) := (HS8.cell 0).trans rfl
    have hb2 : wc.cell? ⟨g, 2, none⟩ = some (.int .i64 (d + 1)) := (HS8.cell 2).trans rfl
    have hf0 := HS8.frozen 0
    have hf2 := HS8.frozen 2
    replace HS8 := Aside0.mk HS8
    replace HB8 := Aside0.mk HB8
    replace R68 := Aside0.mk R68
    replace R78 := Aside0.mk R78
    replace hkeep8 := Aside0.mk hkeep8
    cases r with
    | nil =>
      obtain rfl : res = .error (t.f1, 7) := he
      rw [show ([] : List S76).length = 0 from rfl] at hb0
      go_wp2
      go_region_dies
      all_goals
        go_wp2_with (go_at_call 33; (with_reducible refine (must_no _ _ _).mono ?_); rintro e w' ⟨rfl, rfl⟩)
        exact ⟨rfl, rfl, by repeat (first | exact HS8.out.bel | apply below_alloc | apply pw_below_drewN | apply below_drew1)⟩
    | cons t3 r4 =>
    obtain ⟨b3, o3, s3, rfl, x0, x1, _, _, _⟩ := head_T28 HC8
    rw [List.length_cons] at hb0 hc8 HC8
    have hCt := Aside0.mk (cutT_C (by rw [List.length_cons]; exact HC8) (by rw [List.length_cons]; exact hc8) : Kd.C k76 w0 (cutT (some ⟨b3, o3, s3⟩) c8) r4.length r4)
    have hw1 := cutT1 (some ⟨b3, o3, s3⟩) (r4.length + 1) c8 (by omega)
    simp only [Nat.add_sub_cancel] at hw1
    have hm := Kd.C_max HC8
    replace x0 := HS8.out.old x0
    replace x1 := HS8.out.old x1
    have hlen : (0 : Int) < ((r4.length + 1 : Nat) : Int) := by omega
    have hlen' : 0 < r4.length + 1 := by omega
    have hc9 : r4.length ≤ c8 - 1 := by omega
    clear HC8 hc8
    go_upto_region 6 with fail
    go_cut [] (fun wd => wd = wc.drew)
    case first =>
      go_region_with (go_at_call 33; (with_reducible refine (must_ok _ _ _).mono ?_); rintro e w' ⟨rfl, rfl⟩)
      all_goals
        go_wp2
        go_meet
        case rel => rfl
    case rest =>
      subst hcut
      replace HS8 := Aside0.mk (HS8.out.drew)
      replace HB8 := Aside0.mk (show wc.drew.heap[b]? = _ from HB8.out)
      replace R68 := Aside0.mk (Kd.R_drew R68.out)
      replace R78 := Aside0.mk (Kd.R_drew R78.out)
      replace hkeep8 := Aside0.mk (show ∀ k o, w.heap[k]? = some o → k ≠ g → k ≠ b → wc.drew.heap[k]? = some o from hkeep8.out)
      replace hb0 : wc.drew.cell? _ = _ := hb0
      replace hb2 : wc.drew.cell? _ = _ := hb2
      replace hf0 : wc.drew.frozen? _ = _ := hf0
      replace hf2 : wc.drew.frozen? _ = _ := hf2
      replace x0 : wc.drew.cell? _ = _ := x0
      replace x1 : wc.drew.cell? _ = _ := x1
      clear c81
      generalize wc.drew = wd at *
      by_cases h8 : t3.f0 = 8
      case neg =>
        obtain rfl : res = .error (t3.f1, 13) := by rw [he]; exact if_neg h8
        have h8' : (t3.f0 == 8) = false := by simp [h8]
        clear h8 he
        go_wp2
        go_region_dies
        all_goals
          go_wp2_with (go_at_call 33; (with_reducible refine (must_no _ _ _).mono ?_); rintro e w' ⟨rfl, rfl⟩)
          exact ⟨rfl, rfl, by repeat (first | exact HS8.out.bel | apply below_alloc | apply pw_below_drewN | apply below_drew1)⟩
      obtain rfl : res = .ok (⟨t.f0, t.f1, t.f2, t.f3, t.f4, hh, body', els⟩, r4, n) := by rw [he]; exact if_pos h8
      have h8' : (t3.f0 == 8) = true := by simp [h8]
      clear h8 he
      go_upto_region 7 with fail
      go_cut [] (fun we => we = wd.drew)
      case first =>
        go_region_with (go_at_call 33; (with_reducible refine (must_ok _ _ _).mono ?_); rintro e w' ⟨rfl, rfl⟩)
        all_goals
          go_wp2
          go_meet
          case rel => rfl
      case rest =>
        subst hcut
        replace HS8 := Aside0.mk (HS8.out.drew)
        replace HB8 := Aside0.mk (show wd.drew.heap[b]? = _ from HB8.out)
        replace R68 := Aside0.mk (Kd.R_drew R68.out)
        replace R78 := Aside0.mk (Kd.R_drew R78.out)
        replace hkeep8 := Aside0.mk (show ∀ k o, w.heap[k]? = some o → k ≠ g → k ≠ b → wd.drew.heap[k]? = some o from hkeep8.out)
        replace hb0 : wd.drew.cell? _ = _ := hb0
        replace hb2 : wd.drew.cell? _ = _ := hb2
        replace hf0 : wd.drew.frozen? _ = _ := hf0
        replace hf2 : wd.drew.frozen? _ = _ := hf2
        clear x0 x1
        generalize wd.drew = we at *
        have hd1 : IntKind.i64.wrap (d + 1 - 1) = d := by rw [IntKind.wrap_i64]; have := hd.out; omega
        have hd2 : IntKind.i64.wrap d = d := by rw [IntKind.wrap_i64]; have := hd.out; omega
        go_wp2
        go_end0
        exact ⟨rfl, ⟨_, _, ((HS8.out.set 0 (.slice (cutT (some ⟨b3, o3, s3⟩) c8) r4.length (c8 - 1))).set 2 (.int .i64 d)).cast (cs' := stP (cutT (some ⟨b3, o3, s3⟩) c8) (c8 - 1) r4 n d) rfl, hCt.out, hc9⟩, ⟨v6, v7, blk_far' (blk_far' HB8.out hbg _) hbg _, R_farB (R_farB R68.out hgw _) hgw _, R_farB (R_farB R78.out hgw _) hgw _⟩, fun k o ho hkg hkb => by
          have h2 := hkeep8.out k o ho hkg hkb
          rw [← h2]; simp only [World.setCell, Array.getElem?_modify]; rw [if_neg (Ne.symm hkg), if_neg (Ne.symm hkg)]⟩
end Go.Proofs.YtkpnfejfbmandaaDoor.Px

/- (*parse.parser).node. -/
namespace Go.Proofs.YtkpnfejfbmandaaDoor.Px
open Go.RowKit Go.Proofs.YtkpnfejfbmandaaDoorW.PrintWords Go.Proofs.YtkpnfejfbmandaaDoorW.PrintLast Go.Proofs.YtkpnfejfbmandaaDoorW.PrintMore
set_option linter.unusedVariables false
set_option linter.unusedSimpArgs false
set_option maxHeartbeats 1000000 in
set_option maxRecDepth 100000 in
theorem pnode.deep (g : Nat) (t : S76) (r : List S76) (n d : Int) (w0 w : World) (hS : PSt w0 w g (t :: r) n d w) (hk : t.f0 ≠ 6) (hb : opK t.f0) (hd : 32 ≤ d) :
    Calls Tryd.prog 55 #[.pointer (some ⟨g, 0, none⟩)] w fun e w' => e = boom t.f1 13 ∧ Below w0.heap.size w0 w' := by
  obtain ⟨A, c, HS, HC, hc⟩ := hS
  obtain ⟨bb, oo, ss, rfl, x0, x1, x2, x3, x4⟩ := head_T28 HC
  rw [List.length_cons] at hc HC
  have hb0 : w.cell? ⟨g, 0, none⟩ = some (.slice (some ⟨bb, oo, ss⟩) (r.length + 1) c) := (HS.cell 0).trans rfl
  have hb2 : w.cell? ⟨g, 2, none⟩ = some (.int .i64 d) := (HS.cell 2).trans rfl
  have hgw : g < w.heap.size := HS.lt
  have hm := Kd.C_max HC
  replace x0 := HS.old x0
  replace x1 := HS.old x1
  replace x2 := HS.old x2
  replace x3 := HS.old x3
  replace x4 := HS.old x4
  have hads := World.block_lt_of_cell? _ _ x1
  replace HS := Aside0.mk HS
  clear HC
  have hlen : (0 : Int) < ((r.length + 1 : Nat) : Int) := by omega
  have hlen' : 0 < r.length + 1 := by omega
  have h6' : (t.f0 != 6) = true := by simp [hk]
  have hbv : opB t.f0 = true := (opB_iff _).2 hb
  have hd' : decide (d < 32) = false := decide_eq_false (by omega)
  clear hk hb
  go_enter Tryd.func55, Tryd.ntmps55
  go_wp2
  go_quiet (first | (go_at_call 33; refine (must_ok _ _ _).mono ?_; rintro e w' ⟨rfl, rfl⟩; exact ⟨rfl, _, rfl⟩))
  go_wp2
  refine wp_region_still_tail 13 (by kernel_rfl) (by kernel_rfl) ?_
  simp only [List.take_succ_cons, List.take_zero, List.drop_succ_cons, List.drop_zero]
  change wpStill _ _ (World.drew _) (fun a' => wpList _ _ _ _ a' (World.drew _)) _ _
  repeat (refine wpStill_step (fun K hK => ?_); go_simp; first | (refine ⟨_, (opens_any _ _).mono (fun e w' h => ⟨h.1, h.2.symm⟩), hK _ ?_⟩; clear hK K) | (refine hK _ ?_; clear hK K))
  refine wpStill_nil ?_
  go_wp2_with (go_at_call 33; (with_reducible refine (must_no _ _ _).mono ?_); rintro e w' ⟨rfl, rfl⟩)
  exact ⟨rfl, rfl, by repeat (first | exact HS.out.bel | apply below_alloc | apply pw_below_drewN | apply below_drew1)⟩
set_option maxHeartbeats 1000000 in
set_option maxRecDepth 100000 in
theorem pnode.leaf (g : Nat) (t : S76) (r : List S76) (n d : Int) (w0 w : World) (hS : PSt w0 w g (t :: r) n d w) (hb : ¬ opK t.f0) (hn0 : 0 ≤ n) (hn : n < 4096) :
    Calls Tryd.prog 55 #[.pointer (some ⟨g, 0, none⟩)] w fun e w' => e = .returned (.agg #[.int .i64 t.f0, .int .i64 t.f1, .string t.f2, .string t.f3, .bool t.f4, .bool false, .slice none 0 0, .slice none 0 0]) ∧ PSt w0 w g r (n + 1) d w' := by
  obtain ⟨A, c, HS, HC, hc⟩ := hS
  obtain ⟨bb, oo, ss, rfl, x0, x1, x2, x3, x4⟩ := head_T28 HC
  rw [List.length_cons] at hc HC
  have hCt := Aside0.mk (cutT_C (by rw [List.length_cons]; exact HC) (by rw [List.length_cons]; exact hc) : Kd.C k76 w0 (cutT (some ⟨bb, oo, ss⟩) c) r.length r)
  have hw1 := cutT1 (some ⟨bb, oo, ss⟩) (r.length + 1) c (by omega)
  simp only [Nat.add_sub_cancel] at hw1
  have hb0 : w.cell? ⟨g, 0, none⟩ = some (.slice (some ⟨bb, oo, ss⟩) (r.length + 1) c) := (HS.cell 0).trans rfl
  have hb1 : w.cell? ⟨g, 1, none⟩ = some (.int .i64 n) := (HS.cell 1).trans rfl
  have hf0 := HS.frozen 0
  have hf1 := HS.frozen 1
  have hgw : g < w.heap.size := HS.lt
  have hm := Kd.C_max HC
  replace x0 := HS.old x0
  replace x1 := HS.old x1
  replace x2 := HS.old x2
  replace x3 := HS.old x3
  replace x4 := HS.old x4
  have hads := World.block_lt_of_cell? _ _ x1
  replace HS := Aside0.mk HS
  clear HC
  have hlen : (0 : Int) < ((r.length + 1 : Nat) : Int) := by omega
  have hlen' : 0 < r.length + 1 := by omega
  have hbv : opB t.f0 = false := by rw [← Bool.not_eq_true, opB_iff]; exact hb
  have h6' : (t.f0 != 6) = true := by rw [bne_iff_ne]; exact fun e => hb (.inr (.inr e))
  have hn1 : decide (n < 4096) = true := decide_eq_true hn
  have hnw : IntKind.i64.wrap (n + 1) = n + 1 := by rw [IntKind.wrap_i64]; omega
  have hc1 := Aside0.mk (show r.length ≤ c - 1 by omega)
  clear hb hn hn0
  go_enter Tryd.func55, Tryd.ntmps55
  go_wp2
  go_quiet (first | (go_at_call 33; refine (must_ok _ _ _).mono ?_; rintro e w' ⟨rfl, rfl⟩; exact ⟨rfl, _, rfl⟩))
  go_wp2
  refine wp_region_still_tail 13 (by kernel_rfl) (by kernel_rfl) ?_
  simp only [List.take_succ_cons, List.take_zero, List.drop_succ_cons, List.drop_zero]
  change wpStill _ _ (World.drew _) (fun a' => wpList _ _ _ _ a' (World.drew _)) _ _
  repeat (refine wpStill_step (fun K hK => ?_); go_simp; first | (refine ⟨_, (opens_any _ _).mono (fun e w' h => ⟨h.1, h.2.symm⟩), hK _ ?_⟩; clear hK K) | (refine hK _ ?_; clear hK K))
  refine wpStill_nil ?_
  go_wp2_with (go_at_call 33; (with_reducible refine (must_ok _ _ _).mono ?_); rintro e w' ⟨rfl, rfl⟩)
  refine wp_region_still_tail 7 (by kernel_rfl) (by kernel_rfl) ?_
  simp only [List.take_succ_cons, List.take_zero, List.drop_succ_cons, List.drop_zero]
  change wpStill _ _ (World.drew _) (fun a' => wpList _ _ _ _ a' (World.drew _)) _ _
  repeat (refine wpStill_step (fun K hK => ?_); go_simp; first | (refine ⟨_, (opens_any _ _).mono (fun e w' h => ⟨h.1, h.2.symm⟩), hK _ ?_⟩; clear hK K) | (refine hK _ ?_; clear hK K))
  refine wpStill_nil ?_
  go_wp2_with (first | (go_at_call 33; (with_reducible refine (must_ok _ _ _).mono ?_); rintro e w' ⟨rfl, rfl⟩) | (go_at_call 78; refine (opens_any _ _).mono ?_; rintro e w' ⟨rfl, rfl⟩))
  refine bodyPost_ret (results_cell_row rfl _ _ w.heap.size 78 #[.int .i64 t.f0, .int .i64 t.f1, .string t.f2, .string t.f3, .bool t.f4, .bool false, .slice none 0 0, .slice none 0 0] (0, 0) _ rfl ?_ Tryd.underlying78 rfl (by kernel_rfl)) rfl ?_
  · refine blk_alloc ?_ _
    refine blk_set8 (cs := #[.int .i64 0, .int .i64 0, .string ⟨#[]⟩, .string ⟨#[]⟩, .bool false, .bool false, .slice none 0 0, .slice none 0 0]) ?_ rfl _ _ _ _ _ _ _ _
    refine blk_far' ?_ (Nat.ne_of_gt hgw) _
    refine blk_far' ?_ (Nat.ne_of_gt hgw) _
    refine blk_drewN ?_ _
    refine blk_alloc ?_ _
    exact blk_new _ _
  · refine ⟨rfl, cutT (some ⟨bb, oo, ss⟩) c, c - 1, ?_, hCt.out, hc1.out⟩
    have h1 := ((HS.out.alloc (.cells #[.int .i64 0, .int .i64 0, .string ⟨#[]⟩, .string ⟨#[]⟩, .bool false, .bool false, .slice none 0 0, .slice none 0 0] 78)).alloc (.cells #[.int .i64 t.f0, .int .i64 t.f1, .string t.f2, .string t.f3, .bool t.f4] 76)).drewN (nq + 1 + 1)
    have h2 := ((h1.set 1 (.int .i64 (n + 1))).set 0 (.slice (cutT (some ⟨bb, oo, ss⟩) c) r.length (c - 1))).cast (cs' := stP (cutT (some ⟨bb, oo, ss⟩) c) (c - 1) r (n + 1) d) rfl
    have hle := Nat.le_refl w.heap.size
    have hne := Nat.ne_of_lt hgw
    refine Stp.alloc ?_ _
    exact (((((((h2.far' hle hne _).far' hle hne _).far' hle hne _).far' hle hne _).far' hle hne _).far' hle hne _).far' hle hne _).far' hle hne _
set_option maxHeartbeats 1000000 in
set_option maxRecDepth 100000 in
theorem pnode.blk (k : Nat) (HBk : pblk.Con k) (g : Nat) (t : S76) (r : List S76) (n d : Int) (res : PA S78) (w0 w : World) (hS : PSt w0 w g (t :: r) n d w) (hb : opK t.f0) (h6 : t.f0 = 6 → d = 0) (hd0 : 0 ≤ d) (hd : d < 32) (hn0 : 0 ≤ n) (hn : n < 4096) (h : pblk k t r (n + 1) d = some res) :
    Calls Tryd.prog 55 #[.pointer (some ⟨g, 0, none⟩)] w fun e w' => PPost w0 w g d (fun e x w' => ∃ v6 v7 : Value, e = .returned (.agg #[.int .i64 x.f0, .int .i64 x.f1, .string x.f2, .string x.f3, .bool x.f4, .bool x.f5, v6, v7]) ∧ Kd.R k78 78 w' w.heap.size (fun _ => True) v6 x.f6 ∧ Kd.R k78 78 w' w.heap.size (fun _ => True) v7 x.f7) res e w' := by
  replace HBk := Aside0.mk HBk
  replace h := Aside0.mk h
  obtain ⟨A, c, HS, HC, hc⟩ := hS
  obtain ⟨bb, oo, ss, rfl, x0, x1, x2, x3, x4⟩ := head_T28 HC
  rw [List.length_cons] at hc HC
  have hCt := Aside0.mk (cutT_C (by rw [List.length_cons]; exact HC) (by rw [List.length_cons]; exact hc) : Kd.C k76 w0 (cutT (some ⟨bb, oo, ss⟩) c) r.length r)
  have hw1 := cutT1 (some ⟨bb, oo, ss⟩) (r.length + 1) c (by omega)
  simp only [Nat.add_sub_cancel] at hw1
  have hb0 : w.cell? ⟨g, 0, none⟩ = some (.slice (some ⟨bb, oo, ss⟩) (r.length + 1) c) := (HS.cell 0).trans rfl
  have hb2 : w.cell? ⟨g, 2, none⟩ = some (.int .i64 d) := (HS.cell 2).trans rfl
  have hb1 : w.cell? ⟨g, 1, none⟩ = some (.int .i64 n) := (HS.cell 1).trans rfl
  have hf0 := HS.frozen 0
  have hf1 := HS.frozen 1
  have hgw : g < w.heap.size := HS.lt
  have hm := Kd.C_max HC
  replace x0 := HS.old x0
  replace x1 := HS.old x1
  replace x2 := HS.old x2
  replace x3 := HS.old x3
  replace x4 := HS.old x4
  have hads := World.block_lt_of_cell? _ _ x1
  replace HS := Aside0.mk HS
  clear HC
  have hlen : (0 : Int) < ((r.length + 1 : Nat) : Int) := by omega
  have hlen' : 0 < r.length + 1 := by omega
  have hbv : opB t.f0 = true := (opB_iff _).2 hb
  have hdl : decide (d < 32) = true := decide_eq_true hd
  have hd1 := Aside0.mk (show 0 ≤ d ∧ d ≤ 100000 by omega)
  have h4 : ((t.f0 != 6) = true ∧ True) ∨ ((t.f0 != 6) = false ∧ (d == 0) = true) := by
    by_cases e6 : t.f0 = 6
    · exact .inr ⟨by simp [e6], by simp [h6 e6]⟩
    · exact .inl ⟨by simp [e6], trivial⟩
  have hn1 : decide (n < 4096) = true := decide_eq_true hn
  have hnw : IntKind.i64.wrap (n + 1) = n + 1 := by rw [IntKind.wrap_i64]; omega
  have hc1 := Aside0.mk (show r.length ≤ c - 1 by omega)
  clear hb hn hn0 h6 hd hd0
  rcases h4 with ⟨h6', h0'⟩ | ⟨h6', h0'⟩
  all_goals
    go_enter Tryd.func55, Tryd.ntmps55
    go_wp2
    go_quiet (first | (go_at_call 33; refine (must_ok _ _ _).mono ?_; rintro e w' ⟨rfl, rfl⟩; exact ⟨rfl, _, rfl⟩))
    go_wp2
    refine wp_region_still_tail 13 (by kernel_rfl) (by kernel_rfl) ?_
    simp only [List.take_succ_cons, List.take_zero, List.drop_succ_cons, List.drop_zero]
    change wpStill _ _ (World.drew _) (fun a' => wpList _ _ _ _ a' (World.drew _)) _ _
    repeat (refine wpStill_step (fun K hK => ?_); go_simp; first | (refine ⟨_, (opens_any _ _).mono (fun e w' h => ⟨h.1, h.2.symm⟩), hK _ ?_⟩; clear hK K) | (refine hK _ ?_; clear hK K))
    refine wpStill_nil ?_
    go_wp2_with (go_at_call 33; (with_reducible refine (must_ok _ _ _).mono ?_); rintro e w' ⟨rfl, rfl⟩)
    refine wp_region_still_tail 7 (by kernel_rfl) (by kernel_rfl) ?_
    simp only [List.take_succ_cons, List.take_zero, List.drop_succ_cons, List.drop_zero]
    change wpStill _ _ (World.drew _) (fun a' => wpList _ _ _ _ a' (World.drew _)) _ _
    repeat (refine wpStill_step (fun K hK => ?_); go_simp; first | (refine ⟨_, (opens_any _ _).mono (fun e w' h => ⟨h.1, h.2.symm⟩), hK _ ?_⟩; clear hK K) | (refine hK _ ?_; clear hK K))
    refine wpStill_nil ?_
    go_wp2_with (first | (go_at_call 33; (with_reducible refine (must_ok _ _ _).mono ?_); rintro e w' ⟨rfl, rfl⟩) | (go_at_call 78; refine (opens_any _ _).mono ?_; rintro e w' ⟨rfl, rfl⟩) | fail)
    clear x0 x1 x2 x3 x4 hb0 hb1 hb2 hf0 hf1 hw1 hlen hlen' hm hads hn1 hnw hdl hbv
    have hle := Nat.le_refl w.heap.size
    have hne := Nat.ne_of_lt hgw
    have hret0 : ((((((w.alloc (.cells #[.int .i64 0, .int .i64 0, .string ⟨#[]⟩, .string ⟨#[]⟩, .bool false, .bool false, .slice none 0 0, .slice none 0 0] 78)).alloc (.cells #[.int .i64 t.f0, .int .i64 t.f1, .string t.f2, .string t.f3, .bool t.f4] 76)).drewN (nq + 1 + 1)).setCell ⟨g, 1, none⟩ (.int .i64 (n + 1))).setCell ⟨g, 0, none⟩ (.slice (cutT (some ⟨bb, oo, ss⟩) c) r.length (c - 1))).alloc (.cells #[.int .i64 t.f0, .int .i64 t.f1, .string t.f2, .string t.f3, .bool t.f4, .bool false, .slice none 0 0, .slice none 0 0] 78)).heap[w.heap.size]? = some (.cells #[.int .i64 0, .int .i64 0, .string ⟨#[]⟩, .string ⟨#[]⟩, .bool false, .bool false, .slice none 0 0, .slice none 0 0] 78 (0, 0)) := by
      refine blk_alloc ?_ _
      refine blk_far' ?_ (Nat.ne_of_gt hgw) _
      refine blk_far' ?_ (Nat.ne_of_gt hgw) _
      refine blk_drewN ?_ _
      refine blk_alloc ?_ _
      exact blk_new _ _
    replace hret0 := Aside0.mk hret0
    refine (HBk.out g (w.heap.size + 1 + 1) t r (n + 1) d res w0 w _ ?_ ?_ (by omega) (by omega) hgw hd1.out h.out).mono ?_
    · refine ⟨cutT (some ⟨bb, oo, ss⟩) c, c - 1, Stp.alloc ?_ _, hCt.out, hc1.out⟩
      have h1 := ((HS.out.alloc (.cells #[.int .i64 0, .int .i64 0, .string ⟨#[]⟩, .string ⟨#[]⟩, .bool false, .bool false, .slice none 0 0, .slice none 0 0] 78)).alloc (.cells #[.int .i64 t.f0, .int .i64 t.f1, .string t.f2, .string t.f3, .bool t.f4] 76)).drewN (nq + 1 + 1)
      exact ((h1.set 1 (.int .i64 (n + 1))).set 0 (.slice (cutT (some ⟨bb, oo, ss⟩) c) r.length (c - 1))).cast (cs' := stP (cutT (some ⟨bb, oo, ss⟩) c) (c - 1) r (n + 1) d) rfl
    · exact blk_new' (by simp)
    intro e w2 hP
    cases res with
    | error e1 =>
      obtain ⟨at_, er⟩ := e1
      obtain ⟨rfl, hbe⟩ := hP
      clear hret0
      go_wp2
      exact ⟨rfl, rfl, hbe⟩
    | ok q =>
      obtain ⟨x, l2, n2⟩ := q
      obtain ⟨rfl, HS2, ⟨v6, v7, HB, R6, R7⟩, hkeep⟩ := hP
      have HR := hkeep _ _ hret0.out (Nat.ne_of_gt hgw) (by omega)
      clear hkeep hret0
      obtain ⟨A6, c6, rfl⟩ := Kd.R_slice R6
      obtain ⟨A7, c7, rfl⟩ := Kd.R_slice R7
      have hlt2 : w.heap.size < ((((((w.alloc (.cells #[.int .i64 0, .int .i64 0, .string ⟨#[]⟩, .string ⟨#[]⟩, .bool false, .bool false, .slice none 0 0, .slice none 0 0] 78)).alloc (.cells #[.int .i64 t.f0, .int .i64 t.f1, .string t.f2, .string t.f3, .bool t.f4] 76)).drewN (nq + 1 + 1)).setCell ⟨g, 1, none⟩ (.int .i64 (n + 1))).setCell ⟨g, 0, none⟩ (.slice (cutT (some ⟨bb, oo, ss⟩) c) r.length (c - 1))).alloc (.cells #[.int .i64 t.f0, .int .i64 t.f1, .string t.f2, .string t.f3, .bool t.f4, .bool false, .slice none 0 0, .slice none 0 0] 78)).heap.size := by simp; omega
      have R6' := Aside0.mk (Kd.R_lower (R_farB (R_farB (R_farB (R_farB (R_farB (R_farB (R_farB (R_farB R6 (j := 0) hlt2 (.int .i64 x.f0)) (j := 1) hlt2 (.int .i64 x.f1)) (j := 2) hlt2 (.string x.f2)) (j := 3) hlt2 (.string x.f3)) (j := 4) hlt2 (.bool x.f4)) (j := 5) hlt2 (.bool x.f5)) (j := 6) hlt2 (.slice A6 x.f6.length c6)) (j := 7) hlt2 (.slice A7 x.f7.length c7)) (Nat.le_of_lt hlt2))
      have R7' := Aside0.mk (Kd.R_lower (R_farB (R_farB (R_farB (R_farB (R_farB (R_farB (R_farB (R_farB R7 (j := 0) hlt2 (.int .i64 x.f0)) (j := 1) hlt2 (.int .i64 x.f1)) (j := 2) hlt2 (.string x.f2)) (j := 3) hlt2 (.string x.f3)) (j := 4) hlt2 (.bool x.f4)) (j := 5) hlt2 (.bool x.f5)) (j := 6) hlt2 (.slice A6 x.f6.length c6)) (j := 7) hlt2 (.slice A7 x.f7.length c7)) (Nat.le_of_lt hlt2))
      clear R6 R7 hlt2
      have c0 : w2.cell? ⟨w.heap.size + 1 + 1, 0, none⟩ = some (.int .i64 x.f0) := (blk_cell HB 0).trans rfl
      have c1 : w2.cell? ⟨w.heap.size + 1 + 1, 1, none⟩ = some (.int .i64 x.f1) := (blk_cell HB 1).trans rfl
      have c2 : w2.cell? ⟨w.heap.size + 1 + 1, 2, none⟩ = some (.string x.f2) := (blk_cell HB 2).trans rfl
      have c3 : w2.cell? ⟨w.heap.size + 1 + 1, 3, none⟩ = some (.string x.f3) := (blk_cell HB 3).trans rfl
      have c4 : w2.cell? ⟨w.heap.size + 1 + 1, 4, none⟩ = some (.bool x.f4) := (blk_cell HB 4).trans rfl
      have c5 : w2.cell? ⟨w.heap.size + 1 + 1, 5, none⟩ = some (.bool x.f5) := (blk_cell HB 5).trans rfl
      have c6' : w2.cell? ⟨w.heap.size + 1 + 1, 6, none⟩ = some (.slice A6 x.f6.length c6) := (blk_cell HB 6).trans rfl
      have c7' : w2.cell? ⟨w.heap.size + 1 + 1, 7, none⟩ = some (.slice A7 x.f7.length c7) := (blk_cell HB 7).trans rfl
      have y0 : w2.cell? ⟨w.heap.size, 0, none⟩ = some (.int .i64 0) := (blk_cell HR 0).trans rfl
      have y1 : w2.cell? ⟨w.heap.size, 1, none⟩ = some (.int .i64 0) := (blk_cell HR 1).trans rfl
      have y2 : w2.cell? ⟨w.heap.size, 2, none⟩ = some (.string ⟨#[]⟩) := (blk_cell HR 2).trans rfl
      have y3 : w2.cell? ⟨w.heap.size, 3, none⟩ = some (.string ⟨#[]⟩) := (blk_cell HR 3).trans rfl
      have y4 : w2.cell? ⟨w.heap.size, 4, none⟩ = some (.bool false) := (blk_cell HR 4).trans rfl
      have y5 : w2.cell? ⟨w.heap.size, 5, none⟩ = some (.bool false) := (blk_cell HR 5).trans rfl
      have y6 : w2.cell? ⟨w.heap.size, 6, none⟩ = some (.slice none 0 0) := (blk_cell HR 6).trans rfl
      have y7 : w2.cell? ⟨w.heap.size, 7, none⟩ = some (.slice none 0 0) := (blk_cell HR 7).trans rfl
      have z0 := blk_frozen HR 0
      have z1 := blk_frozen HR 1
      have z2 := blk_frozen HR 2
      have z3 := blk_frozen HR 3
      have z4 := blk_frozen HR 4
      have z5 := blk_frozen HR 5
      have z6 := blk_frozen HR 6
      have z7 := blk_frozen HR 7
      replace HR := Aside0.mk HR
      replace HS2 := Aside0.mk HS2
      clear HB HS
      go_wp2
      refine bodyPost_ret (results_cell_row rfl _ _ w.heap.size 78 #[.int .i64 x.f0, .int .i64 x.f1, .string x.f2, .string x.f3, .bool x.f4, .bool x.f5, .slice A6 x.f6.length c6, .slice A7 x.f7.length c7] (0, 0) _ rfl ?_ Tryd.underlying78 rfl (by kernel_rfl)) rfl ?_
      · exact blk_set8 HR.out rfl _ _ _ _ _ _ _ _
      · obtain ⟨A', c', S2, HC2, hc2⟩ := HS2.out
        exact ⟨⟨_, _, rfl, R6'.out, R7'.out⟩, A', c', (((((((S2.far' hle hne _).far' hle hne _).far' hle hne _).far' hle hne _).far' hle hne _).far' hle hne _).far' hle hne _).far' hle hne _, HC2, hc2⟩
set_option maxHeartbeats 4000000 in
set_option maxRecDepth 100000 in
theorem pnode.step (k : Nat) (ihb : ∀ m, m < k → pblk.Con m) : pnode.Con k := by
  intro g t r n d res w0 w hS h
  have hS0 := Aside0.mk hS
  obtain ⟨A, c, HS, HC, hc⟩ := hS
  have hgw : g < w.heap.size := HS.lt
  cases k with
  | zero => exact absurd h (by simp [pnode])
  | succ k =>
  have HBk := Aside0.mk (ihb k (by omega)); clear ihb
  rw [pnode_eq] at h
  by_cases hi : 0 ≤ n ∧ 0 ≤ d
  case neg => rw [if_neg hi] at h; cases h
  rw [if_pos hi] at h
  have H := Aside0.mk h; clear h
  obtain ⟨hn0, hd0⟩ := hi
  obtain ⟨bb, oo, ss, rfl, x0, x1, x2, x3, x4⟩ := head_T28 HC
  rw [List.length_cons] at hc HC
  have hCt := Aside0.mk (cutT_C (by rw [List.length_cons]; exact HC) (by rw [List.length_cons]; exact hc) : Kd.C k76 w0 (cutT (some ⟨bb, oo, ss⟩) c) r.length r)
  have hw1 := cutT1 (some ⟨bb, oo, ss⟩) (r.length + 1) c (by omega)
  simp only [Nat.add_sub_cancel] at hw1
  have hb0 : w.cell? ⟨g, 0, none⟩ = some (.slice (some ⟨bb, oo, ss⟩) (r.length + 1) c) := (HS.cell 0).trans rfl
  have hb1 : w.cell? ⟨g, 1, none⟩ = some (.int .i64 n) := (HS.cell 1).trans rfl
  have hb2 : w.cell? ⟨g, 2, none⟩ = some (.int .i64 d) := (HS.cell 2).trans rfl
  have hf0 := HS.frozen 0
  have hf1 := HS.frozen 1
  have hm := Kd.C_max HC
  replace x0 := HS.old x0
  replace x1 := HS.old x1
  replace x2 := HS.old x2
  replace x3 := HS.old x3
  replace x4 := HS.old x4
  have hads := World.block_lt_of_cell? _ _ x1
  replace HS := Aside0.mk HS
  clear HC
  have hlen : (0 : Int) < ((r.length + 1 : Nat) : Int) := by omega
  have hlen' : 0 < r.length + 1 := by omega
  by_cases h6 : t.f0 = 6 ∧ d > 0
  · have H2 := H.out; clear H
    rw [if_pos h6] at H2
    cases H2
    have h6' : (t.f0 != 6) = false := by simp [h6.1]
    have hd' : (d == 0) = false := by rw [beq_eq_false_iff_ne]; omega
    clear h6 hCt hw1
    go_enter Tryd.func55, Tryd.ntmps55
    go_wp2
    go_region_dies
    all_goals
      go_wp2_with (go_at_call 33; (with_reducible refine (must_no _ _ _).mono ?_); rintro e w' ⟨rfl, rfl⟩)
      exact ⟨rfl, rfl, by repeat (first | exact HS.out.bel | apply below_alloc | apply pw_below_drewN | apply below_drew1)⟩
  rw [if_neg h6] at H
  by_cases hbd : opK t.f0 ∧ d ≥ 32
  · have H2 := H.out; clear H
    rw [if_pos hbd] at H2
    cases H2
    exact pnode.deep g t r n d w0 w hS0.out (fun e => h6 ⟨e, by have := hbd.2; omega⟩) hbd.1 hbd.2
  rw [if_neg hbd] at H
  have h4 : ((t.f0 != 6) = false ∧ opB t.f0 = true ∧ (d == 0) = true ∧ d < 32) ∨ ((t.f0 != 6) = true ∧ ((opB t.f0 = true ∧ d < 32) ∨ opB t.f0 = false)) := by
    by_cases e6 : t.f0 = 6
    · have hd0 : ¬ d > 0 := fun hd => h6 ⟨e6, hd⟩
      exact .inl ⟨by simp [e6], (opB_iff _).2 (.inr (.inr e6)), by rw [beq_iff_eq]; omega, by omega⟩
    · refine .inr ⟨by simp [e6], ?_⟩
      by_cases eb : opK t.f0
      · refine .inl ⟨(opB_iff _).2 eb, ?_⟩
        rcases Int.lt_or_le d 32 with h | h
        · exact h
        · exact absurd ⟨eb, h⟩ hbd
      · refine .inr ?_
        rw [← Bool.not_eq_true, opB_iff]; exact eb
  have h6' := h6
  have hbd' := hbd
  clear h6 hbd
  by_cases hn : n ≥ 4096
  · have H2 := H.out; clear H
    rw [if_pos hn] at H2
    cases H2
    have hn' : decide (n < 4096) = false := decide_eq_false (by omega)
    clear hn hCt hw1 h6' hbd'
    rcases h4 with ⟨e6, eb, ed, ed2⟩ | ⟨e6, ⟨eb, ed2⟩ | eb⟩
    all_goals
      go_enter Tryd.func55, Tryd.ntmps55
      go_wp2
      go_quiet (first | (go_at_call 33; refine (must_ok _ _ _).mono ?_; rintro e w' ⟨rfl, rfl⟩; exact ⟨rfl, _, rfl⟩))
      go_wp2
      go_quiet (first | (go_at_call 78; refine (opens_any _ _).mono ?_; rintro e w' ⟨rfl, rfl⟩; exact ⟨rfl, _, rfl⟩) | (go_at_call 33; refine (must_ok _ _ _).mono ?_; rintro e w' ⟨rfl, rfl⟩; exact ⟨rfl, _, rfl⟩))
      go_wp2
      go_region_dies
      all_goals
        go_wp2_with (go_at_call 33; (with_reducible refine (must_no _ _ _).mono ?_); rintro e w' ⟨rfl, rfl⟩)
        exact ⟨rfl, rfl, by repeat (first | exact HS.out.bel | apply below_alloc | apply pw_below_drewN | apply below_drew1)⟩
  rw [if_neg hn] at H
  clear h4
  by_cases eb : opK t.f0
  case neg =>
    rw [if_neg eb] at H
    have H2 := H.out; clear H
    cases H2
    exact (pnode.leaf g t r n d w0 w hS0.out eb hn0 (by omega)).mono fun e w' h => ⟨⟨_, _, h.1, Kd.R_nil _ _ _ _ _, Kd.R_nil _ _ _ _ _⟩, h.2⟩
  rw [if_pos eb] at H
  exact pnode.blk k HBk.out g t r n d res w0 w hS0.out eb (fun e => Int.le_antisymm (Int.not_lt.1 fun h => h6' ⟨e, h⟩) hd0) hd0 (Int.not_le.1 fun h => hbd' ⟨eb, h⟩) hn0 (by omega) H.out
end Go.Proofs.YtkpnfejfbmandaaDoor.Px

/- Package parse: the closure that recovers, Parse. -/
namespace Go.Proofs.YtkpnfejfbmandaaDoor.Px
open Go.RowKit Go.Proofs.YtkpnfejfbmandaaDoorW.PrintWords Go.Proofs.YtkpnfejfbmandaaDoorW.PrintLast Go.Proofs.YtkpnfejfbmandaaDoorW.PrintMore
set_option linter.unusedVariables false
set_option linter.unusedSimpArgs false
theorem parser.all (k : Nat) : plist.Con k ∧ pnode.Con k ∧ pblk.Con k := by
  induction k using Nat.strongRecOn with
  | _ k ih =>
    have hl := plist.step k (fun m h => (ih m h).2.1)
    exact ⟨hl, pnode.step k (fun m h => (ih m h).2.2), pblk.step k hl⟩
theorem frame42 (p0 p1 p2 i t g b q : Value) : #[p0, p1, p2] ++ (((((((Array.replicate 12 undef).setIfInBounds 3 i).setIfInBounds 4 t).setIfInBounds 2 t).setIfInBounds 5 g).setIfInBounds 6 b).setIfInBounds 0 q).setIfInBounds 1 b = #[p0, p1, p2, q, b, t, i, t, g, b, undef, undef, undef, undef, undef] := by
  apply Array.ext'
  simp [Array.toList_replicate, List.replicate]
set_option maxHeartbeats 4000000 in
set_option maxRecDepth 100000 in
theorem catch_boom (b0 b1 b2 : Nat) (at_ er a1 a2 : Int) (v0 : Value) (older : List PanicEntry) (w : World)
    (h0 : w.cell? ⟨b0, 0, none⟩ = some v0) (h1 : w.cell? ⟨b1, 0, none⟩ = some (.int .i64 a1)) (h2 : w.cell? ⟨b2, 0, none⟩ = some (.int .i64 a2))
    (z0 : w.frozen? ⟨b0, 0, none⟩ = false) (z1 : w.frozen? ⟨b1, 0, none⟩ = false) (z2 : w.frozen? ⟨b2, 0, none⟩ = false)
    (l0 : b0 < w.heap.size) (l1 : b1 < w.heap.size) (l2 : b2 < w.heap.size) (n01 : b0 ≠ b1) (n02 : b0 ≠ b2) (n12 : b1 ≠ b2) :
    CallsD Tryd.prog 31 #[.pointer (some ⟨b0, 0, none⟩), .pointer (some ⟨b1, 0, none⟩), .pointer (some ⟨b2, 0, none⟩)] (.panicking ({ v := .iface 68 (.agg #[.int .i64 at_, .int .i64 er]), recovered := false } :: older)) w fun e u' w' =>
      e = .returned (.tuple #[]) ∧ u' = .panicking ({ v := .iface 68 (.agg #[.int .i64 at_, .int .i64 er]), recovered := true } :: older) ∧ w' = ((((w.setCell ⟨b0, 0, none⟩ (.slice none 0 0)).setCell ⟨b1, 0, none⟩ (.int .i64 at_)).setCell ⟨b2, 0, none⟩ (.int .i64 er)).alloc (.cells #[.int .i64 at_, .int .i64 er] 68)).drew := by
  have hta : ∀ (x y : Int) (W : World), (Instr.typeAssert (.iface 68 (.agg #[.int .i64 x, .int .i64 y])) 20 68 true).run Tryd.prog W = .ok (.tuple #[.agg #[.int .i64 x, .int .i64 y], .bool true]) W := fun _ _ _ => by kernel_rfl
  refine callsD_of_wpS Tryd.func31 rfl fun c₀ cs hu => ?_
  apply wpS_seq
  apply wpS_region
  simp [wpOpsS, go_sem, recoverD, hu, Tryd.ntmps31, Exit.thenS, hta]
  refine wpS_of_wp (wp_mono (Q := fun e a' w' => e = .normal ∧ a'.defers = [] ∧ w' = ((((w.setCell ⟨b0, 0, none⟩ (.slice none 0 0)).setCell ⟨b1, 0, none⟩ (.int .i64 at_)).setCell ⟨b2, 0, none⟩ (.int .i64 er)).alloc (.cells #[.int .i64 at_, .int .i64 er] 68)).drew) ?_ ?_)
  · clear hu hta
    rw [frame42]
    go_wp2
    go_region
    all_goals exact ⟨rfl, rfl, rfl⟩
  · rintro e a' w' ⟨rfl, hd, rfl⟩
    simp [hd, bodyPostS, results, Tryd.results31]
set_option maxRecDepth 100000 in
theorem catch_idle (b0 b1 b2 : Nat) (w : World) :
    CallsD Tryd.prog 31 #[.pointer (some ⟨b0, 0, none⟩), .pointer (some ⟨b1, 0, none⟩), .pointer (some ⟨b2, 0, none⟩)] .returning w fun e u' w' =>
      e = .returned (.tuple #[]) ∧ u' = .returning ∧ w' = w.alloc (.cells #[.int .i64 0, .int .i64 0] 68) := by
  have hta : ∀ (W : World), (Instr.typeAssert .nilIface 20 68 true).run Tryd.prog W = .ok (.tuple #[.agg #[.int .i64 0, .int .i64 0], .bool false]) W := fun _ => by kernel_rfl
  refine callsD_of_wpS Tryd.func31 rfl fun c₀ cs hu => ?_
  apply wpS_seq
  apply wpS_region
  simp [wpOpsS, go_sem, recoverD, hu, Tryd.ntmps31, Exit.thenS, hta]
  refine wpS_of_wp (wp_mono (Q := fun e a' w' => e = .normal ∧ a'.defers = [] ∧ w' = w.alloc (.cells #[.int .i64 0, .int .i64 0] 68)) ?_ ?_)
  · clear hta
    rw [frame42]
    go_wp2
  · rintro e a' w' ⟨rfl, hd, rfl⟩
    simp [hd, hu, bodyPostS, results, Tryd.results31]
    cases c₀
    simp_all
def parseR (s : ByteArray) : PA (List S78) → List S78 × Int × Int
  | .error (a, e) => ([], a, e)
  | .ok (out, [], _) => (out, s.size, 0)
  | .ok (_, t :: _, _) => ([], t.f1, 13)
def parse_Parse.f (k : Nat) (s : ByteArray) : Option (List S78 × Int × Int) :=
  if (lexF s).2.2 = 0 then (plist k (lexF s).1 0 0 []).map (parseR s) else some ([], (lexF s).2.1, (lexF s).2.2)
theorem plist_nil (k : Nat) (n d : Int) (out : List S78) : plist (k + 1) [] n d out = some (.ok (out, [], n)) := by rw [plist]
theorem plist_cons (k : Nat) (t : S76) (r : List S76) (n d : Int) (out : List S78) : plist (k + 1) (t :: r) n d out =
    if out.length < 100000 then
      if t.f0 = 7 ∨ t.f0 = 8 then some (.ok (out, t :: r, n))
      else match pnode k t r n d with
        | none => none
        | some (.error e) => some (.error e)
        | some (.ok (x, r', n')) => plist k r' n' d (out ++ [x])
    else none := by rw [plist]; try rfl
theorem pblk.mono {k : Nat} (h : ∀ l n d out, LeO (plist k l n d out) (plist (k + 1) l n d out)) (t : S76) (r : List S76) (n d : Int) : LeO (pblk k t r n d) (pblk (k + 1) t r n d) := by
  intro res hr
  unfold pblk at hr ⊢
  cases hp : plist k r n (d + 1) [] with
  | none => rw [hp] at hr; cases hr
  | some q =>
    rw [hp] at hr
    rw [h _ _ _ _ _ hp]
    cases q with
    | error e => exact hr
    | ok q =>
      obtain ⟨body, l1, n1⟩ := q
      cases l1 with
      | nil => exact hr
      | cons t1 r2 =>
        dsimp only at hr ⊢
        by_cases h7 : t1.f0 = 7
        · rw [if_pos h7] at hr ⊢
          by_cases h2 : t.f0 = 2
          · rw [if_pos h2] at hr ⊢
            cases hp2 : plist k r2 n1 (d + 1) [] with
            | none => rw [hp2] at hr; cases hr
            | some q =>
              rw [hp2] at hr
              rw [h _ _ _ _ _ hp2]
              exact hr
          · rw [if_neg h2] at hr ⊢; exact hr
        · rw [if_neg h7] at hr ⊢; exact hr
theorem parser.mono : ∀ k, (∀ l n d out, LeO (plist k l n d out) (plist (k + 1) l n d out)) ∧ (∀ t r n d, LeO (pnode k t r n d) (pnode (k + 1) t r n d))
  | 0 => ⟨fun l n d out r h => by simp [plist] at h, fun t r n d q h => by simp [pnode] at h⟩
  | k + 1 => by
    obtain ⟨ihl, ihn⟩ := parser.mono k
    refine ⟨?_, ?_⟩
    · intro l n d out
      cases l with
      | nil => rw [plist_nil, plist_nil]; exact LeO.refl _
      | cons t r =>
        rw [plist_cons, plist_cons]
        refine LeO.ite (LeO.ite (LeO.refl _) ?_) (LeO.refl _)
        intro q h
        cases hp : pnode k t r n d with
        | none => rw [hp] at h; cases h
        | some x =>
          rw [hp] at h
          rw [ihn _ _ _ _ _ hp]
          cases x with
          | error e => exact h
          | ok y => exact ihl _ _ _ _ _ h
    · intro t r n d
      rw [pnode_eq, pnode_eq]
      refine LeO.ite (LeO.ite (LeO.refl _) (LeO.ite (LeO.refl _) (LeO.ite (LeO.refl _) (LeO.ite ?_ (LeO.refl _))))) (LeO.refl _)
      exact pblk.mono ihl _ _ _ _
theorem res19 (tmps : Array Value) (w : World) (b0 b1 b2 : Nat) (A : Option Addr) (m c : Nat) (x y : Int)
    (h2 : tmps.getD 2 undef = .pointer (some ⟨b0, 0, none⟩)) (h3 : tmps.getD 3 undef = .pointer (some ⟨b1, 0, none⟩)) (h4 : tmps.getD 4 undef = .pointer (some ⟨b2, 0, none⟩))
    (c0 : w.cell? ⟨b0, 0, none⟩ = some (.slice A m c)) (c1 : w.cell? ⟨b1, 0, none⟩ = some (.int .i64 x)) (c2 : w.cell? ⟨b2, 0, none⟩ = some (.int .i64 y)) :
    (results Tryd.f10 tmps).run Tryd.prog w = .ok (.tuple #[.slice A m c, .int .i64 x, .int .i64 y]) w := by
  have h2' : tmps[2]?.getD undef = .pointer (some ⟨b0, 0, none⟩) := by simpa using h2
  have h3' : tmps[3]?.getD undef = .pointer (some ⟨b1, 0, none⟩) := by simpa using h3
  have h4' : tmps[4]?.getD undef = .pointer (some ⟨b2, 0, none⟩) := by simpa using h4
  simp [results, Tryd.results19, go_sem, asAddr, h2', h3', h4', c0, c1, c2]
theorem parse_Parse.mono (s : ByteArray) (k : Nat) : LeO (parse_Parse.f k s) (parse_Parse.f (k + 1) s) := LeO.ite (LeO.map _ ((parser.mono k).1 _ _ _ _)) (LeO.refl _)
set_option maxHeartbeats 4000000 in
set_option maxRecDepth 100000 in
theorem parse_Parse.calls (k : Nat) (s : ByteArray) (r1 : List S78) (r2 r3 : Int) (w : World) (hG_ : GS w) (h : parse_Parse.f k s = some (r1, r2, r3)) :
    Calls Tryd.prog 10 #[.string s] w fun e w' => ∃ v : Value, e = .returned (.tuple #[v, .int .i64 r2, .int .i64 r3]) ∧ Kd.R k78 78 w' w.heap.size (fun _ => True) v r1 ∧ Below w.heap.size w w' := by
  have HG := Aside0.mk hG_
  have H := Aside0.mk h
  clear hG_ h
  obtain ⟨l, n, er, hL⟩ : ∃ l n er, lexF s = (l, n, er) := ⟨_, _, _, rfl⟩
  have HX : lex_Lex.f s = some (l, n, er) := by unfold lex_Lex.f; rw [hL]
  replace hL := Aside0.mk hL
  replace HX := Aside0.mk HX
  have hmf : ∀ (fn : Fn) (first cap : Array Value) (w : World), (Instr.makeFunc fn first cap).run Tryd.prog w = .ok (.func fn first cap) w := fun _ _ _ _ => rfl
  go_enter_defers Tryd.func10, Tryd.ntmps10
  go_wp2_with fail
  refine (lex_Lex.calls s l n er _ (HG.out.below (below_alloc (below_alloc (below_alloc (Below.refl _ _) _) _) _)) HX.out).mono ?_
  rintro e w1 ⟨v, rfl, HR, HB⟩
  have HRs := Kd.R_slice HR
  obtain ⟨A, c, rfl⟩ := HRs
  replace HR := Aside0.mk HR
  have b0 : w1.heap[w.heap.size]? = some (.cells #[.slice none 0 0] 23 (0, 0)) := blk_below (blk_alloc (blk_alloc (blk_new _ _) _) _) HB
  have b1 : w1.heap[w.heap.size + 1]? = some (.cells #[.int .i64 0] 3 (0, 0)) := blk_below (blk_alloc (blk_new' (by simp)) _) HB
  have b2 : w1.heap[w.heap.size + 1 + 1]? = some (.cells #[.int .i64 0] 24 (0, 0)) := blk_below (blk_new' (by simp)) HB
  have l2 := blk_lt b2
  have c0 : w1.cell? ⟨w.heap.size, 0, none⟩ = some (.slice none 0 0) := (blk_cell b0 0).trans rfl
  have c1 : w1.cell? ⟨w.heap.size + 1, 0, none⟩ = some (.int .i64 0) := (blk_cell b1 0).trans rfl
  have c2 : w1.cell? ⟨w.heap.size + 1 + 1, 0, none⟩ = some (.int .i64 0) := (blk_cell b2 0).trans rfl
  have z0 := blk_frozen b0 0
  have z1 := blk_frozen b1 0
  have z2 := blk_frozen b2 0
  have HB0 := Aside0.mk b0
  clear b0 b1 b2
  replace HB := Aside0.mk (below_step (below_alloc (below_alloc (below_alloc (Below.refl w.heap.size w) _) _) _) HB)
  by_cases he : er = 0
  case neg =>
    have he' : (er != 0) = true := by rw [bne_iff_ne]; exact he
    have H2 := H.out
    unfold parse_Parse.f at H2
    rw [hL.out] at H2
    dsimp only at H2
    rw [if_neg he] at H2
    simp only [Option.some.injEq, Prod.mk.injEq] at H2
    obtain ⟨rfl, rfl, rfl⟩ := H2
    clear he hmf HR H hL HX
    go_wp2
    go_region
    all_goals
      go_wp2
      refine ⟨.tuple #[.slice none 0 0, .int .i64 n, .int .i64 er], res19 _ _ w.heap.size (w.heap.size + 1) (w.heap.size + 1 + 1) _ _ _ _ _ rfl rfl rfl (by go_simp) (by go_simp) (by go_simp; exact World.cell?_setCell_same' _ _ _ (by go_simp)), ?_⟩
      refine ⟨_, rfl, Kd.R_nil _ _ _ _ _, ?_⟩
      repeat (first | exact HB.out | apply below_drew1 | apply pw_below_drewN | apply below_alloc | (refine below_set ?_ (by omega)))
  subst he
  have hsz : s.size ≤ 65536 := by
    have h := hL.out
    unfold lexF at h
    split at h
    · simp only [Prod.mk.injEq] at h; have := h.2.2; omega
    · omega
  clear HX
  have H2 := H.out; clear H
  unfold parse_Parse.f at H2
  rw [hL.out] at H2
  dsimp only at H2
  rw [if_pos rfl] at H2
  obtain ⟨res, hp, hr⟩ := Option.map_eq_some_iff.1 H2
  clear H2
  replace hp := Aside0.mk hp
  replace hr := Aside0.mk hr
  replace hsz := Aside0.mk hsz
  clear hL
  go_wp2_with fail
  have hX : ((w1.setCell ⟨w.heap.size + 1, 0, none⟩ (.int .i64 n)).setCell ⟨w.heap.size + 1 + 1, 0, none⟩ (.int .i64 0)).heap.size = w1.heap.size := by simp
  have HX0 : ((w1.setCell ⟨w.heap.size + 1, 0, none⟩ (.int .i64 n)).setCell ⟨w.heap.size + 1 + 1, 0, none⟩ (.int .i64 0)).cell? ⟨w.heap.size, 0, none⟩ = some (.slice none 0 0) := by go_simp
  have HX1 : ((w1.setCell ⟨w.heap.size + 1, 0, none⟩ (.int .i64 n)).setCell ⟨w.heap.size + 1 + 1, 0, none⟩ (.int .i64 0)).cell? ⟨w.heap.size + 1, 0, none⟩ = some (.int .i64 n) := by go_simp
  have HX2 : ((w1.setCell ⟨w.heap.size + 1, 0, none⟩ (.int .i64 n)).setCell ⟨w.heap.size + 1 + 1, 0, none⟩ (.int .i64 0)).cell? ⟨w.heap.size + 1 + 1, 0, none⟩ = some (.int .i64 0) := by first | (go_simp; done) | exact World.cell?_setCell_same' _ _ _ (by go_simp)
  have HZ0 : ((w1.setCell ⟨w.heap.size + 1, 0, none⟩ (.int .i64 n)).setCell ⟨w.heap.size + 1 + 1, 0, none⟩ (.int .i64 0)).frozen? ⟨w.heap.size, 0, none⟩ = false := by go_simp
  have HZ1 : ((w1.setCell ⟨w.heap.size + 1, 0, none⟩ (.int .i64 n)).setCell ⟨w.heap.size + 1 + 1, 0, none⟩ (.int .i64 0)).frozen? ⟨w.heap.size + 1, 0, none⟩ = false := by go_simp
  have HZ2 : ((w1.setCell ⟨w.heap.size + 1, 0, none⟩ (.int .i64 n)).setCell ⟨w.heap.size + 1 + 1, 0, none⟩ (.int .i64 0)).frozen? ⟨w.heap.size + 1 + 1, 0, none⟩ = false := by go_simp
  replace HB0 := Aside0.mk (show ((w1.setCell ⟨w.heap.size + 1, 0, none⟩ (.int .i64 n)).setCell ⟨w.heap.size + 1 + 1, 0, none⟩ (.int .i64 0)).heap[w.heap.size]? = some (.cells #[.slice none 0 0] 23 (0, 0)) from blk_far' (blk_far' HB0.out (by omega) _) (by omega) _)
  have HBX := Aside0.mk (below_set (j := 0) (v := .int .i64 0) (below_set (j := 0) (v := .int .i64 n) HB.out (show w.heap.size ≤ w.heap.size + 1 by omega)) (show w.heap.size ≤ w.heap.size + 1 + 1 by omega))
  have hrl : w.heap.size + 1 + 1 < (((w.alloc (.cells #[.slice none 0 0] 23)).alloc (.cells #[.int .i64 0] 3)).alloc (.cells #[.int .i64 0] 24)).heap.size := by simp
  have HRX := Aside0.mk (Kd.R_reads' (R_farB (R_farB HR.out (k := w.heap.size + 1) (j := 0) (by omega) (.int .i64 n)) (j := 0) hrl (.int .i64 0)))
  clear HR HB c0 c1 c2 z0 z1 z2 hrl
  rw [← hX] at l2 ⊢
  generalize (w1.setCell ⟨w.heap.size + 1, 0, none⟩ (.int .i64 n)).setCell ⟨w.heap.size + 1 + 1, 0, none⟩ (.int .i64 0) = X at *
  clear hX
  have hSt : PSt X (X.alloc (.cells (stP A c l 0 0) 72)) X.heap.size l 0 0 (X.alloc (.cells (stP A c l 0 0) 72)) := ⟨A, c, Stp.start (blk_new _ _) (below_alloc (Below.refl _ _) _) (Nat.le_refl _), HRX.out.2.2, HRX.out.2.1⟩
  have HL := (parser.all k).1 X.heap.size l 0 0 res X (X.alloc (.cells (stP A c l 0 0) 72)) hSt hp.out
  clear hSt HRX hp
  refine HL.mono ?_
  clear HL
  cases res with
  | error q =>
    obtain ⟨at_, er⟩ := q
    rintro e w2 ⟨rfl, HB2⟩
    have H2 := hr.out; clear hr
    simp only [parseR, Prod.mk.injEq] at H2
    obtain ⟨rfl, rfl, rfl⟩ := H2
    have g0 : w2.cell? ⟨w.heap.size, 0, none⟩ = some (.slice none 0 0) := (HB2.cell (by show w.heap.size < X.heap.size; omega)).trans HX0
    have g1 : w2.cell? ⟨w.heap.size + 1, 0, none⟩ = some (.int .i64 n) := (HB2.cell (by show w.heap.size + 1 < X.heap.size; omega)).trans HX1
    have g2 : w2.cell? ⟨w.heap.size + 1 + 1, 0, none⟩ = some (.int .i64 0) := (HB2.cell (by show w.heap.size + 1 + 1 < X.heap.size; omega)).trans HX2
    have f0 : w2.frozen? ⟨w.heap.size, 0, none⟩ = false := (HB2.frozen (by show w.heap.size < X.heap.size; omega)).trans HZ0
    have f1 : w2.frozen? ⟨w.heap.size + 1, 0, none⟩ = false := (HB2.frozen (by show w.heap.size + 1 < X.heap.size; omega)).trans HZ1
    have f2 : w2.frozen? ⟨w.heap.size + 1 + 1, 0, none⟩ = false := (HB2.frozen (by show w.heap.size + 1 + 1 < X.heap.size; omega)).trans HZ2
    have hl2 : w.heap.size + 1 + 1 < w2.heap.size := Nat.lt_of_lt_of_le l2 HB2.size
    have hl1 : w.heap.size + 1 < w2.heap.size := by omega
    have hl0 : w.heap.size < w2.heap.size := by omega
    replace HB2 := Aside0.mk (below_step HBX.out HB2)
    clear HX0 HX1 HX2 HZ0 HZ1 HZ2 HBX l2 hsz
    go_wp2
    refine leaves_cons (f := 31) (args := #[.pointer (some ⟨w.heap.size, 0, none⟩), .pointer (some ⟨w.heap.size + 1, 0, none⟩), .pointer (some ⟨w.heap.size + 1 + 1, 0, none⟩)]) (by simp) (by simp [go_sem]) ?_
    refine (catch_boom w.heap.size (w.heap.size + 1) (w.heap.size + 1 + 1) at_ er n 0 _ [] _ g0 g1 g2 f0 f1 f2 (by omega) (by omega) hl2 (by omega) (by omega) (by omega)).mono ?_
    rintro e u' w'' ⟨rfl, rfl, rfl⟩
    refine ⟨.tuple #[.slice none 0 0, .int .i64 at_, .int .i64 er], res19 _ _ w.heap.size (w.heap.size + 1) (w.heap.size + 1 + 1) _ _ _ _ _ rfl rfl rfl (by go_simp) (by go_simp) (by first | (go_simp; done) | (go_simp; exact World.cell?_setCell_same' _ _ _ (by go_simp))), ?_⟩
    refine ⟨_, rfl, Kd.R_nil _ _ _ _ _, ?_⟩
    repeat (first | exact HB2.out | apply below_drew1 | apply pw_below_drewN | apply below_alloc | (refine below_set ?_ (by omega)))
  | ok q =>
    obtain ⟨out, l', n'⟩ := q
    rintro e w2 ⟨⟨v, rfl, RO⟩, A', c', S2, HC2, hc2⟩
    obtain ⟨Ao, co, rfl⟩ := Kd.R_slice RO
    have HB2 := S2.bel
    have g0 : w2.cell? ⟨w.heap.size, 0, none⟩ = some (.slice none 0 0) := (HB2.cell (by show w.heap.size < X.heap.size; omega)).trans HX0
    have g1 : w2.cell? ⟨w.heap.size + 1, 0, none⟩ = some (.int .i64 n) := (HB2.cell (by show w.heap.size + 1 < X.heap.size; omega)).trans HX1
    have g2 : w2.cell? ⟨w.heap.size + 1 + 1, 0, none⟩ = some (.int .i64 0) := (HB2.cell (by show w.heap.size + 1 + 1 < X.heap.size; omega)).trans HX2
    have f0 : w2.frozen? ⟨w.heap.size, 0, none⟩ = false := (HB2.frozen (by show w.heap.size < X.heap.size; omega)).trans HZ0
    have f1 : w2.frozen? ⟨w.heap.size + 1, 0, none⟩ = false := (HB2.frozen (by show w.heap.size + 1 < X.heap.size; omega)).trans HZ1
    have f2 : w2.frozen? ⟨w.heap.size + 1 + 1, 0, none⟩ = false := (HB2.frozen (by show w.heap.size + 1 + 1 < X.heap.size; omega)).trans HZ2
    have hl2 : w.heap.size + 1 + 1 < w2.heap.size := Nat.lt_of_lt_of_le l2 HB2.size
    have hl1 : w.heap.size + 1 < w2.heap.size := by omega
    have hl0 : w.heap.size < w2.heap.size := by omega
    have hb0 : w2.cell? ⟨X.heap.size, 0, none⟩ = some (.slice A' l'.length c') := (S2.cell 0).trans rfl
    have hlX : w.heap.size + 1 + 1 < X.heap.size := l2
    have HB3 := Aside0.mk (below_step HBX.out HB2)
    have hss : w2.heap.size = w2.heap.size := rfl
    clear HX0 HX1 HX2 HZ0 HZ1 HZ2 HBX l2 hss
    cases l' with
    | nil =>
      have H2 := hr.out; clear hr
      simp only [parseR, Prod.mk.injEq] at H2
      obtain ⟨rfl, rfl, rfl⟩ := H2
      rw [show ([] : List S76).length = 0 from rfl] at hb0
      have RO' := Aside0.mk RO
      have hsz1 := Aside0.mk hsz.out
      clear RO S2 HC2 hc2 HB2 HB0 hsz
      have hszI : (s.size : Int) ≤ 65536 := by have := hsz1.out; omega
      go_wp2
      refine leaves_cons (f := 31) (args := #[.pointer (some ⟨w.heap.size, 0, none⟩), .pointer (some ⟨w.heap.size + 1, 0, none⟩), .pointer (some ⟨w.heap.size + 1 + 1, 0, none⟩)]) (by simp) (by simp [go_sem]) ?_
      refine (catch_idle w.heap.size (w.heap.size + 1) (w.heap.size + 1 + 1) _).mono ?_
      rintro e u' w'' ⟨rfl, rfl, rfl⟩
      refine ⟨.tuple #[.slice Ao out.length co, .int .i64 s.size, .int .i64 0], res19 _ _ w.heap.size (w.heap.size + 1) (w.heap.size + 1 + 1) _ _ _ _ _ rfl rfl rfl (by go_simp) (by go_simp) (by first | (go_simp; done) | (go_simp; exact World.cell?_setCell_same' _ _ _ (by go_simp))), ?_⟩
      have hbs : w.heap.size + 1 + 1 < (X.alloc (.cells (stP A c l 0 0) 72)).heap.size := by simp; omega
      refine ⟨_, rfl, Kd.R_lower (Kd.R_alloc (R_farB (R_farB (R_farB (R_farB RO'.out (j := 0) (show w.heap.size < _ by omega) _) (j := 0) (show w.heap.size < _ by omega) _) (j := 0) (show w.heap.size + 1 < _ by omega) _) (j := 0) hbs _) _) (by omega), ?_⟩
      repeat (first | exact HB3.out | apply below_drew1 | apply pw_below_drewN | apply below_alloc | (refine below_set ?_ (by omega)))
    | cons t r =>
      obtain ⟨bb, oo, ss, rfl, x0, x1, _, _, _⟩ := head_T28 HC2
      have hbw : bb ≠ w.heap.size := by
        rintro rfl
        have h := blk_cell HB0.out (oo + 1)
        rw [x1] at h
        simp at h
      have H2 := hr.out; clear hr
      simp only [parseR, Prod.mk.injEq] at H2
      obtain ⟨rfl, rfl, rfl⟩ := H2
      replace x1 := S2.old x1
      rw [List.length_cons] at hb0
      have hlen : (0 : Int) < ((r.length + 1 : Nat) : Int) := by omega
      have hlen' : 0 < r.length + 1 := by omega
      have hm := Kd.C_max HC2
      have hbl := World.block_lt_of_cell? _ _ x1
      clear RO S2 HC2 hc2 HB2 HB0 hsz x0
      rw [List.length_cons] at hm
      go_wp2_with (go_at_call 33; (with_reducible refine (must_no _ _ _).mono ?_); rintro e w' ⟨rfl, rfl⟩)
      refine leaves_cons (f := 31) (args := #[.pointer (some ⟨w.heap.size, 0, none⟩), .pointer (some ⟨w.heap.size + 1, 0, none⟩), .pointer (some ⟨w.heap.size + 1 + 1, 0, none⟩)]) (by simp) (by simp [go_sem]) ?_
      refine (catch_boom w.heap.size (w.heap.size + 1) (w.heap.size + 1 + 1) t.f1 13 n 0 (.slice Ao out.length co) [] _ (by go_simp) (by go_simp) (by go_simp) (by go_simp) (by go_simp) (by go_simp) (by simp; omega) (by simp; omega) (by simp; omega) (by omega) (by omega) (by omega)).mono ?_
      rintro e u' w'' ⟨rfl, rfl, rfl⟩
      refine ⟨.tuple #[.slice none 0 0, .int .i64 t.f1, .int .i64 13], res19 _ _ w.heap.size (w.heap.size + 1) (w.heap.size + 1 + 1) _ _ _ _ _ rfl rfl rfl (by go_simp) (by go_simp) (by first | (go_simp; done) | (go_simp; exact World.cell?_setCell_same' _ _ _ (by go_simp))), ?_⟩
      refine ⟨_, rfl, Kd.R_nil _ _ _ _ _, ?_⟩
      repeat (first | exact HB3.out | apply below_drew1 | apply pw_below_drewN | apply below_alloc | (refine below_set ?_ (by omega)))
end Go.Proofs.YtkpnfejfbmandaaDoor.Px

namespace Go.Proofs.YtkpnfejfbmandaaDoor.Px
open Go.RowKit Go.Proofs.YtkpnfejfbmandaaDoorW.PrintWords Go.Proofs.YtkpnfejfbmandaaDoorW.PrintLast Go.Proofs.YtkpnfejfbmandaaDoorW.PrintMore
set_option linter.unusedVariables false
set_option linter.unusedSimpArgs false
mutual
def rlist : Nat → List S140 → Int → Int → Int → Bool → Int → List S78 → Option (List S78 × Int × Int × Int × Int)
  | 0, _, _, _, _, _, _, _ => none
  | k + 1, l, i, n, op, ie, dp, out =>
    if i < (l.length : Int) then
      if 0 ≤ i ∧ out.length < 100000 then
        if (rd_T140 l i).f0 = 7 then (if op = 2 then (if ie = true then some ([], (rd_T140 l i).f1, 13, i, n) else some (out, 0, 0, i, n)) else some ([], (rd_T140 l i).f1, 13, i, n))
        else if (rd_T140 l i).f0 = 8 then (if op < 0 then some ([], (rd_T140 l i).f1, 13, i, n) else some (out, 0, 0, i, n))
        else (rnode k l i n dp).bind fun r => if r.2.2.1 = 0 then rlist k l r.2.2.2.1 r.2.2.2.2 op ie dp (out ++ [r.1]) else some ([], r.2.1, r.2.2.1, r.2.2.2.1, r.2.2.2.2)
      else none
    else some (out, 0, 0, i, n)
def rnode : Nat → List S140 → Int → Int → Int → Option (S78 × Int × Int × Int × Int)
  | 0, _, _, _, _ => none
  | k + 1, l, i, n, dp =>
    if 0 ≤ i ∧ i < (l.length : Int) ∧ i ≤ 100000 ∧ 0 ≤ n ∧ 0 ≤ dp then
      let t := rd_T140 l i
      if t.f0 = 6 ∧ dp > 0 then some (z78, t.f1, 13, i, n)
      else if (t.f0 = 2 ∨ t.f0 = 3 ∨ t.f0 = 6) ∧ dp ≥ 32 then some (z78, t.f1, 13, i, n)
      else if n ≥ 4096 then some (z78, t.f1, 14, i, n)
      else if t.f0 = 2 ∨ t.f0 = 3 ∨ t.f0 = 6 then
        (rlist k l (i + 1) (n + 1) t.f0 false (dp + 1) []).bind fun r =>
          if r.2.2.1 = 0 then
            if r.2.2.2.1 < (l.length : Int) then
              if 0 ≤ r.2.2.2.1 ∧ r.2.2.2.1 ≤ 100000 then
                if (rd_T140 l r.2.2.2.1).f0 = 7 then
                  (rlist k l (r.2.2.2.1 + 1) r.2.2.2.2 t.f0 true (dp + 1) []).bind fun q =>
                    if q.2.2.1 = 0 then
                      if q.2.2.2.1 ≥ (l.length : Int) then some (z78, t.f1, 7, q.2.2.2.1, q.2.2.2.2)
                      else if 0 ≤ q.2.2.2.1 ∧ q.2.2.2.1 ≤ 100000 then some (⟨t.f0, t.f1, t.f2, t.f3, t.f4, true, r.1, q.1⟩, 0, 0, q.2.2.2.1 + 1, q.2.2.2.2) else none
                    else some (z78, q.2.1, q.2.2.1, q.2.2.2.1, q.2.2.2.2)
                else some (⟨t.f0, t.f1, t.f2, t.f3, t.f4, false, r.1, []⟩, 0, 0, r.2.2.2.1 + 1, r.2.2.2.2)
              else none
            else some (z78, t.f1, 7, r.2.2.2.1, r.2.2.2.2)
          else some (z78, r.2.1, r.2.2.1, r.2.2.2.1, r.2.2.2.2)
      else some (⟨t.f0, t.f1, t.f2, t.f3, t.f4, false, [], []⟩, 0, 0, i + 1, n + 1)
    else none
end
def stC (A : Option Addr) (c : Nat) (l : List S140) (i n : Int) : Array Value := #[.slice A l.length c, .int .i64 i, .int .i64 n]
abbrev rlist.Con (k : Nat) : Prop := ∀ (g : Nat) (A : Option Addr) (c : Nat) (l : List S140) (i n op : Int) (ie : Bool) (dp : Int) (r1 : List S78) (r2 r3 i' n' : Int) (w0 w : World)
  (hS : Stp w0 w g 98 (stC A c l i n) w) (hr : Kd.C k140 w0 A l.length l) (hc : l.length ≤ c)
  (h : rlist k l i n op ie dp [] = some (r1, r2, r3, i', n')),
  Calls Tryd.prog 43 #[.pointer (some ⟨g, 0, none⟩), .int .i64 op, .bool ie, .int .i64 dp] w fun e w' => ∃ v : Value, e = .returned (.tuple #[v, .int .i64 r2, .int .i64 r3]) ∧ Kd.R k78 78 w' w.heap.size (fun _ => True) v r1 ∧ Stp w0 w g 98 (stC A c l i' n') w'
abbrev rnode.Con (k : Nat) : Prop := ∀ (g : Nat) (A : Option Addr) (c : Nat) (l : List S140) (i n dp : Int) (x : S78) (r2 r3 i' n' : Int) (w0 w : World)
  (hS : Stp w0 w g 98 (stC A c l i n) w) (hr : Kd.C k140 w0 A l.length l) (hc : l.length ≤ c)
  (h : rnode k l i n dp = some (x, r2, r3, i', n')),
  Calls Tryd.prog 68 #[.pointer (some ⟨g, 0, none⟩), .int .i64 dp] w fun e w' => ∃ v6 v7 : Value, e = .returned (.tuple #[.agg #[.int .i64 x.f0, .int .i64 x.f1, .string x.f2, .string x.f3, .bool x.f4, .bool x.f5, v6, v7], .int .i64 r2, .int .i64 r3]) ∧ Kd.R k78 78 w' w.heap.size (fun _ => True) v6 x.f6 ∧ Kd.R k78 78 w' w.heap.size (fun _ => True) v7 x.f7 ∧ Stp w0 w g 98 (stC A c l i' n') w'
theorem info78r : (Tryd.prog.info? 78).map (fun i => (i.zero, i.size, i.bytes)) = some (some (.agg #[.int .i64 0, .int .i64 0, .string ⟨#[]⟩, .string ⟨#[]⟩, .bool false, .bool false, .slice none 0 0, .slice none 0 0]), 8, 104) := by kernel_rfl
def RlRel (l : List S140) (g : Nat) (A : Option Addr) (c : Nat) (op : Int) (ie : Bool) (dp : Int) (R : List S78 × Int × Int × Int × Int) (w0 w : World) (kq : Nat) (v : Value) (wr : World) : Prop :=
  ∃ (out : List S78) (i n : Int), rlist kq l i n op ie dp out = some R ∧ Kd.R k78 78 wr w.heap.size (fun _ => True) v out ∧ Stp w0 w g 98 (stC A c l i n) wr
set_option maxHeartbeats 1000000 in
set_option maxRecDepth 100000 in
theorem rlist.step (k : Nat) (ihn : ∀ m, m < k → rnode.Con m) : rlist.Con k := by
  intro g A c l i n op ie dp r1 r2 r3 i' n' w0 w hS hr hc h
  have hgw : g < w.heap.size := hS.lt
  have HN := Aside0.mk ihn; clear ihn
  have HR := Aside0.mk hr; clear hr
  have H0 : RlRel l g A c op ie dp (r1, r2, r3, i', n') w0 w k (.slice none 0 0) w := ⟨[], i, n, h, Kd.R_nil _ _ _ _ _, hS⟩
  clear hS h
  go_enter Tryd.func43, Tryd.ntmps43
  go_wp2
  go_loopg [11] k (fun kq v wr => kq ≤ k ∧ RlRel l g A c op ie dp (r1, r2, r3, i', n') w0 w kq v wr)
  case atStart => exact ⟨Nat.le_refl _, H0⟩
  case round =>
    clear H0 i n
    obtain ⟨hk, out, i, n, H, HO, HS⟩ := hrel
    cases gk with
    | zero => exact absurd H (by simp [rlist])
    | succ k1 =>
      have hb0 : wr.cell? ⟨g, 0, none⟩ = some (.slice A l.length c) := (HS.cell 0).trans rfl
      have hb1 : wr.cell? ⟨g, 1, none⟩ = some (.int .i64 i) := (HS.cell 1).trans rfl
      replace HS := Aside0.mk HS
      replace HO := Aside0.mk HO
      simp only [rlist] at H
      by_cases hlt : i < (l.length : Int)
      · rw [if_pos hlt] at H
        by_cases h0 : 0 ≤ i ∧ out.length < 100000
        · rw [if_pos h0] at H
          replace H := Aside0.mk H
          obtain ⟨h00, hol⟩ := h0
          obtain ⟨ad, rfl, x0, x1, x2, x3, x4⟩ := at_T140 HR.out i h00 hlt
          replace x0 := HS.out.old x0
          replace x1 := HS.out.old x1
          replace x2 := HS.out.old x2
          replace x3 := HS.out.old x3
          replace x4 := HS.out.old x4
          go_wp2
          go_quiet (fail)
          rename_i nq
          replace hb0 : (wr.drewN nq).cell? _ = _ := hb0
          replace hb1 : (wr.drewN nq).cell? _ = _ := hb1
          replace x0 : (wr.drewN nq).cell? _ = _ := x0
          replace x1 : (wr.drewN nq).cell? _ = _ := x1
          replace x2 : (wr.drewN nq).cell? _ = _ := x2
          replace x3 : (wr.drewN nq).cell? _ = _ := x3
          replace x4 : (wr.drewN nq).cell? _ = _ := x4
          replace HO := Aside0.mk (Kd.R_drewN HO.out nq)
          replace HS := Aside0.mk (HS.out.drewN nq)
          generalize wr.drewN nq = w1 at *
          have hgs : g < w1.heap.size := HS.out.lt
          have hads := World.block_lt_of_cell? _ _ x1
          go_wp2
          go_region
          clear x0 x1 x2 x3 x4 hb0 hb1
          by_cases h7 : (rd_T140 l i).f0 = 7
          · rw [if_pos h7] at H
            have h7' : ((rd_T140 l i).f0 == 7) = true := beq_iff_eq.mpr h7
            have HS1 := Aside0.mk ((HS.out.alloc (.cells #[.int .i64 (rd_T140 l i).f0, .int .i64 (rd_T140 l i).f1, .string (rd_T140 l i).f2, .string (rd_T140 l i).f3, .bool (rd_T140 l i).f4] 140)).drew)
            have HO1 := Aside0.mk (Kd.R_drew (Kd.R_alloc HO.out (.cells #[.int .i64 (rd_T140 l i).f0, .int .i64 (rd_T140 l i).f1, .string (rd_T140 l i).f2, .string (rd_T140 l i).f3, .bool (rd_T140 l i).f4] 140)))
            clear HS HO h7
            by_cases hop : op = 2
            · rw [if_pos hop] at H
              have hop' : (op != 2) = false := by simp [hop]
              clear hop
              cases ie with
              | true =>
                have H2 := H.out; clear H
                simp only [if_true, Option.some.injEq, Prod.mk.injEq] at H2
                obtain ⟨rfl, rfl, rfl, rfl, rfl⟩ := H2
                go_wp2
                go_quiet (fail)
                rename_i nq
                go_wp2
                go_ret3
                exact ⟨_, rfl, Kd.R_nil _ _ _ _ _, HS1.out.drewN nq⟩
              | false =>
                have H2 := H.out; clear H
                simp only [Bool.false_eq_true, if_false, Option.some.injEq, Prod.mk.injEq] at H2
                obtain ⟨rfl, rfl, rfl, rfl, rfl⟩ := H2
                go_wp2
                go_ret3
                exact ⟨_, rfl, HO1.out, HS1.out⟩
            · rw [if_neg hop] at H
              have hop' : (op != 2) = true := by simp [hop]
              clear hop
              have H2 := H.out; clear H
              simp only [Option.some.injEq, Prod.mk.injEq] at H2
              obtain ⟨rfl, rfl, rfl, rfl, rfl⟩ := H2
              go_wp2
              go_quiet (fail)
              rename_i nq
              go_wp2
              go_ret3
              exact ⟨_, rfl, Kd.R_nil _ _ _ _ _, HS1.out.drewN nq⟩
          · rw [if_neg h7] at H
            by_cases h8 : (rd_T140 l i).f0 = 8
            · rw [if_pos h8] at H
              have h7' : ((rd_T140 l i).f0 == 7) = false := beq_eq_false_iff_ne.mpr h7
              have h8' : ((rd_T140 l i).f0 == 8) = true := beq_iff_eq.mpr h8
              have HS1 := Aside0.mk ((HS.out.alloc (.cells #[.int .i64 (rd_T140 l i).f0, .int .i64 (rd_T140 l i).f1, .string (rd_T140 l i).f2, .string (rd_T140 l i).f3, .bool (rd_T140 l i).f4] 140)).drew)
              have HO1 := Aside0.mk (Kd.R_drew (Kd.R_alloc HO.out (.cells #[.int .i64 (rd_T140 l i).f0, .int .i64 (rd_T140 l i).f1, .string (rd_T140 l i).f2, .string (rd_T140 l i).f3, .bool (rd_T140 l i).f4] 140)))
              clear HS HO h7 h8
              by_cases hop : op < 0
              · rw [if_pos hop] at H
                have H2 := H.out; clear H
                simp only [Option.some.injEq, Prod.mk.injEq] at H2
                obtain ⟨rfl, rfl, rfl, rfl, rfl⟩ := H2
                go_wp2
                go_quiet (fail)
                rename_i nq
                go_wp2
                go_ret3
                exact ⟨_, rfl, Kd.R_nil _ _ _ _ _, HS1.out.drewN nq⟩
              · rw [if_neg hop] at H
                have H2 := H.out; clear H
                simp only [Option.some.injEq, Prod.mk.injEq] at H2
                obtain ⟨rfl, rfl, rfl, rfl, rfl⟩ := H2
                go_wp2
                go_ret3
                exact ⟨_, rfl, HO1.out, HS1.out⟩
            · rw [if_neg h8] at H
              obtain ⟨⟨x, q2, q3, i1, n1⟩, hn, H⟩ := Option.bind_eq_some_iff.1 H.out
              have HN1 := Aside0.mk (HN.out k1 (by omega) g _ c l i n dp x q2 q3 i1 n1 w0 _ ((HS.out.alloc (.cells #[.int .i64 (rd_T140 l i).f0, .int .i64 (rd_T140 l i).f1, .string (rd_T140 l i).f2, .string (rd_T140 l i).f3, .bool (rd_T140 l i).f4] 140)).drew.again) HR.out hc hn)
              have HS1 := Aside0.mk ((HS.out.alloc (.cells #[.int .i64 (rd_T140 l i).f0, .int .i64 (rd_T140 l i).f1, .string (rd_T140 l i).f2, .string (rd_T140 l i).f3, .bool (rd_T140 l i).f4] 140)).drew)
              have HO1 := Aside0.mk (Kd.R_drew (Kd.R_alloc HO.out (.cells #[.int .i64 (rd_T140 l i).f0, .int .i64 (rd_T140 l i).f1, .string (rd_T140 l i).f2, .string (rd_T140 l i).f3, .bool (rd_T140 l i).f4] 140)))
              clear HS HO hn
              have h7' : ((rd_T140 l i).f0 == 7) = false := beq_eq_false_iff_ne.mpr h7
              have h8' : ((rd_T140 l i).f0 == 8) = false := beq_eq_false_iff_ne.mpr h8
              clear h7 h8
              go_wp2_with fail
              refine HN1.out.mono ?_
              rintro e w2 ⟨v6, v7, rfl, R6, R7, S2⟩
              clear HN1
              obtain ⟨A6, c6, rfl⟩ := Kd.R_slice R6
              obtain ⟨A7, c7, rfl⟩ := Kd.R_slice R7
              have HO2 := Aside0.mk (R_keepBut HO1.out S2.keep hgw)
              have HS2 := Aside0.mk (HS1.out.call S2)
              have HM := Aside0.mk (And.intro (R_apart R6 HO1.out HS1.out.size) (R_apart R7 HO1.out HS1.out.size))
              clear R6 R7 S2 HO1 HS1
              by_cases h3 : q3 = 0
              · rw [if_pos h3] at H
                have h3' : (q3 != 0) = false := by simp [h3]
                replace H := Aside0.mk H
                clear h3
                go_wp2_with (at_builtin; refine Kd.R_append k78 w.heap.size rfl _ _ 23 78 _ 104 rfl Tryd.underlying23 info78r rfl (by decide) (by decide) u11 out x [.int .i64 x.f0, .int .i64 x.f1, .string x.f2, .string x.f3, .bool x.f4, .bool x.f5, .slice A6 x.f6.length c6, .slice A7 x.f7.length c7] (fun _ => True) (fun k => some k ≠ u11.ownBlock) rfl (by rw [World.size_alloc]; rfl) (k78_mkM _ _ _ x (Kd.R_alloc HM.out.1 _) (Kd.R_alloc HM.out.2 _)) (fun k hk => ⟨trivial, hk⟩) (fun _ _ => trivial) (Kd.R_alloc HO2.out _) (Below.refl _ _) (Nat.le_trans HS2.out.size (by simp)) (by omega) ?_; intro v1 w3 HO3 _ hg3 _; have HS3 := Aside0.mk ((HS2.out.alloc _).grown hg3 (Kd.R_base HO2.out) hgw); clear HS2 HM hg3; obtain ⟨A1, c1, rfl⟩ := Kd.R_slice HO3; replace HO3 := Aside0.mk HO3)
                go_roundg k1
                case measure => omega
                case rel => exact ⟨by omega, out ++ [x], i1, n1, H.out, (by have h5 := HO3.out; rwa [List.length_append, List.length_singleton] at h5), HS3.out⟩
              · rw [if_neg h3] at H
                have h3' : (q3 != 0) = true := by simp [h3]
                clear h3
                simp only [Option.some.injEq, Prod.mk.injEq] at H
                obtain ⟨rfl, rfl, rfl, rfl, rfl⟩ := H
                go_wp2
                go_ret3
                exact ⟨_, rfl, Kd.R_nil _ _ _ _ _, HS2.out.alloc _⟩
        · rw [if_neg h0] at H; cases H
      · rw [if_neg hlt] at H
        simp only [Option.some.injEq, Prod.mk.injEq] at H
        obtain ⟨rfl, rfl, rfl, rfl, rfl⟩ := H
        go_wp2
        go_quiet (fail)
        rename_i nq
        go_wp2
        go_ret3
        exact ⟨_, rfl, Kd.R_drewN HO.out nq, HS.out.drewN nq⟩
end Go.Proofs.YtkpnfejfbmandaaDoor.Px

/- Contract of the reference parser's node: written by hand. -/
namespace Go.Proofs.YtkpnfejfbmandaaDoor.Px
open Go.RowKit Go.Proofs.YtkpnfejfbmandaaDoorW.PrintWords Go.Proofs.YtkpnfejfbmandaaDoorW.PrintLast Go.Proofs.YtkpnfejfbmandaaDoorW.PrintMore
set_option linter.unusedVariables false
set_option linter.unusedSimpArgs false
@[irreducible] def blkB (a : Int) : Bool := a == 2 || a == 3 || a == 6
theorem blkB_iff (a : Int) : blkB a = true ↔ (a = 2 ∨ a = 3 ∨ a = 6) := by unfold blkB; simp [or_assoc]
end Go.Proofs.YtkpnfejfbmandaaDoor.Px

/- Merged texts: Rl Pa Ls Lb Ld Le. -/
/- Contract of the reference's Lex: written by hand over the printed contracts of find, words and form. -/
namespace Go.Proofs.YtkpnfejfbmandaaDoor.Px
open Go.RowKit Go.Proofs.YtkpnfejfbmandaaDoorW.PrintWords Go.Proofs.YtkpnfejfbmandaaDoorW.PrintLast Go.Proofs.YtkpnfejfbmandaaDoorW.PrintMore
set_option linter.unusedVariables false
set_option linter.unusedSimpArgs false
end Go.Proofs.YtkpnfejfbmandaaDoor.Px
/- Plain laws: the reference's lexer ends, and what its tokens look like. -/
namespace Go.Proofs.YtkpnfejfbmandaaDoor.Px
open Go.RowKit Go.Proofs.YtkpnfejfbmandaaDoorW.PrintWords Go.Proofs.YtkpnfejfbmandaaDoorW.PrintLast Go.Proofs.YtkpnfejfbmandaaDoorW.PrintMore
set_option linter.unusedVariables false
set_option linter.unusedSimpArgs false
theorem w64 {n : Int} (h0 : 0 ≤ n) (h1 : n ≤ 4611686018427387904) : wrap64 n = n := by unfold wrap64; omega
/-- What the token holds so far. -/
structure OkS (n : Nat) (kd : Int) (s p : ByteArray) (hp : Bool) : Prop where
  hi : kd ≤ 8
  ne : kd ≠ 0
  s0 : kd ≥ 0 → (s.size = 0 ↔ ¬ (kd = 4 ∨ kd = 6))
  sn : s.size ≤ n
  p0 : p.size = 0
  hp0 : hp = false
/-- A token as the lexer makes it of a source of n bytes. -/
structure okT (n : Nat) (t : S140) : Prop where
  k0 : 0 ≤ t.f0
  k8 : t.f0 ≤ 8
  s0 : t.f0 ≠ 0 → (t.f2.size = 0 ↔ ¬ (t.f0 = 4 ∨ t.f0 = 6))
  sn : t.f2.size ≤ n
  pn : t.f3.size ≤ n
  h0 : t.f0 = 0 → t.f4 = false
end Go.Proofs.YtkpnfejfbmandaaDoor.Px
/- strings.Split at periods, over lists. -/
namespace Go.Proofs.YtkpnfejfbmandaaDoor.Px
open Go.RowKit Go.Proofs.YtkpnfejfbmandaaDoorW.PrintWords Go.Proofs.YtkpnfejfbmandaaDoorW.PrintLast Go.Proofs.YtkpnfejfbmandaaDoorW.PrintMore
set_option linter.unusedVariables false
set_option linter.unusedSimpArgs false
def dotG : List UInt8 → List UInt8 → List (List UInt8)
  | [], cur => [cur]
  | b :: r, cur => if b = 46 then cur :: dotG r [] else dotG r (cur ++ [b])
theorem pre1 (c a : UInt8) (s : List UInt8) : List.isPrefixOf [c] (a :: s) = true ↔ a = c := by
  simp only [List.isPrefixOf, Bool.and_true, beq_iff_eq]
  exact ⟨fun h => h.symm, fun h => h.symm⟩
theorem idx1 : ∀ (s : List UInt8), (Lib.index s [46] = -1 ∧ (46 : UInt8) ∉ s) ∨ ∃ t r, s = t ++ 46 :: r ∧ (46 : UInt8) ∉ t ∧ Lib.index s [46] = t.length
  | [] => .inl ⟨rfl, by simp⟩
  | a :: s => by
    by_cases ha : a = 46
    · subst ha
      exact .inr ⟨[], s, rfl, by simp, by unfold Lib.index; rw [if_pos ((pre1 _ _ _).2 rfl)]; rfl⟩
    · have hp : ¬ List.isPrefixOf [(46 : UInt8)] (a :: s) = true := fun e => ha ((pre1 _ _ _).1 e)
      rcases idx1 s with ⟨h1, h2⟩ | ⟨t, r, h1, h2, h3⟩
      · refine .inl ⟨by unfold Lib.index; rw [if_neg hp, h1]; rfl, ?_⟩
        intro e
        rcases List.mem_cons.1 e with e | e
        · exact ha e.symm
        · exact h2 e
      · refine .inr ⟨a :: t, r, by rw [h1]; rfl, ?_, ?_⟩
        · intro e
          rcases List.mem_cons.1 e with e | e
          · exact ha e.symm
          · exact h2 e
        · unfold Lib.index
          rw [if_neg hp, h3]
          have : ((t.length : Int) == -1) = false := by rw [beq_eq_false_iff_ne]; omega
          rw [this]; simp
theorem dotG_none : ∀ (t cur : List UInt8), (46 : UInt8) ∉ t → dotG t cur = [cur ++ t]
  | [], cur, _ => by simp [dotG]
  | b :: t, cur, h => by
    have hb : ¬ b = 46 := fun e => h (by rw [e]; simp)
    rw [dotG, if_neg hb, dotG_none t _ (fun e => h (by simp [e]))]; simp
theorem dotG_hit : ∀ (t r cur : List UInt8), (46 : UInt8) ∉ t → dotG (t ++ 46 :: r) cur = (cur ++ t) :: dotG r []
  | [], r, cur, _ => by simp [dotG]
  | b :: t, r, cur, h => by
    have hb : ¬ b = 46 := fun e => h (by rw [e]; simp)
    show dotG (b :: (t ++ 46 :: r)) cur = _
    rw [dotG, if_neg hb, dotG_hit t r _ (fun e => h (by simp [e]))]; simp
theorem split_dot : ∀ (n : Nat) (s : List UInt8), s.length ≤ n → Lib.split s [46] = dotG s [] := by
  intro n
  induction n with
  | zero =>
    intro s h
    have : s = [] := List.eq_nil_of_length_eq_zero (by omega)
    subst this; rfl
  | succ n ih =>
    intro s h
    unfold Lib.split
    rcases idx1 s with ⟨h1, h2⟩ | ⟨t, r, h1, h2, h3⟩
    · rw [Lib.count_miss h1, dotG_none _ _ h2]; rfl
    · have ih := ih r (by rw [h1] at h; simp at h; omega)
      unfold Lib.split at ih
      rw [Lib.count_hit (by simp) h3]
      have hd : s.drop (t.length + [(46 : UInt8)].length) = r := by rw [h1, ← List.drop_drop, List.drop_left]; rfl
      have hm : ¬ (Lib.index s [46] == -1) = true := by rw [h3, beq_iff_eq]; omega
      rw [hd, Nat.add_comm 1, Lib.splitK, if_neg hm, h3, Int.toNat_natCast, hd, ih]
      rw [show s.take (t.length + 0) = t by rw [h1, Nat.add_zero, List.take_left]]
      conv => rhs; rw [h1]
      rw [dotG_hit _ _ _ h2]; rfl
end Go.Proofs.YtkpnfejfbmandaaDoor.Px
/- The reference's names, paths, words and forms are those of La. -/
namespace Go.Proofs.YtkpnfejfbmandaaDoor.Px
open Go.RowKit Go.Proofs.YtkpnfejfbmandaaDoorW.PrintWords Go.Proofs.YtkpnfejfbmandaaDoorW.PrintLast Go.Proofs.YtkpnfejfbmandaaDoorW.PrintMore
set_option linter.unusedVariables false
set_option linter.unusedSimpArgs false
end Go.Proofs.YtkpnfejfbmandaaDoor.Px
/- The reference's form tells what dirF tells; the reference's Lex what lexF tells. -/
namespace Go.Proofs.YtkpnfejfbmandaaDoor.Px
open Go.RowKit Go.Proofs.YtkpnfejfbmandaaDoorW.PrintWords Go.Proofs.YtkpnfejfbmandaaDoorW.PrintLast Go.Proofs.YtkpnfejfbmandaaDoorW.PrintMore
set_option linter.unusedVariables false
set_option linter.unusedSimpArgs false
end Go.Proofs.YtkpnfejfbmandaaDoor.Px
/- The reference's Lex tells what lexS tells. -/
namespace Go.Proofs.YtkpnfejfbmandaaDoor.Px
open Go.RowKit Go.Proofs.YtkpnfejfbmandaaDoorW.PrintWords Go.Proofs.YtkpnfejfbmandaaDoorW.PrintLast Go.Proofs.YtkpnfejfbmandaaDoorW.PrintMore
set_option linter.unusedVariables false
set_option linter.unusedSimpArgs false
def pre (l0 : List T5) : Except (Nat × Int) (List T5) → Except (Nat × Int) (List T5)
  | .ok l => .ok (l0 ++ l)
  | .error e => .error e
def tokR (x : T5) : S140 := ⟨x.2.1, x.1, ⟨x.2.2.1.toArray⟩, ⟨x.2.2.2.1.toArray⟩, x.2.2.2.2⟩
end Go.Proofs.YtkpnfejfbmandaaDoor.Px
