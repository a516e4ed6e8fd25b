import Derived.Test.YtkpnfejfbmandaaDoorCU5
import Derived.WalkSmall
import Derived.RegionDies
/- parse.Parse: what it computes; parse.must, parse.opens; slices of tokens. -/
namespace Go.Proofs.YtkpnfejfbmandaaDoor.Px
open Go.RowKit Go.Proofs.YtkpnfejfbmandaaDoorW.PrintWords Go.Proofs.YtkpnfejfbmandaaDoorW.PrintLast Go.Proofs.YtkpnfejfbmandaaDoorW.PrintMore
set_option linter.unusedVariables false
set_option linter.unusedSimpArgs false
/-- An answer of the parser: what was parsed, the tokens that are left, the number of nodes; or an offset and an error. -/
abbrev PA (α : Type) := Except (Int × Int) (α × List S76 × Int)
def endB (t : S76) (h : Bool) (body els : List S78) : List S76 → Int → PA S78
  | [], _ => .error (t.f1, 7)
  | t3 :: r4, n => if t3.f0 = 8 then .ok (⟨t.f0, t.f1, t.f2, t.f3, t.f4, h, body, els⟩, r4, n) else .error (t3.f1, 13)
def opK (k : Int) : Prop := k = 2 ∨ k = 3 ∨ k = 6
instance (k : Int) : Decidable (opK k) := by unfold opK; infer_instance
mutual
def plist : Nat → List S76 → Int → Int → List S78 → Option (PA (List S78))
  | 0, _, _, _, _ => none
  | k + 1, [], n, d, out => some (.ok (out, [], n))
  | k + 1, t :: r, n, d, out =>
    if out.length < 100000 then
      if t.f0 = 7 ∨ t.f0 = 8 then some (.ok (out, t :: r, n))
      else match pnode k t r n d with
        | none => none
        | some (.error e) => some (.error e)
        | some (.ok (x, r', n')) => plist k r' n' d (out ++ [x])
    else none
def pnode : Nat → S76 → List S76 → Int → Int → Option (PA S78)
  | 0, _, _, _, _ => none
  | k + 1, t, r, n, d =>
    if 0 ≤ n ∧ 0 ≤ d then
      if t.f0 = 6 ∧ d > 0 then some (.error (t.f1, 13))
      else if opK t.f0 ∧ d ≥ 32 then some (.error (t.f1, 13))
      else if n ≥ 4096 then some (.error (t.f1, 14))
      else if opK t.f0 then
        match plist k r (n + 1) (d + 1) [] with
        | none => none
        | some (.error e) => some (.error e)
        | some (.ok (body, [], n1)) => some (.error (t.f1, 7))
        | some (.ok (body, t1 :: r2, n1)) =>
          if t1.f0 = 7 then
            if t.f0 = 2 then
              match plist k r2 n1 (d + 1) [] with
              | none => none
              | some (.error e) => some (.error e)
              | some (.ok (els, r3, n3)) => some (endB t true body els r3 n3)
            else some (.error (t1.f1, 13))
          else some (endB t false body [] (t1 :: r2) n1)
      else some (.ok (⟨t.f0, t.f1, t.f2, t.f3, t.f4, false, [], []⟩, r, n + 1))
    else none
end
/-- The rest of a block. -/
def pblk (k : Nat) (t : S76) (r : List S76) (n d : Int) : Option (PA S78) :=
  match plist k r n (d + 1) [] with
  | none => none
  | some (.error e) => some (.error e)
  | some (.ok (body, [], n1)) => some (.error (t.f1, 7))
  | some (.ok (body, t1 :: r2, n1)) =>
    if t1.f0 = 7 then
      if t.f0 = 2 then
        match plist k r2 n1 (d + 1) [] with
        | none => none
        | some (.error e) => some (.error e)
        | some (.ok (els, r3, n3)) => some (endB t true body els r3 n3)
      else some (.error (t1.f1, 13))
    else some (endB t false body [] (t1 :: r2) n1)
theorem pnode_eq (k : Nat) (t : S76) (r : List S76) (n d : Int) : pnode (k + 1) t r n d =
    if 0 ≤ n ∧ 0 ≤ d then
      if t.f0 = 6 ∧ d > 0 then some (.error (t.f1, 13))
      else if opK t.f0 ∧ d ≥ 32 then some (.error (t.f1, 13))
      else if n ≥ 4096 then some (.error (t.f1, 14))
      else if opK t.f0 then pblk k t r (n + 1) d
      else some (.ok (⟨t.f0, t.f1, t.f2, t.f3, t.f4, false, [], []⟩, r, n + 1))
    else none := by
  rw [pnode]; rfl
@[irreducible] def opB (a : Int) : Bool := a == 2 || a == 3 || a == 6
theorem opB_iff (a : Int) : opB a = true ↔ opK a := by unfold opB opK; simp [or_assoc]
theorem opens_any (a : Int) (w : World) : Calls Tryd.prog 78 #[.int .i64 a] w fun e w' => e = .returned (.bool (opB a)) ∧ w = w' := by
  unfold opB
  by_cases h2 : (a == 2) = true
  · go_enter Tryd.func78, Tryd.ntmps78
    go_wp2
    go_ret
    exact ⟨by simp [h2], rfl⟩
  · have h2' : (a == 2) = false := by simpa using h2
    by_cases h3 : (a == 3) = true
    · go_enter Tryd.func78, Tryd.ntmps78
      go_wp2
      go_ret
      exact ⟨by simp [h2, h3], rfl⟩
    · have h3' : (a == 3) = false := by simpa using h3
      go_enter Tryd.func78, Tryd.ntmps78
      go_wp2
      go_ret
      exact ⟨by simp [h2', h3'], rfl⟩
/-- The panic of a syntax error. -/
abbrev boom (at_ e : Int) : Ending := .panicked [{ v := .iface 68 (.agg #[.int .i64 at_, .int .i64 e]), recovered := false }]
theorem must_ok (at_ er : Int) (w : World) : Calls Tryd.prog 33 #[.bool true, .int .i64 at_, .int .i64 er] w fun e w' => e = .returned (.tuple #[]) ∧ w = w' := by
  go_enter Tryd.func33, Tryd.ntmps33
  go_wp2
  go_end0
  exact ⟨rfl, rfl⟩
theorem must_no (at_ er : Int) (w : World) : Calls Tryd.prog 33 #[.bool false, .int .i64 at_, .int .i64 er] w fun e w' => e = boom at_ er ∧ w = w' := by
  go_enter Tryd.func33, Tryd.ntmps33
  go_wp2
  exact ⟨rfl, rfl, rfl⟩
set_option maxRecDepth 100000 in
theorem info76d : ∃ i, Tryd.prog.info? 76 = some i ∧ i.size = 5 := ⟨_, rfl, rfl⟩
def cutT (A : Option Addr) (c : Nat) : Option Addr := if c = 1 then A else A.map (·.add 5)
theorem cutT_C {w : World} {A : Option Addr} {c : Nat} {x : S76} {l : List S76} (h : Kd.C k76 w A (x :: l).length (x :: l)) (hc : (x :: l).length ≤ c) : Kd.C k76 w (cutT A c) l.length l :=
  Kd.C_drop (m := 1) h (by rw [List.length_cons]; omega) hc
theorem cutT1 (A : Option Addr) (n c : Nat) (h : 1 ≤ n) : ∀ W : World, (Instr.slice 64 (.slice A n c) (some (.int .i64 1)) none none).run Tryd.prog W = .ok (.slice (cutT A c) (n - 1) (c - 1)) W := by
  obtain ⟨i, hi, hsz⟩ := info76d
  exact cut_from 64 76 .i64 Tryd.underlying64 hi 5 hsz A n c 1 (by decide) (by omega)
theorem head_T28 {w : World} {A : Option Addr} {t : S76} {r : List S76} (h : Kd.C k76 w A (t :: r).length (t :: r)) : ∃ b o s, A = some ⟨b, o, s⟩ ∧ w.cell? ⟨b, o, s⟩ = some (.int .i64 t.f0) ∧ w.cell? ⟨b, o + 1, none⟩ = some (.int .i64 t.f1) ∧ w.cell? ⟨b, o + 2, none⟩ = some (.string t.f2) ∧ w.cell? ⟨b, o + 3, none⟩ = some (.string t.f3) ∧ w.cell? ⟨b, o + 4, none⟩ = some (.bool t.f4) := by
  obtain ⟨ad, e, x0, x1, x2, x3, x4⟩ := at_T76 h 0 (Int.le_refl _) (by rw [List.length_cons]; omega)
  obtain ⟨b, o, s⟩ := ad
  have e0 : rd_T76 (t :: r) 0 = t := rfl
  rw [e0] at x0 x1 x2 x3 x4
  simp only [Addr.add, Int.toNat_zero, Nat.zero_mul, if_true, Nat.add_zero] at x0 x1 x2 x3 x4
  exact ⟨b, o, s, e, x0, x1, x2, x3, x4⟩
def stP (A : Option Addr) (c : Nat) (l : List S76) (n d : Int) : Array Value := #[.slice A l.length c, .int .i64 n, .int .i64 d]
/-- The parser g in a world W: the tokens that are left, the number of nodes, the depth. -/
def PSt (w0 w : World) (g : Nat) (l : List S76) (n d : Int) (W : World) : Prop := ∃ A c, Stp w0 w g 72 (stP A c l n d) W ∧ Kd.C k76 w0 A l.length l ∧ l.length ≤ c
def PPost {α : Type} (w0 w : World) (g : Nat) (d : Int) (Q : Ending → α → World → Prop) : PA α → Ending → World → Prop
  | .ok (x, l', n'), e, w' => Q e x w' ∧ PSt w0 w g l' n' d w'
  | .error (at_, er), e, w' => e = boom at_ er ∧ Below w0.heap.size w0 w'
abbrev plist.Con (k : Nat) : Prop := ∀ (g : Nat) (l : List S76) (n d : Int) (res : PA (List S78)) (w0 w : World) (hS : PSt w0 w g l n d w) (h : plist k l n d [] = some res),
  Calls Tryd.prog 32 #[.pointer (some ⟨g, 0, none⟩)] w fun e w' => PPost w0 w g d (fun e r w' => ∃ v : Value, e = .returned v ∧ Kd.R k78 78 w' w.heap.size (fun _ => True) v r) res e w'
abbrev pnode.Con (k : Nat) : Prop := ∀ (g : Nat) (t : S76) (r : List S76) (n d : Int) (res : PA S78) (w0 w : World) (hS : PSt w0 w g (t :: r) n d w) (h : pnode k t r n d = some res),
  Calls Tryd.prog 55 #[.pointer (some ⟨g, 0, none⟩)] w fun e w' => PPost w0 w g d (fun e x w' => ∃ v6 v7 : Value, e = .returned (.agg #[.int .i64 x.f0, .int .i64 x.f1, .string x.f2, .string x.f3, .bool x.f4, .bool x.f5, v6, v7]) ∧ Kd.R k78 78 w' w.heap.size (fun _ => True) v6 x.f6 ∧ Kd.R k78 78 w' w.heap.size (fun _ => True) v7 x.f7) res e w'
theorem info78 : (Tryd.prog.info? 78).map (fun i => (i.zero, i.size, i.bytes)) = some (some (.agg #[.int .i64 0, .int .i64 0, .string ⟨#[]⟩, .string ⟨#[]⟩, .bool false, .bool false, .slice none 0 0, .slice none 0 0]), 8, 104) := by kernel_rfl
end Go.Proofs.YtkpnfejfbmandaaDoor.Px

/- (*parse.parser).list. -/
namespace Go.Proofs.YtkpnfejfbmandaaDoor.Px
open Go.RowKit Go.Proofs.YtkpnfejfbmandaaDoorW.PrintWords Go.Proofs.YtkpnfejfbmandaaDoorW.PrintLast Go.Proofs.YtkpnfejfbmandaaDoorW.PrintMore
set_option linter.unusedVariables false
set_option linter.unusedSimpArgs false
def PlRel (g : Nat) (d : Int) (res : PA (List S78)) (w0 w : World) (kq : Nat) (v : Value) (wr : World) : Prop :=
  ∃ (out : List S78) (l : List S76) (n : Int), plist kq l n d out = some res ∧ Kd.R k78 78 wr w.heap.size (fun _ => True) v out ∧ PSt w0 w g l n d wr
set_option maxHeartbeats 1000000 in
set_option maxRecDepth 100000 in
theorem plist.step (k : Nat) (ihn : ∀ m, m < k → pnode.Con m) : plist.Con k := by
  intro g l n d res w0 w hS h
  have hgw : g < w.heap.size := by obtain ⟨A, c, hS, _⟩ := hS; exact hS.lt
  have HN := Aside0.mk ihn; clear ihn
  have H0 : PlRel g d res w0 w k (.slice none 0 0) w := ⟨[], l, n, h, Kd.R_nil _ _ _ _ _, hS⟩
  clear hS h
  go_enter Tryd.func32, Tryd.ntmps32
  go_wp2
  go_loopg [3] k (fun kq v wr => kq ≤ k ∧ PlRel g d res w0 w kq v wr)
  case atStart => exact ⟨Nat.le_refl _, H0⟩
  case round =>
    clear H0 l n
    obtain ⟨hk, out, l, n, H, HO, A, c, HS, HC, hc⟩ := hrel
    cases gk with
    | zero => exact absurd H (by simp [plist])
    | succ k1 =>
      have hb0 : wr.cell? ⟨g, 0, none⟩ = some (.slice A l.length c) := (HS.cell 0).trans rfl
      replace HS := Aside0.mk HS
      replace HO := Aside0.mk HO
      cases l with
      | nil =>
        simp only [plist, Option.some.injEq] at H
        obtain rfl := H
        have hl : (([] : List S76).length : Int) = 0 := rfl
        rw [show ([] : List S76).length = 0 from rfl] at hb0
        go_wp2
        go_ret
        exact ⟨⟨_, rfl, HO.out⟩, A, c, HS.out, HC, hc⟩
      | cons t r =>
        simp only [plist] at H
        by_cases hol : out.length < 100000
        case neg => rw [if_neg hol] at H; cases H
        rw [if_pos hol] at H
        obtain ⟨bb, oo, ss, rfl, x0, x1, x2, x3, x4⟩ := head_T28 HC
        replace x0 := HS.out.old x0
        have hlp : decide (0 < (((t :: r).length : Nat) : Int)) = true := decide_eq_true (by rw [List.length_cons]; omega)
        have hlp' : 0 < (t :: r).length := by rw [List.length_cons]; omega
        have hm := Kd.C_max HC
        replace HC := Aside0.mk HC
        replace H := Aside0.mk H
        generalize hnl : (t :: r).length = nl at *
        replace hnl := Aside0.mk hnl
        clear x1 x2 x3 x4
        by_cases h7 : t.f0 = 7
        · have H2 := H.out; clear H
          rw [if_pos (.inl h7)] at H2
          cases H2
          have h7' : (t.f0 != 7) = false := by simp [h7]
          clear h7
          go_wp2
          go_ret
          have HS2 := HS.out
          rw [← hnl.out] at hc
          exact ⟨⟨_, rfl, HO.out⟩, _, c, HS2, by rw [hnl.out]; exact HC.out, hc⟩
        by_cases h8 : t.f0 = 8
        · have H2 := H.out; clear H
          rw [if_pos (.inr h8)] at H2
          cases H2
          have h7' : (t.f0 != 7) = true := by simp [h7]
          have h8' : (t.f0 != 8) = false := by simp [h8]
          clear h7 h8
          go_wp2
          go_ret
          have HS2 := HS.out
          rw [← hnl.out] at hc
          exact ⟨⟨_, rfl, HO.out⟩, _, c, HS2, by rw [hnl.out]; exact HC.out, hc⟩
        have h7' : (t.f0 != 7) = true := by simp [h7]
        have h8' : (t.f0 != 8) = true := by simp [h8]
        replace H := H.out
        rw [if_neg (by rintro (h | h); exact h7 h; exact h8 h)] at H
        clear h7 h8
        cases hn : pnode k1 t r n d with
        | none => rw [hn] at H; cases H
        | some rn =>
        rw [hn] at H
        have hSt : PSt w0 wr g (t :: r) n d wr := ⟨_, c, HS.out.again, by rw [hnl.out]; exact HC.out, by rw [hnl.out]; exact hc⟩
        have HN1 := Aside0.mk (HN.out k1 (by omega) g t r n d rn w0 wr hSt hn)
        clear hn hSt
        cases rn with
        | error e =>
          obtain ⟨at_, er⟩ := e
          cases H
          go_wp2_with fail
          refine HN1.out.mono ?_
          rintro e w2 ⟨rfl, hb⟩
          go_wp2
          exact ⟨rfl, rfl, hb⟩
        | ok q =>
          obtain ⟨x, r', n'⟩ := q
          replace H := Aside0.mk H
          go_wp2_with fail
          refine HN1.out.mono ?_
          rintro e w2 ⟨⟨v6, v7, rfl, R6, R7⟩, A', c', S2, HC2, hc2⟩
          clear HN1
          obtain ⟨A6, c6, rfl⟩ := Kd.R_slice R6
          obtain ⟨A7, c7, rfl⟩ := Kd.R_slice R7
          have HO2 := Aside0.mk (R_keepBut HO.out S2.keep hgw)
          have HS2 := Aside0.mk (HS.out.call S2)
          have HM := Aside0.mk (And.intro (R_apart R6 HO.out HS.out.size) (R_apart R7 HO.out HS.out.size))
          replace HC2 := Aside0.mk HC2
          clear R6 R7 S2 HO HS
          go_wp2_with (at_builtin; go_loud (refine Kd.R_append k78 w.heap.size rfl _ _ 23 78 _ 104 rfl Tryd.underlying23 info78 rfl (by decide) (by decide) u3 out x [.int .i64 x.f0, .int .i64 x.f1, .string x.f2, .string x.f3, .bool x.f4, .bool x.f5, .slice A6 x.f6.length c6, .slice A7 x.f7.length c7] (fun _ => True) (fun k => some k ≠ u3.ownBlock) rfl rfl (k78_mkM _ _ _ x HM.out.1 HM.out.2) (fun k hk => ⟨trivial, hk⟩) (fun _ _ => trivial) HO2.out (Below.refl _ _) HS2.out.size (by omega) ?_; intro v1 w3 HO3 _ hg3 _; have HS3 := Aside0.mk (HS2.out.grown hg3 (Kd.R_base HO2.out) hgw); clear HS2 HM hg3; obtain ⟨A1, c1, rfl⟩ := Kd.R_slice HO3; replace HO3 := Aside0.mk HO3))
          go_roundg k1
          case measure => omega
          case rel => exact ⟨by omega, out ++ [x], r', n', H.out, (by have h5 := HO3.out; rwa [List.length_append, List.length_singleton] at h5), A', c', HS3.out, HC2.out, hc2⟩
end Go.Proofs.YtkpnfejfbmandaaDoor.Px

/- (*parse.parser).block. -/
namespace Go.Proofs.YtkpnfejfbmandaaDoor.Px
open Go.RowKit Go.Proofs.YtkpnfejfbmandaaDoorW.PrintWords Go.Proofs.YtkpnfejfbmandaaDoorW.PrintLast Go.Proofs.YtkpnfejfbmandaaDoorW.PrintMore
set_option linter.unusedVariables false
set_option linter.unusedSimpArgs false
/-- The cells of a node under way. -/
def ndC (t : S76) (h : Bool) (v6 v7 : Value) : Array Value := #[.int .i64 t.f0, .int .i64 t.f1, .string t.f2, .string t.f3, .bool t.f4, .bool h, v6, v7]
/-- What a block's parsing leaves. -/
def PBPost (w0 wn w : World) (g b : Nat) (d : Int) : PA S78 → Ending → World → Prop
  | .ok (x, l', n'), e, w' => e = .returned (.tuple #[]) ∧ PSt w0 wn g l' n' d w' ∧
      (∃ v6 v7 : Value, w'.heap[b]? = some (.cells #[.int .i64 x.f0, .int .i64 x.f1, .string x.f2, .string x.f3, .bool x.f4, .bool x.f5, v6, v7] 78 (0, 0)) ∧ Kd.R k78 78 w' w.heap.size (fun _ => True) v6 x.f6 ∧ Kd.R k78 78 w' w.heap.size (fun _ => True) v7 x.f7) ∧
      (∀ k o, w.heap[k]? = some o → k ≠ g → k ≠ b → w'.heap[k]? = some o)
  | .error (at_, er), e, w' => e = boom at_ er ∧ Below w0.heap.size w0 w'
abbrev pblk.Con (k : Nat) : Prop := ∀ (g b : Nat) (t : S76) (r : List S76) (n d : Int) (res : PA S78) (w0 wn w : World) (hS : PSt w0 wn g r n d w)
  (hB : w.heap[b]? = some (.cells (ndC t false (.slice none 0 0) (.slice none 0 0)) 78 (0, 0))) (hb : wn.heap.size ≤ b) (hgb : g ≠ b) (hg : g < wn.heap.size) (hd : 0 ≤ d ∧ d ≤ 100000) (h : pblk k t r n d = some res),
  Calls Tryd.prog 79 #[.pointer (some ⟨g, 0, none⟩), .pointer (some ⟨b, 0, none⟩)] w fun e w' => PBPost w0 wn w g b d res e w'
/-- The state between the parts of a block. -/
structure BkR (w0 wn w : World) (g b : Nat) (t : S76) (d : Int) (res : PA S78) (h : Bool) (body els : List S78) (r : List S76) (n : Int) (v6 v7 : Value) (W : World) : Prop where
  e : res = endB t h body els r n
  st : PSt w0 wn g r n (d + 1) W
  blk : W.heap[b]? = some (.cells (ndC t h v6 v7) 78 (0, 0))
  r6 : Kd.R k78 78 W w.heap.size (fun _ => True) v6 body
  r7 : Kd.R k78 78 W w.heap.size (fun _ => True) v7 els
  keep : ∀ k o, w.heap[k]? = some o → k ≠ g → k ≠ b → W.heap[k]? = some o
def BkRel (w0 wn w : World) (g b : Nat) (t : S76) (d : Int) (res : PA S78) (W : World) : Prop := ∃ h body els r n v6 v7, BkR w0 wn w g b t d res h body els r n v6 v7 W
set_option maxHeartbeats 4000000 in
set_option maxRecDepth 100000 in
theorem pblk.step (k : Nat) (ihl : plist.Con k) : pblk.Con k := by
  intro g b t r n d res w0 wn w hS hB hb hgb hgn hd h
  obtain ⟨A, c, HS, HC, hc⟩ := hS
  have hgw : g < w.heap.size := HS.lt
  have hbw : b < w.heap.size := blk_lt hB
  have hsz := HS.size
  have HL := Aside0.mk ihl; clear ihl
  have hb2 : w.cell? ⟨g, 2, none⟩ = some (.int .i64 d) := (HS.cell 2).trans rfl
  have hf2 := HS.frozen 2
  have hw1 : IntKind.i64.wrap (d + 1) = d + 1 := by rw [IntKind.wrap_i64]; omega
  have HS1 := Aside0.mk ((HS.set 2 (.int .i64 (d + 1))).cast (cs' := stP A c r n (d + 1)) rfl)
  have HB1 := Aside0.mk (show (w.setCell ⟨g, 2, none⟩ (.int .i64 (d + 1))).heap[b]? = some (.cells (ndC t false (.slice none 0 0) (.slice none 0 0)) 78 (0, 0)) from blk_far' hB (Ne.symm hgb) _)
  have hkeep1 := Aside0.mk (show ∀ k o, w.heap[k]? = some o → k ≠ g → k ≠ b → (w.setCell ⟨g, 2, none⟩ (.int .i64 (d + 1))).heap[k]? = some o from fun k o ho hkg _ => by
    rw [← ho]; simp only [World.setCell, Array.getElem?_modify]; rw [if_neg (Ne.symm hkg)])
  have hsize1 : (w.setCell ⟨g, 2, none⟩ (.int .i64 (d + 1))).heap.size = w.heap.size := by simp
  have H := Aside0.mk h; clear h
  clear hB
  replace HC := Aside0.mk HC
  replace hd := Aside0.mk hd
  go_enter Tryd.func79, Tryd.ntmps79
  go_wp2_with fail
  generalize w.setCell ⟨g, 2, none⟩ (.int .i64 (d + 1)) = w1 at *
  clear HS hb2 hf2 hw1
  unfold pblk at H
  have hSt1 : PSt w0 w1 g r n (d + 1) w1 := ⟨A, c, HS1.out.again, HC.out, hc⟩
  cases hp : plist k r n (d + 1) [] with
  | none => have H2 := H.out; rw [hp] at H2; cases H2
  | some res1 =>
  have HL1 := Aside0.mk (HL.out g r n (d + 1) res1 w0 w1 hSt1 hp)
  replace H := H.out
  rw [hp] at H
  clear hp hSt1
  cases res1 with
  | error e =>
    obtain ⟨at_, er⟩ := e
    cases H
    refine HL1.out.mono ?_
    rintro e w2 ⟨rfl, hbe⟩
    go_wp2
    exact ⟨rfl, rfl, hbe⟩
  | ok q =>
  obtain ⟨body, r1, n1⟩ := q
  replace H := Aside0.mk H
  refine HL1.out.mono ?_
  rintro e w2 ⟨⟨v6, rfl, R6⟩, A2, c2, S2, HC2, hc2⟩
  clear HL1 HC hc
  have HS2 := Aside0.mk (HS1.out.call S2)
  have hkeep2 := Aside0.mk (show ∀ k o, w.heap[k]? = some o → k ≠ g → k ≠ b → w2.heap[k]? = some o from fun k o ho hkg hkb => S2.other (hkeep1.out k o ho hkg hkb) hkg)
  have HB2 := S2.other HB1.out (Ne.symm hgb)
  rw [hsize1] at R6
  have hsz2 : w.heap.size ≤ w2.heap.size := by have := S2.size; omega
  obtain ⟨A6, c6, rfl⟩ := Kd.R_slice R6
  clear S2 HS1 HB1 hkeep1
  have c80 : w2.cell? ⟨b, 0, none⟩ = some (.int .i64 t.f0) := (blk_cell HB2 0).trans rfl
  have c81 : w2.cell? ⟨b, 1, none⟩ = some (.int .i64 t.f1) := (blk_cell HB2 1).trans rfl
  have c85 : w2.cell? ⟨b, 5, none⟩ = some (.bool false) := (blk_cell HB2 5).trans rfl
  have c86 : w2.cell? ⟨b, 6, none⟩ = some (.slice none 0 0) := (blk_cell HB2 6).trans rfl
  have c87 : w2.cell? ⟨b, 7, none⟩ = some (.slice none 0 0) := (blk_cell HB2 7).trans rfl
  have z85 := blk_frozen HB2 5
  have z86 := blk_frozen HB2 6
  have z87 := blk_frozen HB2 7
  have hb0 : w2.cell? ⟨g, 0, none⟩ = some (.slice A2 r1.length c2) := (HS2.out.cell 0).trans rfl
  have hf0 := HS2.out.frozen 0
  have hbg : b ≠ g := Ne.symm hgb
  cases r1 with
  | nil =>
    have H2 := H.out; clear H
    cases H2
    rw [show ([] : List S76).length = 0 from rfl] at hb0
    have HB3 := Aside0.mk (HS2.out.far' (j := 6) hb hgb (.slice A6 body.length c6)).bel
    clear HB2 HS2 R6 HC2 hkeep2
    go_wp2
    go_region_dies
    all_goals
      go_wp2_with (go_at_call 33; (with_reducible refine (must_no _ _ _).mono ?_); rintro e w' ⟨rfl, rfl⟩)
      exact ⟨rfl, rfl, by repeat (first | exact HB3.out | apply below_alloc | apply pw_below_drewN | apply below_drew1)⟩
  | cons t1 r2 =>
  obtain ⟨bb, oo, ss, rfl, x0, x1, _, _, _⟩ := head_T28 HC2
  rw [List.length_cons] at hb0 hc2 HC2
  have hCt := Aside0.mk (cutT_C (by rw [List.length_cons]; exact HC2) (by rw [List.length_cons]; exact hc2) : Kd.C k76 w0 (cutT (some ⟨bb, oo, ss⟩) c2) r2.length r2)
  have hw1 := cutT1 (some ⟨bb, oo, ss⟩) (r2.length + 1) c2 (by omega)
  simp only [Nat.add_sub_cancel] at hw1
  have hm := Kd.C_max HC2
  have hx1 := World.block_lt_of_cell? _ _ x1
  have hb1l : bb < wn.heap.size := Nat.lt_of_lt_of_le hx1 HS2.out.le
  replace x0 := HS2.out.old x0
  replace x1 := HS2.out.old x1
  have hlen : (0 : Int) < ((r2.length + 1 : Nat) : Int) := by omega
  have hlen' : 0 < r2.length + 1 := by omega
  have hbb : bb ≠ b := by omega
  replace HC2 := Aside0.mk HC2
  replace HB2 := Aside0.mk HB2
  replace R6 := Aside0.mk R6
  go_upto_if 31 with fail
  have HS3 := Aside0.mk (HS2.out.far' (j := 6) hb hgb (.slice A6 body.length c6))
  have HB3 := Aside0.mk (show (w2.setCell ⟨b, 6, none⟩ (.slice A6 body.length c6)).heap[b]? = some (.cells (ndC t false (.slice A6 body.length c6) (.slice none 0 0)) 78 (0, 0)) from blk_set HB2.out 6 _)
  have R63 := Aside0.mk (show Kd.R k78 78 (w2.setCell ⟨b, 6, none⟩ (.slice A6 body.length c6)) w.heap.size (fun _ => True) (.slice A6 body.length c6) body from R_farB R6.out hbw _)
  have hkeep3 := Aside0.mk (show ∀ k o, w.heap[k]? = some o → k ≠ g → k ≠ b → (w2.setCell ⟨b, 6, none⟩ (.slice A6 body.length c6)).heap[k]? = some o from fun k o ho hkg hkb => by
    have h2 := hkeep2.out k o ho hkg hkb
    rw [← h2]; simp only [World.setCell, Array.getElem?_modify]; rw [if_neg (Ne.symm hkb)])
  have hsz3 : w.heap.size ≤ (w2.setCell ⟨b, 6, none⟩ (.slice A6 body.length c6)).heap.size := by simpa using hsz2
  generalize w2.setCell ⟨b, 6, none⟩ (.slice A6 body.length c6) = w3 at *
  clear HS2 HB2 R6 hkeep2 c80 c81 c85 c86 c87 z85 z86 z87 hb0 hf0 x0 x1
  have c80 : w3.cell? ⟨b, 0, none⟩ = some (.int .i64 t.f0) := (blk_cell HB3.out 0).trans rfl
  have c81 : w3.cell? ⟨b, 1, none⟩ = some (.int .i64 t.f1) := (blk_cell HB3.out 1).trans rfl
  have hb0 : w3.cell? ⟨g, 0, none⟩ = some (.slice (some ⟨bb, oo, ss⟩) (r2.length + 1) c2) := (HS3.out.cell 0).trans rfl
  have hf0 := HS3.out.frozen 0
  obtain ⟨bb', oo', ss', hee, x0, x1, _, _, _⟩ := head_T28 (t := t1) (r := r2) (by rw [List.length_cons]; exact HC2.out)
  cases hee
  replace x0 := HS3.out.old x0
  replace x1 := HS3.out.old x1
  replace H := Aside0.mk (show (if t1.f0 = 7 then (if t.f0 = 2 then (match plist k r2 n1 (d + 1) [] with | none => none | some (.error e) => some (.error e) | some (.ok (els, r3, n3)) => some (endB t true body els r3 n3)) else some (.error (t1.f1, 13))) else some (endB t false body [] (t1 :: r2) n1)) = some res from H.out)
  go_cut [] (fun wc => BkRel w0 wn w g b t d res wc)
  case first =>
    by_cases h7 : t1.f0 = 7
    case neg =>
      have H2 := H.out; clear H
      rw [if_neg h7] at H2
      have h7' : (t1.f0 == 7) = false := by simp [h7]
      clear h7
      go_wp2
      go_meet
      case rel => exact ⟨false, body, [], t1 :: r2, n1, _, _, (Option.some.inj H2).symm, ⟨_, c2, HS3.out, by rw [List.length_cons]; exact HC2.out, by rw [List.length_cons]; exact hc2⟩, HB3.out, R63.out, Kd.R_nil _ _ _ _ _, hkeep3.out⟩
    have h7' : (t1.f0 == 7) = true := by simp [h7]
    have H2 := H.out; clear H
    rw [if_pos h7] at H2
    clear h7
    by_cases h2 : t.f0 = 2
    case neg =>
      rw [if_neg h2] at H2
      cases H2
      have h2' : (t.f0 == 2) = false := by simp [h2]
      clear h2
      go_wp2
      go_region_dies
      all_goals
        go_wp2_with (go_at_call 33; (with_reducible refine (must_no _ _ _).mono ?_); rintro e w' ⟨rfl, rfl⟩)
        exact ⟨rfl, rfl, by repeat (first | exact HS3.out.bel | apply below_alloc | apply pw_below_drewN | apply below_drew1)⟩
    rw [if_pos h2] at H2
    have h2' : (t.f0 == 2) = true := by simp [h2]
    clear h2
    cases hp2 : plist k r2 n1 (d + 1) [] with
    | none => rw [hp2] at H2; cases H2
    | some res2 =>
    rw [hp2] at H2
    replace H2 := Aside0.mk H2
    have hp2 := Aside0.mk hp2
    go_upto_region 3 with fail
    go_cut [] (fun wc => wc = w3.drew)
    case first =>
      go_region_with (go_at_call 33; (with_reducible refine (must_ok _ _ _).mono ?_); rintro e w' ⟨rfl, rfl⟩)
      all_goals
        go_wp2
        go_meet
        case rel => rfl
    case rest =>
      subst hcut
      have HS4 := Aside0.mk (HS3.out.drew)
      have HB4 := Aside0.mk (show w3.drew.heap[b]? = _ from HB3.out)
      have R64 := Aside0.mk (Kd.R_drew R63.out)
      have hkeep4 := Aside0.mk (show ∀ k o, w.heap[k]? = some o → k ≠ g → k ≠ b → w3.drew.heap[k]? = some o from hkeep3.out)
      replace hb0 : w3.drew.cell? _ = _ := hb0
      replace hf0 : w3.drew.frozen? _ = _ := hf0
      have hsz4 : w.heap.size ≤ w3.drew.heap.size := hsz3
      clear HS3 HB3 R63 hkeep3 c80 c81 x0 x1 hsz3
      generalize w3.drew = w4 at *
      have HS5 := Aside0.mk ((HS4.out.set 0 (.slice (cutT (some ⟨bb, oo, ss⟩) c2) r2.length (c2 - 1))).cast (cs' := stP (cutT (some ⟨bb, oo, ss⟩) c2) (c2 - 1) r2 n1 (d + 1)) rfl)
      have HB5 := Aside0.mk (show (w4.setCell ⟨g, 0, none⟩ (.slice (cutT (some ⟨bb, oo, ss⟩) c2) r2.length (c2 - 1))).heap[b]? = _ from blk_far' HB4.out hbg _)
      have R65 := Aside0.mk (show Kd.R k78 78 (w4.setCell ⟨g, 0, none⟩ (.slice (cutT (some ⟨bb, oo, ss⟩) c2) r2.length (c2 - 1))) w.heap.size (fun _ => True) (.slice A6 body.length c6) body from R_farB R64.out hgw _)
      have hkeep5 := Aside0.mk (show ∀ k o, w.heap[k]? = some o → k ≠ g → k ≠ b → (w4.setCell ⟨g, 0, none⟩ (.slice (cutT (some ⟨bb, oo, ss⟩) c2) r2.length (c2 - 1))).heap[k]? = some o from fun k o ho hkg hkb => by
        have h2 := hkeep4.out k o ho hkg hkb
        rw [← h2]; simp only [World.setCell, Array.getElem?_modify]; rw [if_neg (Ne.symm hkg)])
      have hsz5 : w.heap.size ≤ (w4.setCell ⟨g, 0, none⟩ (.slice (cutT (some ⟨bb, oo, ss⟩) c2) r2.length (c2 - 1))).heap.size := by simpa using hsz4
      go_wp2_with fail
      generalize w4.setCell ⟨g, 0, none⟩ (.slice (cutT (some ⟨bb, oo, ss⟩) c2) r2.length (c2 - 1)) = w5 at *
      clear HS4 HB4 R64 hkeep4 hb0 hf0 hsz4
      have hc4 : r2.length ≤ c2 - 1 := by omega
      refine (HL.out g r2 n1 (d + 1) res2 w0 w5 ⟨_, _, HS5.out.again, hCt.out, hc4⟩ hp2.out).mono ?_
      clear hw1
      cases res2 with
      | error e =>
        obtain ⟨at_, er⟩ := e
        have H3 := H2.out
        cases H3
        rintro e w6 ⟨rfl, hbe⟩
        go_wp2
        exact ⟨rfl, rfl, hbe⟩
      | ok q =>
      obtain ⟨els, r3, n3⟩ := q
      rintro e w6 ⟨⟨v7, rfl, R7⟩, A7', c7', S6, HC6, hc6⟩
      have H3 := Aside0.mk (Option.some.inj H2.out)
      replace R7 := Kd.R_lower R7 hsz5
      have HB6 := S6.other HB5.out hbg
      have R66 := Aside0.mk (R_keepBut R65.out S6.keep hgw)
      have hkeep6 := Aside0.mk (show ∀ k o, w.heap[k]? = some o → k ≠ g → k ≠ b → w6.heap[k]? = some o from fun k o ho hkg hkb => S6.other (hkeep5.out k o ho hkg hkb) hkg)
      have HS6 := Aside0.mk (HS5.out.call S6)
      obtain ⟨A7, c7, rfl⟩ := Kd.R_slice R7
      clear S6 HS5 HB5 R65 hkeep5 H2
      have c85 : w6.cell? ⟨b, 5, none⟩ = some (.bool false) := (blk_cell HB6 5).trans rfl
      have c87 : w6.cell? ⟨b, 7, none⟩ = some (.slice none 0 0) := (blk_cell HB6 7).trans rfl
      have z85 := blk_frozen HB6 5
      have z87 := blk_frozen HB6 7
      replace HB6 := Aside0.mk HB6
      replace R7 := Aside0.mk R7
      replace HC6 := Aside0.mk HC6
      go_wp2
      go_meet
      case rel =>
        exact ⟨true, body, els, r3, n3, .slice A6 body.length c6, .slice A7 els.length c7, H3.out.symm, ⟨_, _, (HS6.out.far' (j := 5) hb hgb _).far' (j := 7) hb hgb _, HC6.out, hc6⟩, blk_set (blk_set HB6.out 5 _) 7 _, R_farB (R_farB R66.out hbw _) hbw _, R_farB (R_farB R7.out hbw _) hbw _, fun k o ho hkg hkb => by
          have h2 := hkeep6.out k o ho hkg hkb
          rw [← h2]; simp only [World.setCell, Array.getElem?_modify]; rw [if_neg (Ne.symm hkb), if_neg (Ne.symm hkb)]⟩
  case rest =>
    obtain ⟨hh, body', els, r, n, v6, v7, he, ⟨A8, c8, HS8, HC8, hc8⟩, HB8, R68, R78, hkeep8⟩ := hcut
    clear HS3 HB3 R63 hkeep3 c80 c81 hb0 hf0 x0 x1 hCt hw1 H hx1 hb1l hbb hlen hlen' hm hc2 HC2
    have c81 : wc.cell? ⟨b, 1, none⟩ = some (.int .i64 t.f1) := (blk_cell HB8 1).trans rfl
    have hb0 : wc.cell? ⟨g, 0, none⟩ = some (.slice A8 r.length c8) := (HS8.cell 0).trans rfl
    have hb2 : wc.cell? ⟨g, 2, none⟩ = some (.int .i64 (d + 1)) := (HS8.cell 2).trans rfl
    have hf0 := HS8.frozen 0
    have hf2 := HS8.frozen 2
    replace HS8 := Aside0.mk HS8
    replace HB8 := Aside0.mk HB8
    replace R68 := Aside0.mk R68
    replace R78 := Aside0.mk R78
    replace hkeep8 := Aside0.mk hkeep8
    cases r with
    | nil =>
      obtain rfl : res = .error (t.f1, 7) := he
      rw [show ([] : List S76).length = 0 from rfl] at hb0
      go_wp2
      go_region_dies
      all_goals
        go_wp2_with (go_at_call 33; (with_reducible refine (must_no _ _ _).mono ?_); rintro e w' ⟨rfl, rfl⟩)
        exact ⟨rfl, rfl, by repeat (first | exact HS8.out.bel | apply below_alloc | apply pw_below_drewN | apply below_drew1)⟩
    | cons t3 r4 =>
    obtain ⟨b3, o3, s3, rfl, x0, x1, _, _, _⟩ := head_T28 HC8
    rw [List.length_cons] at hb0 hc8 HC8
    have hCt := Aside0.mk (cutT_C (by rw [List.length_cons]; exact HC8) (by rw [List.length_cons]; exact hc8) : Kd.C k76 w0 (cutT (some ⟨b3, o3, s3⟩) c8) r4.length r4)
    have hw1 := cutT1 (some ⟨b3, o3, s3⟩) (r4.length + 1) c8 (by omega)
    simp only [Nat.add_sub_cancel] at hw1
    have hm := Kd.C_max HC8
    replace x0 := HS8.out.old x0
    replace x1 := HS8.out.old x1
    have hlen : (0 : Int) < ((r4.length + 1 : Nat) : Int) := by omega
    have hlen' : 0 < r4.length + 1 := by omega
    have hc9 : r4.length ≤ c8 - 1 := by omega
    clear HC8 hc8
    go_upto_region 6 with fail
    go_cut [] (fun wd => wd = wc.drew)
    case first =>
      go_region_with (go_at_call 33; (with_reducible refine (must_ok _ _ _).mono ?_); rintro e w' ⟨rfl, rfl⟩)
      all_goals
        go_wp2
        go_meet
        case rel => rfl
    case rest =>
      subst hcut
      replace HS8 := Aside0.mk (HS8.out.drew)
      replace HB8 := Aside0.mk (show wc.drew.heap[b]? = _ from HB8.out)
      replace R68 := Aside0.mk (Kd.R_drew R68.out)
      replace R78 := Aside0.mk (Kd.R_drew R78.out)
      replace hkeep8 := Aside0.mk (show ∀ k o, w.heap[k]? = some o → k ≠ g → k ≠ b → wc.drew.heap[k]? = some o from hkeep8.out)
      replace hb0 : wc.drew.cell? _ = _ := hb0
      replace hb2 : wc.drew.cell? _ = _ := hb2
      replace hf0 : wc.drew.frozen? _ = _ := hf0
      replace hf2 : wc.drew.frozen? _ = _ := hf2
      replace x0 : wc.drew.cell? _ = _ := x0
      replace x1 : wc.drew.cell? _ = _ := x1
      clear c81
      generalize wc.drew = wd at *
      by_cases h8 : t3.f0 = 8
      case neg =>
        obtain rfl : res = .error (t3.f1, 13) := by rw [he]; exact if_neg h8
        have h8' : (t3.f0 == 8) = false := by simp [h8]
        clear h8 he
        go_wp2
        go_region_dies
        all_goals
          go_wp2_with (go_at_call 33; (with_reducible refine (must_no _ _ _).mono ?_); rintro e w' ⟨rfl, rfl⟩)
          exact ⟨rfl, rfl, by repeat (first | exact HS8.out.bel | apply below_alloc | apply pw_below_drewN | apply below_drew1)⟩
      obtain rfl : res = .ok (⟨t.f0, t.f1, t.f2, t.f3, t.f4, hh, body', els⟩, r4, n) := by rw [he]; exact if_pos h8
      have h8' : (t3.f0 == 8) = true := by simp [h8]
      clear h8 he
      go_upto_region 7 with fail
      go_cut [] (fun we => we = wd.drew)
      case first =>
        go_region_with (go_at_call 33; (with_reducible refine (must_ok _ _ _).mono ?_); rintro e w' ⟨rfl, rfl⟩)
        all_goals
          go_wp2
          go_meet
          case rel => rfl
      case rest =>
        subst hcut
        replace HS8 := Aside0.mk (HS8.out.drew)
        replace HB8 := Aside0.mk (show wd.drew.heap[b]? = _ from HB8.out)
        replace R68 := Aside0.mk (Kd.R_drew R68.out)
        replace R78 := Aside0.mk (Kd.R_drew R78.out)
        replace hkeep8 := Aside0.mk (show ∀ k o, w.heap[k]? = some o → k ≠ g → k ≠ b → wd.drew.heap[k]? = some o from hkeep8.out)
        replace hb0 : wd.drew.cell? _ = _ := hb0
        replace hb2 : wd.drew.cell? _ = _ := hb2
        replace hf0 : wd.drew.frozen? _ = _ := hf0
        replace hf2 : wd.drew.frozen? _ = _ := hf2
        clear x0 x1
        generalize wd.drew = we at *
        have hd1 : IntKind.i64.wrap (d + 1 - 1) = d := by rw [IntKind.wrap_i64]; have := hd.out; omega
        have hd2 : IntKind.i64.wrap d = d := by rw [IntKind.wrap_i64]; have := hd.out; omega
        go_wp2
        go_end0
        exact ⟨rfl, ⟨_, _, ((HS8.out.set 0 (.slice (cutT (some ⟨b3, o3, s3⟩) c8) r4.length (c8 - 1))).set 2 (.int .i64 d)).cast (cs' := stP (cutT (some ⟨b3, o3, s3⟩) c8) (c8 - 1) r4 n d) rfl, hCt.out, hc9⟩, ⟨v6, v7, blk_far' (blk_far' HB8.out hbg _) hbg _, R_farB (R_farB R68.out hgw _) hgw _, R_farB (R_farB R78.out hgw _) hgw _⟩, fun k o ho hkg hkb => by
          have h2 := hkeep8.out k o ho hkg hkb
          rw [← h2]; simp only [World.setCell, Array.getElem?_modify]; rw [if_neg (Ne.symm hkg), if_neg (Ne.symm hkg)]⟩
end Go.Proofs.YtkpnfejfbmandaaDoor.Px
