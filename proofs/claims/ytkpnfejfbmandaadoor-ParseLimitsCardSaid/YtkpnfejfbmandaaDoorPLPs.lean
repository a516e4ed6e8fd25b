import Derived.Test.YtkpnfejfbmandaaDoorPLMd
import Derived.WalkSmall
import Derived.RegionDies
/- parse.Parse: what it computes; parse.must, parse.opens; slices of tokens. -/
namespace Go.Proofs.YtkpnfejfbmandaaDoor.Px
open Go.RowKit Go.Proofs.YtkpnfejfbmandaaDoorW.PrintWords Go.Proofs.YtkpnfejfbmandaaDoorW.PrintLast Go.Proofs.YtkpnfejfbmandaaDoorW.PrintMore
set_option linter.unusedVariables false
set_option linter.unusedSimpArgs false
/-- An answer of the parser: what was parsed, the tokens that are left, the number of nodes; or an offset and an error. -/
abbrev PA (α : Type) := Except (Int × Int) (α × List S76 × Int)
def endB (t : S76) (h : Bool) (body els : List S78) : List S76 → Int → PA S78
  | [], _ => .error (t.f1, 7)
  | t3 :: r4, n => if t3.f0 = 8 then .ok (⟨t.f0, t.f1, t.f2, t.f3, t.f4, h, body, els⟩, r4, n) else .error (t3.f1, 13)
def opK (k : Int) : Prop := k = 2 ∨ k = 3 ∨ k = 6
instance (k : Int) : Decidable (opK k) := by unfold opK; infer_instance
mutual
def plist : Nat → List S76 → Int → Int → List S78 → Option (PA (List S78))
  | 0, _, _, _, _ => none
  | k + 1, [], n, d, out => some (.ok (out, [], n))
  | k + 1, t :: r, n, d, out =>
    if out.length < 100000 then
      if t.f0 = 7 ∨ t.f0 = 8 then some (.ok (out, t :: r, n))
      else match pnode k t r n d with
        | none => none
        | some (.error e) => some (.error e)
        | some (.ok (x, r', n')) => plist k r' n' d (out ++ [x])
    else none
def pnode : Nat → S76 → List S76 → Int → Int → Option (PA S78)
  | 0, _, _, _, _ => none
  | k + 1, t, r, n, d =>
    if 0 ≤ n ∧ 0 ≤ d then
      if t.f0 = 6 ∧ d > 0 then some (.error (t.f1, 13))
      else if opK t.f0 ∧ d ≥ 32 then some (.error (t.f1, 13))
      else if n ≥ 4096 then some (.error (t.f1, 14))
      else if opK t.f0 then
        match plist k r (n + 1) (d + 1) [] with
        | none => none
        | some (.error e) => some (.error e)
        | some (.ok (body, [], n1)) => some (.error (t.f1, 7))
        | some (.ok (body, t1 :: r2, n1)) =>
          if t1.f0 = 7 then
            if t.f0 = 2 then
              match plist k r2 n1 (d + 1) [] with
              | none => none
              | some (.error e) => some (.error e)
              | some (.ok (els, r3, n3)) => some (endB t true body els r3 n3)
            else some (.error (t1.f1, 13))
          else some (endB t false body [] (t1 :: r2) n1)
      else some (.ok (⟨t.f0, t.f1, t.f2, t.f3, t.f4, false, [], []⟩, r, n + 1))
    else none
end
/-- The rest of a block. -/
def pblk (k : Nat) (t : S76) (r : List S76) (n d : Int) : Option (PA S78) :=
  match plist k r n (d + 1) [] with
  | none => none
  | some (.error e) => some (.error e)
  | some (.ok (body, [], n1)) => some (.error (t.f1, 7))
  | some (.ok (body, t1 :: r2, n1)) =>
    if t1.f0 = 7 then
      if t.f0 = 2 then
        match plist k r2 n1 (d + 1) [] with
        | none => none
        | some (.error e) => some (.error e)
        | some (.ok (els, r3, n3)) => some (endB t true body els r3 n3)
      else some (.error (t1.f1, 13))
    else some (endB t false body [] (t1 :: r2) n1)
theorem pnode_eq (k : Nat) (t : S76) (r : List S76) (n d : Int) : pnode (k + 1) t r n d =
    if 0 ≤ n ∧ 0 ≤ d then
      if t.f0 = 6 ∧ d > 0 then some (.error (t.f1, 13))
      else if opK t.f0 ∧ d ≥ 32 then some (.error (t.f1, 13))
      else if n ≥ 4096 then some (.error (t.f1, 14))
      else if opK t.f0 then pblk k t r (n + 1) d
      else some (.ok (⟨t.f0, t.f1, t.f2, t.f3, t.f4, false, [], []⟩, r, n + 1))
    else none := by
  rw [pnode]; rfl
@[irreducible] def opB (a : Int) : Bool := a == 2 || a == 3 || a == 6
theorem opB_iff (a : Int) : opB a = true ↔ opK a := by unfold opB opK; simp [or_assoc]
theorem opens_any (a : Int) (w : World) : Calls Tryd.prog 78 #[.int .i64 a] w fun e w' => e = .returned (.bool (opB a)) ∧ w = w' := by
  unfold opB
  by_cases h2 : (a == 2) = true
  · go_enter Tryd.func78, Tryd.ntmps78
    go_wp2
    go_ret
    exact ⟨by simp [h2], rfl⟩
  · have h2' : (a == 2) = false := by simpa using h2
    by_cases h3 : (a == 3) = true
    · go_enter Tryd.func78, Tryd.ntmps78
      go_wp2
      go_ret
      exact ⟨by simp [h2, h3], rfl⟩
    · have h3' : (a == 3) = false := by simpa using h3
      go_enter Tryd.func78, Tryd.ntmps78
      go_wp2
      go_ret
      exact ⟨by simp [h2', h3'], rfl⟩
/-- The panic of a syntax error. -/
abbrev boom (at_ e : Int) : Ending := .panicked [{ v := .iface 68 (.agg #[.int .i64 at_, .int .i64 e]), recovered := false }]
theorem must_ok (at_ er : Int) (w : World) : Calls Tryd.prog 33 #[.bool true, .int .i64 at_, .int .i64 er] w fun e w' => e = .returned (.tuple #[]) ∧ w = w' := by
  go_enter Tryd.func33, Tryd.ntmps33
  go_wp2
  go_end0
  exact ⟨rfl, rfl⟩
theorem must_no (at_ er : Int) (w : World) : Calls Tryd.prog 33 #[.bool false, .int .i64 at_, .int .i64 er] w fun e w' => e = boom at_ er ∧ w = w' := by
  go_enter Tryd.func33, Tryd.ntmps33
  go_wp2
  exact ⟨rfl, rfl, rfl⟩
set_option maxRecDepth 100000 in
theorem info76d : ∃ i, Tryd.prog.info? 76 = some i ∧ i.size = 5 := ⟨_, rfl, rfl⟩
def cutT (A : Option Addr) (c : Nat) : Option Addr := if c = 1 then A else A.map (·.add 5)
theorem cutT_C {w : World} {A : Option Addr} {c : Nat} {x : S76} {l : List S76} (h : Kd.C k76 w A (x :: l).length (x :: l)) (hc : (x :: l).length ≤ c) : Kd.C k76 w (cutT A c) l.length l :=
  Kd.C_drop (m := 1) h (by rw [List.length_cons]; omega) hc
theorem cutT1 (A : Option Addr) (n c : Nat) (h : 1 ≤ n) : ∀ W : World, (Instr.slice 64 (.slice A n c) (some (.int .i64 1)) none none).run Tryd.prog W = .ok (.slice (cutT A c) (n - 1) (c - 1)) W := by
  obtain ⟨i, hi, hsz⟩ := info76d
  exact cut_from 64 76 .i64 Tryd.underlying64 hi 5 hsz A n c 1 (by decide) (by omega)
theorem head_T28 {w : World} {A : Option Addr} {t : S76} {r : List S76} (h : Kd.C k76 w A (t :: r).length (t :: r)) : ∃ b o s, A = some ⟨b, o, s⟩ ∧ w.cell? ⟨b, o, s⟩ = some (.int .i64 t.f0) ∧ w.cell? ⟨b, o + 1, none⟩ = some (.int .i64 t.f1) ∧ w.cell? ⟨b, o + 2, none⟩ = some (.string t.f2) ∧ w.cell? ⟨b, o + 3, none⟩ = some (.string t.f3) ∧ w.cell? ⟨b, o + 4, none⟩ = some (.bool t.f4) := by
  obtain ⟨ad, e, x0, x1, x2, x3, x4⟩ := at_T76 h 0 (Int.le_refl _) (by rw [List.length_cons]; omega)
  obtain ⟨b, o, s⟩ := ad
  have e0 : rd_T76 (t :: r) 0 = t := rfl
  rw [e0] at x0 x1 x2 x3 x4
  simp only [Addr.add, Int.toNat_zero, Nat.zero_mul, if_true, Nat.add_zero] at x0 x1 x2 x3 x4
  exact ⟨b, o, s, e, x0, x1, x2, x3, x4⟩
def stP (A : Option Addr) (c : Nat) (l : List S76) (n d : Int) : Array Value := #[.slice A l.length c, .int .i64 n, .int .i64 d]
/-- The parser g in a world W: the tokens that are left, the number of nodes, the depth. -/
def PSt (w0 w : World) (g : Nat) (l : List S76) (n d : Int) (W : World) : Prop := ∃ A c, Stp w0 w g 72 (stP A c l n d) W ∧ Kd.C k76 w0 A l.length l ∧ l.length ≤ c
def PPost {α : Type} (w0 w : World) (g : Nat) (d : Int) (Q : Ending → α → World → Prop) : PA α → Ending → World → Prop
  | .ok (x, l', n'), e, w' => Q e x w' ∧ PSt w0 w g l' n' d w'
  | .error (at_, er), e, w' => e = boom at_ er ∧ Below w0.heap.size w0 w'
abbrev plist.Con (k : Nat) : Prop := ∀ (g : Nat) (l : List S76) (n d : Int) (res : PA (List S78)) (w0 w : World) (hS : PSt w0 w g l n d w) (h : plist k l n d [] = some res),
  Calls Tryd.prog 32 #[.pointer (some ⟨g, 0, none⟩)] w fun e w' => PPost w0 w g d (fun e r w' => ∃ v : Value, e = .returned v ∧ Kd.R k78 78 w' w.heap.size (fun _ => True) v r) res e w'
abbrev pnode.Con (k : Nat) : Prop := ∀ (g : Nat) (t : S76) (r : List S76) (n d : Int) (res : PA S78) (w0 w : World) (hS : PSt w0 w g (t :: r) n d w) (h : pnode k t r n d = some res),
  Calls Tryd.prog 55 #[.pointer (some ⟨g, 0, none⟩)] w fun e w' => PPost w0 w g d (fun e x w' => ∃ v6 v7 : Value, e = .returned (.agg #[.int .i64 x.f0, .int .i64 x.f1, .string x.f2, .string x.f3, .bool x.f4, .bool x.f5, v6, v7]) ∧ Kd.R k78 78 w' w.heap.size (fun _ => True) v6 x.f6 ∧ Kd.R k78 78 w' w.heap.size (fun _ => True) v7 x.f7) res e w'
theorem info78 : (Tryd.prog.info? 78).map (fun i => (i.zero, i.size, i.bytes)) = some (some (.agg #[.int .i64 0, .int .i64 0, .string ⟨#[]⟩, .string ⟨#[]⟩, .bool false, .bool false, .slice none 0 0, .slice none 0 0]), 8, 104) := by kernel_rfl
end Go.Proofs.YtkpnfejfbmandaaDoor.Px
