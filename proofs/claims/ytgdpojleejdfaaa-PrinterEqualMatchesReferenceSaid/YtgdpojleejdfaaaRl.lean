/- Contract of the reference's Lex: written by hand over the printed contracts of find, words and form. -/
import Derived.Test.YtgdpojleejdfaaaPw
import Derived.Test.YtgdpojleejdfaaaU
namespace Go.Proofs.Ytgdpojleejdfaaa.Px
open Go.RowKit Go.Proofs.YtgdpojleejdfaaaW.PrintWords Go.Proofs.YtgdpojleejdfaaaW.PrintLast Go.Proofs.YtgdpojleejdfaaaW.PrintMore
set_option linter.unusedVariables false
set_option linter.unusedSimpArgs false

def rlexL : Nat → ByteArray → List S52 → Int → Option (List S52 × Int × Int)
  | 0, _, _, _ => none
  | k + 1, s, out, p =>
    if p < (s.size : Int) then
      if 0 ≤ p ∧ p ≤ 100000 ∧ out.length < 1000000 then
        (tmplpiperef11_find.f k s 123 p).bind fun o =>
          if o = p then
            (tmplpiperef11_find.f k s 125 (p + 2)).bind fun e =>
              if e < 0 then some ([], p, 7)
              else if p + 2 ≤ e ∧ e ≤ (s.size : Int) ∧ e ≤ 100000 then
                (tmplpiperef11_words.f k (s.extract (p + 2).toNat e.toNat)).bind fun ws =>
                  (tmplpiperef11_form.f k ws).bind fun b =>
                    if b.2.2.2.2.2.1 = true then
                      if b.2.2.2.2.2.2 = true then rlexL k s (out ++ [⟨b.1, p, b.2.2.1, b.2.2.2.1, b.2.2.2.2.1⟩]) (e + 2)
                      else some ([], p, 11)
                    else some ([], p, 5)
              else none
          else if o < 0 then rlexL k s (out ++ [⟨0, p, s.extract p.toNat s.size, ⟨#[]⟩, false⟩]) s.size
          else if p ≤ o ∧ o ≤ (s.size : Int) then rlexL k s (out ++ [⟨0, p, s.extract p.toNat o.toNat, ⟨#[]⟩, false⟩]) o
          else none
      else none
    else some (out, s.size, 0)
def rlexF (k : Nat) (s : ByteArray) : Option (List S52 × Int × Int) := if (s.size : Int) > 65536 then some ([], 0, 6) else rlexL k s [] 0

def LxRel (s : ByteArray) (R : List S52 × Int × Int) (w : World) (kq : Nat) (v5 v6 : Value) (wr : World) : Prop :=
  ∃ (out : List S52) (p : Int), v6 = .int .i64 p ∧ rlexL kq s out p = some R ∧ Kd.R k52 52 wr w.heap.size (fun _ => True) v5 out ∧ Below w.heap.size w wr

set_option maxHeartbeats 2000000 in
set_option maxRecDepth 100000 in
theorem rlexF.calls (k : Nat) (s : ByteArray) (r1 : List S52) (r2 r3 : Int) (w : World) (h : rlexF k s = some (r1, r2, r3)) :
    Calls Try.prog 24 #[.string s] w fun e w' => ∃ v0_ : Value, e = .returned (.tuple #[v0_, .int .i64 r2, .int .i64 r3]) ∧ Kd.R k52 52 w' w.heap.size (fun _ => True) v0_ r1 ∧ Below w.heap.size w w' := by
  unfold rlexF at h
  by_cases hs : (s.size : Int) > 65536
  case pos =>
    rw [if_pos hs] at h
    simp only [Option.some.injEq, Prod.mk.injEq] at h
    obtain ⟨rfl, rfl, rfl⟩ := h
    go_enter Try.func24, Try.ntmps24
    go_wp2
    go_ret3
    exact ⟨_, rfl, Kd.R_nil _ _ _ _ _, Below.refl _ _⟩
  rw [if_neg hs] at h
  have hs' : (s.size : Int) ≤ 65536 := by omega
  have hs2 : decide ((65536 : Int) < s.size) = false := decide_eq_false hs
  clear hs
  have H0 : LxRel s (r1, r2, r3) w k (.slice none 0 0) (.int .i64 0) w := ⟨[], 0, rfl, h, Kd.R_nil _ _ _ _ _, Below.refl _ _⟩
  clear h
  go_enter Try.func24, Try.ntmps24
  go_wp2
  go_loopg [5, 6] k (fun kq v5 v6 wr => LxRel s (r1, r2, r3) w kq v5 v6 wr)
  case atStart => exact H0
  case round =>
    clear H0
    obtain ⟨out, p, rfl, H, HO, HB⟩ := hrel
    cases gk with
    | zero => exact absurd H (by simp [rlexL])
    | succ k1 =>
      replace HO := Aside0.mk HO
      replace HB := Aside0.mk HB
      simp only [rlexL] at H
      by_cases hlt : p < (s.size : Int)
      case neg =>
        rw [if_neg hlt] at H
        simp only [Option.some.injEq, Prod.mk.injEq] at H
        obtain ⟨rfl, rfl, rfl⟩ := H
        go_wp2
        go_ret3
        exact ⟨_, rfl, HO.out, HB.out⟩
      rw [if_pos hlt] at H
      by_cases h0 : 0 ≤ p ∧ p ≤ 100000 ∧ out.length < 1000000
      case neg => rw [if_neg h0] at H; cases H
      rw [if_pos h0] at H
      obtain ⟨h00, h01, hol⟩ := h0
      obtain ⟨o, hfo, H⟩ := Option.bind_eq_some_iff.1 H
      replace hfo := Aside0.mk hfo
      replace H := Aside0.mk H
      by_cases ho : o = p
      case pos =>
        have H2 := H.out; clear H
        rw [if_pos ho] at H2
        subst ho
        have hne : (o != o) = false := by simp
        obtain ⟨e1, hfe, H⟩ := Option.bind_eq_some_iff.1 H2
        clear H2
        replace hfe := Aside0.mk hfe
        go_wp2_with fail
        refine (tmplpiperef11_find.calls k1 s 123 o o _ hfo.out).mono ?_
        rintro e w1 ⟨rfl, ⟨nd, rfl⟩⟩
        replace HO := Aside0.mk (Kd.R_drewN HO.out nd)
        replace HB := Aside0.mk (pw_below_drewN HB.out nd)
        generalize wr.drewN nd = w1 at *
        go_wp2_with fail
        refine (tmplpiperef11_find.calls k1 s 125 (o + 2) e1 _ hfe.out).mono ?_
        rintro e w2 ⟨rfl, ⟨nd2, rfl⟩⟩
        replace HO := Aside0.mk (Kd.R_drewN HO.out nd2)
        replace HB := Aside0.mk (pw_below_drewN HB.out nd2)
        generalize w1.drewN nd2 = w2 at *
        by_cases he : e1 < 0
        case pos =>
          rw [if_pos he] at H
          simp only [Option.some.injEq, Prod.mk.injEq] at H
          obtain ⟨rfl, rfl, rfl⟩ := H
          go_wp2
          go_ret3
          exact ⟨_, rfl, Kd.R_nil _ _ _ _ _, HB.out⟩
        rw [if_neg he] at H
        by_cases hc : o + 2 ≤ e1 ∧ e1 ≤ (s.size : Int) ∧ e1 ≤ 100000
        case neg => rw [if_neg hc] at H; cases H
        rw [if_pos hc] at H
        obtain ⟨hc1, hc2, hc3⟩ := hc
        obtain ⟨ws, hw, H⟩ := Option.bind_eq_some_iff.1 H
        obtain ⟨⟨b1, b2, b3, b4, b5, b6, b7⟩, hf, H⟩ := Option.bind_eq_some_iff.1 H
        replace hw := Aside0.mk hw
        replace hf := Aside0.mk hf
        replace H := Aside0.mk H
        have hu9 := Try.underlying9
        have d0 : 0 ≤ e1 := by omega
        have d00 : 0 ≤ o + 2 := by omega
        have d1 : decide (0 ≤ o + 2) = true := decide_eq_true (by omega)
        have d2 : decide (o + 2 ≤ e1) = true := decide_eq_true hc1
        have d3 : decide (e1 ≤ (s.size : Int)) = true := decide_eq_true hc2
        go_wp2_with fail
        refine (tmplpiperef11_words.calls k1 _ ws _ hw.out).mono ?_
        rintro e w3 ⟨v, rfl, RW, HB3⟩
        obtain ⟨A, c, rfl⟩ := Kd.R_slice RW
        replace HO := Aside0.mk (Kd.R_below HO.out HB3)
        replace HB := Aside0.mk (below_step HB.out HB3)
        replace RW := Aside0.mk (Kd.R_V (base' := w3.heap.size) RW)
        clear HB3
        go_wp2_with fail
        refine (tmplpiperef11_form.calls k1 (fun _ => True) A c ws b1 b2 b3 b4 b5 b6 b7 _ RW.out hf.out).mono ?_
        rintro e w4 ⟨rfl, HB4⟩
        replace HO := Aside0.mk (Kd.R_below HO.out HB4)
        replace HB := Aside0.mk (below_step HB.out HB4)
        clear RW HB4 hw hf d0 d1 d2 d3
        have H2 := H.out; clear H
        cases b6 with
        | false =>
          simp only [Bool.false_eq_true, if_false, Option.some.injEq, Prod.mk.injEq] at H2
          obtain ⟨rfl, rfl, rfl⟩ := H2
          go_wp2
          go_ret3
          exact ⟨_, rfl, Kd.R_nil _ _ _ _ _, below_alloc HB.out _⟩
        | true =>
          rw [if_pos rfl] at H2
          cases b7 with
          | false =>
            simp only [Bool.false_eq_true, if_false, Option.some.injEq, Prod.mk.injEq] at H2
            obtain ⟨rfl, rfl, rfl⟩ := H2
            go_wp2
            go_ret3
            exact ⟨_, rfl, Kd.R_nil _ _ _ _ _, below_alloc HB.out _⟩
          | true =>
            rw [if_pos rfl] at H2
            have H := Aside0.mk H2; clear H2
            go_wp2_with (at_builtin; refine Kd.R_append k52 w.heap.size rfl _ _ 56 52 _ 56 rfl Try.underlying56 info52 rfl (by decide) (by decide) u5 out ⟨b1, o, b3, b4, b5⟩ [.int .i64 b1, .int .i64 o, .string b3, .string b4, .bool b5] (fun _ => True) (fun k => some k ≠ u5.ownBlock) rfl (by rw [World.size_alloc]; rfl) (k52_mkM _ _ _ ⟨b1, o, b3, b4, b5⟩) (fun k hk => ⟨trivial, hk⟩) (fun _ _ => trivial) (Kd.R_alloc HO.out _) (below_alloc HB.out _) (Nat.le_trans HB.out.size (by simp)) (by omega) ?_; intro v1 w5 HO5 HB5 _ _; obtain ⟨A1, c1, rfl⟩ := Kd.R_slice HO5; replace HO5 := Aside0.mk HO5; replace HB5 := Aside0.mk HB5)
            go_roundg k1
            case measure => omega
            case rel => exact ⟨out ++ [⟨b1, o, b3, b4, b5⟩], e1 + 2, rfl, H.out, (by have h5 := HO5.out; rwa [List.length_append, List.length_singleton] at h5), HB5.out⟩
      case neg =>
        have H2 := H.out; clear H
        rw [if_neg ho] at H2
        have hne : (o != p) = true := by simp [ho]
        clear ho
        have hu9 := Try.underlying9
        by_cases ho0 : o < 0
        case pos =>
          rw [if_pos ho0] at H2
          have H := Aside0.mk H2; clear H2
          have d2 : p ≤ (s.size : Int) := by omega
          have d3 : 0 ≤ (s.size : Int) := by omega
          go_wp2_with fail
          refine (tmplpiperef11_find.calls k1 s 123 p o _ hfo.out).mono ?_
          rintro e w1 ⟨rfl, ⟨nd, rfl⟩⟩
          replace HO := Aside0.mk (Kd.R_drewN HO.out nd)
          replace HB := Aside0.mk (pw_below_drewN HB.out nd)
          generalize wr.drewN nd = w1 at *
          go_wp2_with (at_builtin; go_loud (refine Kd.R_append k52 w.heap.size rfl _ _ 56 52 _ 56 rfl Try.underlying56 info52 rfl (by decide) (by decide) u5 out ⟨0, p, s.extract p.toNat s.size, ⟨#[]⟩, false⟩ [.int .i64 0, .int .i64 p, .string (s.extract p.toNat s.size), .string ⟨#[]⟩, .bool false] (fun _ => True) (fun k => some k ≠ u5.ownBlock) rfl rfl (k52_mkM _ _ _ ⟨0, p, s.extract p.toNat s.size, ⟨#[]⟩, false⟩) (fun k hk => ⟨trivial, hk⟩) (fun _ _ => trivial) HO.out HB.out HB.out.size (by omega) ?_); intro v1 w5 HO5 HB5 _ _; obtain ⟨A1, c1, rfl⟩ := Kd.R_slice HO5; replace HO5 := Aside0.mk HO5; replace HB5 := Aside0.mk HB5)
          go_roundg k1
          case measure => omega
          case rel => exact ⟨out ++ [⟨0, p, s.extract p.toNat s.size, ⟨#[]⟩, false⟩], s.size, rfl, H.out, (by have h5 := HO5.out; rwa [List.length_append, List.length_singleton] at h5), HB5.out⟩
        case neg =>
          rw [if_neg ho0] at H2
          by_cases hc : p ≤ o ∧ o ≤ (s.size : Int)
          case neg => rw [if_neg hc] at H2; cases H2
          rw [if_pos hc] at H2
          have H := Aside0.mk H2; clear H2
          obtain ⟨hc1, hc2⟩ := hc
          have hoo : 0 ≤ o := by omega
          clear ho0
          go_wp2_with fail
          refine (tmplpiperef11_find.calls k1 s 123 p o _ hfo.out).mono ?_
          rintro e w1 ⟨rfl, ⟨nd, rfl⟩⟩
          replace HO := Aside0.mk (Kd.R_drewN HO.out nd)
          replace HB := Aside0.mk (pw_below_drewN HB.out nd)
          generalize wr.drewN nd = w1 at *
          go_wp2_with (at_builtin; go_loud (refine Kd.R_append k52 w.heap.size rfl _ _ 56 52 _ 56 rfl Try.underlying56 info52 rfl (by decide) (by decide) u5 out ⟨0, p, s.extract p.toNat o.toNat, ⟨#[]⟩, false⟩ [.int .i64 0, .int .i64 p, .string (s.extract p.toNat o.toNat), .string ⟨#[]⟩, .bool false] (fun _ => True) (fun k => some k ≠ u5.ownBlock) rfl rfl (k52_mkM _ _ _ ⟨0, p, s.extract p.toNat o.toNat, ⟨#[]⟩, false⟩) (fun k hk => ⟨trivial, hk⟩) (fun _ _ => trivial) HO.out HB.out HB.out.size (by omega) ?_); intro v1 w5 HO5 HB5 _ _; obtain ⟨A1, c1, rfl⟩ := Kd.R_slice HO5; replace HO5 := Aside0.mk HO5; replace HB5 := Aside0.mk HB5)
          go_roundg k1
          case measure => omega
          case rel => exact ⟨out ++ [⟨0, p, s.extract p.toNat o.toNat, ⟨#[]⟩, false⟩], o, rfl, H.out, (by have h5 := HO5.out; rwa [List.length_append, List.length_singleton] at h5), HB5.out⟩
end Go.Proofs.Ytgdpojleejdfaaa.Px
