import Derived.Test.YtkpnfejfbmandaaDoorCU11
import Derived.Test.YtkpnfejfbmandaaDoorCSM0
import Derived.Test.YtkpnfejfbmandaaDoorCSM2
import Derived.Test.YtkpnfejfbmandaaDoorCU3
import Derived.Test.YtkpnfejfbmandaaDoorCU2
import Derived.Maps.RangeWalk
import Derived.Lib.FieldsP
import Derived.Lib.Split
import Derived.Lib.IndexMore
import Derived.Lib.DecodeN
import Derived.Test.YtkpnfejfbmandaaDoorCU8
import Derived.Test.YtkpnfejfbmandaaDoorCU7
import Derived.Test.YtkpnfejfbmandaaDoorCU6
import Derived.Test.YtkpnfejfbmandaaDoorCU4
import Derived.Shelf.Strings.Builder1
import Derived.Shelf.Strings.Builder2
import Derived.Shelf.Strings.OnBuilder
import Derived.Shelf.Small.Strs
import Derived.Shelf.Small.Wraps
import Derived.Shelf.Strings.BuilderF
import Derived.Shelf.Strings.BuilderK
import Derived.Shelf.Utf8.RuneCount
import Derived.Shelf.Strings.Builder2Cap
import Derived.Shelf.Strings.Search1
import Derived.Shelf.Strings.Search2
import Derived.Shelf.Strings.Search3
import Derived.Shelf.Strings.Cut
import Derived.Shelf.Strings.Count
import Derived.Shelf.LaysM
import Derived.Shelf.Strings.Shaped
import Derived.Shelf.Strings.Prefix
import Derived.Shelf.Strings.Split
import Derived.Shelf.Strings.SplitShaped
import Derived.Shelf.Unicode.Decode
import Derived.Shelf.Strings.RuneCount
import Derived.Shelf.Strings.Explode
import Derived.Shelf.Bits.Mul64
import Derived.Shelf.Strings.Repeat
import Derived.Shelf.Unicode.DecodeSlow
import Derived.Shelf.Unicode.DecodeAny
import Derived.Shelf.Strings.FieldsFuncAny
import Derived.Shelf.Strings.FieldsFuncGrows
import Derived.Shelf.Strings.BuilderCap
import Derived.Test.YtkpnfejfbmandaaDoorProg
import Derived.WalkLawsBesides
import Derived.StillTailTactics
import Derived.Outline
import Derived.Test.YtkpnfejfbmandaaDoorCU16
/- Merged texts: Rl Pa Ls Lb Ld Le. -/
namespace Go.Proofs.YtkpnfejfbmandaaDoor.Px
open Go.RowKit Go.Proofs.YtkpnfejfbmandaaDoorW.PrintWords Go.Proofs.YtkpnfejfbmandaaDoorW.PrintLast Go.Proofs.YtkpnfejfbmandaaDoorW.PrintMore
set_option linter.unusedVariables false
set_option linter.unusedSimpArgs false
def rlexL : Nat → ByteArray → List S140 → Int → Option (List S140 × Int × Int)
  | 0, _, _, _ => none
  | k + 1, s, out, p =>
    if p < (s.size : Int) then
      if 0 ≤ p ∧ p ≤ 100000 ∧ out.length < 1000000 then
        (tmplpiperef11_find.f k s 123 p).bind fun o =>
          if o = p then
            (tmplpiperef11_find.f k s 125 (p + 2)).bind fun e =>
              if e < 0 then some ([], p, 7)
              else if p + 2 ≤ e ∧ e ≤ (s.size : Int) ∧ e ≤ 100000 then
                (tmplpiperef11_words.f k (s.extract (p + 2).toNat e.toNat)).bind fun ws =>
                  (tmplpiperef11_form.f k ws).bind fun b =>
                    if b.2.2.2.2.2.1 = true then
                      if b.2.2.2.2.2.2 = true then rlexL k s (out ++ [⟨b.1, p, b.2.2.1, b.2.2.2.1, b.2.2.2.2.1⟩]) (e + 2)
                      else some ([], p, 11)
                    else some ([], p, 5)
              else none
          else if o < 0 then rlexL k s (out ++ [⟨0, p, s.extract p.toNat s.size, ⟨#[]⟩, false⟩]) s.size
          else if p ≤ o ∧ o ≤ (s.size : Int) then rlexL k s (out ++ [⟨0, p, s.extract p.toNat o.toNat, ⟨#[]⟩, false⟩]) o
          else none
      else none
    else some (out, s.size, 0)
def rlexF (k : Nat) (s : ByteArray) : Option (List S140 × Int × Int) := if (s.size : Int) > 65536 then some ([], 0, 6) else rlexL k s [] 0
def LxRel (s : ByteArray) (R : List S140 × Int × Int) (w : World) (kq : Nat) (v5 v6 : Value) (wr : World) : Prop :=
  ∃ (out : List S140) (p : Int), v6 = .int .i64 p ∧ rlexL kq s out p = some R ∧ Kd.R k140 140 wr w.heap.size (fun _ => True) v5 out ∧ Below w.heap.size w wr
set_option maxHeartbeats 2000000 in
set_option maxRecDepth 100000 in
theorem rlexF.calls (k : Nat) (s : ByteArray) (r1 : List S140) (r2 r3 : Int) (w : World) (h : rlexF k s = some (r1, r2, r3)) :
    Calls Tryd.prog 42 #[.string s] w fun e w' => ∃ v0_ : Value, e = .returned (.tuple #[v0_, .int .i64 r2, .int .i64 r3]) ∧ Kd.R k140 140 w' w.heap.size (fun _ => True) v0_ r1 ∧ Below w.heap.size w w' := by
  unfold rlexF at h
  by_cases hs : (s.size : Int) > 65536
  case pos =>
    rw [if_pos hs] at h
    simp only [Option.some.injEq, Prod.mk.injEq] at h
    obtain ⟨rfl, rfl, rfl⟩ := h
    go_enter Tryd.func42, Tryd.ntmps42
    go_wp2
    go_ret3
    exact ⟨_, rfl, Kd.R_nil _ _ _ _ _, Below.refl _ _⟩
  rw [if_neg hs] at h
  have hs' : (s.size : Int) ≤ 65536 := by omega
  have hs2 : decide ((65536 : Int) < s.size) = false := decide_eq_false hs
  clear hs
  have H0 : LxRel s (r1, r2, r3) w k (.slice none 0 0) (.int .i64 0) w := ⟨[], 0, rfl, h, Kd.R_nil _ _ _ _ _, Below.refl _ _⟩
  clear h
  go_enter Tryd.func42, Tryd.ntmps42
  go_wp2
  go_loopg [5, 6] k (fun kq v5 v6 wr => LxRel s (r1, r2, r3) w kq v5 v6 wr)
  case atStart => exact H0
  case round =>
    clear H0
    obtain ⟨out, p, rfl, H, HO, HB⟩ := hrel
    cases gk with
    | zero => exact absurd H (by simp [rlexL])
    | succ k1 =>
      replace HO := Aside0.mk HO
      replace HB := Aside0.mk HB
      simp only [rlexL] at H
      by_cases hlt : p < (s.size : Int)
      case neg =>
        rw [if_neg hlt] at H
        simp only [Option.some.injEq, Prod.mk.injEq] at H
        obtain ⟨rfl, rfl, rfl⟩ := H
        go_wp2
        go_ret3
        exact ⟨_, rfl, HO.out, HB.out⟩
      rw [if_pos hlt] at H
      by_cases h0 : 0 ≤ p ∧ p ≤ 100000 ∧ out.length < 1000000
      case neg => rw [if_neg h0] at H; cases H
      rw [if_pos h0] at H
      obtain ⟨h00, h01, hol⟩ := h0
      obtain ⟨o, hfo, H⟩ := Option.bind_eq_some_iff.1 H
      replace hfo := Aside0.mk hfo
      replace H := Aside0.mk H
      by_cases ho : o = p
      case pos =>
        have H2 := H.out; clear H
        rw [if_pos ho] at H2
        subst ho
        have hne : (o != o) = false := by simp
        obtain ⟨e1, hfe, H⟩ := Option.bind_eq_some_iff.1 H2
        clear H2
        replace hfe := Aside0.mk hfe
        go_wp2_with fail
        refine (tmplpiperef11_find.calls k1 s 123 o o _ hfo.out).mono ?_
        rintro e w1 ⟨rfl, ⟨nd, rfl⟩⟩
        replace HO := Aside0.mk (Kd.R_drewN HO.out nd)
        replace HB := Aside0.mk (pw_below_drewN HB.out nd)
        generalize wr.drewN nd = w1 at *
        go_wp2_with fail
        refine (tmplpiperef11_find.calls k1 s 125 (o + 2) e1 _ hfe.out).mono ?_
        rintro e w2 ⟨rfl, ⟨nd2, rfl⟩⟩
        replace HO := Aside0.mk (Kd.R_drewN HO.out nd2)
        replace HB := Aside0.mk (pw_below_drewN HB.out nd2)
        generalize w1.drewN nd2 = w2 at *
        by_cases he : e1 < 0
        case pos =>
          rw [if_pos he] at H
          simp only [Option.some.injEq, Prod.mk.injEq] at H
          obtain ⟨rfl, rfl, rfl⟩ := H
          go_wp2
          go_ret3
          exact ⟨_, rfl, Kd.R_nil _ _ _ _ _, HB.out⟩
        rw [if_neg he] at H
        by_cases hc : o + 2 ≤ e1 ∧ e1 ≤ (s.size : Int) ∧ e1 ≤ 100000
        case neg => rw [if_neg hc] at H; cases H
        rw [if_pos hc] at H
        obtain ⟨hc1, hc2, hc3⟩ := hc
        obtain ⟨ws, hw, H⟩ := Option.bind_eq_some_iff.1 H
        obtain ⟨⟨b1, b2, b3, b4, b5, b6, b7⟩, hf, H⟩ := Option.bind_eq_some_iff.1 H
        replace hw := Aside0.mk hw
        replace hf := Aside0.mk hf
        replace H := Aside0.mk H
        have hu9 := Tryd.underlying9
        have d0 : 0 ≤ e1 := by omega
        have d00 : 0 ≤ o + 2 := by omega
        have d1 : decide (0 ≤ o + 2) = true := decide_eq_true (by omega)
        have d2 : decide (o + 2 ≤ e1) = true := decide_eq_true hc1
        have d3 : decide (e1 ≤ (s.size : Int)) = true := decide_eq_true hc2
        go_wp2_with fail
        refine (tmplpiperef11_words.calls k1 _ ws _ hw.out).mono ?_
        rintro e w3 ⟨v, rfl, RW, HB3⟩
        obtain ⟨A, c, rfl⟩ := Kd.R_slice RW
        replace HO := Aside0.mk (Kd.R_below HO.out HB3)
        replace HB := Aside0.mk (below_step HB.out HB3)
        replace RW := Aside0.mk (Kd.R_V (base' := w3.heap.size) RW)
        clear HB3
        go_wp2_with fail
        refine (tmplpiperef11_form.calls k1 (fun _ => True) A c ws b1 b2 b3 b4 b5 b6 b7 _ RW.out hf.out).mono ?_
        rintro e w4 ⟨rfl, HB4⟩
        replace HO := Aside0.mk (Kd.R_below HO.out HB4)
        replace HB := Aside0.mk (below_step HB.out HB4)
        clear RW HB4 hw hf d0 d1 d2 d3
        have H2 := H.out; clear H
        cases b6 with
        | false =>
          simp only [Bool.false_eq_true, if_false, Option.some.injEq, Prod.mk.injEq] at H2
          obtain ⟨rfl, rfl, rfl⟩ := H2
          go_wp2
          go_ret3
          exact ⟨_, rfl, Kd.R_nil _ _ _ _ _, below_alloc HB.out _⟩
        | true =>
          rw [if_pos rfl] at H2
          cases b7 with
          | false =>
            simp only [Bool.false_eq_true, if_false, Option.some.injEq, Prod.mk.injEq] at H2
            obtain ⟨rfl, rfl, rfl⟩ := H2
            go_wp2
            go_ret3
            exact ⟨_, rfl, Kd.R_nil _ _ _ _ _, below_alloc HB.out _⟩
          | true =>
            rw [if_pos rfl] at H2
            have H := Aside0.mk H2; clear H2
            go_wp2_with (at_builtin; refine Kd.R_append k140 w.heap.size rfl _ _ 93 140 _ 56 rfl Tryd.underlying93 info140 rfl (by decide) (by decide) u5 out ⟨b1, o, b3, b4, b5⟩ [.int .i64 b1, .int .i64 o, .string b3, .string b4, .bool b5] (fun _ => True) (fun k => some k ≠ u5.ownBlock) rfl (by rw [World.size_alloc]; rfl) (k140_mkM _ _ _ ⟨b1, o, b3, b4, b5⟩) (fun k hk => ⟨trivial, hk⟩) (fun _ _ => trivial) (Kd.R_alloc HO.out _) (below_alloc HB.out _) (Nat.le_trans HB.out.size (by simp)) (by omega) ?_; intro v1 w5 HO5 HB5 _ _; obtain ⟨A1, c1, rfl⟩ := Kd.R_slice HO5; replace HO5 := Aside0.mk HO5; replace HB5 := Aside0.mk HB5)
            go_roundg k1
            case measure => omega
            case rel => exact ⟨out ++ [⟨b1, o, b3, b4, b5⟩], e1 + 2, rfl, H.out, (by have h5 := HO5.out; rwa [List.length_append, List.length_singleton] at h5), HB5.out⟩
      case neg =>
        have H2 := H.out; clear H
        rw [if_neg ho] at H2
        have hne : (o != p) = true := by simp [ho]
        clear ho
        have hu9 := Tryd.underlying9
        by_cases ho0 : o < 0
        case pos =>
          rw [if_pos ho0] at H2
          have H := Aside0.mk H2; clear H2
          have d2 : p ≤ (s.size : Int) := by omega
          have d3 : 0 ≤ (s.size : Int) := by omega
          go_wp2_with fail
          refine (tmplpiperef11_find.calls k1 s 123 p o _ hfo.out).mono ?_
          rintro e w1 ⟨rfl, ⟨nd, rfl⟩⟩
          replace HO := Aside0.mk (Kd.R_drewN HO.out nd)
          replace HB := Aside0.mk (pw_below_drewN HB.out nd)
          generalize wr.drewN nd = w1 at *
          go_wp2_with (at_builtin; go_loud (refine Kd.R_append k140 w.heap.size rfl _ _ 93 140 _ 56 rfl Tryd.underlying93 info140 rfl (by decide) (by decide) u5 out ⟨0, p, s.extract p.toNat s.size, ⟨#[]⟩, false⟩ [.int .i64 0, .int .i64 p, .string (s.extract p.toNat s.size), .string ⟨#[]⟩, .bool false] (fun _ => True) (fun k => some k ≠ u5.ownBlock) rfl rfl (k140_mkM _ _ _ ⟨0, p, s.extract p.toNat s.size, ⟨#[]⟩, false⟩) (fun k hk => ⟨trivial, hk⟩) (fun _ _ => trivial) HO.out HB.out HB.out.size (by omega) ?_); intro v1 w5 HO5 HB5 _ _; obtain ⟨A1, c1, rfl⟩ := Kd.R_slice HO5; replace HO5 := Aside0.mk HO5; replace HB5 := Aside0.mk HB5)
          go_roundg k1
          case measure => omega
          case rel => exact ⟨out ++ [⟨0, p, s.extract p.toNat s.size, ⟨#[]⟩, false⟩], s.size, rfl, H.out, (by have h5 := HO5.out; rwa [List.length_append, List.length_singleton] at h5), HB5.out⟩
        case neg =>
          rw [if_neg ho0] at H2
          by_cases hc : p ≤ o ∧ o ≤ (s.size : Int)
          case neg => rw [if_neg hc] at H2; cases H2
          rw [if_pos hc] at H2
          have H := Aside0.mk H2; clear H2
          obtain ⟨hc1, hc2⟩ := hc
          have hoo : 0 ≤ o := by omega
          clear ho0
          go_wp2_with fail
          refine (tmplpiperef11_find.calls k1 s 123 p o _ hfo.out).mono ?_
          rintro e w1 ⟨rfl, ⟨nd, rfl⟩⟩
          replace HO := Aside0.mk (Kd.R_drewN HO.out nd)
          replace HB := Aside0.mk (pw_below_drewN HB.out nd)
          generalize wr.drewN nd = w1 at *
          go_wp2_with (at_builtin; go_loud (refine Kd.R_append k140 w.heap.size rfl _ _ 93 140 _ 56 rfl Tryd.underlying93 info140 rfl (by decide) (by decide) u5 out ⟨0, p, s.extract p.toNat o.toNat, ⟨#[]⟩, false⟩ [.int .i64 0, .int .i64 p, .string (s.extract p.toNat o.toNat), .string ⟨#[]⟩, .bool false] (fun _ => True) (fun k => some k ≠ u5.ownBlock) rfl rfl (k140_mkM _ _ _ ⟨0, p, s.extract p.toNat o.toNat, ⟨#[]⟩, false⟩) (fun k hk => ⟨trivial, hk⟩) (fun _ _ => trivial) HO.out HB.out HB.out.size (by omega) ?_); intro v1 w5 HO5 HB5 _ _; obtain ⟨A1, c1, rfl⟩ := Kd.R_slice HO5; replace HO5 := Aside0.mk HO5; replace HB5 := Aside0.mk HB5)
          go_roundg k1
          case measure => omega
          case rel => exact ⟨out ++ [⟨0, p, s.extract p.toNat o.toNat, ⟨#[]⟩, false⟩], o, rfl, H.out, (by have h5 := HO5.out; rwa [List.length_append, List.length_singleton] at h5), HB5.out⟩
end Go.Proofs.YtkpnfejfbmandaaDoor.Px
namespace Go.Proofs.YtkpnfejfbmandaaDoor.Px
open Go.RowKit Go.Proofs.YtkpnfejfbmandaaDoorW.PrintWords Go.Proofs.YtkpnfejfbmandaaDoorW.PrintLast Go.Proofs.YtkpnfejfbmandaaDoorW.PrintMore
set_option linter.unusedVariables false
set_option linter.unusedSimpArgs false
theorem sz_extract (s : ByteArray) (a b : Nat) (h : a ≤ b) (hb : b ≤ s.size) : (s.extract a b).size = b - a := by
  rw [ByteArray.size_extract]; omega
theorem letter_ends (a : Int) : ∃ b, tmplpiperef09_letter.f a = some b := by
  unfold tmplpiperef09_letter.f
  repeat' split
  all_goals exact ⟨_, rfl⟩
theorem isname_ends (s : ByteArray) (hs : s.size ≤ 65536) (k : Nat) (hk : s.size + 3 ≤ k) : ∃ b, tmplpiperef09_IsName.f k s = some b := by
  have loop : ∀ (k : Nat) (i : Int), 0 ≤ i → i ≤ 70000 → 1 ≤ k → (s.size : Int) - i < k → ∃ b, tmplpiperef09_IsName.l0 k s i = some b := by
    intro k
    induction k with
    | zero => intro i _ _ h _; omega
    | succ k ih =>
      intro i h0 h1 _ hk
      have hw : wrap64 (i + 1) = i + 1 := w64 (by omega) (by omega)
      simp only [tmplpiperef09_IsName.l0, hw]
      by_cases hl : i < (s.size : Int)
      case neg => rw [if_neg hl]; exact ⟨_, rfl⟩
      rw [if_pos hl, if_pos h0]
      obtain ⟨b, hb⟩ := letter_ends (bt s i)
      rw [hb]
      have next := ih (i + 1) (by omega) (by omega) (by omega) (by omega)
      simp only [Option.bind_some]
      repeat' split
      all_goals first | exact next | exact ⟨_, rfl⟩
  have j0 : ∀ b, ∃ r, tmplpiperef09_IsName.j0 k s b = some r := by
    intro b
    cases k with
    | zero => omega
    | succ k =>
      simp only [tmplpiperef09_IsName.j0]
      split
      · exact ⟨_, rfl⟩
      · exact loop k 0 (by omega) (by omega) (by omega) (by omega)
  unfold tmplpiperef09_IsName.f
  split
  · exact j0 true
  · split
    · exact j0 true
    · rw [if_pos (by omega)]
      obtain ⟨b, hb⟩ := letter_ends (bt s 0)
      rw [hb]
      exact j0 _
theorem split_ends (s : ByteArray) (hs : s.size ≤ 65536) (k : Nat) (hk : 3 * s.size + 20 ≤ k) : ∃ r, tmplpiperef09_Split.f k s = some r := by
  have loop : ∀ (m k : Nat) (out : List ByteArray) (f i : Int), 0 ≤ f → f ≤ i → 0 ≤ i → (s.size : Int) + 1 - i ≤ m → i ≤ s.size + 1 → 2 * m + s.size + 10 ≤ k → out.length ≤ 8 → ∃ r, tmplpiperef09_Split.l0 k s out f i = some r := by
    intro m
    induction m with
    | zero =>
      intro k out f i _ _ _ h1 h2 hk _
      cases k with
      | zero => omega
      | succ k =>
        simp only [tmplpiperef09_Split.l0]
        rw [if_neg (by omega)]
        exact ⟨_, rfl⟩
    | succ m ih =>
      intro k out f i hf hfi hi hm hi2 hk ho
      have hw : wrap64 (i + 1) = i + 1 := w64 (by omega) (by omega)
      obtain ⟨k, rfl⟩ : ∃ k', k = k' + 2 := ⟨k - 2, by omega⟩
      simp only [tmplpiperef09_Split.l0]
      by_cases hle : i ≤ (s.size : Int)
      case neg => rw [if_neg hle]; exact ⟨_, rfl⟩
      rw [if_pos hle]
      have step : ∀ b : Bool, ∃ r, tmplpiperef09_Split.j1 (k + 1) s out f i b = some r := by
        intro b
        simp only [tmplpiperef09_Split.j1, hw]
        cases b with
        | false =>
          rw [if_neg (by decide)]
          exact ih k out f (i + 1) hf (by omega) (by omega) (by omega) (by omega) (by omega) ho
        | true =>
          rw [if_pos rfl, if_pos hf, if_pos hfi, if_pos hle]
          have hx : (s.extract f.toNat i.toNat).size = i.toNat - f.toNat := sz_extract s _ _ (by omega) (by omega)
          obtain ⟨b, hb⟩ := isname_ends (s.extract f.toNat i.toNat) (by omega) k (by omega)
          rw [hb]
          simp only [Option.bind_some]
          split
          · split
            · exact ⟨_, rfl⟩
            · rw [if_pos (by omega)]
              exact ih k _ (i + 1) (i + 1) (by omega) (by omega) (by omega) (by omega) (by omega) (by omega) (by rw [List.length_append, List.length_singleton]; omega)
          · exact ⟨_, rfl⟩
      split
      · exact step true
      · rw [if_pos (by omega)]
        exact step _
  unfold tmplpiperef09_Split.f
  split
  · exact ⟨_, rfl⟩
  · exact loop (s.size + 1) k [] 0 0 (by omega) (by omega) (by omega) (by omega) (by omega) (by omega) (by simp)
end Go.Proofs.YtkpnfejfbmandaaDoor.Px
namespace Go.Proofs.YtkpnfejfbmandaaDoor.Px
open Go.RowKit Go.Proofs.YtkpnfejfbmandaaDoorW.PrintWords Go.Proofs.YtkpnfejfbmandaaDoorW.PrintLast Go.Proofs.YtkpnfejfbmandaaDoorW.PrintMore
set_option linter.unusedVariables false
set_option linter.unusedSimpArgs false
end Go.Proofs.YtkpnfejfbmandaaDoor.Px
namespace Go.Proofs.YtkpnfejfbmandaaDoor.Px
open Go.RowKit Go.Proofs.YtkpnfejfbmandaaDoorW.PrintWords Go.Proofs.YtkpnfejfbmandaaDoorW.PrintLast Go.Proofs.YtkpnfejfbmandaaDoorW.PrintMore
set_option linter.unusedVariables false
set_option linter.unusedSimpArgs false
theorem drop_bt (s : ByteArray) (i : Int) (h0 : 0 ≤ i) (h1 : i < (s.size : Int)) : ∃ b r, s.data.toList.drop i.toNat = b :: r ∧ bt s i = (b.toNat : Int) ∧ s.data.toList.drop (i + 1).toNat = r := by
  have hl : i.toNat < s.data.toList.length := by rw [data_length]; omega
  refine ⟨s.data.toList[i.toNat], s.data.toList.drop (i.toNat + 1), List.drop_eq_getElem_cons hl, ?_, by rw [show (i + 1).toNat = i.toNat + 1 by omega]⟩
  rw [← bt_at s i (by omega)]
  simp [ByteArray.getElem_eq_getElem_data]
theorem letter_is {b : UInt8} {r : Bool} (h : tmplpiperef09_letter.f (b.toNat : Int) = some r) : r = letB b := by
  unfold tmplpiperef09_letter.f at h
  unfold letB
  repeat' split at h
  all_goals
    cases h
    first
    | (symm; simp only [Bool.or_eq_true, Bool.and_eq_true, decide_eq_true_eq]; omega)
    | (symm; simp only [Bool.or_eq_false_iff, Bool.and_eq_false_iff, decide_eq_false_iff_not]; omega)
    | (rw [Bool.eq_iff_iff]; simp only [Bool.or_eq_true, Bool.and_eq_true, decide_eq_true_eq]; omega)
theorem nm_false (b : UInt8) (r : List UInt8) : nmGo false (b :: r) = ((letB b || (b == 95 || digB b)) && nmGo false r) := rfl
theorem nm_true (b : UInt8) (r : List UInt8) : nmGo true (b :: r) = (letB b && nmGo false r) := by simp [nmGo]
theorem isname_l0 (s : ByteArray) (hs : s.size ≤ 65536) : ∀ (k : Nat) (i : Int) (b : Bool), 0 ≤ i → i ≤ 70000 → tmplpiperef09_IsName.l0 k s i = some b → b = nmGo false (s.data.toList.drop i.toNat)
  | 0, i, _, _, _, h => by simp [tmplpiperef09_IsName.l0] at h
  | k + 1, i, b, h0, h1, h => by
    have hw : wrap64 (i + 1) = i + 1 := w64 (by omega) (by omega)
    simp only [tmplpiperef09_IsName.l0, hw] at h
    by_cases hl : i < (s.size : Int)
    case neg =>
      rw [if_neg hl] at h; cases h
      rw [List.drop_eq_nil_of_le (by rw [data_length]; omega)]; rfl
    rw [if_pos hl, if_pos h0] at h
    obtain ⟨x, r, e1, e2, e3⟩ := drop_bt s i h0 hl
    rw [e1, nm_false]
    rw [e2] at h
    obtain ⟨c, hc, h⟩ := Option.bind_eq_some_iff.1 h
    have hc := letter_is hc
    have next : tmplpiperef09_IsName.l0 k s (i + 1) = some b → b = nmGo false r := fun h => by rw [← e3]; exact isname_l0 s hs k (i + 1) b (by omega) (by omega) h
    have hd : ∀ d : Bool, digB x = d → (decide (48 ≤ x.toNat ∧ x.toNat ≤ 57) = d) := fun d h => by rw [← h]; simp [digB]
    have h95 : (x == 95) = decide (x.toNat = 95) := by
      rw [Bool.eq_iff_iff, beq_iff_eq, decide_eq_true_eq]
      exact ⟨fun h => by rw [h]; rfl, fun h => UInt8.toNat_inj.1 (by rw [h]; rfl)⟩
    rw [h95]
    unfold digB
    by_cases c0 : c = true
    · rw [if_pos c0] at h
      rw [← hc, c0, next h]; simp
    rw [if_neg c0] at h
    have hc0 : letB x = false := by rw [← hc]; simpa using c0
    rw [hc0, Bool.false_or]
    by_cases c1 : (x.toNat : Int) < 48
    · rw [if_pos c1] at h
      by_cases c2 : (x.toNat : Int) = 95
      · omega
      · rw [if_neg c2] at h; cases h
        simp; omega
    rw [if_neg c1] at h
    by_cases c2 : (x.toNat : Int) > 57
    · rw [if_pos c2] at h
      by_cases c3 : (x.toNat : Int) = 95
      · rw [if_pos c3] at h
        rw [next h]
        have : x.toNat = 95 := by omega
        simp [this]
      · rw [if_neg c3] at h; cases h
        simp; omega
    · rw [if_neg c2] at h
      rw [next h]
      have : decide (48 ≤ x.toNat) = true ∧ decide (x.toNat ≤ 57) = true := ⟨decide_eq_true (by omega), decide_eq_true (by omega)⟩
      rw [this.1, this.2]; simp
theorem isname_is {s : ByteArray} (hs : s.size ≤ 65536) {k : Nat} {b : Bool} (h : tmplpiperef09_IsName.f k s = some b) : b = nameL s.data.toList := by
  have hlen : s.data.toList.length = s.size := by rw [data_length]
  unfold tmplpiperef09_IsName.f at h
  have j0 : ∀ c, tmplpiperef09_IsName.j0 k s c = some b → b = (!c && nmGo false s.data.toList) := by
    intro c h
    cases k with
    | zero => simp [tmplpiperef09_IsName.j0] at h
    | succ k =>
      simp only [tmplpiperef09_IsName.j0] at h
      cases c with
      | true => rw [if_pos rfl] at h; cases h; rfl
      | false =>
        rw [if_neg (by decide)] at h
        have := isname_l0 s hs k 0 b (by omega) (by omega) h
        simpa using this
  unfold nameL
  split at h
  · have := j0 _ h
    have h0 : s.data.toList = [] := List.eq_nil_of_length_eq_zero (by omega)
    rw [this, h0]; rfl
  · split at h
    · have := j0 _ h
      have : ¬ s.data.toList.length ≤ 32 := by omega
      rw [j0 _ h, decide_eq_false this]; simp
    · split at h
      · obtain ⟨c, hc, h⟩ := Option.bind_eq_some_iff.1 h
        obtain ⟨x, r, e1, e2, e3⟩ := drop_bt s 0 (by omega) (by omega)
        rw [e2] at hc
        have hc := letter_is hc
        have e1 : s.data.toList = x :: r := by simpa using e1
        have h32 : decide (s.data.toList.length ≤ 32) = true := decide_eq_true (by omega)
        rw [j0 _ h, h32, e1, nm_true, nm_false, ← hc]
        cases c <;> simp
      · cases h
theorem ext_snoc (s : ByteArray) (f i : Nat) (hf : f ≤ i) (hi : i < s.size) {b : UInt8} {r : List UInt8} (h : s.data.toList.drop i = b :: r) : (s.extract f (i + 1)).data.toList = (s.extract f i).data.toList ++ [b] := by
  rw [Lib.extract_data, Lib.extract_data]
  have hb : s.data.toList[i]? = some b := by
    have := congrArg List.head? h
    rwa [List.head?_drop] at this
  rw [show i + 1 - f = (i - f) + 1 by omega, List.take_add_one]
  congr 1
  rw [List.getElem?_drop, show f + (i - f) = i by omega, hb]; rfl
theorem ext_nil (s : ByteArray) (i : Nat) : (s.extract i i).data.toList = [] := by
  rw [Lib.extract_data]; simp
def dotAt (s : ByteArray) (f i : Int) : List (List UInt8) := if i ≤ (s.size : Int) then dotG (s.data.toList.drop i.toNat) (s.extract f.toNat i.toNat).data.toList else []
def dotSays (n : Nat) (l : List (List UInt8)) : Int := if n + l.length ≤ 8 ∧ l.all nameL = true then 0 else 11
theorem dotSays_cons (n : Nat) (x : List UInt8) (l : List (List UInt8)) (hx : nameL x = true) : dotSays n (x :: l) = dotSays (n + 1) l := by
  unfold dotSays
  rw [List.all_cons, hx, Bool.true_and, List.length_cons, show n + (l.length + 1) = n + 1 + l.length by omega]
theorem split_l0 (s : ByteArray) (hs : s.size ≤ 65536) : ∀ (k : Nat) (out : List ByteArray) (f i : Int) (r), 0 ≤ f → f ≤ i → i ≤ s.size + 1 → (i = s.size + 1 → f = i) → out.length ≤ 8 → tmplpiperef09_Split.l0 k s out f i = some r → r.2 = dotSays out.length (dotAt s f i)
  | 0, _, _, _, _, _, _, _, _, _, h => by simp [tmplpiperef09_Split.l0] at h
  | k + 1, out, f, i, r, hf, hfi, hi, hfe, ho, h => by
    have hw : wrap64 (i + 1) = i + 1 := w64 (by omega) (by omega)
    simp only [tmplpiperef09_Split.l0] at h
    by_cases hle : i ≤ (s.size : Int)
    case neg =>
      rw [if_neg hle] at h; cases h
      unfold dotAt dotSays
      rw [if_neg hle, if_pos ⟨by simpa using ho, rfl⟩]
    rw [if_pos hle] at h
    cases k with
    | zero =>
      exfalso
      simp only [tmplpiperef09_Split.j1] at h
      repeat' split at h
      all_goals cases h
    | succ k =>
      have hcur : (s.extract f.toNat i.toNat).size ≤ 65536 := by rw [ByteArray.size_extract]; omega
      have piece : dotAt s f i = (s.extract f.toNat i.toNat).data.toList :: dotAt s (i + 1) (i + 1) → tmplpiperef09_Split.j1 (k + 1) s out f i true = some r → r.2 = dotSays out.length (dotAt s f i) := by
        intro hd h
        simp only [tmplpiperef09_Split.j1, hw] at h
        rw [if_pos trivial, if_pos hf, if_pos hfi, if_pos hle] at h
        obtain ⟨t, ht, h⟩ := Option.bind_eq_some_iff.1 h
        have ht := isname_is hcur ht
        rw [hd]
        by_cases c1 : t = true
        case neg =>
          rw [if_neg c1] at h; cases h
          unfold dotSays
          rw [if_neg]
          rintro ⟨_, h2⟩
          rw [List.all_cons, ← ht] at h2
          simp at h2; exact c1 h2.1
        rw [if_pos c1] at h
        rw [dotSays_cons _ _ _ (ht ▸ c1)]
        by_cases c2 : (out.length : Int) = 8
        · rw [if_pos c2] at h; cases h
          unfold dotSays
          rw [if_neg (by omega)]
        rw [if_neg c2, if_pos (by omega)] at h
        have := split_l0 s hs k _ _ _ r (by omega) (by omega) (by omega) (fun _ => rfl) (by rw [List.length_append, List.length_singleton]; omega) h
        rwa [List.length_append, List.length_singleton] at this
      have last : i = (s.size : Int) → dotAt s f i = (s.extract f.toNat i.toNat).data.toList :: dotAt s (i + 1) (i + 1) := fun e => by
        unfold dotAt
        rw [if_pos hle, if_neg (by omega), List.drop_eq_nil_of_le (by rw [data_length]; omega)]; rfl
      by_cases he : i = (s.size : Int)
      · rw [if_pos he] at h
        exact piece (last he) h
      rw [if_neg he, if_pos (by omega), if_pos (by omega)] at h
      obtain ⟨b, q, e1, e2, e3⟩ := drop_bt s i (by omega) (by omega)
      rw [e2] at h
      have hb46 : ((b.toNat : Int) == 46) = decide (b = 46) := by
        rw [Bool.eq_iff_iff, beq_iff_eq, decide_eq_true_eq]
        exact ⟨fun h => UInt8.toNat_inj.1 (by have : b.toNat = 46 := by omega
                                              rw [this]; rfl), fun h => by rw [h]; rfl⟩
      rw [hb46] at h
      by_cases hb : b = 46
      · rw [decide_eq_true hb] at h
        refine piece ?_ h
        unfold dotAt
        rw [if_pos hle, if_pos (by omega), e1, dotG, if_pos hb, e3, ext_nil]
      · rw [decide_eq_false hb] at h
        simp only [tmplpiperef09_Split.j1, hw] at h
        rw [if_neg (by decide)] at h
        have := split_l0 s hs k _ _ _ r hf (by omega) (by omega) (fun e => by omega) ho h
        rw [this]
        unfold dotAt
        rw [if_pos (by omega), if_pos hle, e1, e3, dotG, if_neg hb]
        rw [show (i + 1).toNat = i.toNat + 1 by omega, ext_snoc s f.toNat i.toNat (by omega) (by omega) e1]
theorem split_is {s : ByteArray} (hs : s.size ≤ 65536) {k : Nat} {r} (h : tmplpiperef09_Split.f k s = some r) : r.2 = if pathL s.data.toList = true then 0 else 11 := by
  unfold tmplpiperef09_Split.f at h
  unfold pathL
  split at h
  · rename_i he
    cases h
    rw [ByteArray.toList_eq] at he
    rw [he]; rfl
  · rename_i he
    rw [ByteArray.toList_eq] at he
    have := split_l0 s hs k [] 0 0 r (by omega) (by omega) (by omega) (fun e => rfl) (by simp) h
    rw [this]
    have hx : dotAt s 0 0 = Lib.split s.data.toList [46] := by
      rw [split_dot _ _ (Nat.le_refl _)]
      unfold dotAt
      rw [if_pos (by omega)]
      show dotG (s.data.toList.drop 0) (s.extract 0 0).data.toList = _
      rw [ext_nil, List.drop_zero]
    have he' : s.data.toList.isEmpty = false := by
      cases h : s.data.toList with
      | nil => exact absurd h he
      | cons _ _ => rfl
    rw [hx, he', Bool.false_or]
    unfold dotSays
    simp
end Go.Proofs.YtkpnfejfbmandaaDoor.Px
namespace Go.Proofs.YtkpnfejfbmandaaDoor.Px
open Go.RowKit Go.Proofs.YtkpnfejfbmandaaDoorW.PrintWords Go.Proofs.YtkpnfejfbmandaaDoorW.PrintLast Go.Proofs.YtkpnfejfbmandaaDoorW.PrintMore
set_option linter.unusedVariables false
set_option linter.unusedSimpArgs false
end Go.Proofs.YtkpnfejfbmandaaDoor.Px
namespace Go.Proofs.YtkpnfejfbmandaaDoor.Px
open Go.RowKit Go.Proofs.YtkpnfejfbmandaaDoorW.PrintWords Go.Proofs.YtkpnfejfbmandaaDoorW.PrintLast Go.Proofs.YtkpnfejfbmandaaDoorW.PrintMore
set_option linter.unusedVariables false
set_option linter.unusedSimpArgs false
end Go.Proofs.YtkpnfejfbmandaaDoor.Px
namespace Go.Proofs.YtkpnfejfbmandaaDoor.Px
open Go.RowKit Go.Proofs.YtkpnfejfbmandaaDoorW.PrintWords Go.Proofs.YtkpnfejfbmandaaDoorW.PrintLast Go.Proofs.YtkpnfejfbmandaaDoorW.PrintMore
set_option linter.unusedVariables false
set_option linter.unusedSimpArgs false
def fS (k : Int) : Bool := k == 0
def fP (k : Int) : Bool := k == 1 || k == 2 || k == 4 || k == 6
def fE (k : Int) : Bool := k == 1
def fT (k : Int) : Bool := k == 2 || k == 3 || k == 4 || k == 5 || k == 6
def cleanB (x : S40) : Bool := (fS x.f0 || x.f1.toList.isEmpty) && ((fP x.f0 || x.f2.toList.isEmpty) && ((fE x.f0 || x.f4 == 0) && ((fT x.f0 || x.f5 == 0) && ((x.f0 == 6 || !x.f3) && (!(x.f0 == 6) || (x.f3 || x.f2.toList.isEmpty))))))
abbrev clean.Con (k : Int) : Prop := ∀ (x1 x2 : ByteArray) (x3 : Bool) (x4 x5 : Int) (w : World),
  Calls Tryd.prog 62 #[.agg #[.int .i64 k, .string x1, .string x2, .bool x3, .int .i64 x4, .int .i64 x5], .agg #[.bool (fS k), .bool (fP k), .bool (fE k), .bool (fT k)]] w fun e w' => e = .returned (.bool (cleanB ⟨k, x1, x2, x3, x4, x5⟩)) ∧ ∃ o1 o2, w' = (w.alloc o1).alloc o2
set_option maxHeartbeats 4000000 in
set_option maxRecDepth 100000 in
theorem clean.c0 : clean.Con 0 := by
  intro x1 x2 x3 x4 x5 w
  obtain ⟨r, hr⟩ : ∃ r, r = cleanB ⟨0, x1, x2, x3, x4, x5⟩ := ⟨_, rfl⟩
  rw [← hr]
  replace hr := Aside0.mk hr
  rw [show fS 0 = true from rfl, show fP 0 = false from rfl, show fE 0 = false from rfl, show fT 0 = false from rfl]
  go_enter Tryd.func62, Tryd.ntmps62
  go_wp2
  all_goals go_ret
  all_goals exact ⟨by rw [hr.out]; simp [cleanB, fS, fP, fE, fT, *], _, _, rfl⟩
set_option maxHeartbeats 4000000 in
set_option maxRecDepth 100000 in
theorem clean.c1 : clean.Con 1 := by
  intro x1 x2 x3 x4 x5 w
  obtain ⟨r, hr⟩ : ∃ r, r = cleanB ⟨1, x1, x2, x3, x4, x5⟩ := ⟨_, rfl⟩
  rw [← hr]
  replace hr := Aside0.mk hr
  rw [show fS 1 = false from rfl, show fP 1 = true from rfl, show fE 1 = true from rfl, show fT 1 = false from rfl]
  go_enter Tryd.func62, Tryd.ntmps62
  go_wp2
  all_goals go_ret
  all_goals exact ⟨by rw [hr.out]; simp [cleanB, fS, fP, fE, fT, *], _, _, rfl⟩
set_option maxHeartbeats 4000000 in
set_option maxRecDepth 100000 in
theorem clean.c2 : clean.Con 2 := by
  intro x1 x2 x3 x4 x5 w
  obtain ⟨r, hr⟩ : ∃ r, r = cleanB ⟨2, x1, x2, x3, x4, x5⟩ := ⟨_, rfl⟩
  rw [← hr]
  replace hr := Aside0.mk hr
  rw [show fS 2 = false from rfl, show fP 2 = true from rfl, show fE 2 = false from rfl, show fT 2 = true from rfl]
  go_enter Tryd.func62, Tryd.ntmps62
  go_wp2
  all_goals go_ret
  all_goals exact ⟨by rw [hr.out]; simp [cleanB, fS, fP, fE, fT, *], _, _, rfl⟩
set_option maxHeartbeats 4000000 in
set_option maxRecDepth 100000 in
theorem clean.c3 : clean.Con 3 := by
  intro x1 x2 x3 x4 x5 w
  obtain ⟨r, hr⟩ : ∃ r, r = cleanB ⟨3, x1, x2, x3, x4, x5⟩ := ⟨_, rfl⟩
  rw [← hr]
  replace hr := Aside0.mk hr
  rw [show fS 3 = false from rfl, show fP 3 = false from rfl, show fE 3 = false from rfl, show fT 3 = true from rfl]
  go_enter Tryd.func62, Tryd.ntmps62
  go_wp2
  all_goals go_ret
  all_goals exact ⟨by rw [hr.out]; simp [cleanB, fS, fP, fE, fT, *], _, _, rfl⟩
set_option maxHeartbeats 4000000 in
set_option maxRecDepth 100000 in
theorem clean.c4 : clean.Con 4 := by
  intro x1 x2 x3 x4 x5 w
  obtain ⟨r, hr⟩ : ∃ r, r = cleanB ⟨4, x1, x2, x3, x4, x5⟩ := ⟨_, rfl⟩
  rw [← hr]
  replace hr := Aside0.mk hr
  rw [show fS 4 = false from rfl, show fP 4 = true from rfl, show fE 4 = false from rfl, show fT 4 = true from rfl]
  go_enter Tryd.func62, Tryd.ntmps62
  go_wp2
  all_goals go_ret
  all_goals exact ⟨by rw [hr.out]; simp [cleanB, fS, fP, fE, fT, *], _, _, rfl⟩
set_option maxHeartbeats 4000000 in
set_option maxRecDepth 100000 in
theorem clean.c5 : clean.Con 5 := by
  intro x1 x2 x3 x4 x5 w
  obtain ⟨r, hr⟩ : ∃ r, r = cleanB ⟨5, x1, x2, x3, x4, x5⟩ := ⟨_, rfl⟩
  rw [← hr]
  replace hr := Aside0.mk hr
  rw [show fS 5 = false from rfl, show fP 5 = false from rfl, show fE 5 = false from rfl, show fT 5 = true from rfl]
  go_enter Tryd.func62, Tryd.ntmps62
  go_wp2
  all_goals go_ret
  all_goals exact ⟨by rw [hr.out]; simp [cleanB, fS, fP, fE, fT, *], _, _, rfl⟩
set_option maxHeartbeats 4000000 in
set_option maxRecDepth 100000 in
theorem clean.c6 : clean.Con 6 := by
  intro x1 x2 x3 x4 x5 w
  obtain ⟨r, hr⟩ : ∃ r, r = cleanB ⟨6, x1, x2, x3, x4, x5⟩ := ⟨_, rfl⟩
  rw [← hr]
  replace hr := Aside0.mk hr
  rw [show fS 6 = false from rfl, show fP 6 = true from rfl, show fE 6 = false from rfl, show fT 6 = true from rfl]
  go_enter Tryd.func62, Tryd.ntmps62
  go_wp2
  all_goals go_ret
  all_goals exact ⟨by rw [hr.out]; simp [cleanB, fS, fP, fE, fT, *], _, _, rfl⟩
set_option maxHeartbeats 4000000 in
set_option maxRecDepth 100000 in
theorem clean.c7 : clean.Con 7 := by
  intro x1 x2 x3 x4 x5 w
  obtain ⟨r, hr⟩ : ∃ r, r = cleanB ⟨7, x1, x2, x3, x4, x5⟩ := ⟨_, rfl⟩
  rw [← hr]
  replace hr := Aside0.mk hr
  rw [show fS 7 = false from rfl, show fP 7 = false from rfl, show fE 7 = false from rfl, show fT 7 = false from rfl]
  go_enter Tryd.func62, Tryd.ntmps62
  go_wp2
  all_goals go_ret
  all_goals exact ⟨by rw [hr.out]; simp [cleanB, fS, fP, fE, fT, *], _, _, rfl⟩
set_option maxHeartbeats 4000000 in
set_option maxRecDepth 100000 in
theorem clean.c8 : clean.Con 8 := by
  intro x1 x2 x3 x4 x5 w
  obtain ⟨r, hr⟩ : ∃ r, r = cleanB ⟨8, x1, x2, x3, x4, x5⟩ := ⟨_, rfl⟩
  rw [← hr]
  replace hr := Aside0.mk hr
  rw [show fS 8 = false from rfl, show fP 8 = false from rfl, show fE 8 = false from rfl, show fT 8 = false from rfl]
  go_enter Tryd.func62, Tryd.ntmps62
  go_wp2
  all_goals go_ret
  all_goals exact ⟨by rw [hr.out]; simp [cleanB, fS, fP, fE, fT, *], _, _, rfl⟩
set_option maxHeartbeats 4000000 in
set_option maxRecDepth 100000 in
theorem clean.c9 : clean.Con 9 := by
  intro x1 x2 x3 x4 x5 w
  obtain ⟨r, hr⟩ : ∃ r, r = cleanB ⟨9, x1, x2, x3, x4, x5⟩ := ⟨_, rfl⟩
  rw [← hr]
  replace hr := Aside0.mk hr
  rw [show fS 9 = false from rfl, show fP 9 = false from rfl, show fE 9 = false from rfl, show fT 9 = false from rfl]
  go_enter Tryd.func62, Tryd.ntmps62
  go_wp2
  all_goals go_ret
  all_goals exact ⟨by rw [hr.out]; simp [cleanB, fS, fP, fE, fT, *], _, _, rfl⟩
theorem clean_any (x : S40) (h0 : 0 ≤ x.f0) (h9 : x.f0 ≤ 9) (w : World) :
    Calls Tryd.prog 62 #[.agg #[.int .i64 x.f0, .string x.f1, .string x.f2, .bool x.f3, .int .i64 x.f4, .int .i64 x.f5], .agg #[.bool (fS x.f0), .bool (fP x.f0), .bool (fE x.f0), .bool (fT x.f0)]] w fun e w' => e = .returned (.bool (cleanB x)) ∧ ∃ o1 o2, w' = (w.alloc o1).alloc o2 := by
  obtain ⟨k, x1, x2, x3, x4, x5⟩ := x
  dsimp only at h0 h9 ⊢
  obtain rfl | rfl | rfl | rfl | rfl | rfl | rfl | rfl | rfl | rfl : k = 0 ∨ k = 1 ∨ k = 2 ∨ k = 3 ∨ k = 4 ∨ k = 5 ∨ k = 6 ∨ k = 7 ∨ k = 8 ∨ k = 9 := by omega
  · exact clean.c0 x1 x2 x3 x4 x5 w
  · exact clean.c1 x1 x2 x3 x4 x5 w
  · exact clean.c2 x1 x2 x3 x4 x5 w
  · exact clean.c3 x1 x2 x3 x4 x5 w
  · exact clean.c4 x1 x2 x3 x4 x5 w
  · exact clean.c5 x1 x2 x3 x4 x5 w
  · exact clean.c6 x1 x2 x3 x4 x5 w
  · exact clean.c7 x1 x2 x3 x4 x5 w
  · exact clean.c8 x1 x2 x3 x4 x5 w
  · exact clean.c9 x1 x2 x3 x4 x5 w
end Go.Proofs.YtkpnfejfbmandaaDoor.Px
