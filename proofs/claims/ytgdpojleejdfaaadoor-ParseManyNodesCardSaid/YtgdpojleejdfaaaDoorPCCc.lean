import Derived.Test.YtgdpojleejdfaaaDoorPCNc
/- The walk of tmplpipelaw12.ParseConcatenation. -/
namespace Go.Proofs.YtgdpojleejdfaaaDoor.Px
open Go.RowKit Go.Proofs.YtgdpojleejdfaaaDoorW.PrintWords Go.Proofs.YtgdpojleejdfaaaDoorW.PrintLast Go.Proofs.YtgdpojleejdfaaaDoorW.PrintMore
attribute [local go_sem] max2_int min2_int max_two min_two max_three min_three max_four min_four
set_option linter.unusedVariables false
set_option linter.unusedSimpArgs false
theorem parse_any {s : ByteArray} {r : List S39 × Int × Int} (h : Ev (fun k => parse_Parse.f k s) r) (w : World) (hG : GS w) :
    Calls Tryd.prog 19 #[.string s] w fun e w' => ∃ (A : Option Addr) (c : Nat), e = .returned (.tuple #[.slice A r.1.length c, .int .i64 r.2.1, .int .i64 r.2.2]) ∧ Kd.C k39 w' A r.1.length r.1 ∧ r.1.length ≤ c ∧ Below w.heap.size w w' := by
  obtain ⟨K, hK⟩ := h
  refine (parse_Parse.calls K s r.1 r.2.1 r.2.2 w hG (hK K (Nat.le_refl _))).mono ?_
  rintro e w' ⟨v, rfl, HR, HB⟩
  obtain ⟨A, c, rfl⟩ := Kd.R_slice HR
  have q := Kd.R_reads' HR
  exact ⟨A, c, rfl, q.2.2, q.2.1, HB⟩
theorem count_any {l : List S39} (h : nL l ≤ 1000000000) (A : Option Addr) (c : Nat) (w : World) (hC : Kd.C k39 w A l.length l) (hc : l.length ≤ c) :
    Calls Tryd.prog 22 #[.slice A l.length c] w fun e w' => e = .returned (.int .i64 (cntL l)) ∧ Below w.heap.size w w' := by
  obtain ⟨K, hK⟩ := count_ev l h
  exact parse_Count.calls K A c l _ w hC hc (hK K (Nat.le_refl _))
theorem equal_any {l m : List S39} {b : Bool} (h : nL l ≤ 1000000000) (he : eqRL b l m = true) (A : Option Addr) (c : Nat) (B : Option Addr) (d : Nat) (w : World) (hA : Kd.C k39 w A l.length l) (hc : l.length ≤ c) (hB : Kd.C k39 w B m.length m) (hd : m.length ≤ d) :
    Calls Tryd.prog 21 #[.slice A l.length c, .slice B m.length d, .bool b] w fun e w' => e = .returned (.bool true) ∧ Below w.heap.size w w' := by
  obtain ⟨K, hK⟩ := ref12_equal _ l (Nat.lt_succ_self _) m b h
  have := hK K (Nat.le_refl _)
  rw [he] at this
  exact tmplpiperef12_Equal.calls K A c l B d m b true w hA hc hB hd this
/-- What the plain law has to say. -/
def CatLaw (a b : ByteArray) : Prop := ∀ (x y : List S39) (n1 n2 : Int), Ev (fun k => parse_Parse.f k a) (x, n1, 0) → Ev (fun k => parse_Parse.f k b) (y, n2, 0) → a.size ≤ 3000 → b.size ≤ 3000 → (hx : x ≠ []) → (x.getLast hx).f0 ≠ 0 → cntL x + cntL y ≤ 4096 →
  ∃ z2 : List S39, Ev (fun k => parse_Parse.f k (a ++ b)) (x ++ z2, ((a.size + b.size : Nat) : Int), 0) ∧ z2.length = y.length ∧ eqRL false z2 y = true ∧ nL (x ++ z2) ≤ 4096
set_option maxHeartbeats 1000000 in
set_option maxRecDepth 100000 in
theorem parseConcat_walk (a b : ByteArray) (w : World) (hG : GS w) (law : CatLaw a b) : Calls Tryd.prog 7 #[.string a, .string b] w fun e w' => e = .returned (.bool true) ∧ Below w.heap.size w w' := by
  have hG0 := Aside0.mk hG
  clear hG
  by_cases ha : (3000 : Int) < (a.size : Int)
  case pos =>
    have ha' : decide ((3000 : Int) < (a.size : Int)) = true := decide_eq_true ha
    go_enter Tryd.func7, Tryd.ntmps7
    go_wp2_with fail
    refine (alive12_any _ hG0.out).mono ?_
    rintro e w2 ⟨rfl, HB2⟩
    go_wp2
    go_ret
    exact ⟨rfl, HB2⟩
  have ha' : decide ((3000 : Int) < (a.size : Int)) = false := decide_eq_false ha
  by_cases hb : (3000 : Int) < (b.size : Int)
  case pos =>
    have hb' : decide ((3000 : Int) < (b.size : Int)) = true := decide_eq_true hb
    go_enter Tryd.func7, Tryd.ntmps7
    go_wp2_with fail
    refine (alive12_any _ hG0.out).mono ?_
    rintro e w2 ⟨rfl, HB2⟩
    go_wp2
    go_ret
    exact ⟨rfl, HB2⟩
  have hb' : decide ((3000 : Int) < (b.size : Int)) = false := decide_eq_false hb
  obtain ⟨⟨x, n1, e1⟩, hx⟩ := parse_ev a
  obtain ⟨⟨y, n2, e2⟩, hy⟩ := parse_ev b
  have hxs : nL x ≤ 4096 := by obtain ⟨K, hK⟩ := hx; exact small12 (hK K (Nat.le_refl _))
  have hys : nL y ≤ 4096 := by obtain ⟨K, hK⟩ := hy; exact small12 (hK K (Nat.le_refl _))
  have HX := Aside0.mk hx
  have HY := Aside0.mk hy
  clear hx hy
  go_enter Tryd.func7, Tryd.ntmps7
  go_wp2_with fail
  refine (parse_any HX.out _ hG0.out).mono ?_
  rintro e w1 ⟨A, c, rfl, HCx, hcx, HB1⟩
  dsimp only at HCx hcx ⊢
  replace HCx := Aside0.mk HCx
  replace HB1 := Aside0.mk HB1
  go_wp2_with fail
  refine (parse_any HY.out _ (hG0.out.below HB1.out)).mono ?_
  rintro e w2 ⟨B, d, rfl, HCy, hcy, HB⟩
  dsimp only at HCy hcy ⊢
  replace HCx := Aside0.mk (Kd.C_below HCx.out HB)
  replace HCy := Aside0.mk HCy
  replace HB1 := Aside0.mk (below_step HB1.out HB)
  clear HB
  have hlx := Nat.le_trans (nL_len x) hxs
  have hly := Nat.le_trans (nL_len y) hys
  by_cases he1 : e1 = 0
  case neg =>
    have he1' : (e1 != 0) = true := by rw [bne_iff_ne]; exact he1
    go_wp2_with fail
    refine (alive12_any _ (hG0.out.below HB1.out)).mono ?_
    rintro e w3 ⟨rfl, HB⟩
    go_wp2
    go_ret
    exact ⟨rfl, below_step HB1.out HB⟩
  by_cases he2 : e2 = 0
  case neg =>
    have he1' : (e1 != 0) = false := by rw [bne_eq_false_iff_eq]; exact he1
    have he2' : (e2 != 0) = true := by rw [bne_iff_ne]; exact he2
    clear he1
    go_wp2_with fail
    refine (alive12_any _ (hG0.out.below HB1.out)).mono ?_
    rintro e w3 ⟨rfl, HB⟩
    go_wp2
    go_ret
    exact ⟨rfl, below_step HB1.out HB⟩
  subst he1 he2
  cases hxe : x with
  | nil =>
    subst hxe
    rw [show ([] : List S39).length = 0 from rfl]
    go_wp2_with fail
    refine (alive12_any _ (hG0.out.below HB1.out)).mono ?_
    rintro e w3 ⟨rfl, HB⟩
    go_wp2
    go_ret
    exact ⟨rfl, below_step HB1.out HB⟩
  | cons x0 xr =>
  have hx0 : x ≠ [] := by rw [hxe]; simp
  rw [← hxe]
  have hpos : 0 < x.length := List.length_pos_iff.2 hx0
  clear hxe
  have hlast : rd_T39 x ((x.length : Int) - 1) = x.getLast hx0 := by
    rw [show (x.length : Int) - 1 = ((x.length - 1 : Nat) : Int) by omega, rd_T39_at x _ (by omega), List.getLast_eq_getElem]
  have hl0 : ((x.length : Int) == 0) = false := by rw [beq_eq_false_iff_ne]; omega
  have hw1 : IntKind.i64.wrap ((x.length : Int) - 1) = (x.length : Int) - 1 := by rw [IntKind.wrap_i64]; omega
  obtain ⟨ad, A6, c6, A7, c7, eA, z0, z1, z2, z3, z4, z5, z6, z7, zz⟩ := at_T39 HCx.out ((x.length : Int) - 1) (by omega) (by omega)
  rw [hlast, show ((x.length : Int) - 1).toNat = x.length - 1 by omega] at z0
  cases eA
  clear hlast z1 z2 z3 z4 z5 z6 z7 zz
  have q0 : decide (0 ≤ (x.length : Int) - 1) = true := decide_eq_true (by omega)
  have q1 : (x.length : Int) - 1 < x.length := by omega
  have q2 : decide ((x.length : Int) - 1 < x.length) = true := decide_eq_true q1
  by_cases hk : (x.getLast hx0).f0 = 0
  case pos =>
    have hk' : ((x.getLast hx0).f0 == 0) = true := by simp [hk]
    clear hk
    go_wp2_with fail
    refine (alive12_any _ (hG0.out.below HB1.out)).mono ?_
    rintro e w3 ⟨rfl, HB⟩
    go_wp2
    go_ret
    exact ⟨rfl, below_step HB1.out HB⟩
  have hk' : ((x.getLast hx0).f0 == 0) = false := by simp [hk]
  have hcx2 := cnt_le x
  have hcy2 := cnt_le y
  have hw2 : IntKind.i64.wrap ((cntL x : Int) + (cntL y : Int)) = (cntL x : Int) + (cntL y : Int) := by rw [IntKind.wrap_i64]; omega
  replace hk := Aside0.mk hk
  go_wp2_with fail
  refine (count_any (by omega) _ _ _ HCx.out hcx).mono ?_
  rintro e w3 ⟨rfl, HB⟩
  replace HCx := Aside0.mk (Kd.C_below HCx.out HB)
  replace HCy := Aside0.mk (Kd.C_below HCy.out HB)
  replace HB1 := Aside0.mk (below_step HB1.out HB)
  clear HB z0
  go_wp2_with fail
  refine (count_any (by omega) _ _ _ HCy.out hcy).mono ?_
  rintro e w4 ⟨rfl, HB⟩
  replace HCx := Aside0.mk (Kd.C_below HCx.out HB)
  replace HCy := Aside0.mk (Kd.C_below HCy.out HB)
  replace HB1 := Aside0.mk (below_step HB1.out HB)
  clear HB
  by_cases hcnt : (4096 : Int) < (cntL x : Int) + (cntL y : Int)
  case pos =>
    have hcnt' : decide ((4096 : Int) < (cntL x : Int) + (cntL y : Int)) = true := decide_eq_true hcnt
    go_wp2_with fail
    refine (alive12_any _ (hG0.out.below HB1.out)).mono ?_
    rintro e w5 ⟨rfl, HB⟩
    go_wp2
    go_ret
    exact ⟨rfl, below_step HB1.out HB⟩
  have hcnt' : decide ((4096 : Int) < (cntL x : Int) + (cntL y : Int)) = false := decide_eq_false hcnt
  obtain ⟨z, hz, hzl, hze, hzn⟩ := law x y n1 n2 HX.out HY.out (by omega) (by omega) hx0 hk.out (by omega)
  have hzlen : (x ++ z).length = x.length + y.length := by rw [List.length_append, hzl]
  have hn4 := nL_len (x ++ z)
  have hr1 : (x ++ z).take x.length = x := by simp
  have hr2 : (x ++ z).drop x.length = z := by simp
  have hnz : nL z ≤ 4096 := by rw [nL_append] at hzn; omega
  generalize hZ : x ++ z = Z at *
  have hze := Aside0.mk hze
  have hZ' := Aside0.mk hr1
  have hZ'' := Aside0.mk hr2
  have hz := Aside0.mk hz
  have hzlN := Aside0.mk hzlen
  have hzl := Aside0.mk hzl
  clear hr1 hr2 hZ law hk hlx hly
  have hs0 : a.size + b.size ≤ 9223372036854775807 := by omega
  have hsI : (a.size : Int) + b.size ≤ 6000 := by omega
  have hs1 : IntKind.i64.wrap ((a.size : Int) + (b.size : Int)) = (a.size : Int) + (b.size : Int) := by rw [IntKind.wrap_i64]; omega
  have hs2 : IntKind.i64.wrap ((x.length : Int) + (y.length : Int)) = (x.length : Int) + (y.length : Int) := by rw [IntKind.wrap_i64]; omega
  clear hw1 hw2 q0 q1 q2 hl0 hk'
  have hzz : Z.length ≤ 4096 := by omega
  clear hzlen
  go_wp2_with fail
  refine (parse_any hz.out _ (hG0.out.below HB1.out)).mono ?_
  rintro e w5 ⟨C, f, rfl, HCz, hcz, HB⟩
  dsimp only at HCz hcz ⊢
  replace HCx := Aside0.mk (Kd.C_below HCx.out HB)
  replace HCy := Aside0.mk (Kd.C_below HCy.out HB)
  replace HCz := Aside0.mk HCz
  replace HB1 := Aside0.mk (below_step HB1.out HB)
  clear HB
  go_wp2_with fail
  refine (alive12_any _ (hG0.out.below HB1.out)).mono ?_
  rintro e w6 ⟨rfl, HB⟩
  replace HCx := Aside0.mk (Kd.C_below HCx.out HB)
  replace HCy := Aside0.mk (Kd.C_below HCy.out HB)
  replace HCz := Aside0.mk (Kd.C_below HCz.out HB)
  replace HB1 := Aside0.mk (below_step HB1.out HB)
  clear HB
  have hle : (Z.length : Int) = (x.length : Int) + (y.length : Int) := by have := hzlN.out; omega
  have hmin : (if (Z.length : Int) < (x.length : Int) then (Z.length : Int) else (x.length : Int)) = (x.length : Int) := if_neg (by omega)
  have hle' : x.length ≤ Z.length := by omega
  obtain ⟨i0, hi0, _, hsz0, _⟩ := info_parts info39
  have hcut1 := cut_to (P := Tryd.prog) 32 39 .i64 Tryd.underlying32 hi0 C Z.length f (x.length : Int) (by omega) (by omega) hcz
  have hcut2 := cut_from (P := Tryd.prog) 32 39 .i64 Tryd.underlying32 hi0 8 hsz0 C Z.length f (x.length : Int) (by omega) (by omega)
  rw [Int.toNat_natCast] at hcut1 hcut2
  have HT := Aside0.mk (Kd.C_take (m := x.length) HCz.out hle')
  have HD := Aside0.mk (Kd.C_drop (m := x.length) (c := f) HCz.out hle' hcz)
  replace HT := Aside0.mk (show Kd.C k39 w6 C x.length x by have h := HT.out; rwa [hZ'.out] at h)
  have hfz : z.length ≤ f - x.length := by have := hzl.out; omega
  rw [show Z.length - x.length = z.length by have := hzl.out; omega] at hcut2
  replace HD := Aside0.mk (show Kd.C k39 w6 (if f = x.length then C else C.map (·.add (x.length * 8))) z.length z by have h := HD.out; rwa [hZ''.out] at h)
  generalize (if f = x.length then C else C.map (·.add (x.length * 8))) = C2 at *
  have hcx1 : x.length ≤ f := by omega
  have hleB : ((Z.length : Int) == (x.length : Int) + (y.length : Int)) = true := by rw [beq_iff_eq]; exact hle
  have hnx : nL x ≤ 1000000000 := by omega
  have hnz9 : nL z ≤ 1000000000 := by omega
  have hEx := Aside0.mk (eqRL_refl true (SizeOf.sizeOf x + 1) x (Nat.lt_succ_self _))
  clear hle
  go_wp2_with fail
  refine (equal_any (l := x) (m := x) (b := true) hnx hEx.out C f (some ad) c _ HT.out hcx1 HCx.out hcx).mono ?_
  rintro e w7 ⟨rfl, HB⟩
  replace HCy := Aside0.mk (Kd.C_below HCy.out HB)
  replace HD := Aside0.mk (Kd.C_below HD.out HB)
  replace HB1 := Aside0.mk (below_step HB1.out HB)
  clear HB
  go_wp2_with fail
  have HE := equal_any (l := z) (m := y) (b := false) hnz9 hze.out C2 (f - x.length) B d w7 HD.out hfz HCy.out hcy
  rw [hzl.out] at HE
  refine HE.mono ?_
  rintro e w8 ⟨rfl, HB⟩
  go_wp2
  go_ret
  exact ⟨rfl, below_step HB1.out HB⟩
where
  small12 {s : ByteArray} {k : Nat} {r : List S39 × Int × Int} (h : parse_Parse.f k s = some r) : nL r.1 ≤ 4096 := by
    unfold parse_Parse.f at h
    by_cases he : (lexF s).2.2 = 0
    · rw [if_pos he] at h
      obtain ⟨res, hp, rfl⟩ := Option.map_eq_some_iff.1 h
      cases res with
      | error e => simp [parseR, nL]
      | ok x =>
        obtain ⟨o, l', n'⟩ := x
        obtain ⟨h1, h2⟩ := (parse_cnt k).1 _ _ _ _ _ _ _ hp
        simp only [nL] at h1
        cases l' with
        | nil => show nL o ≤ 4096; have := h2 (by decide); omega
        | cons t l => simp [parseR, nL]
    · rw [if_neg he] at h; cases h; simp [nL]
end Go.Proofs.YtgdpojleejdfaaaDoor.Px
