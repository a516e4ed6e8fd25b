import Derived.Test.YtkpnfejfbmandaaDoorCIM8
import Derived.Test.YtkpnfejfbmandaaDoorCIM16
import Derived.Maps.OwnSet
import Derived.Maps.OwnOps
import Derived.RegionDies
import Derived.Outline
/- defines.Check: what it computes; a map of names. -/
namespace Go.Proofs.YtkpnfejfbmandaaDoor.Px
open Go.RowKit Go.Proofs.YtkpnfejfbmandaaDoorW.PrintWords Go.Proofs.YtkpnfejfbmandaaDoorW.PrintLast Go.Proofs.YtkpnfejfbmandaaDoorW.PrintMore
open Go.Maps Go.ChangeMaps Go.MapKept
set_option linter.unusedVariables false
set_option linter.unusedSimpArgs false
def inN (ns : List ByteArray) (s : ByteArray) : Bool := ns.any fun n => n.data.toList == s.data.toList
def dS : List S78 → List ByteArray → Except (Int × Int) (List ByteArray)
  | [], ns => .ok ns
  | x :: xs, ns => if x.f0 = 6 then (if inN ns x.f2 then .error (x.f1, 12) else if ns.length = 64 then .error (x.f1, 14) else dS xs (ns ++ [x.f2])) else dS xs ns
mutual
def cS : List S78 → List ByteArray → Option Int
  | [], _ => none
  | x :: xs, ns => match cN x ns with
    | some a => some a
    | none => cS xs ns
def cN : S78 → List ByteArray → Option Int
  | ⟨k, at_, S, _, _, _, b, l⟩, ns => if (k == 4 && !inN ns S) = true then some at_ else match cS b ns with
    | some a => some a
    | none => cS l ns
end
def checkF (l : List S78) : Int × Int := match dS l [] with
  | .error e => e
  | .ok ns => match cS l ns with
    | some a => (a, 11)
    | none => (0, 0)
def kS (s : ByteArray) : Lit := .string s.data.toList
structure MpB (w : World) (b : Nat) (ns : List ByteArray) (n : Nat) (D : DataW Unit) : Prop where
  own : w.ownsMap Tryd.prog 9 (plainElem Tryd.prog 4) b n D
  le : n ≤ ns.length
  size : Maps.size D = ns.length
  at_ : ∀ s : ByteArray, D.atKey (kS s) (.lit (.bool false)) = .lit (.bool (inN ns s))
  has : ∀ s : ByteArray, Maps.has D (kS s) = inN ns s
theorem zero4 (w : World) : (zeroValue 4).run Tryd.prog w = .ok (.bool false) w := by kernel_rfl
set_option maxRecDepth 100000 in
theorem plainBool_inv {v : Value} {x : Bool} {ps : List MemPlace} (h : plainElem (H := Unit) Tryd.prog 4 v = some (.lit (.bool x), ps)) : v = .bool x := by
  unfold plainElem at h
  rw [Tryd.underlying4] at h
  cases v <;> simp at h
  rw [h.1]
set_option maxRecDepth 100000 in
theorem MpB.look {w : World} {b : Nat} {ns : List ByteArray} {n : Nat} {D : DataW Unit} (h : MpB w b ns n D) (s : ByteArray) (hs : s.size ≤ 65536) : (Instr.lookup 82 (.map (some b)) (.string s) false).run Tryd.prog w = .ok (.bool (inN ns s)) w := by
  obtain ⟨v, ps, hr, hv⟩ := h.own.lookup law9 Tryd.underlying82 (zero4 w) (plainElem_bool (H := Unit) Tryd.underlying4 false) (Go.WideMaps.keyOf_string_mk Tryd.underlying9 (show s.size ≤ maxLen by unfold maxLen; omega))
  rw [show (Lit.string s.data.toList) = kS s from rfl, h.at_ s] at hv
  rw [hr, plainBool_inv hv]
theorem MpB.start (w : World) : MpB (w.alloc (.map #[] 0)) w.heap.size [] 0 (.map []) :=
  ⟨World.ownsMap_made _ _ _ _, Nat.le_refl _, rfl, fun s => rfl, fun s => rfl⟩
theorem inN_snoc (ns : List ByteArray) (x s : ByteArray) : inN (ns ++ [x]) s = (inN ns s || x.data.toList == s.data.toList) := by unfold inN; simp
theorem kS_key (s : ByteArray) : WideAt.IsKeyLit (kS s) := by unfold kS; trivial
theorem MpB.put {w w1 : World} {b : Nat} {ns : List ByteArray} {n : Nat} {D : DataW Unit} (h : MpB w b ns n D) (x : ByteArray) (hx : inN ns x = false)
    (h1 : w1.ownsMap Tryd.prog 9 (plainElem Tryd.prog 4) b (n + 1) (D.put (kS x) (.lit (.bool true)))) : MpB w1 b (ns ++ [x]) (n + 1) (D.put (kS x) (.lit (.bool true))) := by
  have ht := h.own.tidy law9
  refine ⟨h1, ?_, ?_, fun s => ?_, fun s => ?_⟩
  · rw [List.length_append]; exact Nat.add_le_add_right h.le 1
  · rw [size_put ht, h.has, hx, h.size, List.length_append]; simp
  · rw [inN_snoc]
    by_cases e : x.data.toList = s.data.toList
    · rw [show kS x = kS s by unfold kS; rw [e], atKey_put_same ht.isMap (kS_key s), beq_iff_eq.mpr e, Bool.or_true]
    · rw [atKey_put_other (fun q => e (by unfold kS at q; simpa using q.symm)), h.at_, beq_eq_false_iff_ne.mpr e, Bool.or_false]
  · rw [inN_snoc]
    by_cases e : x.data.toList = s.data.toList
    · rw [show kS x = kS s by unfold kS; rw [e], has_put_same ht.isMap (kS_key s), beq_iff_eq.mpr e, Bool.or_true]
    · rw [has_put_other (fun q => e (by unfold kS at q; simpa using q.symm)), h.has, beq_eq_false_iff_ne.mpr e, Bool.or_false]
theorem MpB.move {w w1 : World} {b : Nat} {ns : List ByteArray} {n : Nat} {D : DataW Unit} (h : MpB w b ns n D) (hb : w1.heap[b]? = w.heap[b]?) : MpB w1 b ns n D := by
  obtain ⟨⟨es, clock, h1, h2, h3, h4⟩, a1, a2, a3, a4⟩ := h
  exact ⟨⟨es, clock, hb.trans h1, h2, h3, h4⟩, a1, a2, a3, a4⟩
end Go.Proofs.YtkpnfejfbmandaaDoor.Px
namespace Go.Proofs.YtkpnfejfbmandaaDoor.Px
open Go.RowKit Go.Proofs.YtkpnfejfbmandaaDoorW.PrintWords Go.Proofs.YtkpnfejfbmandaaDoorW.PrintLast Go.Proofs.YtkpnfejfbmandaaDoorW.PrintMore
set_option linter.unusedVariables false
set_option linter.unusedSimpArgs false
theorem Frm.drew {w s x v6 v7 W} (h : Frm w s x v6 v7 W) : Frm w s x v6 v7 W.drew := ⟨h.b0, h.b1, h.b2, h.b3⟩
theorem hzE : hz = ⟨0, ⟨#[]⟩, ⟨#[]⟩, ⟨#[]⟩⟩ := rfl
mutual
theorem iL_gd : ∀ (l : List S78) {s : HS} (st : IS), s.gd → (iL l s st).1.gd
  | [], s, st, h => by rw [iL]; exact h
  | x :: xs, s, st, h => by
    rw [iL]
    split
    · exact iL_gd xs _ (iN_gd x st h)
    · exact h
theorem iN_gd : ∀ (x : S78) {s : HS} (st : IS), s.gd → (iN x s st).1.gd
  | ⟨k, at_, S, _, _, _, b, l⟩, s, st, h => by
    rw [iN]
    split
    · exact runF_gd _ h
    · repeat' split
      all_goals first | exact h | exact iL_gd b _ h
end
theorem failI_1 (st : IS) (a e : Int) : (failI st a e).1 = st.1 := by unfold failI; split <;> rfl
theorem expI_1 (st : IS) (a : Int) (x y : HS) (e : Int) : (expI st a x y e).1 = st.1 := by unfold expI; split; rfl; exact failI_1 _ _ _
mutual
theorem iL_len : ∀ (l : List S78) (s : HS) (st : IS), (iL l s st).2.1.length ≤ st.1.length + nL l
  | [], s, st => by rw [iL]; simp [nL]
  | x :: xs, s, st => by
    rw [iL, nL_cons]
    split
    · have h1 := iN_len x s st
      have h2 := iL_len xs (iN x s st).1 (iN x s st).2
      omega
    · simp only; omega
theorem iN_len : ∀ (x : S78) (s : HS) (st : IS), (iN x s st).2.1.length ≤ st.1.length + nN x
  | ⟨k, at_, S, _, _, _, b, l⟩, s, st => by
    rw [iN, nN_eq]
    have hb := iL_len b s st
    have hz := iL_len b hz st
    have hl := iL_len l s (iL b s st).2
    repeat' split
    all_goals simp only [expI_1, failI_1, List.length_append, List.length_singleton]
    all_goals omega
end
set_option maxHeartbeats 4000000 in
set_option maxRecDepth 100000 in
theorem iNode.call (x : S78) (hk : x.f0 = 4) : iNode.Con x := by
  intro w0 g v st s A6 A7 c6 c7 w hS hC6 hc6 hC7 hc7 hs hx hl
  obtain ⟨W4, e4, hA, hF, hgw, hw0⟩ := node_begin hS s x (.slice A6 x.f6.length c6) (.slice A7 x.f7.length c7)
  clear hS
  rw [iN_at, if_neg (by rw [hk]; decide), if_neg (by rw [hk]; decide), if_pos hk]
  replace e4 : W4 = ((((w.alloc (.cells #[.int .i64 s.c, .string s.n, .string s.a, .string s.p] 88)).alloc (.cells #[.int .i64 x.f0, .int .i64 x.f1, .string x.f2, .string x.f3, .bool x.f4, .bool x.f5, .slice A6 x.f6.length c6, .slice A7 x.f7.length c7] 78)).alloc (.cells #[.int .i64 0, .string ⟨#[]⟩, .string ⟨#[]⟩, .string ⟨#[]⟩] 88)).alloc (.cells #[.int .i64 0, .string ⟨#[]⟩, .string ⟨#[]⟩, .string ⟨#[]⟩] 88)) := e4
  rw [hk] at e4 ⊢
  generalize hn6 : x.f6.length = n6 at *
  generalize hn7 : x.f7.length = n7 at *
  replace hA := Aside0.mk hA
  replace hF := Aside0.mk hF
  have hlt := hF.out.lt
  obtain ⟨⟨c0, c1, c2⟩, k0, k1, k2⟩ := hA.out.st.cells
  obtain ⟨s0, s1, s2, s3, n0, n1, n2, n3, n4, n5, n6', n7', r0, r1, r2, r3, f0, f1, f2, f3, z0, z1, z2, z3⟩ := hF.out.cells
  rw [hk] at n0
  have lt0 : w.heap.size < W4.heap.size := by omega
  have lt1 : w.heap.size + 1 < W4.heap.size := by omega
  have lt2 : w.heap.size + 1 + 1 < W4.heap.size := by omega
  have ltg : g < W4.heap.size := by omega
  go_enter Tryd.func60, Tryd.ntmps60
  go_upto_region 2 with fail
  rw [← e4]
  clear e4
  go_wp2_with (go_at_call 39; refine (expect_any 4 x.f1 x.f2 x.f3 x.f4 x.f5 _ _ s ⟨0, ⟨#[]⟩, ⟨#[]⟩, ⟨#[]⟩⟩ 15 _ hA.out.st).mono ?_; rintro e w3 ⟨rfl, h3⟩; have hF3 := Aside0.mk (hF.out.out h3 hA.out.st hgw); have hB3 := Aside0.mk (hA.out.call h3); clear h3; clear s0 s1 s2 s3 n0 n1 n2 n3 n4 n5 n6' n7' r0 r1 r2 r3 f0 f1 f2 f3 z0 z1 z2 z3 c0 c1 c2 k0 k1 k2; obtain ⟨⟨c0, c1, c2⟩, k0, k1, k2⟩ := hB3.out.st.cells; obtain ⟨s0, s1, s2, s3, n0, n1, n2, n3, n4, n5, n6', n7', r0, r1, r2, r3, f0, f1, f2, f3, z0, z1, z2, z3⟩ := hF3.out.cells; have lt5 := hF3.out.lt; have ltg5 := blk_lt hB3.out.st.blk)
  exact ret88 rfl rfl rfl rfl (blk_put4 hF3.out.b2 rfl _ _ _ _) ⟨rfl, _, hB3.out.set4 hF3.out.b2 (by omega) (by omega) hw0 _ _ _ _⟩
set_option maxHeartbeats 4000000 in
set_option maxRecDepth 100000 in
theorem iNode.other (x : S78) (hk : x.f0 ≠ 0 ∧ x.f0 ≠ 1 ∧ x.f0 ≠ 4 ∧ x.f0 ≠ 2 ∧ x.f0 ≠ 3 ∧ x.f0 ≠ 6) : iNode.Con x := by
  obtain ⟨h0, h1, h4, h2, h3, h6⟩ := hk
  intro w0 g v st s A6 A7 c6 c7 w hS hC6 hc6 hC7 hc7 hs hx hl
  obtain ⟨W4, e4, hA, hF, hgw, hw0⟩ := node_begin hS s x (.slice A6 x.f6.length c6) (.slice A7 x.f7.length c7)
  clear hS
  rw [iN_at, if_neg h0, if_neg h1, if_neg h4, if_neg h2, if_neg h3, if_neg h6]
  replace e4 : W4 = ((((w.alloc (.cells #[.int .i64 s.c, .string s.n, .string s.a, .string s.p] 88)).alloc (.cells #[.int .i64 x.f0, .int .i64 x.f1, .string x.f2, .string x.f3, .bool x.f4, .bool x.f5, .slice A6 x.f6.length c6, .slice A7 x.f7.length c7] 78)).alloc (.cells #[.int .i64 0, .string ⟨#[]⟩, .string ⟨#[]⟩, .string ⟨#[]⟩] 88)).alloc (.cells #[.int .i64 0, .string ⟨#[]⟩, .string ⟨#[]⟩, .string ⟨#[]⟩] 88)) := e4
  generalize hn6 : x.f6.length = n6 at *
  generalize hn7 : x.f7.length = n7 at *
  replace hA := Aside0.mk hA
  replace hF := Aside0.mk hF
  have hlt := hF.out.lt
  obtain ⟨⟨c0, c1, c2⟩, k0, k1, k2⟩ := hA.out.st.cells
  obtain ⟨s0, s1, s2, s3, n0, n1, n2, n3, n4, n5, n6', n7', r0, r1, r2, r3, f0, f1, f2, f3, z0, z1, z2, z3⟩ := hF.out.cells
  have lt0 : w.heap.size < W4.heap.size := by omega
  have lt1 : w.heap.size + 1 < W4.heap.size := by omega
  have lt2 : w.heap.size + 1 + 1 < W4.heap.size := by omega
  have ltg : g < W4.heap.size := by omega
  have b0 : (x.f0 == 0) = false := beq_eq_false_iff_ne.mpr h0
  have b1 : (x.f0 == 1) = false := beq_eq_false_iff_ne.mpr h1
  have b4 : (x.f0 == 4) = false := beq_eq_false_iff_ne.mpr h4
  have b2 : (x.f0 == 2) = false := beq_eq_false_iff_ne.mpr h2
  have b3 : (x.f0 == 3) = false := beq_eq_false_iff_ne.mpr h3
  have b6 : (x.f0 == 6) = false := beq_eq_false_iff_ne.mpr h6
  clear h0 h1 h4 h2 h3 h6
  go_enter Tryd.func60, Tryd.ntmps60
  go_upto_region 2 with fail
  rw [← e4]
  clear e4
  go_wp2
  exact ret88 rfl rfl rfl rfl (blk_put4 hF.out.b2 rfl _ _ _ _) ⟨rfl, _, hA.out.set4 hF.out.b2 (by omega) (by omega) hw0 _ _ _ _⟩
set_option maxHeartbeats 4000000 in
set_option maxRecDepth 100000 in
theorem iNode.range (x : S78) (hk : x.f0 = 3) (hL : iList.Con x.f6) : iNode.Con x := by
  intro w0 g v st s A6 A7 c6 c7 w hS hC6 hc6 hC7 hc7 hs hx hl
  obtain ⟨W4, e4, hA, hF, hgw, hw0⟩ := node_begin hS s x (.slice A6 x.f6.length c6) (.slice A7 x.f7.length c7)
  have hm : smL x.f6 := by cases x; simp only [smN] at hx; exact hx.2.1
  have hl6 : st.1.length + nL x.f6 ≤ 1000000 := by rw [nN_eq] at hl; omega
  have hcl := Aside0.mk (fun W (h : AIn w0 g v st W) => hL w0 g v st s A6 c6 W h hC6 hc6 hs hm hl6)
  clear hL hC6 hC7 hc6 hc7 hx hl hm hl6
  clear hS
  rw [iN_at, if_neg (by rw [hk]; decide), if_neg (by rw [hk]; decide), if_neg (by rw [hk]; decide), if_neg (by rw [hk]; decide), if_pos hk]
  replace e4 : W4 = ((((w.alloc (.cells #[.int .i64 s.c, .string s.n, .string s.a, .string s.p] 88)).alloc (.cells #[.int .i64 x.f0, .int .i64 x.f1, .string x.f2, .string x.f3, .bool x.f4, .bool x.f5, .slice A6 x.f6.length c6, .slice A7 x.f7.length c7] 78)).alloc (.cells #[.int .i64 0, .string ⟨#[]⟩, .string ⟨#[]⟩, .string ⟨#[]⟩] 88)).alloc (.cells #[.int .i64 0, .string ⟨#[]⟩, .string ⟨#[]⟩, .string ⟨#[]⟩] 88)) := e4
  rw [hk] at e4 ⊢
  generalize hn6 : x.f6.length = n6 at *
  generalize hn7 : x.f7.length = n7 at *
  replace hA := Aside0.mk hA
  replace hF := Aside0.mk hF
  have hlt := hF.out.lt
  obtain ⟨⟨c0, c1, c2⟩, k0, k1, k2⟩ := hA.out.st.cells
  obtain ⟨s0, s1, s2, s3, n0, n1, n2, n3, n4, n5, n6', n7', r0, r1, r2, r3, f0, f1, f2, f3, z0, z1, z2, z3⟩ := hF.out.cells
  rw [hk] at n0
  have lt0 : w.heap.size < W4.heap.size := by omega
  have lt1 : w.heap.size + 1 < W4.heap.size := by omega
  have lt2 : w.heap.size + 1 + 1 < W4.heap.size := by omega
  have ltg : g < W4.heap.size := by omega
  generalize iL x.f6 s st = R at *
  obtain ⟨rs, rt⟩ := R
  dsimp only at hcl ⊢
  go_enter Tryd.func60, Tryd.ntmps60
  go_upto_region 2 with fail
  rw [← e4]
  clear e4
  go_wp2
  go_region_held3 (fun w' => w'.cell? ⟨w.heap.size, 0, none⟩ = some (.int .i64 s.c) ∧ w'.cell? ⟨w.heap.size, 1, none⟩ = some (.string s.n) ∧ w'.cell? ⟨w.heap.size, 2, none⟩ = some (.string s.a) ∧ w'.cell? ⟨w.heap.size, 3, none⟩ = some (.string s.p) ∧ w'.cell? ⟨w.heap.size + 1, 0, none⟩ = some (.int .i64 3) ∧ w'.cell? ⟨w.heap.size + 1, 1, none⟩ = some (.int .i64 x.f1) ∧ w'.cell? ⟨w.heap.size + 1, 2, none⟩ = some (.string x.f2) ∧ w'.cell? ⟨w.heap.size + 1, 3, none⟩ = some (.string x.f3) ∧ w'.cell? ⟨w.heap.size + 1, 4, none⟩ = some (.bool x.f4) ∧ w'.cell? ⟨w.heap.size + 1, 5, none⟩ = some (.bool x.f5) ∧ w'.cell? ⟨w.heap.size + 1, 6, none⟩ = some (.slice A6 n6 c6) ∧ w'.cell? ⟨w.heap.size + 1, 7, none⟩ = some (.slice A7 n7 c7) ∧ w'.cell? ⟨w.heap.size + 1 + 1 + 1, 0, none⟩ = some (.int .i64 0) ∧ w'.cell? ⟨w.heap.size + 1 + 1 + 1, 1, none⟩ = some (.string ⟨#[]⟩) ∧ w'.cell? ⟨w.heap.size + 1 + 1 + 1, 2, none⟩ = some (.string ⟨#[]⟩) ∧ w'.cell? ⟨w.heap.size + 1 + 1 + 1, 3, none⟩ = some (.string ⟨#[]⟩)) (exact ⟨s0, s1, s2, s3, n0, n1, n2, n3, n4, n5, n6', n7', z0, z1, z2, z3⟩) (first | (go_at_call 38; (with_reducible refine (hcl.out _ hA.out.st.drew).mono ?_); rintro e w3 ⟨rfl, v1, h3⟩; have hF3 := Aside0.mk (hF.out.drew.out h3 hA.out.st.drew hgw); have hB3 := Aside0.mk (hA.out.drew.call h3); clear h3; clear s0 s1 s2 s3 n0 n1 n2 n3 n4 n5 n6' n7' r0 r1 r2 r3 f0 f1 f2 f3 z0 z1 z2 z3 c0 c1 c2 k0 k1 k2; obtain ⟨⟨c0, c1, c2⟩, k0, k1, k2⟩ := hB3.out.st.cells; obtain ⟨s0, s1, s2, s3, n0, n1, n2, n3, n4, n5, n6', n7', r0, r1, r2, r3, f0, f1, f2, f3, z0, z1, z2, z3⟩ := hF3.out.cells; rw [hk] at n0) | (go_at_call 39; (with_reducible refine (expect_any 3 x.f1 x.f2 x.f3 x.f4 x.f5 _ _ rs s 16 _ hB3.out.st).mono ?_); rintro e w4 ⟨rfl, h4⟩; have hF4 := Aside0.mk (hF3.out.out h4 hB3.out.st hgw); have hB4 := Aside0.mk (hB3.out.call h4); clear h4; clear s0 s1 s2 s3 n0 n1 n2 n3 n4 n5 n6' n7' r0 r1 r2 r3 f0 f1 f2 f3 z0 z1 z2 z3 c0 c1 c2 k0 k1 k2; obtain ⟨⟨c0, c1, c2⟩, k0, k1, k2⟩ := hB4.out.st.cells; obtain ⟨s0, s1, s2, s3, n0, n1, n2, n3, n4, n5, n6', n7', r0, r1, r2, r3, f0, f1, f2, f3, z0, z1, z2, z3⟩ := hF4.out.cells; rw [hk] at n0))
  go_wp2
  exact ret88 rfl rfl rfl rfl (blk_put4 hF4.out.b2 rfl _ _ _ _) ⟨rfl, _, hB4.out.set4 hF4.out.b2 (by omega) (by omega) hw0 _ _ _ _⟩
set_option maxHeartbeats 4000000 in
set_option maxRecDepth 100000 in
theorem iNode.define (x : S78) (hk : x.f0 = 6) (hL : iList.Con x.f6) : iNode.Con x := by
  intro w0 g v st s A6 A7 c6 c7 w hS hC6 hc6 hC7 hc7 hs hx hl
  obtain ⟨W4, e4, hA, hF, hgw, hw0⟩ := node_begin hS s x (.slice A6 x.f6.length c6) (.slice A7 x.f7.length c7)
  have hm : smL x.f6 := by cases x; simp only [smN] at hx; exact hx.2.1
  have hl6 : st.1.length + nL x.f6 ≤ 1000000 := by rw [nN_eq] at hl; omega
  have hcl := Aside0.mk (fun W (h : AIn w0 g v st W) => hL w0 g v st ⟨0, ⟨#[]⟩, ⟨#[]⟩, ⟨#[]⟩⟩ A6 c6 W h hC6 hc6 hz_gd hm hl6)
  clear hL hC6 hC7 hc6 hc7 hx hl hm hl6
  clear hS
  rw [iN_at, if_neg (by rw [hk]; decide), if_neg (by rw [hk]; decide), if_neg (by rw [hk]; decide), if_neg (by rw [hk]; decide), if_neg (by rw [hk]; decide), if_pos hk]
  replace e4 : W4 = ((((w.alloc (.cells #[.int .i64 s.c, .string s.n, .string s.a, .string s.p] 88)).alloc (.cells #[.int .i64 x.f0, .int .i64 x.f1, .string x.f2, .string x.f3, .bool x.f4, .bool x.f5, .slice A6 x.f6.length c6, .slice A7 x.f7.length c7] 78)).alloc (.cells #[.int .i64 0, .string ⟨#[]⟩, .string ⟨#[]⟩, .string ⟨#[]⟩] 88)).alloc (.cells #[.int .i64 0, .string ⟨#[]⟩, .string ⟨#[]⟩, .string ⟨#[]⟩] 88)) := e4
  rw [hk] at e4 ⊢
  generalize hn6 : x.f6.length = n6 at *
  generalize hn7 : x.f7.length = n7 at *
  replace hA := Aside0.mk hA
  replace hF := Aside0.mk hF
  have hlt := hF.out.lt
  obtain ⟨⟨c0, c1, c2⟩, k0, k1, k2⟩ := hA.out.st.cells
  obtain ⟨s0, s1, s2, s3, n0, n1, n2, n3, n4, n5, n6', n7', r0, r1, r2, r3, f0, f1, f2, f3, z0, z1, z2, z3⟩ := hF.out.cells
  rw [hk] at n0
  have lt0 : w.heap.size < W4.heap.size := by omega
  have lt1 : w.heap.size + 1 < W4.heap.size := by omega
  have lt2 : w.heap.size + 1 + 1 < W4.heap.size := by omega
  have ltg : g < W4.heap.size := by omega
  rw [hzE]
  generalize iL x.f6 ⟨0, ⟨#[]⟩, ⟨#[]⟩, ⟨#[]⟩⟩ st = R at *
  obtain ⟨rs, rt⟩ := R
  dsimp only at hcl ⊢
  go_enter Tryd.func60, Tryd.ntmps60
  go_upto_region 2 with fail
  rw [← e4]
  clear e4
  go_wp2
  go_region_held3 (fun w' => w'.cell? ⟨w.heap.size, 0, none⟩ = some (.int .i64 s.c) ∧ w'.cell? ⟨w.heap.size, 1, none⟩ = some (.string s.n) ∧ w'.cell? ⟨w.heap.size, 2, none⟩ = some (.string s.a) ∧ w'.cell? ⟨w.heap.size, 3, none⟩ = some (.string s.p) ∧ w'.cell? ⟨w.heap.size + 1, 0, none⟩ = some (.int .i64 6) ∧ w'.cell? ⟨w.heap.size + 1, 1, none⟩ = some (.int .i64 x.f1) ∧ w'.cell? ⟨w.heap.size + 1, 2, none⟩ = some (.string x.f2) ∧ w'.cell? ⟨w.heap.size + 1, 3, none⟩ = some (.string x.f3) ∧ w'.cell? ⟨w.heap.size + 1, 4, none⟩ = some (.bool x.f4) ∧ w'.cell? ⟨w.heap.size + 1, 5, none⟩ = some (.bool x.f5) ∧ w'.cell? ⟨w.heap.size + 1, 6, none⟩ = some (.slice A6 n6 c6) ∧ w'.cell? ⟨w.heap.size + 1, 7, none⟩ = some (.slice A7 n7 c7) ∧ w'.cell? ⟨w.heap.size + 1 + 1 + 1, 0, none⟩ = some (.int .i64 0) ∧ w'.cell? ⟨w.heap.size + 1 + 1 + 1, 1, none⟩ = some (.string ⟨#[]⟩) ∧ w'.cell? ⟨w.heap.size + 1 + 1 + 1, 2, none⟩ = some (.string ⟨#[]⟩) ∧ w'.cell? ⟨w.heap.size + 1 + 1 + 1, 3, none⟩ = some (.string ⟨#[]⟩)) (exact ⟨s0, s1, s2, s3, n0, n1, n2, n3, n4, n5, n6', n7', z0, z1, z2, z3⟩) (first | (go_at_call 38; (with_reducible refine (hcl.out _ hA.out.st.drew).mono ?_); rintro e w3 ⟨rfl, v1, h3⟩; have hF3 := Aside0.mk (hF.out.drew.out h3 hA.out.st.drew hgw); have hB3 := Aside0.mk (hA.out.drew.call h3); clear h3; clear s0 s1 s2 s3 n0 n1 n2 n3 n4 n5 n6' n7' r0 r1 r2 r3 f0 f1 f2 f3 z0 z1 z2 z3 c0 c1 c2 k0 k1 k2; obtain ⟨⟨c0, c1, c2⟩, k0, k1, k2⟩ := hB3.out.st.cells; obtain ⟨s0, s1, s2, s3, n0, n1, n2, n3, n4, n5, n6', n7', r0, r1, r2, r3, f0, f1, f2, f3, z0, z1, z2, z3⟩ := hF3.out.cells; rw [hk] at n0) | (go_at_call 39; (with_reducible refine (expect_any 6 x.f1 x.f2 x.f3 x.f4 x.f5 _ _ rs ⟨0, ⟨#[]⟩, ⟨#[]⟩, ⟨#[]⟩⟩ 16 _ hB3.out.st).mono ?_); rintro e w4 ⟨rfl, h4⟩; have hF4 := Aside0.mk (hF3.out.out h4 hB3.out.st hgw); have hB4 := Aside0.mk (hB3.out.call h4); clear h4; clear s0 s1 s2 s3 n0 n1 n2 n3 n4 n5 n6' n7' r0 r1 r2 r3 f0 f1 f2 f3 z0 z1 z2 z3 c0 c1 c2 k0 k1 k2; obtain ⟨⟨c0, c1, c2⟩, k0, k1, k2⟩ := hB4.out.st.cells; obtain ⟨s0, s1, s2, s3, n0, n1, n2, n3, n4, n5, n6', n7', r0, r1, r2, r3, f0, f1, f2, f3, z0, z1, z2, z3⟩ := hF4.out.cells; rw [hk] at n0))
  go_wp2
  exact ret88 rfl rfl rfl rfl (blk_put4 hF4.out.b2 rfl _ _ _ _) ⟨rfl, _, hB4.out.set4 hF4.out.b2 (by omega) (by omega) hw0 _ _ _ _⟩
set_option maxHeartbeats 4000000 in
set_option maxRecDepth 100000 in
theorem iNode.ifs (x : S78) (hk : x.f0 = 2) (hL : iList.Con x.f6) (hM : iList.Con x.f7) : iNode.Con x := by
  intro w0 g v st s A6 A7 c6 c7 w hS hC6 hc6 hC7 hc7 hs hx hl
  obtain ⟨W4, e4, hA, hF, hgw, hw0⟩ := node_begin hS s x (.slice A6 x.f6.length c6) (.slice A7 x.f7.length c7)
  have hm : smL x.f6 ∧ smL x.f7 := by cases x; simp only [smN] at hx; exact hx.2
  have hl6 : st.1.length + nL x.f6 + nL x.f7 ≤ 1000000 := by rw [nN_eq] at hl; omega
  have hcl := Aside0.mk (fun W (h : AIn w0 g v st W) => hL w0 g v st s A6 c6 W h hC6 hc6 hs hm.1 (by omega))
  have hg2 := iL_gd x.f6 st hs
  have hle2 := iL_len x.f6 s st
  have hdl := Aside0.mk (fun W v1 (h : AIn w0 g v1 (iL x.f6 s st).2 W) => hM w0 g v1 (iL x.f6 s st).2 s A7 c7 W h hC7 hc7 hs hm.2 (by omega))
  clear hL hM hC6 hC7 hc6 hc7 hx hl hm hl6 hle2 hg2
  clear hS
  rw [iN_at, if_neg (by rw [hk]; decide), if_neg (by rw [hk]; decide), if_neg (by rw [hk]; decide), if_pos hk]
  replace e4 : W4 = ((((w.alloc (.cells #[.int .i64 s.c, .string s.n, .string s.a, .string s.p] 88)).alloc (.cells #[.int .i64 x.f0, .int .i64 x.f1, .string x.f2, .string x.f3, .bool x.f4, .bool x.f5, .slice A6 x.f6.length c6, .slice A7 x.f7.length c7] 78)).alloc (.cells #[.int .i64 0, .string ⟨#[]⟩, .string ⟨#[]⟩, .string ⟨#[]⟩] 88)).alloc (.cells #[.int .i64 0, .string ⟨#[]⟩, .string ⟨#[]⟩, .string ⟨#[]⟩] 88)) := e4
  rw [hk] at e4 ⊢
  generalize hn6 : x.f6.length = n6 at *
  generalize hn7 : x.f7.length = n7 at *
  replace hA := Aside0.mk hA
  replace hF := Aside0.mk hF
  have hlt := hF.out.lt
  obtain ⟨⟨c0, c1, c2⟩, k0, k1, k2⟩ := hA.out.st.cells
  obtain ⟨s0, s1, s2, s3, n0, n1, n2, n3, n4, n5, n6', n7', r0, r1, r2, r3, f0, f1, f2, f3, z0, z1, z2, z3⟩ := hF.out.cells
  rw [hk] at n0
  have lt0 : w.heap.size < W4.heap.size := by omega
  have lt1 : w.heap.size + 1 < W4.heap.size := by omega
  have lt2 : w.heap.size + 1 + 1 < W4.heap.size := by omega
  have ltg : g < W4.heap.size := by omega
  generalize iL x.f6 s st = R at *
  obtain ⟨rs, rt⟩ := R
  dsimp only at hcl hdl ⊢
  generalize iL x.f7 s rt = Q at *
  obtain ⟨qs, qt⟩ := Q
  dsimp only at hdl ⊢
  go_enter Tryd.func60, Tryd.ntmps60
  go_upto_region 2 with fail
  rw [← e4]
  clear e4
  go_wp2_with (go_at_call 38; (with_reducible refine (hcl.out _ hA.out.st).mono ?_); rintro e w3 ⟨rfl, v1, h3⟩; have hF3 := Aside0.mk (hF.out.out h3 hA.out.st hgw); have hB3 := Aside0.mk (hA.out.call h3); clear h3; clear s0 s1 s2 s3 n0 n1 n2 n3 n4 n5 n6' n7' r0 r1 r2 r3 f0 f1 f2 f3 z0 z1 z2 z3 c0 c1 c2 k0 k1 k2; obtain ⟨⟨c0, c1, c2⟩, k0, k1, k2⟩ := hB3.out.st.cells; obtain ⟨s0, s1, s2, s3, n0, n1, n2, n3, n4, n5, n6', n7', r0, r1, r2, r3, f0, f1, f2, f3, z0, z1, z2, z3⟩ := hF3.out.cells; have lt5 := hF3.out.lt; have ltg5 := blk_lt hB3.out.st.blk; rw [hk] at n0)
  obtain ⟨W5, e5⟩ : ∃ W5, W5 = w3.alloc (.cells #[.int .i64 rs.c, .string rs.n, .string rs.a, .string rs.p] 88) := ⟨_, rfl⟩
  rw [← e5]
  have hB5 := Aside0.mk (show AOut w0 w g v v1 rt W5 from by rw [e5]; exact hB3.out.alloc _)
  have hF5 := Aside0.mk (show Frm w s x (.slice A6 n6 c6) (.slice A7 n7 c7) W5 from by rw [e5]; exact hF3.out.al _)
  have hX5 := Aside0.mk (show W5.heap[w3.heap.size]? = some (.cells (ag4 rs) 88 (0, 0)) from by rw [e5]; exact blk_new _ _)
  clear e5 hB3 hF3
  have hqg : w3.heap.size ≠ g := by omega
  clear s0 s1 s2 s3 n0 n1 n2 n3 n4 n5 n6' n7' r0 r1 r2 r3 f0 f1 f2 f3 z0 z1 z2 z3 c0 c1 c2 k0 k1 k2
  obtain ⟨⟨c0, c1, c2⟩, k0, k1, k2⟩ := hB5.out.st.cells
  obtain ⟨s0, s1, s2, s3, n0, n1, n2, n3, n4, n5, n6', n7', r0, r1, r2, r3, f0, f1, f2, f3, z0, z1, z2, z3⟩ := hF5.out.cells
  rw [hk] at n0
  have x0 : W5.cell? ⟨w3.heap.size, 0, none⟩ = some (.int .i64 rs.c) := blk_cell hX5.out 0
  have x1 : W5.cell? ⟨w3.heap.size, 1, none⟩ = some (.string rs.n) := blk_cell hX5.out 1
  have x2 : W5.cell? ⟨w3.heap.size, 2, none⟩ = some (.string rs.a) := blk_cell hX5.out 2
  have x3 : W5.cell? ⟨w3.heap.size, 3, none⟩ = some (.string rs.p) := blk_cell hX5.out 3
  go_region_held3 (fun w' => w'.cell? ⟨w.heap.size, 0, none⟩ = some (.int .i64 s.c) ∧ w'.cell? ⟨w.heap.size, 1, none⟩ = some (.string s.n) ∧ w'.cell? ⟨w.heap.size, 2, none⟩ = some (.string s.a) ∧ w'.cell? ⟨w.heap.size, 3, none⟩ = some (.string s.p) ∧ w'.cell? ⟨w.heap.size + 1, 0, none⟩ = some (.int .i64 2) ∧ w'.cell? ⟨w.heap.size + 1, 1, none⟩ = some (.int .i64 x.f1) ∧ w'.cell? ⟨w.heap.size + 1, 2, none⟩ = some (.string x.f2) ∧ w'.cell? ⟨w.heap.size + 1, 3, none⟩ = some (.string x.f3) ∧ w'.cell? ⟨w.heap.size + 1, 4, none⟩ = some (.bool x.f4) ∧ w'.cell? ⟨w.heap.size + 1, 5, none⟩ = some (.bool x.f5) ∧ w'.cell? ⟨w.heap.size + 1, 6, none⟩ = some (.slice A6 n6 c6) ∧ w'.cell? ⟨w.heap.size + 1, 7, none⟩ = some (.slice A7 n7 c7) ∧ w'.cell? ⟨w3.heap.size, 0, none⟩ = some (.int .i64 rs.c) ∧ w'.cell? ⟨w3.heap.size, 1, none⟩ = some (.string rs.n) ∧ w'.cell? ⟨w3.heap.size, 2, none⟩ = some (.string rs.a) ∧ w'.cell? ⟨w3.heap.size, 3, none⟩ = some (.string rs.p)) (exact ⟨s0, s1, s2, s3, n0, n1, n2, n3, n4, n5, n6', n7', x0, x1, x2, x3⟩) (first | (go_at_call 38; (with_reducible refine (hdl.out _ v1 hB5.out.st.drew).mono ?_); rintro e w6 ⟨rfl, v2, h6⟩; have hF6 := Aside0.mk (hF5.out.drew.out h6 hB5.out.st.drew hgw); have hB6 := Aside0.mk (hB5.out.drew.call h6); have hX6 := Aside0.mk (h6.box hB5.out.st.drew hX5.out (by decide) hqg); clear h6 x0 x1 x2 x3; clear s0 s1 s2 s3 n0 n1 n2 n3 n4 n5 n6' n7' r0 r1 r2 r3 f0 f1 f2 f3 z0 z1 z2 z3 c0 c1 c2 k0 k1 k2; obtain ⟨⟨c0, c1, c2⟩, k0, k1, k2⟩ := hB6.out.st.cells; obtain ⟨s0, s1, s2, s3, n0, n1, n2, n3, n4, n5, n6', n7', r0, r1, r2, r3, f0, f1, f2, f3, z0, z1, z2, z3⟩ := hF6.out.cells; rw [hk] at n0; have x0 : w6.cell? ⟨w3.heap.size, 0, none⟩ = some (.int .i64 rs.c) := blk_cell hX6.out 0; have x1 : w6.cell? ⟨w3.heap.size, 1, none⟩ = some (.string rs.n) := blk_cell hX6.out 1; have x2 : w6.cell? ⟨w3.heap.size, 2, none⟩ = some (.string rs.a) := blk_cell hX6.out 2; have x3 : w6.cell? ⟨w3.heap.size, 3, none⟩ = some (.string rs.p) := blk_cell hX6.out 3) | (go_at_call 39; (with_reducible refine (expect_any 2 x.f1 x.f2 x.f3 x.f4 x.f5 _ _ qs rs 16 _ hB6.out.st).mono ?_); rintro e w7 ⟨rfl, h7⟩; have hF7 := Aside0.mk (hF6.out.out h7 hB6.out.st hgw); have hB7 := Aside0.mk (hB6.out.call h7); have hX7 := Aside0.mk (h7.box hB6.out.st hX6.out (by decide) hqg); clear h7 x0 x1 x2 x3; clear s0 s1 s2 s3 n0 n1 n2 n3 n4 n5 n6' n7' r0 r1 r2 r3 f0 f1 f2 f3 z0 z1 z2 z3 c0 c1 c2 k0 k1 k2; obtain ⟨⟨c0, c1, c2⟩, k0, k1, k2⟩ := hB7.out.st.cells; obtain ⟨s0, s1, s2, s3, n0, n1, n2, n3, n4, n5, n6', n7', r0, r1, r2, r3, f0, f1, f2, f3, z0, z1, z2, z3⟩ := hF7.out.cells; rw [hk] at n0; have x0 : w7.cell? ⟨w3.heap.size, 0, none⟩ = some (.int .i64 rs.c) := blk_cell hX7.out 0; have x1 : w7.cell? ⟨w3.heap.size, 1, none⟩ = some (.string rs.n) := blk_cell hX7.out 1; have x2 : w7.cell? ⟨w3.heap.size, 2, none⟩ = some (.string rs.a) := blk_cell hX7.out 2; have x3 : w7.cell? ⟨w3.heap.size, 3, none⟩ = some (.string rs.p) := blk_cell hX7.out 3))
  go_wp2
  exact ret88 rfl rfl rfl rfl (blk_put4 hF7.out.b2 rfl _ _ _ _) ⟨rfl, _, hB7.out.set4 hF7.out.b2 (by omega) (by omega) hw0 _ _ _ _⟩
end Go.Proofs.YtkpnfejfbmandaaDoor.Px
namespace Go.Proofs.YtkpnfejfbmandaaDoor.Px
open Go.RowKit Go.Proofs.YtkpnfejfbmandaaDoorW.PrintWords Go.Proofs.YtkpnfejfbmandaaDoorW.PrintLast Go.Proofs.YtkpnfejfbmandaaDoorW.PrintMore
set_option linter.unusedVariables false
set_option linter.unusedSimpArgs false
theorem iNode.any (x : S78) (h6 : iList.Con x.f6) (h7 : iList.Con x.f7) : iNode.Con x := by
  by_cases k0 : x.f0 = 0
  · exact iNode.text x k0
  by_cases k1 : x.f0 = 1
  · exact iNode.print x k1
  by_cases k4 : x.f0 = 4
  · exact iNode.call x k4
  by_cases k2 : x.f0 = 2
  · exact iNode.ifs x k2 h6 h7
  by_cases k3 : x.f0 = 3
  · exact iNode.range x k3 h6
  by_cases k6 : x.f0 = 6
  · exact iNode.define x k6 h6
  exact iNode.other x ⟨k0, k1, k4, k2, k3, k6⟩
structure ILoop (w0 w : World) (g : Nat) (v : Value) (l : List S78) (R : HS × IS) (i : Nat) (wr : World) (v' : Value) (s : HS) (st : IS) : Prop where
  eq : iL (l.drop i) s st = R
  gd : s.gd
  sm : smL (l.drop i)
  len : st.1.length + nL (l.drop i) ≤ 1000000
  a : AOut w0 w g v v' st wr
  b0 : wr.heap[w.heap.size]? = some (.cells (ag4 s) 88 (0, 0))
  b1 : wr.heap[w.heap.size + 1]? = some (.cells (ag4 hz) 88 (0, 0))
theorem sm_drop : ∀ (l : List S78) (i : Nat), smL l → smL (l.drop i)
  | l, 0, h => h
  | [], i + 1, h => h
  | x :: xs, i + 1, h => sm_drop xs i h.2
set_option maxHeartbeats 4000000 in
set_option maxRecDepth 100000 in
theorem iList.step (l : List S78) (ih : ∀ x ∈ l, iNode.Con x) : iList.Con l := by
  intro w0 g v st s A c w hS hC hc hs hsm hlen
  have hgw := blk_lt hS.blk
  have hw0 := hS.bel.size
  have H0 : ILoop w0 w g v l (iL l s st) 0 ((w.alloc (.cells (ag4 s) 88)).alloc (.cells (ag4 hz) 88)) v s st := ⟨rfl, hs, hsm, hlen, (hS.out.alloc _).alloc _, blk_alloc (blk_new _ _) _, blk_n1 _ _ _⟩
  generalize iL l s st = R at *
  replace ih := Aside0.mk ih
  replace hC := Aside0.mk hC
  replace H0 := Aside0.mk H0
  have hlt : l.length ≤ 1000000 := by have := nL_len l; omega
  clear hS hs hsm hlen
  go_enter Tryd.func38, Tryd.ntmps38
  go_wp2
  go_loopg [11] l.length (fun kq v11 wr => ∃ (i : Nat) (v' : Value) (s1 : HS) (st1 : IS), kq + i = l.length ∧ v11 = .int .i64 i ∧ ILoop w0 w g v l R i wr v' s1 st1)
  case atStart => exact ⟨0, v, s, st, rfl, rfl, H0.out⟩
  case round =>
    clear H0
    obtain ⟨i, v1, sx, tx, hki, rfl, HR⟩ := hrel
    have hrs := HR.a.keep.1
    have hltr := blk_lt HR.b1
    have hlt0 : w.heap.size < wr.heap.size := by omega
    have hgr := blk_lt HR.a.st.blk
    have hng : w.heap.size ≠ g := by omega
    have hng1 : w.heap.size + 1 ≠ g := by omega
    obtain ⟨⟨c0, c1, c2⟩, k0, k1, k2⟩ := HR.a.st.cells
    have s0 : wr.cell? ⟨w.heap.size, 0, none⟩ = some (.int .i64 sx.c) := blk_cell HR.b0 0
    have s1 : wr.cell? ⟨w.heap.size, 1, none⟩ = some (.string sx.n) := blk_cell HR.b0 1
    have s2 : wr.cell? ⟨w.heap.size, 2, none⟩ = some (.string sx.a) := blk_cell HR.b0 2
    have s3 : wr.cell? ⟨w.heap.size, 3, none⟩ = some (.string sx.p) := blk_cell HR.b0 3
    have p0 := blk_frozen HR.b0 0
    have p1 := blk_frozen HR.b0 1
    have p2 := blk_frozen HR.b0 2
    have p3 := blk_frozen HR.b0 3
    have r0 : wr.cell? ⟨w.heap.size + 1, 0, none⟩ = some (.int .i64 0) := blk_cell HR.b1 0
    have r1 : wr.cell? ⟨w.heap.size + 1, 1, none⟩ = some (.string ⟨#[]⟩) := blk_cell HR.b1 1
    have r2 : wr.cell? ⟨w.heap.size + 1, 2, none⟩ = some (.string ⟨#[]⟩) := blk_cell HR.b1 2
    have r3 : wr.cell? ⟨w.heap.size + 1, 3, none⟩ = some (.string ⟨#[]⟩) := blk_cell HR.b1 3
    have f0 := blk_frozen HR.b1 0
    have f1 := blk_frozen HR.b1 1
    have f2 := blk_frozen HR.b1 2
    have f3 := blk_frozen HR.b1 3
    replace HR := Aside0.mk HR
    by_cases hlt2 : i < l.length
    · have hl : decide ((i : Int) < (l.length : Int)) = true := decide_eq_true (by omega)
      have hd : l.drop i = l[i] :: l.drop (i + 1) := List.drop_eq_getElem_cons hlt2
      obtain ⟨ad, A6, c6, A7, c7, hA, x0, x1, x2, x3, x4, x5, x6, x7, l6, g6, l7, g7⟩ := at_T78 hC.out (i : Int) (by omega) (by omega)
      have hrd : rd_T78 l (i : Int) = l[i] := by unfold rd_T78; simp [List.getD, hlt2]
      simp only [Int.toNat_natCast] at x0 x1 x2 x3 x4 x5 x6 x7
      rw [hrd] at x0 x1 x2 x3 x4 x5 x6 x7 l6 g6 l7 g7
      have hin := List.getElem_mem hlt2
      generalize l[i] = x at *
      subst hA
      have up : ∀ {a : Addr} {u : Value}, w0.cell? a = some u → wr.cell? a = some u := fun h => (HR.out.a.st.bel.cell (World.block_lt_of_cell? _ _ h)).trans h
      have hab := World.block_lt_of_cell? _ _ (up x0)
      replace x0 := up x0
      replace x1 := up x1
      replace x2 := up x2
      replace x3 := up x3
      replace x4 := up x4
      replace x5 := up x5
      replace x6 := up x6
      replace x7 := up x7
      replace g6 := Aside0.mk g6
      replace g7 := Aside0.mk g7
      replace hd := Aside0.mk hd
      clear up hrd
      by_cases he : tx.2.2 = 0
      · have he' : (tx.2.2 != 0) = false := by simp [he]
        replace he := Aside0.mk he
        have HE := HR.out.eq
        have HS := HR.out.sm
        have HL := HR.out.len
        rw [hd.out] at HE HS HL
        rw [iL, if_pos he.out] at HE
        rw [nL_cons] at HL
        have hlx := iN_len x sx tx
        have hgx := iN_gd x tx HR.out.gd
        replace HE := Aside0.mk HE
        replace HS := Aside0.mk HS
        generalize hY : iN x sx tx = Y at *
        obtain ⟨sy, ty⟩ := Y
        dsimp only at HE hlx hgx
        replace hY := Aside0.mk hY
        have hcall := Aside0.mk (fun W h => ih.out x hin w0 g v1 tx sx A6 A7 c6 c7 W h g6.out l6 g7.out l7 HR.out.gd HS.out.1 (by omega))
        rw [hY.out] at hcall
        replace hgx := Aside0.mk hgx
        clear ih hC g6 g7
        go_wp2_with (go_at_call 60; refine (hcall.out _ (HR.out.a.st.alloc _)).mono ?_; rintro e w3 ⟨rfl, v2, h3⟩; have hB3 := Aside0.mk ((HR.out.a.alloc _).call h3); have hb0 := Aside0.mk (h3.box (HR.out.a.st.alloc _) (blk_alloc HR.out.b0 _) (by decide) hng); have hb1 := Aside0.mk (h3.box (HR.out.a.st.alloc _) (blk_alloc HR.out.b1 _) (by decide) hng1); clear h3 s0 s1 s2 s3 p0 p1 p2 p3 r0 r1 r2 r3 f0 f1 f2 f3 c0 c1 c2 k0 k1 k2; have s0 : w3.cell? ⟨w.heap.size, 0, none⟩ = some (.int .i64 sx.c) := blk_cell hb0.out 0; have s1 : w3.cell? ⟨w.heap.size, 1, none⟩ = some (.string sx.n) := blk_cell hb0.out 1; have s2 : w3.cell? ⟨w.heap.size, 2, none⟩ = some (.string sx.a) := blk_cell hb0.out 2; have s3 : w3.cell? ⟨w.heap.size, 3, none⟩ = some (.string sx.p) := blk_cell hb0.out 3; have p0 := blk_frozen hb0.out 0; have p1 := blk_frozen hb0.out 1; have p2 := blk_frozen hb0.out 2; have p3 := blk_frozen hb0.out 3)
        go_roundg (gk - 1)
        case measure => omega
        case rel =>
          exact ⟨i + 1, v2, sy, ty, by omega, by simp, ⟨HE.out, hgx.out, HS.out.2, by omega, hB3.out.set4 hb0.out hng (Nat.le_refl _) hw0 _ _ _ _, blk_put4 hb0.out rfl _ _ _ _, (far4 (by omega) _ _ _ _).trans hb1.out⟩⟩
      · have he' : (tx.2.2 != 0) = true := by simp [he]
        have HE := HR.out.eq
        rw [hd.out, iL, if_neg he] at HE
        subst HE
        replace he := Aside0.mk he
        clear ih hC g6 g7 hd
        go_wp2
        exact ret88 rfl rfl rfl rfl (blk_alloc (blk_put4 HR.out.b1 rfl _ _ _ _) _) ⟨rfl, v1, (HR.out.a.set4 HR.out.b1 hng1 (Nat.le_succ _) hw0 _ _ _ _).alloc _⟩
    · have hl : decide ((i : Int) < (l.length : Int)) = false := decide_eq_false (by omega)
      have HE := HR.out.eq
      rw [List.drop_eq_nil_of_le (by omega), iL] at HE
      subst HE
      clear ih hC
      go_wp2
      exact ret88 rfl rfl rfl rfl (blk_put4 HR.out.b1 rfl _ _ _ _) ⟨rfl, v1, HR.out.a.set4 HR.out.b1 hng1 (Nat.le_succ _) hw0 _ _ _ _⟩
theorem infer_all : ∀ (n : Nat), (∀ l : List S78, SizeOf.sizeOf l < n → iList.Con l) := by
  intro n
  induction n with
  | zero => intro l h; exact absurd h (Nat.not_lt_zero _)
  | succ n ih =>
    intro l h
    refine iList.step l fun x hx => ?_
    have h1 := List.sizeOf_lt_of_mem hx
    have h2 : SizeOf.sizeOf x.f6 < SizeOf.sizeOf x ∧ SizeOf.sizeOf x.f7 < SizeOf.sizeOf x := by cases x; simp; omega
    exact iNode.any x (ih _ (by omega)) (ih _ (by omega))
theorem infer_list (l : List S78) : iList.Con l := infer_all _ l (Nat.lt_succ_self _)
end Go.Proofs.YtkpnfejfbmandaaDoor.Px
