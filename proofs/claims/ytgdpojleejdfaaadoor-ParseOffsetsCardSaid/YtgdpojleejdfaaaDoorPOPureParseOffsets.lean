import Derived.Test.YtgdpojleejdfaaaDoorPOQa7
import Derived.Test.YtgdpojleejdfaaaDoorPONd
/- The offsets of a parsed template ascend strictly in preorder (the plain law). -/
namespace Go.Proofs.YtgdpojleejdfaaaDoor.Pure
open Go.RowKit Go.Proofs.YtgdpojleejdfaaaDoor.Px Go.Proofs.YtgdpojleejdfaaaDoorW.PrintWords Go.Proofs.YtgdpojleejdfaaaDoorW.PrintLast
theorem offF_asc : ∀ (xs : List Int) (last b : Int), (∀ x ∈ xs, last < x ∧ x < b) → xs.Pairwise (· < ·) → last < b → (offF xs last).2 = 0 ∧ (offF xs last).1 < b
  | [], last, b, _, _, h => ⟨rfl, h⟩
  | x :: xs, last, b, h, hp, _ => by
    obtain ⟨h1, h2⟩ := List.pairwise_cons.1 hp
    have hx := h x List.mem_cons_self
    obtain ⟨a, c⟩ := offF_asc xs x b (fun y hy => ⟨h1 y hy, (h y (List.mem_cons_of_mem _ hy)).2⟩) h2 hx.2
    rw [offF, if_neg (by omega)]
    exact ⟨by show 0 + _ = _; omega, c⟩
theorem ParseOffsets : tmplpipelaw12_ParseOffsets.Pure := by
  intro s hs
  obtain ⟨r, hr⟩ := parse_ev s
  obtain ⟨K1, h1⟩ := hr
  have hone := h1 K1 (Nat.le_refl _)
  obtain ⟨K2, h2⟩ := alive12_ev
  dsimp only at h1 h2 hone
  have flag : (r.2.2 = 0 ∨ (0 ≤ r.2.1 ∧ r.2.1 ≤ s.size ∧ r.1 = [])) → ∀ k, K2 ≤ k → tmplpipelaw12_ParseOffsets.j0 (k + 1) s r.1 r.2.1 r.2.2 true = some true := fun h k hk => by
    rw [tmplpipelaw12_ParseOffsets.j0, if_pos rfl, h2 k hk, Option.bind_some, if_pos rfl]
    by_cases he : r.2.2 = 0
    · rw [if_pos he]
    · obtain ⟨a, b, c⟩ := h.resolve_left he
      rw [if_neg he, if_pos a, if_pos b, c]; rfl
  have bad : r.2.2 = 0 ∨ (0 ≤ r.2.1 ∧ r.2.1 ≤ s.size ∧ r.1 = []) := by
    by_cases he : r.2.2 = 0
    · exact .inl he
    · obtain ⟨a, b, c⟩ := parse_bad hone he
      exact .inr ⟨b, c, a⟩
  by_cases hbig : (s.size : Int) > 5000
  · refine ⟨K1 + K2 + 1, ?_⟩
    unfold tmplpipelaw12_ParseOffsets.f
    rw [h1 _ (by omega), Option.bind_some, if_pos hbig]
    exact flag bad _ (by omega)
  by_cases he : r.2.2 = 0
  case neg =>
    refine ⟨K1 + K2 + 1, ?_⟩
    unfold tmplpipelaw12_ParseOffsets.f
    rw [h1 _ (by omega), Option.bind_some, if_neg hbig, show (r.2.2 != 0) = true by simpa using he]
    exact flag bad _ (by omega)
  obtain ⟨L, n', hsz, hL, hp, hn⟩ := parse_good hone he
  obtain ⟨pre, ys, e1, e2, g⟩ := (pgood K1).1 _ _ _ _ _ _ _ (by decide) (by decide) hp
  rw [List.append_nil] at e1
  rw [List.nil_append] at e2
  subst e1
  have hcnt := (parse_cnt K1).1 _ _ _ _ _ _ _ hp
  simp only [nL] at hcnt
  have hnl : nL r.1 ≤ 4096 := by have := hcnt.2 (by decide); omega
  rw [← e2] at g
  have hasc := lexS_asc _ 0 _ L (Nat.le_refl _) hL
  rw [data_length] at hasc
  have hmap : (L.map tokS).map (·.f1) = L.map fun x => ((x.1 : Nat) : Int) := by rw [List.map_map]; rfl
  have hsub := g.sub
  rw [hmap] at hsub
  have hpw : (L.map fun x => ((x.1 : Nat) : Int)).Pairwise (· < ·) := by
    have := hasc.2
    rw [List.pairwise_map] at this ⊢
    exact this.imp fun h => by omega
  have hoff := offF_asc (offL r.1) (-1) (max 1 (s.size : Int)) (fun x hx => by
    obtain ⟨y, hy, rfl⟩ := List.mem_map.1 (hsub.subset hx)
    have := hasc.1 y hy
    show (-1 : Int) < (y.1 : Int) ∧ (y.1 : Int) < _
    omega) (hpw.sublist hsub) (by omega)
  obtain ⟨K3, h3⟩ := offsets_ev r.1 (by omega) (-1)
  obtain ⟨K4, h4⟩ := count_ev r.1 (by omega)
  obtain ⟨K5, h5⟩ := nest_ev r.1 (by omega)
  have hc := g.cnt
  have hne := g.nst
  dsimp only at h3 h4 h5
  rcases large_ev r.1 with hl | ⟨hl, _⟩
  · obtain ⟨K6, h6⟩ := hl
    dsimp only at h6
    refine ⟨K1 + K2 + K6 + 1, ?_⟩
    unfold tmplpipelaw12_ParseOffsets.f
    rw [h1 _ (by omega), Option.bind_some, if_neg hbig, show (r.2.2 != 0) = false by simpa using he, tmplpipelaw12_ParseOffsets.j0, if_neg (by simp), h6 _ (by omega), Option.bind_some, if_pos (by decide), h2 _ (by omega), Option.bind_some]
  · obtain ⟨K6, h6⟩ := hl
    dsimp only at h6
    refine ⟨K1 + K2 + K3 + K4 + K5 + K6 + 1, ?_⟩
    unfold tmplpipelaw12_ParseOffsets.f
    rw [h1 _ (by omega), Option.bind_some, if_neg hbig, show (r.2.2 != 0) = false by simpa using he, tmplpipelaw12_ParseOffsets.j0, if_neg (by simp), h6 _ (by omega), Option.bind_some, if_neg (by decide), h3 _ (by omega), Option.bind_some, h2 _ (by omega), Option.bind_some, if_pos rfl, if_pos hoff.1,
      if_pos (by have := hoff.2; unfold mx; omega), h4 _ (by omega), Option.bind_some, if_pos (by omega), h5 _ (by omega), Option.bind_some]
    simp
    omega
end Go.Proofs.YtgdpojleejdfaaaDoor.Pure
