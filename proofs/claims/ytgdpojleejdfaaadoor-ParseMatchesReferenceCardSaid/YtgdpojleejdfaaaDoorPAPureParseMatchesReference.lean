import Derived.Test.YtgdpojleejdfaaaDoorPAQa3
import Derived.Test.YtgdpojleejdfaaaDoorPANb
/- For every source, Parse answers as the reference (the plain law). -/
namespace Go.Proofs.YtgdpojleejdfaaaDoor.Pure
open Go.RowKit Go.Proofs.YtgdpojleejdfaaaDoor.Px Go.Proofs.YtgdpojleejdfaaaDoorW.PrintWords Go.Proofs.YtgdpojleejdfaaaDoorW.PrintLast
theorem parsed_small {s : ByteArray} {k : Nat} {r : List S39 × Int × Int} (h : parse_Parse.f k s = some r) : nL r.1 ≤ 4096 := by
  unfold parse_Parse.f at h
  by_cases he : (lexF s).2.2 = 0
  · rw [if_pos he] at h
    obtain ⟨res, hp, rfl⟩ := Option.map_eq_some_iff.1 h
    cases res with
    | error e => simp [parseR, nL]
    | ok x =>
      obtain ⟨o, l', n'⟩ := x
      obtain ⟨h1, h2⟩ := (parse_cnt k).1 _ _ _ _ _ _ _ hp
      simp only [nL] at h1
      cases l' with
      | nil => show nL o ≤ 4096; have := h2 (by decide); omega
      | cons t l => simp [parseR, nL]
  · rw [if_neg he] at h; cases h; simp [nL]
theorem ParseMatchesReference : tmplpipelaw12_ParseMatchesReference.Pure := by
  intro s hs
  by_cases hbig : (s.size : Int) > 5000
  · obtain ⟨K, hK⟩ := alive12_ev
    refine ⟨K, ?_⟩
    have h := hK K (Nat.le_refl _)
    dsimp only at h
    unfold tmplpipelaw12_ParseMatchesReference.f
    rw [if_pos hbig, h]; rfl
  · obtain ⟨r, hr⟩ := parse_ev s
    have hq := parse_ref s (by omega) hr
    obtain ⟨K1, h1⟩ := hr
    have hsm := parsed_small (h1 K1 (Nat.le_refl _))
    obtain ⟨K4, h4⟩ := ref12_equal (SizeOf.sizeOf r.1 + 1) r.1 (Nat.lt_succ_self _) r.1 true (by omega)
    obtain ⟨K2, h2⟩ := hq
    obtain ⟨K3, h3⟩ := alive12_ev
    rw [eqRL_refl true _ r.1 (Nat.lt_succ_self _)] at h4
    dsimp only at h1 h2 h3 h4
    refine ⟨K1 + K2 + K3 + K4, ?_⟩
    unfold tmplpipelaw12_ParseMatchesReference.f
    rw [if_neg hbig, h1 _ (by omega), Option.bind_some, h2 _ (by omega), Option.bind_some, h3 _ (by omega), Option.bind_some, if_pos rfl, h4 _ (by omega), Option.bind_some, if_pos rfl, if_pos rfl]
    simp
end Go.Proofs.YtgdpojleejdfaaaDoor.Pure
