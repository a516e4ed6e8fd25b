/- For every list of nodes, Count and Nest tell what the reference tells. -/
import Derived.Test.YtgdpojleejdfaaaDoorPORd
import Derived.Test.YtgdpojleejdfaaaDoorPOOp
namespace Go.Proofs.YtgdpojleejdfaaaDoor.Px
open Go.RowKit Go.Proofs.YtgdpojleejdfaaaDoorW.PrintWords Go.Proofs.YtgdpojleejdfaaaDoorW.PrintLast Go.Proofs.YtgdpojleejdfaaaDoorW.PrintMore
set_option linter.unusedVariables false
set_option linter.unusedSimpArgs false

theorem countLaw (l : List S39) : ∃ k, tmplpipelaw12_ParseCountMatchesReference.f k l = some true := by
  obtain ⟨K2, h2⟩ := alive12_ev
  dsimp only at h2
  rcases large_ev l with ⟨K1, h1⟩ | ⟨⟨K1, h1⟩, hn⟩
  · dsimp only at h1
    refine ⟨K1 + K2, ?_⟩
    unfold tmplpipelaw12_ParseCountMatchesReference.f
    rw [h1 _ (by omega), Option.bind_some, if_pos (by decide), h2 _ (by omega), Option.bind_some]
  · obtain ⟨K3, h3⟩ := count_ev l (by omega)
    obtain ⟨K4, h4⟩ := rcount_ev l (by omega)
    obtain ⟨K5, h5⟩ := nest_ev l (by omega)
    obtain ⟨K6, h6⟩ := rnest_ev l (by omega)
    dsimp only at h1 h3 h4 h5 h6
    refine ⟨K1 + K2 + K3 + K4 + K5 + K6, ?_⟩
    unfold tmplpipelaw12_ParseCountMatchesReference.f
    rw [h1 _ (by omega), Option.bind_some, if_neg (by decide), h2 _ (by omega), Option.bind_some, if_pos rfl, h3 _ (by omega), Option.bind_some, h4 _ (by omega), Option.bind_some, if_pos rfl, h5 _ (by omega), Option.bind_some, h6 _ (by omega), Option.bind_some]
    simp
theorem countLaw_walk (A : Option Addr) (n c : Nat) (w : World) (hG : GS w) (hN : NodesIn w [.slice A n c]) : Calls Tryd.prog 10 #[.slice A n c] w fun e w' => e = .returned (.bool true) ∧ Below w.heap.size w w' := by
  obtain ⟨A', l, c', e, hc, hC⟩ := hN
  simp only [List.cons.injEq, Value.slice.injEq, and_true] at e
  obtain ⟨rfl, rfl, rfl⟩ := e
  obtain ⟨K, hK⟩ := countLaw l
  exact tmplpipelaw12_ParseCountMatchesReference.calls K A c l true w hG hC hc hK
end Go.Proofs.YtgdpojleejdfaaaDoor.Px
