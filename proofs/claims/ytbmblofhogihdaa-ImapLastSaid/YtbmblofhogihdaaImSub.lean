/- Of the blocks beside a map some are let go. -/
import Derived.Test.YtbmblofhogihdaaImLawW
namespace Go.Proofs.Ytbmblofhogihdaa
open Go.RowKit
variable {w0 w : World} {m : Nat} {L : List Ent}
theorem IM.sub {G G' : List (Nat × TypeId × Array Value)} (h : IM w0 w m L G) (hs : ∀ x ∈ G', x ∈ G) : IM w0 w m L G' := by
  obtain ⟨l, b, d, D, hI, h1, h2, h3, h4, hG⟩ := h.ex
  exact ⟨⟨l, b, d, D, hI, h1, h2, h3, h4, fun x hx => hG x (hs x hx)⟩, h.bel⟩
end Go.Proofs.Ytbmblofhogihdaa
