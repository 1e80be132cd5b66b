/- What the two readers of a geometry's block say of any bytes. -/
import Derived.Test.YtdcojnmgipidmaaGeomDecW
import Derived.Test.YtdcojnmgipidmaaGeomRefDecW
namespace Go.Proofs.Ytdcojnmgipidmaa
open Go.RowKit

/-- What is read of bytes: a geometry, or none and the error. -/
def DecR (l : List UInt8) (x y z : Nat) (code : Int) : Prop :=
  (code = 0 ∧ l.length = 64 ∧ GeoP x y z ∧ sealed (geoBytes x y z) = l) ∨ (x = 0 ∧ y = 0 ∧ z = 0 ∧ (code = 100 ∨ code = 101 ∧ l.length = 64 ∧ sealed (l.take 60) ≠ l))
theorem dec_both (l : List UInt8) : ∃ (x y z : Nat) (code : Int), DecR l x y z code ∧
    (∀ (A : Option Addr) (n c B : Nat) (w : World), By w B A n l → B ≤ w.heap.size → n ≤ c → Calls Try.prog 20 #[.slice A n c] w fun e w' => e = .returned (.tuple #[geoV x y z, .int .i64 code]) ∧ Below w.heap.size w w') ∧
    (∀ (A : Option Addr) (n c B : Nat) (w : World), By w B A n l → B ≤ w.heap.size → n ≤ c → Calls Try.prog 21 #[.slice A n c] w fun e w' => e = .returned (.tuple #[geoV x y z, .int .i64 code]) ∧ Below w.heap.size w w') := by
  by_cases h64 : l.length = 64
  · by_cases hs : sealed (l.take 60) = l
    · by_cases hg : IsGeo l
      · refine ⟨at4 l 4, at4 l 8, at4 l 12, 0, .inl ⟨rfl, h64, hg.1, hg.2⟩, ?_, ?_⟩
        · intro A n c B w h hB hc
          have hn : n = 64 := h.length.symm.trans h64
          subst hn
          obtain ⟨_, ad, rfl, -⟩ := By.get h (k := 0) (by omega)
          refine (dec_open ad c B l w h hB hc hs).mono ?_
          rintro e w' ⟨v, rfl, ⟨_, rfl⟩ | ⟨h', _⟩, hb⟩
          · exact ⟨rfl, hb⟩
          · exact absurd hg h'
        · intro A n c B w h hB hc
          have hn : n = 64 := h.length.symm.trans h64
          subst hn
          refine (rdec_open A c B l w h hB hc hs).mono ?_
          rintro e w' ⟨v, rfl, ⟨_, rfl⟩ | ⟨h', _⟩, hb⟩
          · exact ⟨rfl, hb⟩
          · exact absurd hg h'
      · refine ⟨0, 0, 0, 100, .inr ⟨rfl, rfl, rfl, .inl rfl⟩, ?_, ?_⟩
        · intro A n c B w h hB hc
          have hn : n = 64 := h.length.symm.trans h64
          subst hn
          obtain ⟨_, ad, rfl, -⟩ := By.get h (k := 0) (by omega)
          refine (dec_open ad c B l w h hB hc hs).mono ?_
          rintro e w' ⟨v, rfl, ⟨h', _⟩ | ⟨_, rfl⟩, hb⟩
          · exact absurd h' hg
          · exact ⟨rfl, hb⟩
        · intro A n c B w h hB hc
          have hn : n = 64 := h.length.symm.trans h64
          subst hn
          refine (rdec_open A c B l w h hB hc hs).mono ?_
          rintro e w' ⟨v, rfl, ⟨h', _⟩ | ⟨_, rfl⟩, hb⟩
          · exact absurd h' hg
          · exact ⟨rfl, hb⟩
    · refine ⟨0, 0, 0, 101, .inr ⟨rfl, rfl, rfl, .inr ⟨rfl, h64, hs⟩⟩, ?_, ?_⟩
      · intro A n c B w h hB hc
        have hn : n = 64 := h.length.symm.trans h64
        subst hn
        exact dec_sum A c B l w h hB hc hs
      · intro A n c B w h hB hc
        have hn : n = 64 := h.length.symm.trans h64
        subst hn
        exact rdec_sum A c B l w h hB hc hs
  · refine ⟨0, 0, 0, 100, .inr ⟨rfl, rfl, rfl, .inl rfl⟩, ?_, ?_⟩
    · intro A n c B w h hB hc
      exact dec_len A n c w (fun e => h64 (h.length.trans e))
    · intro A n c B w h hB hc
      exact rdec_len A n c w (fun e => h64 (h.length.trans e))
end Go.Proofs.Ytdcojnmgipidmaa
