/- Blocks of other types are none of a disk's; a disk stays while such are written. -/
import Derived.Test.YtfaingklglelnaaDskLd
namespace Go.Proofs.Ytfaingklglelnaa
open Go.RowKit

theorem own_blkO {w : World} {base n k : Nat} {e : TypeId} {v : Value} {xs : List Value} (h : w.ownsRow base e k v n xs) {g : Nat} (hg : v.ownBlock = some g) : base ≤ g ∧ ∃ cs, Blk w g e cs := by
  rcases h.2 with ⟨hv, -⟩ | ⟨g', cap, cur, hv, hb, hB, -⟩
  · rw [hv] at hg; cases hg
  · rw [hv] at hg
    simp only [Value.ownBlock, Option.some.injEq] at hg
    subst hg
    exact ⟨hb, cur, hB⟩
theorem blk_typeO {w : World} {g : Nat} {t t' : TypeId} {cs cs' : Array Value} (h : Blk w g t cs) (h' : Blk w g t' cs') : t = t' := by
  have e := Option.some.inj (h.symm.trans h')
  injection e
theorem kp_growO {w w' : World} {r : Option Nat} (h : w.grownBy w' r) : Kp r.toList w w' := ⟨h.os, h.tape, h.output, h.size, fun k hk hn => h.block k hk (fun e => hn (by rw [← e]; simp))⟩
theorem out_typeO {w0 w : World} {d k : Nat} {D : Dsk} (h : LD w0 w d D) {t : TypeId} {cs : Array Value} (hB : Blk w k t cs) (ht : t ≠ 94 ∧ t ≠ 99 ∧ t ≠ 101) : Out w0 w d D k := by
  obtain ⟨s, v, hD⟩ := h.ex
  refine ⟨hB.lt, s, v, hD, ?_, ?_, ?_⟩
  · rintro rfl; exact ht.1 (blk_typeO hB hD.hd)
  · rintro rfl; exact ht.2.1 (blk_typeO hB hD.hs)
  · intro e
    obtain ⟨-, cs', hB'⟩ := own_blkO hD.hq e
    exact ht.2.2 (blk_typeO hB hB')
theorem LD.kpO {w0 w w' : World} {d : Nat} {D : Dsk} (h : LD w0 w d D) {gs : List Nat} (hK : Kp gs w w') (hgs : ∀ k ∈ gs, w0.heap.size ≤ k ∧ Out w0 w d D k) : LD w0 w' d D := by
  obtain ⟨s, v, hD⟩ := h.ex
  have ho : ∀ k ∈ gs, k ≠ d ∧ k ≠ s ∧ v.ownBlock ≠ some k := fun k hk => by
    obtain ⟨-, s2, v2, hD2, h1, h2, h3⟩ := (hgs k hk).2
    obtain ⟨rfl, rfl⟩ := dsk_same hD hD2
    exact ⟨h1, h2, h3⟩
  refine ⟨⟨s, v, dsk_kp hD hK (fun hm => (ho d hm).1 rfl) (fun hm => (ho s hm).2.1 rfl) (fun k hk hm => (ho k hm).2.2 hk)⟩, Below.kp2 h.bel hK h.bel.size (fun k hk => (hgs k hk).1)⟩
end Go.Proofs.Ytfaingklglelnaa
