/- append of one write to the queue. -/
import Derived.Test.YtfaingklglelnaaDskBxW
import Derived.Maps.AppendAt
namespace Go.Proofs.Ytfaingklglelnaa
open Go.RowKit

theorem app_wr (w : World) (base : Nat) (v : Value) (n : Nat) (xs : List Value) (hown : w.ownsRow base 101 65 v n xs) (g : Nat) (x : Nat × List UInt8) (hx : x.2.length = 64) (hr : w.rangeAt g 0 (wrC x)) (hn : n < 1000000) (hbase : base ≤ w.heap.size) :
    ∃ v' w', (Builtin.append_ #[92, 92] 92 #[v, .slice (some ⟨g, 0, none⟩) 1 1]).run Try.prog w = .ok v' w' ∧ w'.ownsRow base 101 65 v' (n + 1) (xs ++ wrC x) ∧ w.grownBy w' v.ownBlock ∧ (v'.ownBlock = v.ownBlock ∨ v'.ownBlock = some w.heap.size) := by
  have hz : (Try.prog.info? 101).map (fun i => (i.zero, i.size, i.bytes)) = some (some (.agg (wrC (0, zero64)).toArray), 65, 72) := by kernel_rfl
  obtain ⟨i, hi, h1, h2, h3⟩ := info_parts hz
  have hl : (wrC x).length = 1 * 65 := by rw [wrC, List.length_cons, u8s_length, hx]
  obtain ⟨v', w', a1, a2, a3, -, a5⟩ := run_append_own_at (P := Try.prog) w base 92 92 101 i _ 65 72 Try.underlying92 hi h1 h2 h3 (by simp [Value.cells, wrC, u8s_length, zero64]) (by omega) v n xs hown ⟨g, 0, none⟩ 1 1 (wrC x) hl
    (fun j u hu => by rw [Addr.add_mid]; exact hr j u hu)
    (fun u hu => by
      simp only [wrC, u8s, List.mem_cons, List.mem_map] at hu
      rcases hu with rfl | ⟨a, _, rfl⟩ <;> rfl)
    (by simp only [maxLen]; omega) (by omega) hbase
  exact ⟨v', w', a1, a2, a3, a5⟩
end Go.Proofs.Ytfaingklglelnaa
