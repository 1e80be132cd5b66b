/- == on structs and arrays, as one answer. -/
import Derived.Test.YtopjkpopdffkeaaMem
import Derived.DeepKeys
namespace Go.Proofs.Ytopjkpopdffkeaa
open Go.RowKit

theorem eql_yes {P : Program} {t : TypeId} {D : Nat} {xs ys : Array Value} {ls : List Lit} (hk : P.keyTypeAt 100 t = true) (fx : (Value.agg xs).formed P t = true) (fy : (Value.agg ys).formed P t = true)
    (hx : P.keyLits D t xs.toList = some ls) (hy : P.keyLits D t ys.toList = some ls) (w : World) : (Op.equalIn 10000 t (.agg xs) (.agg ys)).run P w = .ok true w := by
  obtain ⟨r, h1, h2⟩ := run_equalIn_deep 9900 100 t hk w D D (.agg xs) (.agg ys) ls ls fx fy hx hy
  rw [h2.2 rfl] at h1
  exact h1
theorem eql_no {P : Program} {t : TypeId} {D : Nat} {xs ys : Array Value} {ls ls' : List Lit} (hk : P.keyTypeAt 100 t = true) (fx : (Value.agg xs).formed P t = true) (fy : (Value.agg ys).formed P t = true)
    (hx : P.keyLits D t xs.toList = some ls) (hy : P.keyLits D t ys.toList = some ls') (hn : ls ≠ ls') (w : World) : (Op.equalIn 10000 t (.agg xs) (.agg ys)).run P w = .ok false w := by
  obtain ⟨r, h1, h2⟩ := run_equalIn_deep 9900 100 t hk w D D (.agg xs) (.agg ys) ls ls' fx fy hx hy
  cases r with
  | true => exact absurd (h2.1 rfl) hn
  | false => exact h1
end Go.Proofs.Ytopjkpopdffkeaa
