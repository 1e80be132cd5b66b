/- Points in memory: a block of four cells. -/
import Derived.Test.YtfaingklglelnaaPtEncW
import Derived.Test.YtfaingklglelnaaEqualW
namespace Go.Proofs.Ytfaingklglelnaa
open Go.RowKit

/-- A boxed struct and a temporary given back. -/
theorem results_ct {P : Program} {fn : Func} {p q : Tmp} {ty : TypeId} (h : fn.results = #[.cell p ty, .tmp q]) (tmps : Array Value) (w : World) (g : Nat) (t : TypeId) (cs : Array Value) (fr : Nat × Nat) (d : TypeDesc)
    (hp : tmps.getD p undef = .pointer (some ⟨g, 0, none⟩)) (hg : w.heap[g]? = some (.cells cs t fr))
    (hu : P.underlying ty = some d) (hd : (match d with | .struct _ | .array _ _ => true | _ => false) = true) (hi : (P.info? ty).map (·.size) = some cs.size) :
    (results fn tmps).run P w = .ok (.tuple #[.agg cs, tmps.getD q undef]) w := by
  have hp' : tmps[p]?.getD undef = .pointer (some ⟨g, 0, none⟩) := by simpa using hp
  simp [results, h, hp', asAddr, run_loadVar_row w g t ty cs fr d hg hu hd hi]
/-- A temporary and a boxed struct given back. -/
theorem results_tc {P : Program} {fn : Func} {p q : Tmp} {ty : TypeId} (h : fn.results = #[.tmp q, .cell p ty]) (tmps : Array Value) (w : World) (g : Nat) (t : TypeId) (cs : Array Value) (fr : Nat × Nat) (d : TypeDesc)
    (hp : tmps.getD p undef = .pointer (some ⟨g, 0, none⟩)) (hg : w.heap[g]? = some (.cells cs t fr))
    (hu : P.underlying ty = some d) (hd : (match d with | .struct _ | .array _ _ => true | _ => false) = true) (hi : (P.info? ty).map (·.size) = some cs.size) :
    (results fn tmps).run P w = .ok (.tuple #[tmps.getD q undef, .agg cs]) w := by
  have hp' : tmps[p]?.getD undef = .pointer (some ⟨g, 0, none⟩) := by simpa using hp
  simp [results, h, hp', asAddr, run_loadVar_row w g t ty cs fr d hg hu hd hi]
abbrev ptC (a b c d : Int) : Array Value := #[.int .i64 a, .int .i64 b, .int .i64 c, .int .i64 d]
theorem ptb4 {w : World} {g : Nat} {t : TypeId} {x0 x1 x2 x3 : Value} (h : Blk w g t #[x0, x1, x2, x3]) : w.cell? ⟨g, 0, none⟩ = some x0 ∧ w.cell? ⟨g, 1, none⟩ = some x1 ∧ w.cell? ⟨g, 2, none⟩ = some x2 ∧ w.cell? ⟨g, 3, none⟩ = some x3 := ⟨h.cell 0, h.cell 1, h.cell 2, h.cell 3⟩
theorem blk4f {w : World} {g : Nat} {t : TypeId} {x0 x1 x2 x3 : Value} (h : Blk w g t #[x0, x1, x2, x3]) : w.frozen? ⟨g, 0, none⟩ = false ∧ w.frozen? ⟨g, 1, none⟩ = false ∧ w.frozen? ⟨g, 2, none⟩ = false ∧ w.frozen? ⟨g, 3, none⟩ = false := ⟨h.frozen 0, h.frozen 1, h.frozen 2, h.frozen 3⟩
/-- Four cells written. -/
abbrev put4 (w : World) (g : Nat) (y0 y1 y2 y3 : Value) : World := (((w.setCell ⟨g, 0, none⟩ y0).setCell ⟨g, 1, none⟩ y1).setCell ⟨g, 2, none⟩ y2).setCell ⟨g, 3, none⟩ y3
section
variable {w w0 : World} {g B : Nat} {t : TypeId} {x0 x1 x2 x3 y0 y1 y2 y3 : Value}
theorem put4_blk (h : Blk w g t #[x0, x1, x2, x3]) : Blk (put4 w g y0 y1 y2 y3) g t #[y0, y1, y2, y3] := by
  have := (((h.set 0 y0).set 1 y1).set 2 y2).set 3 y3
  simpa using this
theorem put4_bel (h : Below B w0 w) (hB : B ≤ g) : Below B w0 (put4 w g y0 y1 y2 y3) := (((h.setCell (p := ⟨g, 0, none⟩) hB y0).setCell (p := ⟨g, 1, none⟩) hB y1).setCell (p := ⟨g, 2, none⟩) hB y2).setCell (p := ⟨g, 3, none⟩) hB y3
theorem put4_far {g' : Nat} {cs : Array Value} (h : Blk w g' t cs) (hg : g' ≠ g) : Blk (put4 w g y0 y1 y2 y3) g' t cs := (((h.far (p := ⟨g, 0, none⟩) hg y0).far (p := ⟨g, 1, none⟩) hg y1).far (p := ⟨g, 2, none⟩) hg y2).far (p := ⟨g, 3, none⟩) hg y3
theorem put4_kp (w : World) (g : Nat) : Kp [g] w (put4 w g y0 y1 y2 y3) := ((((Kp.refl [g] w).set (p := ⟨g, 0, none⟩) (.inl (by simp)) y0).set (p := ⟨g, 1, none⟩) (.inl (by simp)) y1).set (p := ⟨g, 2, none⟩) (.inl (by simp)) y2).set (p := ⟨g, 3, none⟩) (.inl (by simp)) y3
end
end Go.Proofs.Ytfaingklglelnaa
