/- XCO's steps for rows of integers. -/
import Derived.Test.YtopjkpopdffkeaaDoorCO2
import Derived.Test.YtopjkpopdffkeaaDoorInts
set_option linter.unusedVariables false
set_option linter.unusedSimpArgs false
namespace Go.Proofs.YtopjkpopdffkeaaDoor
open Go.RowKit

theorem int_slice0 (w : World) : (Instr.buildSlice 23 0 #[]).run Tryd.prog w = .ok (.slice (some ⟨w.heap.size, 0, none⟩) 0 0) (w.alloc (.cells #[] 3)) := by
  have hz : (Tryd.prog.info? 3).map (fun i => (i.zero, i.size, i.bytes)) = some (some (.int .i64 0), 1, 8) := by kernel_rfl
  obtain ⟨ie, hi, h1, h2, h3⟩ := info_parts hz
  simp [Instr.buildSlice, run_underlying Tryd.underlying23, sizeOf, typeInfo, hi, h2, Instr.fill, newRow]
  congr 2
  exact Array.eq_empty_of_size_eq_zero (by simp)
section
variable {ops : Array Oper} {Q : Exit → Act → World → Prop} {C : List CO} {w0 : World} {base : Nat} {a0 : Act} {x : CO} {o : Oper}
theorem step_empty (ho : ops[x.i]? = some o) (hg : o.guard = none) (hd : o.dst = some x.d) (hop : o.op = .buildSlice 23 0 #[]) (hF : x.F = RowF 3 base []) : x.Step Tryd.prog ops Q C w0 base a0 := by
  refine CO.step_run ho hg hd fun a w e1 e2 e3 e4 e5 => ?_
  refine ⟨_, _, none, by simp [execOp, hop, int_slice0]; exact ⟨rfl, rfl⟩, ?_, World.grownBy_alloc w _ none, by simp, fun g hg => .inl ?_⟩
  · rw [hF]; exact ⟨_, _, _, rfl, own_nw e2⟩
  · simp [vbs, vb1] at hg; omega
theorem step_buf1 (ho : ops[x.i]? = some o) (hg : o.guard = none) (hd : o.dst = some x.d) (s : Tmp) (hop : o.op = .buildSlice 23 1 #[(0, .tmp s)]) (hs : ∀ y ∈ C, y.d ≠ s) (z : Int) (ha : a0.tmps.getD s undef = .int .i64 z) (hF : x.F = BufF 3 base [.int .i64 z]) : x.Step Tryd.prog ops Q C w0 base a0 := by
  refine CO.step_run ho hg hd fun a w e1 e2 e3 e4 e5 => ?_
  have hv : a.eval (.tmp s) = .int .i64 z := (e3 s hs).trans ha
  refine ⟨_, _, none, by simp [execOp, hop, hv, int_slice]; exact ⟨rfl, rfl⟩, ?_, World.grownBy_alloc w _ none, by simp, fun g hg => .inl ?_⟩
  · rw [hF]; exact ⟨_, _, rfl, e2, Blk.new w _ _⟩
  · simp [vbs, vb1] at hg; omega
theorem step_src (ho : ops[x.i]? = some o) (hg : o.guard = none) (hd : o.dst = some x.d) (s y : Tmp) (hop : o.op = .call { callee := .builtin .append, args := #[.tmp s, .tmp y], argTypes := #[23, 23] })
    (k : CO) (hk : k ∈ C) (hkd : k.d = s) (hkr : k.i ∈ x.reads) (hke : k.i ∈ x.eat) (xs : List Value) (hkF : k.F = RowF 3 base xs)
    (hy : ∀ z ∈ C, z.d ≠ y) (B : Nat) (A : Option Addr) (m c : Nat) (l : List Int) (ha : a0.tmps.getD y undef = .slice A m c) (hsl : Sl w0 B A m (intC l)) (hB : B ≤ base) (hn : xs.length + l.length ≤ 1000000) (hF : x.F = RowF 3 base (xs ++ intC l)) : x.Step Tryd.prog ops Q C w0 base a0 :=
  CO.step_grow etyJ ho hg hd s y hop k hk hkd hkr hke xs (intC l) hkF (fun a w e1 e2 e3 e4 => ⟨B, A, m, c, (e3 y hy).trans ha, hsl.below (e1.mono hB)⟩) (intC_one l) (by rw [intC_len]; omega) hF
theorem step_add (ho : ops[x.i]? = some o) (hg : o.guard = none) (hd : o.dst = some x.d) (s y : Tmp) (hop : o.op = .call { callee := .builtin .append, args := #[.tmp s, .tmp y], argTypes := #[23, 23] })
    (k : CO) (hk : k ∈ C) (hkd : k.d = s) (hkr : k.i ∈ x.reads) (hke : k.i ∈ x.eat) (xs : List Value) (hkF : k.F = RowF 3 base xs)
    (b : CO) (hb : b ∈ C) (hbd : b.d = y) (hbr : b.i ∈ x.reads) (z : Int) (hbF : b.F = BufF 3 base [.int .i64 z]) (hn : xs.length ≤ 1000000) (hF : x.F = RowF 3 base (xs ++ [.int .i64 z])) : x.Step Tryd.prog ops Q C w0 base a0 :=
  CO.step_grow etyJ ho hg hd s y hop k hk hkd hkr hke xs [.int .i64 z] hkF (fun a w e1 e2 e3 e4 => by
    have h := e4 b hb hbr
    rw [hbF, hbd] at h
    obtain ⟨A, c, hv, hsl⟩ := bufF_sl h
    exact ⟨_, A, _, c, hv, hsl⟩) (by simp [Value.oneCell']) (by simp; omega) hF
end
end Go.Proofs.YtopjkpopdffkeaaDoor
