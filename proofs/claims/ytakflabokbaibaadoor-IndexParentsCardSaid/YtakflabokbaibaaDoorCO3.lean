/- XCO's steps for rows of integers, paths. -/
import Derived.Test.YtakflabokbaibaaDoorCO2
import Derived.Test.YtakflabokbaibaaDoorMRow
import Derived.Test.YtakflabokbaibaaDoorIr1W
set_option linter.unusedVariables false
set_option linter.unusedSimpArgs false
namespace Go.Proofs.YtakflabokbaibaaDoor
open Go.RowKit

theorem int_slice0 (w : World) : (Instr.buildSlice 23 0 #[]).run Tryd.prog w = .ok (.slice (some ⟨w.heap.size, 0, none⟩) 0 0) (w.alloc (.cells #[] 3)) := by
  have hz : (Tryd.prog.info? 3).map (fun i => (i.zero, i.size, i.bytes)) = some (some (.int .i64 0), 1, 8) := by kernel_rfl
  obtain ⟨ie, hi, h1, h2, h3⟩ := info_parts hz
  simp [Instr.buildSlice, run_underlying Tryd.underlying23, sizeOf, typeInfo, hi, h2, Instr.fill, newRow]
  congr 2
  exact Array.eq_empty_of_size_eq_zero (by simp)
section
variable {ops : Array Oper} {Q : Exit → Act → World → Prop} {C : List CO} {w0 : World} {base : Nat} {a0 : Act} {x : CO} {o : Oper}
theorem step_empty (ho : ops[x.i]? = some o) (hg : o.guard = none) (hd : o.dst = some x.d) (hop : o.op = .buildSlice 23 0 #[]) (hF : x.F = RowF 3 base []) : x.Step Tryd.prog ops Q C w0 base a0 := by
  refine CO.step_run ho hg hd fun a w e1 e2 e3 e4 e5 => ?_
  refine ⟨_, _, none, by simp [execOp, hop, int_slice0]; exact ⟨rfl, rfl⟩, ?_, World.grownBy_alloc w _ none, by simp, fun g hg => .inl ?_⟩
  · rw [hF]; exact ⟨_, _, _, rfl, own_nw e2⟩
  · simp [vbs, vb1] at hg; omega
theorem step_buf1 (ho : ops[x.i]? = some o) (hg : o.guard = none) (hd : o.dst = some x.d) (s : Tmp) (hop : o.op = .buildSlice 23 1 #[(0, .tmp s)]) (hs : ∀ y ∈ C, y.d ≠ s) (z : Int) (ha : a0.tmps.getD s undef = .int .i64 z) (hF : x.F = BufF 3 base [.int .i64 z]) : x.Step Tryd.prog ops Q C w0 base a0 := by
  refine CO.step_run ho hg hd fun a w e1 e2 e3 e4 e5 => ?_
  have hv : a.eval (.tmp s) = .int .i64 z := (e3 s hs).trans ha
  refine ⟨_, _, none, by simp [execOp, hop, hv, int_slice]; exact ⟨rfl, rfl⟩, ?_, World.grownBy_alloc w _ none, by simp, fun g hg => .inl ?_⟩
  · rw [hF]; exact ⟨_, _, rfl, e2, Blk.new w _ _⟩
  · simp [vbs, vb1] at hg; omega
theorem step_src (ho : ops[x.i]? = some o) (hg : o.guard = none) (hd : o.dst = some x.d) (s y : Tmp) (hop : o.op = .call { callee := .builtin .append, args := #[.tmp s, .tmp y], argTypes := #[23, 23] })
    (k : CO) (hk : k ∈ C) (hkd : k.d = s) (hkr : k.i ∈ x.reads) (hke : k.i ∈ x.eat) (xs : List Value) (hkF : k.F = RowF 3 base xs)
    (hy : ∀ z ∈ C, z.d ≠ y) (B : Nat) (A : Option Addr) (m c : Nat) (l : List Int) (ha : a0.tmps.getD y undef = .slice A m c) (hsl : Sl w0 B A m (intC l)) (hB : B ≤ base) (hn : xs.length + l.length ≤ 1000000) (hF : x.F = RowF 3 base (xs ++ intC l)) : x.Step Tryd.prog ops Q C w0 base a0 :=
  CO.step_grow etyJ ho hg hd s y hop k hk hkd hkr hke xs (intC l) hkF (fun a w e1 e2 e3 e4 => ⟨B, A, m, c, (e3 y hy).trans ha, hsl.below (e1.mono hB)⟩) (intC_one l) (by rw [intC_len]; omega) hF
theorem step_add (ho : ops[x.i]? = some o) (hg : o.guard = none) (hd : o.dst = some x.d) (s y : Tmp) (hop : o.op = .call { callee := .builtin .append, args := #[.tmp s, .tmp y], argTypes := #[23, 23] })
    (k : CO) (hk : k ∈ C) (hkd : k.d = s) (hkr : k.i ∈ x.reads) (hke : k.i ∈ x.eat) (xs : List Value) (hkF : k.F = RowF 3 base xs)
    (b : CO) (hb : b ∈ C) (hbd : b.d = y) (hbr : b.i ∈ x.reads) (z : Int) (hbF : b.F = BufF 3 base [.int .i64 z]) (hn : xs.length ≤ 1000000) (hF : x.F = RowF 3 base (xs ++ [.int .i64 z])) : x.Step Tryd.prog ops Q C w0 base a0 :=
  CO.step_grow etyJ ho hg hd s y hop k hk hkd hkr hke xs [.int .i64 z] hkF (fun a w e1 e2 e3 e4 => by
    have h := e4 b hb hbr
    rw [hbF, hbd] at h
    obtain ⟨A, c, hv, hsl⟩ := bufF_sl h
    exact ⟨_, A, _, c, hv, hsl⟩) (by simp [Value.oneCell']) (by simp; omega) hF
theorem step_new (ho : ops[x.i]? = some o) (hg : o.guard = none) (hd : o.dst = some x.d) (hop : o.op = .alloc 39) (hF : x.F = NewF 39 base #[.int .i64 0, .slice none 0 0, .slice none 0 0]) : x.Step Tryd.prog ops Q C w0 base a0 := by
  refine CO.step_run ho hg hd fun a w e1 e2 e3 e4 e5 => ?_
  refine ⟨.pointer (some ⟨w.heap.size, 0, none⟩), w.alloc (.cells #[.int .i64 0, .slice none 0 0, .slice none 0 0] 39), none, ?_, ?_, World.grownBy_alloc w _ none, by simp, fun g hg => .inl ?_⟩
  · unfold execOp
    simp only [hop]
    go_simp
  · rw [hF]; exact ⟨_, rfl, e2, Blk.new w _ _⟩
  · simp [vbs, vb1] at hg; omega
theorem step_path (ho : ops[x.i]? = some o) (hg : o.guard = none) (hd : o.dst = some x.d) (r s1 s2 : Tmp) (hop : o.op = .build 39 #[(0, .tmp r), (1, .tmp s1), (2, .tmp s2)]) (hr : ∀ z ∈ C, z.d ≠ r) (z : Int) (ha : a0.tmps.getD r undef = .int .i64 z)
    (k1 k2 : CO) (h1 : k1 ∈ C) (h2 : k2 ∈ C) (hd1 : k1.d = s1) (hd2 : k2.d = s2) (hr1 : k1.i ∈ x.reads) (hr2 : k2.i ∈ x.reads) (he1 : k1.i ∈ x.eat) (he2 : k2.i ∈ x.eat) (l1 l2 : List Value) (hF1 : k1.F = RowF 3 base l1) (hF2 : k2.F = RowF 3 base l2)
    (hF : x.F = AggF 3 base z l1 l2) : x.Step Tryd.prog ops Q C w0 base a0 := by
  refine CO.step_run ho hg hd fun a w e1 e2 e3 e4 e5 => ?_
  have hv : a.eval (.tmp r) = .int .i64 z := (e3 r hr).trans ha
  have f1 := e4 k1 h1 hr1
  have f2 := e4 k2 h2 hr2
  rw [hF1, hd1] at f1
  rw [hF2, hd2] at f2
  obtain ⟨A1, n1, c1, v1, o1⟩ := f1
  obtain ⟨A2, n2, c2, v2, o2⟩ := f2
  have v1' : a.eval (.tmp s1) = .slice A1 n1 c1 := v1
  have v2' : a.eval (.tmp s2) = .slice A2 n2 c2 := v2
  refine ⟨.agg #[.int .i64 z, .slice A1 n1 c1, .slice A2 n2 c2], w, none, ?_, ?_, ⟨rfl, rfl, rfl, Nat.le_refl _, fun _ _ _ => rfl⟩, by simp, fun g hg => .inr ?_⟩
  · unfold execOp
    simp only [hop, List.map_toArray, List.map_cons, List.map_nil, hv, v1', v2']
    go_simp
  · rw [hF]; exact ⟨A1, n1, c1, A2, n2, c2, rfl, o1, o2⟩
  · rcases aggF_vbs.1 hg with h | h
    · exact ⟨k1, h1, he1, by rw [hd1, v1]; exact h⟩
    · exact ⟨k2, h2, he2, by rw [hd2, v2]; exact h⟩
end
end Go.Proofs.YtakflabokbaibaaDoor
