/- XCO's steps for guarded operations whose guard is known (printed by gen_co4.py). -/
import Derived.Test.YtakflabokbaibaaDoorCO3
set_option linter.unusedVariables false
set_option linter.unusedSimpArgs false
namespace Go.Proofs.YtakflabokbaibaaDoor
open Go.RowKit

/-- The operation's guard holds, whatever came of C. -/
def Want (ops : Array Oper) (C : List CO) (a0 : Act) (o : Oper) : Prop := ∀ a : Act, (∀ k, (∀ y ∈ C, y.d ≠ k) → a.tmps.getD k undef = a0.tmps.getD k undef) → Region.wanted o (yielded ops a.tmps) = true
theorem want_of {ops : Array Oper} {C : List CO} {a0 : Act} {o og : Oper} {j d : Nat} {b : Bool} (hg : o.guard = some (j, b)) (hj : ops[j]? = some og) (hd : og.dst = some d) (hC : ∀ y ∈ C, y.d ≠ d) (hv : a0.tmps.getD d undef = .bool b) : Want ops C a0 o := by
  intro a ha
  have h := (ha d hC).trans hv
  simp only [Array.getD_eq_getD_getElem?] at h
  have h2 : a.tmps[d]? = some (.bool b) := by
    rcases e : a.tmps[d]? with _ | v
    · rw [e] at h; cases h
    · rw [e] at h; exact congrArg some h
  simp [Region.wanted, hg, yielded, hj, hd, h2]
section
variable {P : Program} {ops : Array Oper} {Q : Exit → Act → World → Prop} {md : Region.Mode} {C : List CO} {w0 : World} {base : Nat} {a0 : Act}
theorem CO.step_run_w {x : CO} {o : Oper} (ho : ops[x.i]? = some o) (hg : Want ops C a0 o) (hd : o.dst = some x.d)
    (h : ∀ (a : Act) (w : World), Below base w0 w → base ≤ w.heap.size → (∀ k, (∀ y ∈ C, y.d ≠ k) → a.tmps.getD k undef = a0.tmps.getD k undef) →
      (∀ y ∈ C, y.i ∈ x.reads → y.F (a.tmps.getD y.d undef) w) →
      (∀ y ∈ C, ∀ z ∈ C, y.i ∈ x.reads → z.i ∈ x.reads → y.i ≠ z.i → ∀ g ∈ vbs (a.tmps.getD y.d undef), g ∉ vbs (a.tmps.getD z.d undef)) →
      ∃ (v : Value) (w' : World) (r : Option Nat), (execOp a.eval o).run P w = .ok (.value v) w' ∧ x.F v w' ∧ w.grownBy w' r ∧ (∀ g, r = some g → ∃ y ∈ C, y.i ∈ x.eat ∧ g ∈ vbs (a.tmps.getD y.d undef)) ∧
        ∀ g ∈ vbs v, w.heap.size ≤ g ∨ ∃ y ∈ C, y.i ∈ x.eat ∧ g ∈ vbs (a.tmps.getD y.d undef)) : x.Step P ops Q C w0 base a0 := by
  intro a w K h1 h2 h3 h4 h5 hK
  obtain ⟨v, w', r, hrun, e1, e2, e3, e4⟩ := h a w h1 h2 h3 h4 h5
  refine wpOp_step ho fun K' hK' => ?_
  rw [if_pos (hg a h3)]
  unfold Oper.wp
  rw [hrun]
  simp only [Oper.upon]
  rw [hd]
  exact hK' _ _ (hK v w' r e1 e2 e3 e4)

theorem CO.step_grow_w {t e : TypeId} {z : Value} {bytes : Nat} (hE : Ety P t e z bytes) {x : CO} {o : Oper} (ho : ops[x.i]? = some o) (hg : Want ops C a0 o) (hd : o.dst = some x.d) (s y : Tmp)
    (hop : o.op = .call { callee := .builtin .append, args := #[.tmp s, .tmp y], argTypes := #[t, t] }) (k : CO) (hk : k ∈ C) (hkd : k.d = s) (hkr : k.i ∈ x.reads) (hke : k.i ∈ x.eat) (xs news : List Value) (hkF : k.F = RowF e base xs)
    (hnew : ∀ (a : Act) (w : World), Below base w0 w → base ≤ w.heap.size → (∀ k, (∀ y ∈ C, y.d ≠ k) → a.tmps.getD k undef = a0.tmps.getD k undef) →
      (∀ y ∈ C, y.i ∈ x.reads → y.F (a.tmps.getD y.d undef) w) → ∃ B A m c, a.tmps.getD y undef = .slice A m c ∧ Sl w B A m news)
    (h1 : ∀ u ∈ news, u.oneCell' = true) (hb : (xs.length + news.length) * bytes ≤ 140737488355328) (hx : x.F = RowF e base (xs ++ news)) : x.Step P ops Q C w0 base a0 := by
  refine CO.step_run_w ho hg hd fun a w e1 e2 e3 e4 e5 => ?_
  have hF := e4 k hk hkr
  rw [hkF, hkd] at hF
  obtain ⟨A, n, c, hv, hown⟩ := hF
  obtain ⟨B, A2, m, c2, hy, hsl⟩ := hnew a w e1 e2 e3 e4
  have hn : xs.length = n := by have := hown.1; omega
  have hm := hsl.len
  obtain ⟨A', c', w', hrun, r1, r2, r3⟩ := run_app (P := P) w (ty := o.type) hE base _ n xs hown B A2 m c2 news hsl h1 (by rw [← hn, ← hm]; exact hb) e2
  refine ⟨.slice A' (n + m) c', w', _, ?_, ?_, r2, fun g hgg => ⟨k, hk, hke, by rw [hkd, hv]; exact ownBlock_vbs.1 hgg⟩, fun g hgg => ?_⟩
  · unfold execOp
    simp only [hop, resolve, invoke, builtin, Sem.run_bind, Sem.run_pure, Result.andThen_ok, List.map_toArray, List.map_cons, List.map_nil, Act.eval, hv, hy, hrun]
  · rw [hx]
    exact ⟨A', n + m, c', rfl, r1⟩
  · rcases r3 with h | h
    · refine .inr ⟨k, hk, hke, ?_⟩
      rw [hkd, hv]
      exact ownBlock_vbs.1 (by rw [← h]; exact ownBlock_vbs.2 hgg)
    · refine .inl ?_
      have := ownBlock_vbs.2 hgg
      rw [h] at this
      injection this with this
      omega

end
section
variable {ops : Array Oper} {Q : Exit → Act → World → Prop} {C : List CO} {w0 : World} {base : Nat} {a0 : Act} {x : CO} {o : Oper}
theorem step_empty_w (ho : ops[x.i]? = some o) (hg : Want ops C a0 o) (hd : o.dst = some x.d) (hop : o.op = .buildSlice 23 0 #[]) (hF : x.F = RowF 3 base []) : x.Step Tryd.prog ops Q C w0 base a0 := by
  refine CO.step_run_w ho hg hd fun a w e1 e2 e3 e4 e5 => ?_
  refine ⟨_, _, none, by simp [execOp, hop, int_slice0]; exact ⟨rfl, rfl⟩, ?_, World.grownBy_alloc w _ none, by simp, fun g hg => .inl ?_⟩
  · rw [hF]; exact ⟨_, _, _, rfl, own_nw e2⟩
  · simp [vbs, vb1] at hg; omega
theorem step_buf1_w (ho : ops[x.i]? = some o) (hg : Want ops C a0 o) (hd : o.dst = some x.d) (s : Tmp) (hop : o.op = .buildSlice 23 1 #[(0, .tmp s)]) (hs : ∀ y ∈ C, y.d ≠ s) (z : Int) (ha : a0.tmps.getD s undef = .int .i64 z) (hF : x.F = BufF 3 base [.int .i64 z]) : x.Step Tryd.prog ops Q C w0 base a0 := by
  refine CO.step_run_w ho hg hd fun a w e1 e2 e3 e4 e5 => ?_
  have hv : a.eval (.tmp s) = .int .i64 z := (e3 s hs).trans ha
  refine ⟨_, _, none, by simp [execOp, hop, hv, int_slice]; exact ⟨rfl, rfl⟩, ?_, World.grownBy_alloc w _ none, by simp, fun g hg => .inl ?_⟩
  · rw [hF]; exact ⟨_, _, rfl, e2, Blk.new w _ _⟩
  · simp [vbs, vb1] at hg; omega
theorem step_src_w (ho : ops[x.i]? = some o) (hg : Want ops C a0 o) (hd : o.dst = some x.d) (s y : Tmp) (hop : o.op = .call { callee := .builtin .append, args := #[.tmp s, .tmp y], argTypes := #[23, 23] })
    (k : CO) (hk : k ∈ C) (hkd : k.d = s) (hkr : k.i ∈ x.reads) (hke : k.i ∈ x.eat) (xs : List Value) (hkF : k.F = RowF 3 base xs)
    (hy : ∀ z ∈ C, z.d ≠ y) (B : Nat) (A : Option Addr) (m c : Nat) (l : List Int) (ha : a0.tmps.getD y undef = .slice A m c) (hsl : Sl w0 B A m (intC l)) (hB : B ≤ base) (hn : xs.length + l.length ≤ 1000000) (hF : x.F = RowF 3 base (xs ++ intC l)) : x.Step Tryd.prog ops Q C w0 base a0 :=
  CO.step_grow_w etyJ ho hg hd s y hop k hk hkd hkr hke xs (intC l) hkF (fun a w e1 e2 e3 e4 => ⟨B, A, m, c, (e3 y hy).trans ha, hsl.below (e1.mono hB)⟩) (intC_one l) (by rw [intC_len]; omega) hF
theorem step_add_w (ho : ops[x.i]? = some o) (hg : Want ops C a0 o) (hd : o.dst = some x.d) (s y : Tmp) (hop : o.op = .call { callee := .builtin .append, args := #[.tmp s, .tmp y], argTypes := #[23, 23] })
    (k : CO) (hk : k ∈ C) (hkd : k.d = s) (hkr : k.i ∈ x.reads) (hke : k.i ∈ x.eat) (xs : List Value) (hkF : k.F = RowF 3 base xs)
    (b : CO) (hb : b ∈ C) (hbd : b.d = y) (hbr : b.i ∈ x.reads) (z : Int) (hbF : b.F = BufF 3 base [.int .i64 z]) (hn : xs.length ≤ 1000000) (hF : x.F = RowF 3 base (xs ++ [.int .i64 z])) : x.Step Tryd.prog ops Q C w0 base a0 :=
  CO.step_grow_w etyJ ho hg hd s y hop k hk hkd hkr hke xs [.int .i64 z] hkF (fun a w e1 e2 e3 e4 => by
    have h := e4 b hb hbr
    rw [hbF, hbd] at h
    obtain ⟨A, c, hv, hsl⟩ := bufF_sl h
    exact ⟨_, A, _, c, hv, hsl⟩) (by simp [Value.oneCell']) (by simp; omega) hF
end
end Go.Proofs.YtakflabokbaibaaDoor
