/- XCO's steps for operations whose guard is known; calls of functions and conversions of bytes among them. -/
import Derived.Test.YtopjkpopdffkeaaDoorCO2
import Derived.Test.YtopjkpopdffkeaaDoorMem
set_option linter.unusedVariables false
set_option linter.unusedSimpArgs false
namespace Go.Proofs.YtopjkpopdffkeaaDoor
open Go.RowKit

/-- The operation's guard holds, whatever came of C. -/
def Want (ops : Array Oper) (C : List CO) (a0 : Act) (o : Oper) : Prop := ∀ a : Act, (∀ k, (∀ y ∈ C, y.d ≠ k) → a.tmps.getD k undef = a0.tmps.getD k undef) → Region.wanted o (yielded ops a.tmps) = true
theorem want_none {ops : Array Oper} {C : List CO} {a0 : Act} {o : Oper} (hg : o.guard = none) : Want ops C a0 o := fun a _ => by simp [Region.wanted, hg]
theorem want_of {ops : Array Oper} {C : List CO} {a0 : Act} {o og : Oper} {j d : Nat} {b : Bool} (hg : o.guard = some (j, b)) (hj : ops[j]? = some og) (hd : og.dst = some d) (hC : ∀ y ∈ C, y.d ≠ d) (hv : a0.tmps.getD d undef = .bool b) : Want ops C a0 o := by
  intro a ha
  have h := (ha d hC).trans hv
  simp only [Array.getD_eq_getD_getElem?] at h
  have h2 : a.tmps[d]? = some (.bool b) := by
    rcases e : a.tmps[d]? with _ | v
    · rw [e] at h; cases h
    · rw [e] at h; exact congrArg some h
  simp [Region.wanted, hg, yielded, hj, hd, h2]
theorem grow_of_below {w w' : World} (h : Below w.heap.size w w') : w.grownBy w' none := ⟨h.os, h.tape, h.output, h.size, fun k hk _ => h.block k hk⟩
section
variable {P : Program} {ops : Array Oper} {Q : Exit → Act → World → Prop} {md : Region.Mode} {C : List CO} {w0 : World} {base : Nat} {a0 : Act}
theorem CO.step_run_w {x : CO} {o : Oper} (ho : ops[x.i]? = some o) (hg : Want ops C a0 o) (hd : o.dst = some x.d)
    (h : ∀ (a : Act) (w : World), Below base w0 w → base ≤ w.heap.size → (∀ k, (∀ y ∈ C, y.d ≠ k) → a.tmps.getD k undef = a0.tmps.getD k undef) →
      (∀ y ∈ C, y.i ∈ x.reads → y.F (a.tmps.getD y.d undef) w) →
      (∀ y ∈ C, ∀ z ∈ C, y.i ∈ x.reads → z.i ∈ x.reads → y.i ≠ z.i → ∀ g ∈ vbs (a.tmps.getD y.d undef), g ∉ vbs (a.tmps.getD z.d undef)) →
      ∃ (v : Value) (w' : World) (r : Option Nat), (execOp a.eval o).run P w = .ok (.value v) w' ∧ x.F v w' ∧ w.grownBy w' r ∧ (∀ g, r = some g → ∃ y ∈ C, y.i ∈ x.eat ∧ g ∈ vbs (a.tmps.getD y.d undef)) ∧
        ∀ g ∈ vbs v, w.heap.size ≤ g ∨ ∃ y ∈ C, y.i ∈ x.eat ∧ g ∈ vbs (a.tmps.getD y.d undef)) : x.Step P ops Q C w0 base a0 := by
  intro a w K h1 h2 h3 h4 h5 hK
  obtain ⟨v, w', r, hrun, e1, e2, e3, e4⟩ := h a w h1 h2 h3 h4 h5
  refine wpOp_step ho fun K' hK' => ?_
  rw [if_pos (hg a h3)]
  unfold Oper.wp
  rw [hrun]
  simp only [Oper.upon]
  rw [hd]
  exact hK' _ _ (hK v w' r e1 e2 e3 e4)

theorem CO.step_grow_w {t e : TypeId} {z : Value} {bytes : Nat} (hE : Ety P t e z bytes) {x : CO} {o : Oper} (ho : ops[x.i]? = some o) (hg : Want ops C a0 o) (hd : o.dst = some x.d) (s y : Tmp)
    (hop : o.op = .call { callee := .builtin .append, args := #[.tmp s, .tmp y], argTypes := #[t, t] }) (k : CO) (hk : k ∈ C) (hkd : k.d = s) (hkr : k.i ∈ x.reads) (hke : k.i ∈ x.eat) (xs news : List Value) (hkF : k.F = RowF e base xs)
    (hnew : ∀ (a : Act) (w : World), Below base w0 w → base ≤ w.heap.size → (∀ k, (∀ y ∈ C, y.d ≠ k) → a.tmps.getD k undef = a0.tmps.getD k undef) →
      (∀ y ∈ C, y.i ∈ x.reads → y.F (a.tmps.getD y.d undef) w) → ∃ B A m c, a.tmps.getD y undef = .slice A m c ∧ Sl w B A m news)
    (h1 : ∀ u ∈ news, u.oneCell' = true) (hb : (xs.length + news.length) * bytes ≤ 140737488355328) (hx : x.F = RowF e base (xs ++ news)) : x.Step P ops Q C w0 base a0 := by
  refine CO.step_run_w ho hg hd fun a w e1 e2 e3 e4 e5 => ?_
  have hF := e4 k hk hkr
  rw [hkF, hkd] at hF
  obtain ⟨A, n, c, hv, hown⟩ := hF
  obtain ⟨B, A2, m, c2, hy, hsl⟩ := hnew a w e1 e2 e3 e4
  have hn : xs.length = n := by have := hown.1; omega
  have hm := hsl.len
  obtain ⟨A', c', w', hrun, r1, r2, r3⟩ := run_app (P := P) w (ty := o.type) hE base _ n xs hown B A2 m c2 news hsl h1 (by rw [← hn, ← hm]; exact hb) e2
  refine ⟨.slice A' (n + m) c', w', _, ?_, ?_, r2, fun g hgg => ⟨k, hk, hke, by rw [hkd, hv]; exact ownBlock_vbs.1 hgg⟩, fun g hgg => ?_⟩
  · unfold execOp
    simp only [hop, resolve, invoke, builtin, Sem.run_bind, Sem.run_pure, Result.andThen_ok, List.map_toArray, List.map_cons, List.map_nil, Act.eval, hv, hy, hrun]
  · rw [hx]
    exact ⟨A', n + m, c', rfl, r1⟩
  · rcases r3 with h | h
    · refine .inr ⟨k, hk, hke, ?_⟩
      rw [hkd, hv]
      exact ownBlock_vbs.1 (by rw [← h]; exact ownBlock_vbs.2 hgg)
    · refine .inl ?_
      have := ownBlock_vbs.2 hgg
      rw [h] at this
      injection this with this
      omega

/-- A call of a function. -/
theorem CO.step_call {x : CO} {o : Oper} (ho : ops[x.i]? = some o) (hg : Want ops C a0 o) (hd : o.dst = some x.d) {f : FuncId} {fn : Func} (hf : P.funcs[f]? = some fn) (hname : (fn.name == "runtime.NumGoroutine") = false) (hbd : fn.body.isSome = true) (us : Array Operand) (ts : Array TypeId) (hop : o.op = .call { callee := .value (.func f), args := us, argTypes := ts })
    (h : ∀ (a : Act) (w : World), Below base w0 w → base ≤ w.heap.size → (∀ k, (∀ y ∈ C, y.d ≠ k) → a.tmps.getD k undef = a0.tmps.getD k undef) →
      (∀ y ∈ C, y.i ∈ x.reads → y.F (a.tmps.getD y.d undef) w) →
      Calls P f (us.map a.eval) w fun e w' => ∃ v, e = .returned v ∧ x.F v w' ∧ Below w.heap.size w w' ∧ ∀ g ∈ vbs v, w.heap.size ≤ g) : x.Step P ops Q C w0 base a0 := by
  intro a w K h1 h2 h3 h4 h5 hK
  refine wpOp_step ho fun K' hK' => ?_
  rw [if_pos (hg a h3)]
  unfold Oper.wp execOp
  simp only [hop, resolve, invoke, Sem.run_bind, Sem.run_pure, Result.andThen_ok, Act.eval]
  have hne : fn.name ≠ "runtime.NumGoroutine" := by simpa using hname
  obtain ⟨c, hb⟩ := Option.isSome_iff_exists.1 hbd
  have hcall : ∀ args w, (callFunc f args).run P w = .ok (.enter f args) w := fun args w => by simp [callFunc, hf, hne, hb]
  simp only [Deferred.ofValue, Sem.run_pure, Result.andThen_ok, Array.empty_append, Array.append_empty, hcall, Oper.upon]
  refine (h a w h1 h2 h3 h4).mono ?_
  rintro e w' ⟨v, rfl, hF, hb', hv⟩
  rw [hd]
  exact hK' _ _ (hK v w' none hF (grow_of_below hb') (by simp) (fun g hg => .inl (hv g hg)))
/-- A row of the call's own under a slice of whatever cap. -/
def RdF (e : TypeId) (base : Nat) (xs : List Value) (v : Value) (w : World) : Prop := ∃ A n c c', v = .slice A n c ∧ w.ownsRow base e 1 (.slice A n c') n xs
theorem vbs_cap {A : Option Addr} {n c c' g : Nat} : g ∈ vbs (.slice A n c) ↔ g ∈ vbs (.slice A n c') := by cases A <;> simp [vbs, vb1]
theorem rdF_ok (i d : Nat) (eat reads : List Nat) (e : TypeId) (base : Nat) (xs : List Value) : CO.Ok ⟨i, d, eat, reads, RdF e base xs⟩ base :=
  ⟨fun v w w' r ⟨A, n, c, c', hv, h⟩ hg hn => ⟨A, n, c, c', hv, own_gr h hg (fun g hgg => by subst hv; exact hn g (vbs_cap.1 (ownBlock_vbs.1 hgg)))⟩,
   fun v w ⟨A, n, c, c', hv, h⟩ g hg => by subst hv; exact h.lt g (ownBlock_vbs.2 (vbs_cap.1 hg))⟩
/-- A text of bytes. -/
def StrF (l : List UInt8) (v : Value) (_ : World) : Prop := v = .string (txt l)
theorem strF_ok (i d : Nat) (eat reads : List Nat) (base : Nat) (l : List UInt8) : CO.Ok ⟨i, d, eat, reads, StrF l⟩ base :=
  ⟨fun _ _ _ _ h _ _ => h, fun v w h g hg => by rw [h] at hg; cases hg⟩
/-- The conversion of bytes that the region does not make. -/
theorem CO.step_conv {x : CO} {o : Oper} (ho : ops[x.i]? = some o) (hg : Want ops C a0 o) (hd : o.dst = some x.d) {src dst e : TypeId} (s : Tmp) (hop : o.op = .convert src dst (.tmp s)) (hs : P.underlying src = some (.slice e)) (he : P.underlying e = some (.int .u8)) (hdt : P.underlying dst = some .string)
    (l : List UInt8) (hy : ∀ (a : Act) (w : World), Below base w0 w → base ≤ w.heap.size → (∀ k, (∀ y ∈ C, y.d ≠ k) → a.tmps.getD k undef = a0.tmps.getD k undef) →
      (∀ y ∈ C, y.i ∈ x.reads → y.F (a.tmps.getD y.d undef) w) → ∃ B A n c, a.tmps.getD s undef = .slice A n c ∧ By w B A n l) (hF : x.F = StrF l) : x.Step P ops Q C w0 base a0 := by
  refine CO.step_run_w ho hg hd fun a w e1 e2 e3 e4 e5 => ?_
  obtain ⟨B, A, n, c, hv, hb⟩ := hy a w e1 e2 e3 e4
  have hv' : a.eval (.tmp s) = .slice A n c := hv
  have hr := run_conv_txt (P := P) w hs he hdt c hb
  refine ⟨.string (txt l), w, none, ?_, by rw [hF]; rfl, ⟨rfl, rfl, rfl, Nat.le_refl _, fun _ _ _ => rfl⟩, by simp, fun g hg => by cases hg⟩
  unfold execOp
  simp only [hop, hv', Sem.run_bind, Sem.run_pure, Result.andThen_ok, hr]
end
end Go.Proofs.YtopjkpopdffkeaaDoor
