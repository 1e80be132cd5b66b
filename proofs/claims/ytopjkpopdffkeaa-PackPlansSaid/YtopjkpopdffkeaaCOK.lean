/- XCO's steps for rows of elements of several cells. -/
import Derived.Test.YtopjkpopdffkeaaCO2
import Derived.Test.YtopjkpopdffkeaaRowK
namespace Go.Proofs.Ytopjkpopdffkeaa
open Go.RowKit

/-- A row of elements of k cells of the call's own. -/
def RowFK (e : TypeId) (k base : Nat) (xs : List Value) (v : Value) (w : World) : Prop := ∃ A n c, v = .slice A n c ∧ w.ownsRow base e k (.slice A n c) n xs
def BufFK (e : TypeId) (base m : Nat) (xs : List Value) (v : Value) (w : World) : Prop := ∃ g c, v = .slice (some ⟨g, 0, none⟩) m c ∧ base ≤ g ∧ Blk w g e xs.toArray
theorem own_grK {w w' : World} {base n k : Nat} {e : TypeId} {v : Value} {xs : List Value} (h : w.ownsRow base e k v n xs) {r : Option Nat} (hg : w.grownBy w' r) (hr : ∀ g, v.ownBlock = some g → some g ≠ r) : w'.ownsRow base e k v n xs := by
  refine ⟨h.1, ?_⟩
  rcases h.2 with h0 | ⟨g, cap, cur, rfl, h2, h3, h4⟩
  · exact .inl h0
  · exact .inr ⟨g, cap, cur, rfl, h2, (hg.block g (Blk.lt h3) (hr g rfl)).trans h3, h4⟩
theorem rowFK_ok (i d : Nat) (eat reads : List Nat) (e : TypeId) (k base : Nat) (xs : List Value) : CO.Ok ⟨i, d, eat, reads, RowFK e k base xs⟩ base :=
  ⟨fun v w w' r ⟨A, n, c, hv, h⟩ hg hn => ⟨A, n, c, hv, own_grK h hg (fun g hgg => by subst hv; exact hn g (ownBlock_vbs.1 hgg))⟩,
   fun v w ⟨A, n, c, hv, h⟩ g hg => by subst hv; exact h.lt g (ownBlock_vbs.2 hg)⟩
theorem bufFK_ok (i d : Nat) (eat reads : List Nat) (e : TypeId) (base m : Nat) (xs : List Value) : CO.Ok ⟨i, d, eat, reads, BufFK e base m xs⟩ base :=
  ⟨fun v w w' r ⟨g, c, hv, hb, h⟩ hg hn => ⟨g, c, hv, hb, blk_gr h hg (by subst hv; exact hn g (by simp [vbs, vb1]))⟩,
   fun v w ⟨g, c, hv, hb, h⟩ g' hg => by subst hv; simp [vbs, vb1] at hg; subst hg; exact ⟨hb, h.lt⟩⟩
theorem bufFK_sl {e : TypeId} {base m k : Nat} {xs : List Value} {v : Value} {w : World} (h : BufFK e base m xs v w) (hl : xs.length = m * k) : ∃ A c, v = .slice A m c ∧ SlC w w.heap.size A m k xs := by
  obtain ⟨g, c, rfl, hb, hB⟩ := h
  refine ⟨_, c, rfl, hl, fun j u hu => ⟨_, rfl, hB.lt, ?_⟩⟩
  rw [Addr.add_mid, Nat.zero_add, hB.cell]
  simpa using hu
section
variable {P : Program} {ops : Array Oper} {Q : Exit → Act → World → Prop} {C : List CO} {w0 : World} {base : Nat} {a0 : Act} {x : CO} {o : Oper} {t e : TypeId} {z : Value} {k bytes : Nat}
theorem step_emptyK (hE : EtyK P t e z k bytes) (ho : ops[x.i]? = some o) (hg : o.guard = none) (hd : o.dst = some x.d) (hop : o.op = .buildSlice t 0 #[]) (hF : x.F = RowFK e k base []) : x.Step P ops Q C w0 base a0 := by
  refine CO.step_run ho hg hd fun a w e1 e2 e3 e4 e5 => ?_
  refine ⟨_, _, none, by simp [execOp, hop, no_slice hE]; exact ⟨rfl, rfl⟩, ?_, World.grownBy_alloc w _ none, by simp, fun g hg => .inl ?_⟩
  · rw [hF]; exact ⟨_, _, _, rfl, own_nw e2⟩
  · simp [vbs, vb1] at hg; omega
theorem step_bufK (hE : EtyK P t e z k bytes) (hk5 : k ≤ 1000) (ho : ops[x.i]? = some o) (hg : o.guard = none) (hd : o.dst = some x.d) (s : Tmp) (hop : o.op = .buildSlice t 1 #[(0, .tmp s)]) (hs : ∀ y ∈ C, y.d ≠ s) (cs : Array Value) (hc : cs.size = k) (ha : a0.tmps.getD s undef = .agg cs) (hF : x.F = BufFK e base 1 cs.toList) : x.Step P ops Q C w0 base a0 := by
  refine CO.step_run ho hg hd fun a w e1 e2 e3 e4 e5 => ?_
  have hv : a.eval (.tmp s) = .agg cs := (e3 s hs).trans ha
  refine ⟨_, _, none, by simp [execOp, hop, hv, one_slice hE w cs hc hk5]; exact ⟨rfl, rfl⟩, ?_, World.grownBy_alloc w _ none, by simp, fun g hg => .inl ?_⟩
  · rw [hF]; exact ⟨_, _, rfl, e2, by have := Blk.new w e cs; simpa using this⟩
  · simp [vbs, vb1] at hg; omega
theorem CO.step_growK (hE : EtyK P t e z k bytes) (ho : ops[x.i]? = some o) (hg : o.guard = none) (hd : o.dst = some x.d) (s y : Tmp)
    (hop : o.op = .call { callee := .builtin .append, args := #[.tmp s, .tmp y], argTypes := #[t, t] }) (q : CO) (hk : q ∈ C) (hkd : q.d = s) (hkr : q.i ∈ x.reads) (hke : q.i ∈ x.eat) (xs news : List Value) (hkF : q.F = RowFK e k base xs)
    (hnew : ∀ (a : Act) (w : World), Below base w0 w → base ≤ w.heap.size → (∀ k, (∀ y ∈ C, y.d ≠ k) → a.tmps.getD k undef = a0.tmps.getD k undef) →
      (∀ y ∈ C, y.i ∈ x.reads → y.F (a.tmps.getD y.d undef) w) → ∃ B A m c, a.tmps.getD y undef = .slice A m c ∧ SlC w B A m k news)
    (h1 : ∀ u ∈ news, u.oneCell' = true) (hb : (xs.length + news.length) * bytes ≤ 140737488355328) (hx : x.F = RowFK e k base (xs ++ news)) : x.Step P ops Q C w0 base a0 := by
  refine CO.step_run ho hg hd fun a w e1 e2 e3 e4 e5 => ?_
  have hF := e4 q hk hkr
  rw [hkF, hkd] at hF
  obtain ⟨A, n, c, hv, hown⟩ := hF
  obtain ⟨B, A2, m, c2, hy, hsl⟩ := hnew a w e1 e2 e3 e4
  have hkp := hE.kpos
  have hn : n ≤ xs.length := by have := hown.1; rw [this]; exact Nat.le_mul_of_pos_right n hkp
  have hm : m ≤ news.length := by have := hsl.len; rw [this]; exact Nat.le_mul_of_pos_right m hkp
  obtain ⟨A', c', w', hrun, r1, r2, r3⟩ := run_appK (P := P) w (ty := o.type) hE base _ n xs hown B A2 m c2 news hsl h1 (Nat.le_trans (Nat.mul_le_mul_right bytes (Nat.add_le_add hn hm)) hb) e2
  refine ⟨.slice A' (n + m) c', w', _, ?_, ?_, r2, fun g hgg => ⟨q, hk, hke, by rw [hkd, hv]; exact ownBlock_vbs.1 hgg⟩, fun g hgg => ?_⟩
  · unfold execOp
    simp only [hop, resolve, invoke, builtin, Sem.run_bind, Sem.run_pure, Result.andThen_ok, List.map_toArray, List.map_cons, List.map_nil, Act.eval, hv, hy, hrun]
  · rw [hx]
    exact ⟨A', n + m, c', rfl, r1⟩
  · rcases r3 with h | h
    · refine .inr ⟨q, hk, hke, ?_⟩
      rw [hkd, hv]
      exact ownBlock_vbs.1 (by rw [← h]; exact ownBlock_vbs.2 hgg)
    · refine .inl ?_
      have := ownBlock_vbs.2 hgg
      rw [h] at this
      injection this with this
      omega
theorem step_srcK (hE : EtyK P t e z k bytes) (ho : ops[x.i]? = some o) (hg : o.guard = none) (hd : o.dst = some x.d) (s y : Tmp) (hop : o.op = .call { callee := .builtin .append, args := #[.tmp s, .tmp y], argTypes := #[t, t] })
    (q : CO) (hk : q ∈ C) (hkd : q.d = s) (hkr : q.i ∈ x.reads) (hke : q.i ∈ x.eat) (xs : List Value) (hkF : q.F = RowFK e k base xs)
    (hy : ∀ z ∈ C, z.d ≠ y) (B : Nat) (A : Option Addr) (m c : Nat) (news : List Value) (ha : a0.tmps.getD y undef = .slice A m c) (hsl : SlC w0 B A m k news) (hB : B ≤ base) (h1 : ∀ u ∈ news, u.oneCell' = true) (hn : (xs.length + news.length) * bytes ≤ 140737488355328) (hF : x.F = RowFK e k base (xs ++ news)) : x.Step P ops Q C w0 base a0 :=
  CO.step_growK hE ho hg hd s y hop q hk hkd hkr hke xs news hkF (fun a w e1 e2 e3 e4 => ⟨B, A, m, c, (e3 y hy).trans ha, hsl.below (e1.mono hB)⟩) h1 hn hF
theorem step_addK (hE : EtyK P t e z k bytes) (ho : ops[x.i]? = some o) (hg : o.guard = none) (hd : o.dst = some x.d) (s y : Tmp) (hop : o.op = .call { callee := .builtin .append, args := #[.tmp s, .tmp y], argTypes := #[t, t] })
    (q : CO) (hk : q ∈ C) (hkd : q.d = s) (hkr : q.i ∈ x.reads) (hke : q.i ∈ x.eat) (xs : List Value) (hkF : q.F = RowFK e k base xs)
    (b : CO) (hb : b ∈ C) (hbd : b.d = y) (hbr : b.i ∈ x.reads) (m : Nat) (news : List Value) (hbF : b.F = BufFK e base m news) (hl : news.length = m * k) (h1 : ∀ u ∈ news, u.oneCell' = true) (hn : (xs.length + news.length) * bytes ≤ 140737488355328) (hF : x.F = RowFK e k base (xs ++ news)) : x.Step P ops Q C w0 base a0 :=
  CO.step_growK hE ho hg hd s y hop q hk hkd hkr hke xs news hkF (fun a w e1 e2 e3 e4 => by
    have h := e4 b hb hbr
    rw [hbF, hbd] at h
    obtain ⟨A, c, hv, hsl⟩ := bufFK_sl h hl
    exact ⟨_, A, _, c, hv, hsl⟩) h1 hn hF
end
end Go.Proofs.Ytopjkpopdffkeaa
