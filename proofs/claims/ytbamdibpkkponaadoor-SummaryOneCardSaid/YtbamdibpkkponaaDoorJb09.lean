import Derived.Test.YtbamdibpkkponaaDoorJb01
import Derived.Test.YtbamdibpkkponaaDoorJb08
import Derived.Test.YtbamdibpkkponaaDoorJb03
import Derived.Test.YtbamdibpkkponaaDoorJb05
set_option linter.unusedVariables false
set_option linter.unusedSimpArgs false
/- The reference's list of blocks of pointers, as it lies in memory. -/
namespace Go.Proofs.YtbamdibpkkponaaDoor
open Go.RowKit

theorem etyMeta : EtyK Tryd.prog 71 59 (.agg #[.int .i64 0, .int .i64 0, .int .i64 0, .int .i64 0, .slice none 0 0, .slice none 0 0]) 6 80 := EtyK.mk' Tryd.underlying71 (by kernel_rfl) (by kernel_rfl) (by decide) (by decide)
/-- A list of integers that is only read. -/
abbrev RdI (w : World) (A : Option Addr) (n : Nat) (l : List Int) : Prop := NRow w 0 A n l
/-- The cells of one of them. -/
def metaV (m : MetaL) (A1 : Option Addr) (c1 : Nat) (A2 : Option Addr) (c2 : Nat) : List Value := [.int .i64 m.n, .int .i64 (m.level : Int), .int .i64 (m.first : Int), .int .i64 (m.p.root : Int), .slice A1 m.p.metas.length c1, .slice A2 m.p.slots.length c2]
def metaC (w : World) (x : List Value) (m : MetaL) : Prop := ∃ A1 c1 A2 c2, x = metaV m A1 c1 A2 c2 ∧ RdI w A1 m.p.metas.length m.p.metas ∧ RdI w A2 m.p.slots.length (natsI m.p.slots)
/-- The list in a row of the call's own. -/
def MRow (w : World) (base : Nat) (A : Option Addr) (n c : Nat) (ms : List MetaL) : Prop := ∃ cs : List (List Value), ms.length = n ∧ cs.length = n ∧ w.ownsRow base 59 6 (.slice A n c) n cs.flatten ∧ ∀ (j : Nat) (x : List Value) (m : MetaL), cs[j]? = some x → ms[j]? = some m → metaC w x m
theorem metaC.below {w w' : World} {x : List Value} {m : MetaL} (h : metaC w x m) (hb : Below w.heap.size w w') : metaC w' x m := by
  obtain ⟨A1, c1, A2, c2, e, h1, h2⟩ := h
  exact ⟨A1, c1, A2, c2, e, h1.below hb, h2.below hb⟩
theorem rdI_gr {w w' : World} {base : Nat} {A : Option Addr} {n k : Nat} {l : List Int} {v : Value} {xs : List Value} (h : RdI w A n l) (ho : w.ownsRow base 59 6 v k xs) (hg : w.grownBy w' v.ownBlock) : RdI w' A n l := by
  refine ⟨h.1, ?_⟩
  rcases h.2 with h0 | ⟨g, cur, rfl, h1, h2, h3⟩
  · exact .inl h0
  · refine .inr ⟨g, cur, rfl, h1, blk_gr h2 hg (fun e => ?_), h3⟩
    rcases ho.2 with ⟨rfl, -⟩ | ⟨g', cap, cur', rfl, -, h5, -⟩
    · cases e
    · simp only [Value.ownBlock, Option.some.injEq] at e
      subst e
      have h6 : some (Obj.cells cur 3) = some (Obj.cells cur' 59) := h2.symm.trans h5
      simp at h6
theorem metaC.gr {w w' : World} {base k : Nat} {x : List Value} {m : MetaL} {v : Value} {xs : List Value} (h : metaC w x m) (ho : w.ownsRow base 59 6 v k xs) (hg : w.grownBy w' v.ownBlock) : metaC w' x m := by
  obtain ⟨A1, c1, A2, c2, e, h1, h2⟩ := h
  exact ⟨A1, c1, A2, c2, e, rdI_gr h1 ho hg, rdI_gr h2 ho hg⟩
theorem MRow.below {w w' : World} {base n c : Nat} {A : Option Addr} {ms : List MetaL} (h : MRow w base A n c ms) (hb : Below w.heap.size w w') : MRow w' base A n c ms := by
  obtain ⟨cs, h1, h2, h3, h4⟩ := h
  exact ⟨cs, h1, h2, own_bel h3 hb, fun j x m hx hm => (h4 j x m hx hm).below hb⟩
theorem MRow.base {w : World} {base base' n c : Nat} {A : Option Addr} {ms : List MetaL} (h : MRow w base A n c ms) (hb : base' ≤ base) : MRow w base' A n c ms := by
  obtain ⟨cs, h1, h2, h3, h4⟩ := h
  exact ⟨cs, h1, h2, own_bq h3 hb, h4⟩
theorem MRow.nil {w : World} {base : Nat} : MRow w base none 0 0 [] := ⟨[], rfl, rfl, World.ownsRow_nil _ _ _ _, by simp⟩
theorem MRow.len {w : World} {base n c : Nat} {A : Option Addr} {ms : List MetaL} (h : MRow w base A n c ms) : ms.length = n := by
  obtain ⟨cs, h1, -⟩ := h; exact h1
theorem metaC.one {w : World} {x : List Value} {m : MetaL} (h : metaC w x m) : x.length = 6 ∧ ∀ u ∈ x, u.oneCell' = true := by
  obtain ⟨A1, c1, A2, c2, rfl, -, -⟩ := h
  refine ⟨rfl, fun u hu => ?_⟩
  simp only [metaV, List.mem_cons, List.not_mem_nil, or_false] at hu
  rcases hu with rfl | rfl | rfl | rfl | rfl | rfl <;> rfl
theorem MRow.cells_one {w : World} {cs : List (List Value)} {ms : List MetaL} (hl : ms.length = cs.length) (h : ∀ (j : Nat) (x : List Value) (m : MetaL), cs[j]? = some x → ms[j]? = some m → metaC w x m) : (∀ x ∈ cs, x.length = 6) ∧ ∀ u ∈ cs.flatten, u.oneCell' = true := by
  have hx : ∀ x ∈ cs, ∃ m, metaC w x m := fun x hx => by
    obtain ⟨j, hj, e⟩ := List.getElem_of_mem hx
    exact ⟨ms[j]'(by omega), h j x _ (by rw [List.getElem?_eq_getElem hj, e]) (List.getElem?_eq_getElem (by omega))⟩
  refine ⟨fun x h => by obtain ⟨m, hm⟩ := hx x h; exact hm.one.1, fun u hu => ?_⟩
  obtain ⟨x, hxm, hux⟩ := List.mem_flatten.1 hu
  obtain ⟨m, hm⟩ := hx x hxm
  exact hm.one.2 u hux
/-- One list behind another one. -/
theorem MRow.app {w : World} {base base' n c m c' : Nat} {A A' : Option Addr} {ms ns : List MetaL} {ty : TypeId} (h : MRow w base A n c ms) (h' : MRow w base' A' m c' ns) (hb : base ≤ w.heap.size) (hn : n + m ≤ 100000) :
    ∃ A2 c2 w', (Builtin.append_ #[71, 71] ty #[.slice A n c, .slice A' m c']).run Tryd.prog w = .ok (.slice A2 (n + m) c2) w' ∧ MRow w' base A2 (n + m) c2 (ms ++ ns) ∧ w.grownBy w' (Value.slice A n c).ownBlock := by
  obtain ⟨cs, h1, h2, h3, h4⟩ := h
  obtain ⟨ds, g1, g2, g3, g4⟩ := h'
  obtain ⟨k1, k2⟩ := MRow.cells_one (by omega) g4
  obtain ⟨A2, c2, w', hrun, r1, r2, r3⟩ := run_appK w (ty := ty) etyMeta base _ n _ h3 _ A' m c' ds.flatten (SlC.of_own g3) k2 (by omega) hb
  refine ⟨A2, c2, w', hrun, ⟨cs ++ ds, by rw [List.length_append]; omega, by rw [List.length_append]; omega, by rw [List.flatten_append]; exact r1, fun j x mm hx hm => ?_⟩, r2⟩
  rcases Nat.lt_or_ge j n with hj | hj
  · rw [List.getElem?_append_left (by omega)] at hx hm
    exact (h4 j x mm hx hm).gr h3 r2
  · rw [List.getElem?_append_right (by omega)] at hx hm
    rw [h2] at hx
    rw [h1] at hm
    exact (g4 _ x mm hx hm).gr h3 r2
theorem step_mapp {ops : Array Oper} {o : Oper} {a : Act} {w : World} {K : Act → World → Prop} {Q : Exit → Act → World → Prop} {E : Prop} (hgd : o.guard = none) (s x : Operand)
    (ho : o.op = .call { callee := .builtin .append, args := #[s, x], argTypes := #[71, 71] }) (base base' : Nat) (A A' : Option Addr) (n c m c' : Nat) (ms ns : List MetaL)
    (hs : a.eval s = .slice A n c) (hx : a.eval x = .slice A' m c') (h : MRow w base A n c ms) (h' : MRow w base' A' m c' ns) (hb : base ≤ w.heap.size) (hn : n + m ≤ 100000)
    (hK : ∀ A2 c2 w', MRow w' base A2 (n + m) c2 (ms ++ ns) → w.grownBy w' (Value.slice A n c).ownBlock → K (a.put o.dst (.slice A2 (n + m) c2)) w') :
    if Region.wanted o (yielded ops a.tmps) = true then Oper.wp Tryd.prog o a w K Q else E := by
  rw [if_pos (by simp [Region.wanted, hgd])]
  obtain ⟨A2, c2, w', hrun, h1, h2⟩ := MRow.app (ty := o.type) h h' hb hn
  unfold Oper.wp execOp
  simp only [ho, resolve, invoke, builtin, Sem.run_bind, Sem.run_pure, Result.andThen_ok, List.map_toArray, List.map_cons, List.map_nil, hs, hx, hrun]
  exact hK A2 c2 w' h1 h2
theorem wpList_mapp {ops : Array Oper} {rest : List Oper} {o : Oper} {a : Act} {w : World} {Q : Exit → Act → World → Prop} (hgd : o.guard = none) (s x : Operand)
    (ho : o.op = .call { callee := .builtin .append, args := #[s, x], argTypes := #[71, 71] }) (base base' : Nat) (A A' : Option Addr) (n c m c' : Nat) (ms ns : List MetaL)
    (hs : a.eval s = .slice A n c) (hx : a.eval x = .slice A' m c') (h : MRow w base A n c ms) (h' : MRow w base' A' m c' ns) (hb : base ≤ w.heap.size) (hn : n + m ≤ 100000)
    (hK : ∀ A2 c2 w', MRow w' base A2 (n + m) c2 (ms ++ ns) → w.grownBy w' (Value.slice A n c).ownBlock → wpList Tryd.prog ops Q rest (a.put o.dst (.slice A2 (n + m) c2)) w') : wpList Tryd.prog ops Q (o :: rest) a w := by
  refine wpList_plain hgd fun K' hK' => ?_
  obtain ⟨A2, c2, w', hrun, h1, h2⟩ := MRow.app (ty := o.type) h h' hb hn
  unfold Oper.wp execOp
  simp only [ho, resolve, invoke, builtin, Sem.run_bind, Sem.run_pure, Result.andThen_ok, List.map_toArray, List.map_cons, List.map_nil, hs, hx, hrun]
  exact hK' _ _ (hK A2 c2 w' h1 h2)
theorem MRow.own {w : World} {base n c : Nat} {A : Option Addr} {ms : List MetaL} (h : MRow w base A n c ms) : ∃ xs, w.ownsRow base 59 6 (.slice A n c) n xs := by
  obtain ⟨cs, -, -, h3, -⟩ := h; exact ⟨_, h3⟩
theorem flatten_get {α : Type} {k : Nat} : ∀ (cs : List (List α)), (∀ x ∈ cs, x.length = k) → ∀ (i j : Nat), j < k → cs.flatten[i * k + j]? = cs[i]?.bind fun x => x[j]?
  | [], _, i, j, _ => by simp
  | x :: cs, h, i, j, hj => by
    have hx := h x (by simp)
    rw [List.flatten_cons]
    cases i with
    | zero => rw [List.getElem?_append_left (by rw [hx]; omega)]; simp
    | succ i =>
      rw [List.getElem?_append_right (by rw [hx, Nat.succ_mul]; omega), hx, show (i + 1) * k + j - k = i * k + j by rw [Nat.succ_mul]; omega, flatten_get cs (fun y hy => h y (by simp [hy])) i j hj]
      simp
/-- One of the list. -/
theorem MRow.at {w : World} {base n c j : Nat} {A : Option Addr} {ms : List MetaL} (h : MRow w base A n c ms) (hj : j < n) : ∃ g m A1 c1 A2 c2, A = some ⟨g, 0, none⟩ ∧ base ≤ g ∧ g < w.heap.size ∧ ms[j]? = some m ∧ RdI w A1 m.p.metas.length m.p.metas ∧ RdI w A2 m.p.slots.length (natsI m.p.slots) ∧
    ∀ (k : Nat) (u : Value), (metaV m A1 c1 A2 c2)[k]? = some u → w.cell? ⟨g, j * 6 + k, none⟩ = some u := by
  obtain ⟨cs, h1, h2, h3, h4⟩ := h
  have hm : ms[j]? = some (ms[j]'(by omega)) := List.getElem?_eq_getElem _
  have hx : cs[j]? = some (cs[j]'(by omega)) := List.getElem?_eq_getElem _
  obtain ⟨A1, c1, A2, c2, e, r1, r2⟩ := h4 j _ _ hx hm
  obtain ⟨k1, -⟩ := MRow.cells_one (by omega) h4
  rcases h3.2 with ⟨-, h0⟩ | ⟨g, cap, cur, hv, hg, hB, hnc, hcm, hcs, ht⟩
  · omega
  · injection hv with hv1 _ _
    subst hv1
    refine ⟨g, _, A1, c1, A2, c2, rfl, hg, (h3.lt g rfl).2, hm, r1, r2, fun k u hu => ?_⟩
    have hk : k < 6 := (List.getElem?_eq_some_iff.1 hu).1
    have h5 := flatten_get cs k1 j k hk
    rw [hx] at h5
    simp only [Option.bind_some] at h5
    rw [e, hu, ← ht, List.getElem?_take] at h5
    split at h5
    · rw [show w.cell? ⟨g, j * 6 + k, none⟩ = cur[j * 6 + k]? from cell_of_row w g _ cur _ (0, 0) hB]
      simpa using h5
    · cases h5
end Go.Proofs.YtbamdibpkkponaaDoor

/- XCO's steps for rows of integers. -/
namespace Go.Proofs.YtbamdibpkkponaaDoor
open Go.RowKit

theorem int_slice0 (w : World) : (Instr.buildSlice 23 0 #[]).run Tryd.prog w = .ok (.slice (some ⟨w.heap.size, 0, none⟩) 0 0) (w.alloc (.cells #[] 3)) := by
  have hz : (Tryd.prog.info? 3).map (fun i => (i.zero, i.size, i.bytes)) = some (some (.int .i64 0), 1, 8) := by kernel_rfl
  obtain ⟨ie, hi, h1, h2, h3⟩ := info_parts hz
  simp [Instr.buildSlice, run_underlying Tryd.underlying23, sizeOf, typeInfo, hi, Instr.fill, newRow]
  congr 2
  exact Array.eq_empty_of_size_eq_zero (by simp)
section
variable {ops : Array Oper} {Q : Exit → Act → World → Prop} {C : List CO} {w0 : World} {base : Nat} {a0 : Act} {x : CO} {o : Oper}
theorem step_empty (ho : ops[x.i]? = some o) (hg : o.guard = none) (hd : o.dst = some x.d) (hop : o.op = .buildSlice 23 0 #[]) (hF : x.F = RowF 3 base []) : x.Step Tryd.prog ops Q C w0 base a0 := by
  refine CO.step_run ho hg hd fun a w e1 e2 e3 e4 e5 => ?_
  refine ⟨_, _, none, by simp [execOp, hop, int_slice0]; exact ⟨rfl, rfl⟩, ?_, World.grownBy_alloc w _ none, by simp, fun g hg => .inl ?_⟩
  · rw [hF]; exact ⟨_, _, _, rfl, own_nw e2⟩
  · simp [vbs, vb1] at hg; omega
theorem step_buf1 (ho : ops[x.i]? = some o) (hg : o.guard = none) (hd : o.dst = some x.d) (s : Tmp) (hop : o.op = .buildSlice 23 1 #[(0, .tmp s)]) (hs : ∀ y ∈ C, y.d ≠ s) (z : Int) (ha : a0.tmps.getD s undef = .int .i64 z) (hF : x.F = BufF 3 base [.int .i64 z]) : x.Step Tryd.prog ops Q C w0 base a0 := by
  refine CO.step_run ho hg hd fun a w e1 e2 e3 e4 e5 => ?_
  have hv : a.eval (.tmp s) = .int .i64 z := (e3 s hs).trans ha
  refine ⟨_, _, none, by simp [execOp, hop, hv, int_slice]; exact ⟨rfl, rfl⟩, ?_, World.grownBy_alloc w _ none, by simp, fun g hg => .inl ?_⟩
  · rw [hF]; exact ⟨_, _, rfl, e2, Blk.new w _ _⟩
  · simp [vbs, vb1] at hg; omega
theorem step_src (ho : ops[x.i]? = some o) (hg : o.guard = none) (hd : o.dst = some x.d) (s y : Tmp) (hop : o.op = .call { callee := .builtin .append, args := #[.tmp s, .tmp y], argTypes := #[23, 23] })
    (k : CO) (hk : k ∈ C) (hkd : k.d = s) (hkr : k.i ∈ x.reads) (hke : k.i ∈ x.eat) (xs : List Value) (hkF : k.F = RowF 3 base xs)
    (hy : ∀ z ∈ C, z.d ≠ y) (B : Nat) (A : Option Addr) (m c : Nat) (l : List Int) (ha : a0.tmps.getD y undef = .slice A m c) (hsl : Sl w0 B A m (intC l)) (hB : B ≤ base) (hn : xs.length + l.length ≤ 1000000) (hF : x.F = RowF 3 base (xs ++ intC l)) : x.Step Tryd.prog ops Q C w0 base a0 :=
  CO.step_grow etyJ ho hg hd s y hop k hk hkd hkr hke xs (intC l) hkF (fun a w e1 e2 e3 e4 => ⟨B, A, m, c, (e3 y hy).trans ha, hsl.below (e1.mono hB)⟩) (intC_one l) (by rw [intC_len]; omega) hF
theorem step_add (ho : ops[x.i]? = some o) (hg : o.guard = none) (hd : o.dst = some x.d) (s y : Tmp) (hop : o.op = .call { callee := .builtin .append, args := #[.tmp s, .tmp y], argTypes := #[23, 23] })
    (k : CO) (hk : k ∈ C) (hkd : k.d = s) (hkr : k.i ∈ x.reads) (hke : k.i ∈ x.eat) (xs : List Value) (hkF : k.F = RowF 3 base xs)
    (b : CO) (hb : b ∈ C) (hbd : b.d = y) (hbr : b.i ∈ x.reads) (z : Int) (hbF : b.F = BufF 3 base [.int .i64 z]) (hn : xs.length ≤ 1000000) (hF : x.F = RowF 3 base (xs ++ [.int .i64 z])) : x.Step Tryd.prog ops Q C w0 base a0 :=
  CO.step_grow etyJ ho hg hd s y hop k hk hkd hkr hke xs [.int .i64 z] hkF (fun a w e1 e2 e3 e4 => by
    have h := e4 b hb hbr
    rw [hbF, hbd] at h
    obtain ⟨A, c, hv, hsl⟩ := bufF_sl h
    exact ⟨_, A, _, c, hv, hsl⟩) (by simp [Value.oneCell']) (by simp; omega) hF
end
end Go.Proofs.YtbamdibpkkponaaDoor

/- XCO's steps for rows of integers, paths. -/
namespace Go.Proofs.YtbamdibpkkponaaDoor
open Go.RowKit

section
variable {ops : Array Oper} {Q : Exit → Act → World → Prop} {C : List CO} {w0 : World} {base : Nat} {a0 : Act} {x : CO} {o : Oper}
theorem step_new (ho : ops[x.i]? = some o) (hg : o.guard = none) (hd : o.dst = some x.d) (hop : o.op = .alloc 57) (hF : x.F = NewF 57 base #[.int .i64 0, .slice none 0 0, .slice none 0 0]) : x.Step Tryd.prog ops Q C w0 base a0 := by
  refine CO.step_run ho hg hd fun a w e1 e2 e3 e4 e5 => ?_
  refine ⟨.pointer (some ⟨w.heap.size, 0, none⟩), w.alloc (.cells #[.int .i64 0, .slice none 0 0, .slice none 0 0] 57), none, ?_, ?_, World.grownBy_alloc w _ none, by simp, fun g hg => .inl ?_⟩
  · unfold execOp
    simp only [hop]
    go_simp
  · rw [hF]; exact ⟨_, rfl, e2, Blk.new w _ _⟩
  · simp [vbs, vb1] at hg; omega
theorem step_path (ho : ops[x.i]? = some o) (hg : o.guard = none) (hd : o.dst = some x.d) (r s1 s2 : Tmp) (hop : o.op = .build 57 #[(0, .tmp r), (1, .tmp s1), (2, .tmp s2)]) (hr : ∀ z ∈ C, z.d ≠ r) (z : Int) (ha : a0.tmps.getD r undef = .int .i64 z)
    (k1 k2 : CO) (h1 : k1 ∈ C) (h2 : k2 ∈ C) (hd1 : k1.d = s1) (hd2 : k2.d = s2) (hr1 : k1.i ∈ x.reads) (hr2 : k2.i ∈ x.reads) (he1 : k1.i ∈ x.eat) (he2 : k2.i ∈ x.eat) (l1 l2 : List Value) (hF1 : k1.F = RowF 3 base l1) (hF2 : k2.F = RowF 3 base l2)
    (hF : x.F = AggF 3 base z l1 l2) : x.Step Tryd.prog ops Q C w0 base a0 := by
  refine CO.step_run ho hg hd fun a w e1 e2 e3 e4 e5 => ?_
  have hv : a.eval (.tmp r) = .int .i64 z := (e3 r hr).trans ha
  have f1 := e4 k1 h1 hr1
  have f2 := e4 k2 h2 hr2
  rw [hF1, hd1] at f1
  rw [hF2, hd2] at f2
  obtain ⟨A1, n1, c1, v1, o1⟩ := f1
  obtain ⟨A2, n2, c2, v2, o2⟩ := f2
  have v1' : a.eval (.tmp s1) = .slice A1 n1 c1 := v1
  have v2' : a.eval (.tmp s2) = .slice A2 n2 c2 := v2
  refine ⟨.agg #[.int .i64 z, .slice A1 n1 c1, .slice A2 n2 c2], w, none, ?_, ?_, ⟨rfl, rfl, rfl, Nat.le_refl _, fun _ _ _ => rfl⟩, by simp, fun g hg => .inr ?_⟩
  · unfold execOp
    simp only [hop, List.map_toArray, List.map_cons, List.map_nil, hv, v1', v2']
    go_simp
  · rw [hF]; exact ⟨A1, n1, c1, A2, n2, c2, rfl, o1, o2⟩
  · rcases aggF_vbs.1 hg with h | h
    · exact ⟨k1, h1, he1, by rw [hd1, v1]; exact h⟩
    · exact ⟨k2, h2, he2, by rw [hd2, v2]; exact h⟩
end
end Go.Proofs.YtbamdibpkkponaaDoor

/- The walks over the reference's width and below. -/
namespace Go.Proofs.YtbamdibpkkponaaDoor
open Go.RowKit
attribute [local go_sem ↓] Go.wp_at_zero Go.wp_at_succ

theorem width_any (l : Nat) (hl : l ≤ 3) (w : World) : Calls Tryd.prog 44 #[.int .i64 (l : Int)] w fun e w' => e = .returned (.int .i64 ((16 ^ l : Nat) : Int)) ∧ w = w' := by
  have h4 : l = 0 ∨ l = 1 ∨ l = 2 ∨ l = 3 := by omega
  have i0 : ∀ w, (Instr.index 83 (.agg #[.int .i64 1, .int .i64 16, .int .i64 256, .int .i64 4096]) (.int .i64 0)).run Tryd.prog w = .ok (.int .i64 1) w := fun w => by kernel_rfl
  have i1 : ∀ w, (Instr.index 83 (.agg #[.int .i64 1, .int .i64 16, .int .i64 256, .int .i64 4096]) (.int .i64 1)).run Tryd.prog w = .ok (.int .i64 16) w := fun w => by kernel_rfl
  have i2 : ∀ w, (Instr.index 83 (.agg #[.int .i64 1, .int .i64 16, .int .i64 256, .int .i64 4096]) (.int .i64 2)).run Tryd.prog w = .ok (.int .i64 256) w := fun w => by kernel_rfl
  have i3 : ∀ w, (Instr.index 83 (.agg #[.int .i64 1, .int .i64 16, .int .i64 256, .int .i64 4096]) (.int .i64 3)).run Tryd.prog w = .ok (.int .i64 4096) w := fun w => by kernel_rfl
  rcases h4 with rfl | rfl | rfl | rfl <;>
  (go_enter Tryd.func44, Tryd.ntmps44
   go_wp2_with fail
   go_ret
   exact ⟨rfl, rfl⟩)
theorem belowR_len : ∀ (l first : Nat) (p : PathL), (belowR l first p).length ≤ 17 ^ l
  | 0, _, _ => by unfold belowR; exact Nat.zero_le _
  | l + 1, first, p => by
    unfold belowR
    split
    · exact Nat.zero_le _
    · rw [List.length_cons, List.length_flatMap]
      have h : ∀ is : List Nat, (is.map fun i => (belowR l (first + i * 16 ^ l) ⟨p.root, p.metas ++ [-(first : Int) - (l : Int)], p.slots ++ [i]⟩).length).sum ≤ is.length * 17 ^ l := fun is => by
        induction is with
        | nil => simp
        | cons i is ih =>
          rw [List.map_cons, List.sum_cons, List.length_cons, Nat.succ_mul]
          have := belowR_len l (first + i * 16 ^ l) ⟨p.root, p.metas ++ [-(first : Int) - (l : Int)], p.slots ++ [i]⟩
          omega
      have h2 := h (List.range 16)
      rw [List.length_range] at h2
      have h3 : 1 ≤ 17 ^ l := Nat.one_le_pow _ _ (by omega)
      rw [Nat.pow_succ]
      omega
theorem below_nil (l first : Nat) (hl : l ≤ 3) (h : l = 0 ∨ 600 ≤ first) (_v : Value) (w : World) (r : Int) (A1 A2 : Option Addr) (n1 c1 n2 c2 : Nat) : Calls Tryd.prog 41 #[.int .i64 (l : Int), .int .i64 (first : Int), .agg #[.int .i64 r, .slice A1 n1 c1, .slice A2 n2 c2]] w fun e w' => e = .returned (.slice none 0 0) ∧ Below w.heap.size w w' := by
  by_cases h0 : l = 0
  · subst h0
    clear h
    go_enter Tryd.func41, Tryd.ntmps41
    go_wp2_with fail
    go_ret
    exact ⟨rfl, (Below.refl _ _).alloc (Nat.le_refl _) _⟩
  · have hd : ((l : Int) == 0) = false := by rw [beq_eq_false_iff_ne]; omega
    have h6 : 600 ≤ first := by omega
    have h6' : (600 : Int) ≤ (first : Int) := by omega
    clear h h0
    go_enter Tryd.func41, Tryd.ntmps41
    go_wp2_with fail
    go_ret
    exact ⟨rfl, (Below.refl _ _).alloc (Nat.le_refl _) _⟩
/-- What below holds in its round. -/
structure BelM (w0 w : World) (g5 g7 : Nat) (r : Nat) (p : PathL) (A1 : Option Addr) (c1 : Nat) (A2 : Option Addr) (c2 : Nat) (m : MetaL) (A : Option Addr) (n c : Nat) (ms : List MetaL) : Prop where
  kP : Blk w g5 57 #[.int .i64 (r : Int), .slice A1 p.metas.length c1, .slice A2 p.slots.length c2]
  kM : Blk w g7 59 (metaV m A1 c1 A2 c2).toArray
  r1 : RdI w A1 p.metas.length p.metas
  r2 : RdI w A2 p.slots.length (natsI p.slots)
  row : MRow w (g7 + 1) A n c ms
  b : w0.heap.size ≤ g5 ∧ g5 < g7 ∧ g7 + 1 ≤ w.heap.size
  bel : Below w0.heap.size w0 w
theorem BelM.below {w0 w w' : World} {g5 g7 r c1 c2 n c : Nat} {p : PathL} {A1 A2 A : Option Addr} {m : MetaL} {ms : List MetaL} (h : BelM w0 w g5 g7 r p A1 c1 A2 c2 m A n c ms) (hb : Below w.heap.size w w') : BelM w0 w' g5 g7 r p A1 c1 A2 c2 m A n c ms :=
  ⟨h.kP.below hb, h.kM.below hb, h.r1.below hb, h.r2.below hb, h.row.below hb, ⟨h.b.1, h.b.2.1, Nat.le_trans h.b.2.2 hb.size⟩, h.bel.trans (hb.mono h.bel.size)⟩
theorem bel_w3 {p : PathL} {A1 A2 : Option Addr} {c1 c2 : Nat} {w0 : World} (h1 : RdI w0 A1 p.metas.length p.metas) (h2 : RdI w0 A2 p.slots.length (natsI p.slots)) (m : MetaL) (hm : m.p = p) :
    BelM w0 (((w0.alloc (.cells #[.int .i64 (p.root : Int), .slice A1 p.metas.length c1, .slice A2 p.slots.length c2] 57)).alloc (.cells (metaV m A1 c1 A2 c2).toArray 59)).alloc (.cells (metaV m A1 c1 A2 c2).toArray 59))
      w0.heap.size (w0.heap.size + 1) p.root p A1 c1 A2 c2 m (some ⟨w0.heap.size + 1 + 1, 0, none⟩) 1 1 [m] := by
  subst hm
  have hb1 := (Below.refl w0.heap.size w0).alloc (Nat.le_refl _) (.cells #[.int .i64 (m.p.root : Int), .slice A1 m.p.metas.length c1, .slice A2 m.p.slots.length c2] 57)
  have hb2 := hb1.alloc hb1.size (.cells (metaV m A1 c1 A2 c2).toArray 59)
  have hb3 := hb2.alloc hb2.size (.cells (metaV m A1 c1 A2 c2).toArray 59)
  have k7 := Blk.new (w0.alloc (.cells #[.int .i64 (m.p.root : Int), .slice A1 m.p.metas.length c1, .slice A2 m.p.slots.length c2] 57)) 59 (metaV m A1 c1 A2 c2).toArray
  have k8 := Blk.new ((w0.alloc (.cells #[.int .i64 (m.p.root : Int), .slice A1 m.p.metas.length c1, .slice A2 m.p.slots.length c2] 57)).alloc (.cells (metaV m A1 c1 A2 c2).toArray 59)) 59 (metaV m A1 c1 A2 c2).toArray
  simp only [World.size_alloc] at k7 k8
  refine ⟨((Blk.new w0 _ _).alloc _).alloc _, k7.alloc _, h1.below hb3, h2.below hb3, ⟨[metaV m A1 c1 A2 c2], rfl, rfl, ⟨rfl, .inr ⟨w0.heap.size + 1 + 1, 1, _, rfl, by omega, k8, Nat.le_refl _, by simp [maxLen], rfl, by simp [metaV]⟩⟩, fun j x mm hx hmm => ?_⟩, ⟨Nat.le_refl _, by omega, by simp⟩, hb3⟩
  rcases j with _ | j
  · injection hx with hx
    injection hmm with hmm
    subst hx hmm
    exact ⟨A1, c1, A2, c2, rfl, h1.below hb3, h2.below hb3⟩
  · simp at hx
set_option maxHeartbeats 2000000 in
set_option maxRecDepth 100000 in
theorem below_step (l : Nat) (hl : l ≤ 2)
    (ih : ∀ (first : Nat) (p : PathL) (A1 : Option Addr) (c1 : Nat) (A2 : Option Addr) (c2 : Nat) (w : World), first ≤ 100000 → p.root ≤ 10 → p.metas.length + l ≤ 10 → p.slots.length + l ≤ 10 → RdI w A1 p.metas.length p.metas → RdI w A2 p.slots.length (natsI p.slots) →
      Calls Tryd.prog 41 #[.int .i64 (l : Int), .int .i64 (first : Int), .agg #[.int .i64 (p.root : Int), .slice A1 p.metas.length c1, .slice A2 p.slots.length c2]] w fun e w' =>
        ∃ A n c, e = .returned (.slice A n c) ∧ MRow w' w.heap.size A n c (belowR l first p) ∧ Below w.heap.size w w')
    (first : Nat) (p : PathL) (A1 : Option Addr) (c1 : Nat) (A2 : Option Addr) (c2 : Nat) (w : World) (hf : first < 600) (hr : p.root ≤ 10) (hm9 : p.metas.length + (l + 1) ≤ 10) (hs9 : p.slots.length + (l + 1) ≤ 10) (h1 : RdI w A1 p.metas.length p.metas) (h2 : RdI w A2 p.slots.length (natsI p.slots)) :
      Calls Tryd.prog 41 #[.int .i64 ((l + 1 : Nat) : Int), .int .i64 (first : Int), .agg #[.int .i64 (p.root : Int), .slice A1 p.metas.length c1, .slice A2 p.slots.length c2]] w fun e w' =>
        ∃ A n c, e = .returned (.slice A n c) ∧ MRow w' w.heap.size A n c (belowR (l + 1) first p) ∧ Below w.heap.size w w' := by
  have IH := hide ih
  have H1 := hide h1
  have H2 := hide h2
  have HM := hide hm9
  have HS := hide hs9
  have HR := hide hr
  clear ih h1 h2 hm9 hs9 hr
  obtain ⟨lev, hlev⟩ : ∃ lev, lev = l + 1 := ⟨_, rfl⟩
  rw [← hlev]
  have HL := hide hlev
  have hd : ((lev : Int) == 0) = false := by rw [beq_eq_false_iff_ne]; omega
  have hf' : ¬ (600 : Int) ≤ (first : Int) := by omega
  have hw1 : IntKind.i64.wrap ((lev : Int) - 1) = (l : Int) := by rw [IntKind.wrap_i64]; omega
  have hw2 : IntKind.i64.wrap (-(first : Int)) = -(first : Int) := by rw [IntKind.wrap_i64]; omega
  have hw3 : IntKind.i64.wrap (-(first : Int) - (l : Int)) = -(first : Int) - (l : Int) := by rw [IntKind.wrap_i64]; omega
  clear hlev
  go_enter Tryd.func41, Tryd.ntmps41
  go_wp2_with fail
  obtain ⟨m0, hm0⟩ : ∃ m0 : MetaL, m0 = ⟨-(first : Int) - (l : Int), lev, first, p⟩ := ⟨_, rfl⟩
  have B1 := bel_w3 (c1 := c1) (c2 := c2) H1.out H2.out m0 (by rw [hm0])
  have HB := hide B1
  clear B1
  rw [hm0] at HB
  simp only [metaV] at HB
  go_loopw [8, 9] (fun x y wr => ∃ (i n c : Nat) (A : Option Addr), i ≤ 16 ∧ x = .slice A n c ∧ y = .int .i64 (i : Int) ∧ BelM w wr w.heap.size (w.heap.size + 1) p.root p A1 c1 A2 c2 ⟨-(first : Int) - (l : Int), lev, first, p⟩ A n c
      (⟨-(first : Int) - (l : Int), lev, first, p⟩ :: (List.range i).flatMap fun i => belowR l (first + i * 16 ^ l) ⟨p.root, p.metas ++ [-(first : Int) - (l : Int)], p.slots ++ [i]⟩)) (fun _ y _ => 16 - (intOf y).toNat)
  case atStart => exact ⟨0, 1, 1, _, Nat.zero_le _, rfl, rfl, HB.out⟩
  case round =>
    obtain ⟨i, n, c, A, hi, rfl, rfl, hm⟩ := hrel
    have M := hide hm
    by_cases hlt : i < 16
    · have a1 := hm.kP.cell 0
      have a2 := hm.kP.cell 1
      have a3 := hm.kP.cell 2
      have a4 := hm.kM.cell 0
      simp only [metaV, List.getElem?_toArray, List.getElem?_cons_succ, List.getElem?_cons_zero] at a1 a2 a3 a4
      have s1 := sl_of_nrow hm.r1
      have s2 := sl_of_nrow hm.r2
      have S1 := hide s1
      have S2 := hide s2
      have hcells := hide (fun (w' : World) (hb : Below wr.heap.size wr w') => And.intro (And.intro (hm.kP.below hb) (hm.kM.below hb)) hb)
      clear s1 s2 hm HB
      generalize w.heap.size = g5 at *
      go_wp2_with fail
      refine wp_region_noPanic ?_
      refine wp_region_held_drew (S := (fun w' => w'.cell? ⟨g5, 0, none⟩ = some (.int .i64 (p.root : Int)) ∧ w'.cell? ⟨g5, 1, none⟩ = some (.slice A1 p.metas.length c1) ∧ w'.cell? ⟨g5, 2, none⟩ = some (.slice A2 p.slots.length c2) ∧ w'.cell? ⟨g5 + 1, 0, none⟩ = some (.int .i64 (-(first : Int) - (l : Int))))) (by kernel_rfl) ?_ (fun hHeld => ?_)
      · ((try dsimp only) <;> (first | trivial | assumption | go_keep))
      refine wpAnyH_take (i := 0) (v := ?_) (by simp only [List.getElem?_toArray, List.getElem?_cons_zero]; rfl) (by kernel_rfl) (by kernel_rfl) (by kernel_rfl) (fun _ _ _ h => h) (Or.inl ⟨by rfl, ?_⟩) (by assumption) ?_
      rotate_left 1
      · (intro w hSw; (try dsimp only at hSw); go_simp; try with_reducible rfl)
      try simp only [Act.put, List.setIfInBounds_toArray, List.set_cons_zero, List.set_cons_succ]
      refine wpAnyH_take (i := 1) (v := ?_) (by simp only [List.getElem?_toArray, List.getElem?_cons_succ, List.getElem?_cons_zero]; rfl) (by kernel_rfl) (by kernel_rfl) (by kernel_rfl) (fun _ _ _ h => h) (Or.inl ⟨by rfl, ?_⟩) (by assumption) ?_
      rotate_left 1
      · (intro w hSw; (try dsimp only at hSw); go_simp; try with_reducible rfl)
      try simp only [Act.put, List.setIfInBounds_toArray, List.set_cons_zero, List.set_cons_succ]
      refine wpAnyH_take (i := 3) (v := ?_) (by simp only [List.getElem?_toArray, List.getElem?_cons_succ, List.getElem?_cons_zero]; rfl) (by kernel_rfl) (by kernel_rfl) (by kernel_rfl) (fun _ _ _ h => h) (Or.inl ⟨by rfl, ?_⟩) (by assumption) ?_
      rotate_left 1
      · (intro w hSw; (try dsimp only at hSw); go_simp; try with_reducible rfl)
      try simp only [Act.put, List.setIfInBounds_toArray, List.set_cons_zero, List.set_cons_succ]
      refine wpAnyH_take (i := 4) (v := ?_) (by simp only [List.getElem?_toArray, List.getElem?_cons_succ, List.getElem?_cons_zero]; rfl) (by kernel_rfl) (by kernel_rfl) (by kernel_rfl) (fun _ _ _ h => h) (Or.inl ⟨by rfl, ?_⟩) (by assumption) ?_
      rotate_left 1
      · (intro w hSw; (try dsimp only at hSw); go_simp; try with_reducible rfl)
      try simp only [Act.put, List.setIfInBounds_toArray, List.set_cons_zero, List.set_cons_succ]
      refine wpAnyH_take (i := 6) (v := ?_) (by simp only [List.getElem?_toArray, List.getElem?_cons_succ, List.getElem?_cons_zero]; rfl) (by kernel_rfl) (by kernel_rfl) (by kernel_rfl) (fun _ _ _ h => h) (Or.inl ⟨by rfl, ?_⟩) (by assumption) ?_
      rotate_left 1
      · (intro w hSw; (try dsimp only at hSw); go_simp; try with_reducible rfl)
      try simp only [Act.put, List.setIfInBounds_toArray, List.set_cons_zero, List.set_cons_succ]
      refine wpAnyH_take (i := 7) (v := ?_) (by simp only [List.getElem?_toArray, List.getElem?_cons_succ, List.getElem?_cons_zero]; rfl) (by kernel_rfl) (by kernel_rfl) (by kernel_rfl) (fun _ _ _ h => h) (Or.inl ⟨by rfl, ?_⟩) (by assumption) ?_
      rotate_left 1
      · (intro w hSw; (try dsimp only at hSw); go_simp; try with_reducible rfl)
      try simp only [Act.put, List.setIfInBounds_toArray, List.set_cons_zero, List.set_cons_succ]
      refine wpAnyH_take (i := 11) (v := ?_) (by simp only [List.getElem?_toArray, List.getElem?_cons_succ, List.getElem?_cons_zero]; rfl) (by kernel_rfl) (by kernel_rfl) (by kernel_rfl) (fun _ _ _ h => h) (Or.inl ⟨by rfl, ?_⟩) (by assumption) ?_
      rotate_left 1
      · (intro w hSw; (try dsimp only at hSw); go_simp; try with_reducible rfl)
      try simp only [Act.put, List.setIfInBounds_toArray, List.set_cons_zero, List.set_cons_succ]
      refine wpAnyH_take (i := 12) (v := ?_) (by simp only [List.getElem?_toArray, List.getElem?_cons_succ, List.getElem?_cons_zero]; rfl) (by kernel_rfl) (by kernel_rfl) (by kernel_rfl) (fun _ _ _ h => h) (Or.inl ⟨by rfl, ?_⟩) (by assumption) ?_
      rotate_left 1
      · (intro w hSw; (try dsimp only at hSw); go_simp; try with_reducible rfl)
      try simp only [Act.put, List.setIfInBounds_toArray, List.set_cons_zero, List.set_cons_succ]
      refine wpAnyH_take (i := 14) (v := ?_) (by simp only [List.getElem?_toArray, List.getElem?_cons_succ, List.getElem?_cons_zero]; rfl) (by kernel_rfl) (by kernel_rfl) (by kernel_rfl) (fun _ _ _ h => h) (Or.inl ⟨by rfl, ?_⟩) (by assumption) ?_
      rotate_left 1
      · (intro w hSw; (try dsimp only at hSw); go_simp; try with_reducible rfl)
      try simp only [Act.put, List.setIfInBounds_toArray, List.set_cons_zero, List.set_cons_succ]
      refine region_rows (fuel := 1) (w0 := wr) (base := wr.heap.size) (stop := 19) (C := [⟨2, 34, [], [], RowF 3 wr.heap.size []⟩, ⟨5, 37, [2], [2], RowF 3 wr.heap.size (intC p.metas)⟩, ⟨8, 40, [], [], BufF 3 wr.heap.size [.int .i64 (-(first : Int) - (l : Int))]⟩,
        ⟨9, 41, [5], [5, 8], RowF 3 wr.heap.size (intC p.metas ++ [.int .i64 (-(first : Int) - (l : Int))])⟩, ⟨10, 42, [], [], RowF 3 wr.heap.size []⟩, ⟨13, 45, [10], [10], RowF 3 wr.heap.size (intC (natsI p.slots))⟩, ⟨15, 47, [], [], BufF 3 wr.heap.size [.int .i64 (i : Int)]⟩,
        ⟨16, 48, [13], [13, 15], RowF 3 wr.heap.size (intC (natsI p.slots) ++ [.int .i64 (i : Int)])⟩, ⟨17, 49, [9, 16], [9, 16], AggF 3 wr.heap.size (p.root : Int) (intC p.metas ++ [.int .i64 (-(first : Int) - (l : Int))]) (intC (natsI p.slots) ++ [.int .i64 (i : Int)])⟩, ⟨18, 10, [], [], NewF 57 wr.heap.size #[.int .i64 0, .slice none 0 0, .slice none 0 0]⟩])
        (ok_of_cd (by kernel_rfl)) ?hok ?hst ?hS (Below.refl _ _).drew (Nat.le_refl _) ?hend
      case hok =>
        intro x hx
        simp only [List.mem_cons, List.not_mem_nil, or_false] at hx
        rcases hx with rfl | rfl | rfl | rfl | rfl | rfl | rfl | rfl | rfl | rfl
        · exact rowF_ok _ _ _ _ _ _ _
        · exact rowF_ok _ _ _ _ _ _ _
        · exact bufF_ok _ _ _ _ _ _ _
        · exact rowF_ok _ _ _ _ _ _ _
        · exact rowF_ok _ _ _ _ _ _ _
        · exact rowF_ok _ _ _ _ _ _ _
        · exact bufF_ok _ _ _ _ _ _ _
        · exact rowF_ok _ _ _ _ _ _ _
        · exact aggF_ok _ _ _ _ _ _ _ _ _
        · exact newF_ok _ _ _ _ _ _ _
      case hS =>
        intro w' hb hs
        obtain ⟨⟨k1, k2⟩, -⟩ := hcells.out w' hb
        exact ⟨k1.cell 0, k1.cell 1, k1.cell 2, k2.cell 0⟩
      case hst =>
        have hm2 := HM.out
        have hs2 := HS.out
        have lS : (natsI p.slots).length = p.slots.length := natsI_len _
        intro x hx
        simp only [List.mem_cons, List.not_mem_nil, or_false] at hx
        rcases hx with rfl | rfl | rfl | rfl | rfl | rfl | rfl | rfl | rfl | rfl
        · exact step_empty (by simp only [List.getElem?_toArray, List.getElem?_cons_succ, List.getElem?_cons_zero]; rfl) (by rfl) (by rfl) (by rfl) rfl
        · exact step_src (by simp only [List.getElem?_toArray, List.getElem?_cons_succ, List.getElem?_cons_zero]; rfl) (by rfl) (by rfl) 34 36 (by rfl) ⟨2, 34, [], [], RowF 3 wr.heap.size []⟩ (by simp) rfl (by simp) (by simp) [] rfl (by intro z hz; simp only [List.mem_cons, List.not_mem_nil, or_false] at hz; rcases hz with rfl | rfl | rfl | rfl | rfl | rfl | rfl | rfl | rfl | rfl <;> simp) wr.heap.size A1 _ c1 p.metas (by rfl) S1.out (Nat.le_refl _) (by simp; omega) rfl
        · exact step_buf1 (by simp only [List.getElem?_toArray, List.getElem?_cons_succ, List.getElem?_cons_zero]; rfl) (by rfl) (by rfl) 39 (by rfl) (by intro z hz; simp only [List.mem_cons, List.not_mem_nil, or_false] at hz; rcases hz with rfl | rfl | rfl | rfl | rfl | rfl | rfl | rfl | rfl | rfl <;> simp) _ (by rfl) rfl
        · exact step_add (by simp only [List.getElem?_toArray, List.getElem?_cons_succ, List.getElem?_cons_zero]; rfl) (by rfl) (by rfl) 37 40 (by rfl) ⟨5, 37, [2], [2], RowF 3 wr.heap.size (intC p.metas)⟩ (by simp) rfl (by simp) (by simp) (intC p.metas) rfl ⟨8, 40, [], [], BufF 3 wr.heap.size [.int .i64 (-(first : Int) - (l : Int))]⟩ (by simp) rfl (by simp) _ rfl (by rw [intC_len]; omega) rfl
        · exact step_empty (by simp only [List.getElem?_toArray, List.getElem?_cons_succ, List.getElem?_cons_zero]; rfl) (by rfl) (by rfl) (by rfl) rfl
        · exact step_src (by simp only [List.getElem?_toArray, List.getElem?_cons_succ, List.getElem?_cons_zero]; rfl) (by rfl) (by rfl) 42 44 (by rfl) ⟨10, 42, [], [], RowF 3 wr.heap.size []⟩ (by simp) rfl (by simp) (by simp) [] rfl (by intro z hz; simp only [List.mem_cons, List.not_mem_nil, or_false] at hz; rcases hz with rfl | rfl | rfl | rfl | rfl | rfl | rfl | rfl | rfl | rfl <;> simp) wr.heap.size A2 _ c2 (natsI p.slots) (by rfl) S2.out (Nat.le_refl _) (by simp [lS]; omega) rfl
        · exact step_buf1 (by simp only [List.getElem?_toArray, List.getElem?_cons_succ, List.getElem?_cons_zero]; rfl) (by rfl) (by rfl) 46 (by rfl) (by intro z hz; simp only [List.mem_cons, List.not_mem_nil, or_false] at hz; rcases hz with rfl | rfl | rfl | rfl | rfl | rfl | rfl | rfl | rfl | rfl <;> simp) _ (by rfl) rfl
        · exact step_add (by simp only [List.getElem?_toArray, List.getElem?_cons_succ, List.getElem?_cons_zero]; rfl) (by rfl) (by rfl) 45 47 (by rfl) ⟨13, 45, [10], [10], RowF 3 wr.heap.size (intC (natsI p.slots))⟩ (by simp) rfl (by simp) (by simp) (intC (natsI p.slots)) rfl ⟨15, 47, [], [], BufF 3 wr.heap.size [.int .i64 (i : Int)]⟩ (by simp) rfl (by simp) _ rfl (by rw [intC_len, lS]; omega) rfl
        · exact step_path (by simp only [List.getElem?_toArray, List.getElem?_cons_succ, List.getElem?_cons_zero]; rfl) (by rfl) (by rfl) 33 41 48 (by rfl) (by intro z hz; simp only [List.mem_cons, List.not_mem_nil, or_false] at hz; rcases hz with rfl | rfl | rfl | rfl | rfl | rfl | rfl | rfl | rfl | rfl <;> simp) _ (by rfl) ⟨9, 41, [5], [5, 8], RowF 3 wr.heap.size (intC p.metas ++ [.int .i64 (-(first : Int) - (l : Int))])⟩ ⟨16, 48, [13], [13, 15], RowF 3 wr.heap.size (intC (natsI p.slots) ++ [.int .i64 (i : Int)])⟩ (by simp) (by simp) rfl rfl (by simp) (by simp) (by simp) (by simp) _ _ rfl rfl rfl
        · exact step_new (by simp only [List.getElem?_toArray, List.getElem?_cons_succ, List.getElem?_cons_zero]; rfl) (by rfl) (by rfl) (by rfl) rfl
      case hend =>
        intro vals w2 hb2 hs2 hF hap
        have f17 := hF ⟨17, 49, [9, 16], [9, 16], AggF 3 wr.heap.size (p.root : Int) (intC p.metas ++ [.int .i64 (-(first : Int) - (l : Int))]) (intC (natsI p.slots) ++ [.int .i64 (i : Int)])⟩ (by simp) (by simp)
        have f18 := hF ⟨18, 10, [], [], NewF 57 wr.heap.size #[.int .i64 0, .slice none 0 0, .slice none 0 0]⟩ (by simp) (by simp)
        have hap2 := hap ⟨17, 49, [9, 16], [9, 16], AggF 3 wr.heap.size (p.root : Int) (intC p.metas ++ [.int .i64 (-(first : Int) - (l : Int))]) (intC (natsI p.slots) ++ [.int .i64 (i : Int)])⟩ (by simp) ⟨18, 10, [], [], NewF 57 wr.heap.size #[.int .i64 0, .slice none 0 0, .slice none 0 0]⟩ (by simp) (by simp) (by simp) (by simp)
        clear hF hap
        simp only at f17 f18
        obtain ⟨B1, n1, d1, B2, n2, d2, hv17, o1, o2⟩ := f17
        obtain ⟨g10, hv18, hg10, k10⟩ := f18
        simp only at hap2
        rw [hv17, hv18] at hap2
        simp only [List.foldl_cons, List.foldl_nil, hv17, hv18]
        generalize vals 2 = x2
        generalize vals 5 = x5
        generalize vals 8 = x8
        generalize vals 9 = x9
        generalize vals 10 = x10
        generalize vals 13 = x13
        generalize vals 15 = x15
        generalize vals 16 = x16
        clear hv17 hv18
        simp only [Act.put, List.setIfInBounds_toArray, List.set_cons_zero, List.set_cons_succ]
        have cC : ∀ w' : World, Below wr.heap.size wr w' → w'.cell? ⟨g5, 0, none⟩ = some (.int .i64 (p.root : Int)) ∧ w'.cell? ⟨g5, 1, none⟩ = some (.slice A1 p.metas.length c1) ∧ w'.cell? ⟨g5, 2, none⟩ = some (.slice A2 p.slots.length c2) ∧ w'.cell? ⟨g5 + 1, 0, none⟩ = some (.int .i64 (-(first : Int) - (l : Int))) := fun w' hb => by
          obtain ⟨⟨k1, k2⟩, -⟩ := hcells.out w' hb
          exact ⟨k1.cell 0, k1.cell 1, k1.cell 2, k2.cell 0⟩
        have hHeld := cC w2 hb2
        have hb3 := hide (((hb2.setCell (p := ⟨g10, 0, none⟩) hg10 (.int .i64 (p.root : Int))).setCell (p := ⟨g10, 1, none⟩) hg10 (.slice B1 n1 d1)).setCell (p := ⟨g10, 2, none⟩) hg10 (.slice B2 n2 d2))
        have k11 := hide (((k10.set 0 (.int .i64 (p.root : Int))).set 1 (.slice B1 n1 d1)).set 2 (.slice B2 n2 d2))
        have hH3 := cC _ hb3.out
        clear cC
        have u0 := k10.cell 0
        have u1 := k10.cell 1
        have u2 := k10.cell 2
        have z0 := k10.frozen 0
        have z1 := k10.frozen 1
        have z2 := k10.frozen 2
        simp only [List.getElem?_toArray, List.getElem?_cons_succ, List.getElem?_cons_zero] at u0 u1 u2
        refine wpAnyH_ready (rs := [19]) (by kernel_rfl) (by simp) ?_
        refine AllReadyH.cons (by simp only [List.getElem?_toArray, List.getElem?_cons_succ, List.getElem?_cons_zero]; rfl) (fun K hK => ?_) ?_
        rotate_left 1
        · exact AllReadyH.nil
        go_simp
        refine hK.out _ _ ?_ (fun hHeld2 => ?_)
        · ((try dsimp only) <;> (first | trivial | assumption | go_keep))
        clear hHeld
        have hHeld := hHeld2
        clear hHeld2 hK K
        try simp only [Act.put, List.setIfInBounds_toArray, List.set_cons_zero, List.set_cons_succ]
        refine wpAnyH_done (by kernel_rfl) ?_ _
        refine NoPanic.normal ?_
        have hn1 : n1 = (p.metas ++ [-(first : Int) - (l : Int)]).length := by have := o1.1; rw [show intC p.metas ++ [.int .i64 (-(first : Int) - (l : Int))] = intC (p.metas ++ [-(first : Int) - (l : Int)]) from intC_app _ _, intC_len] at this; omega
        have hn2 : n2 = (p.slots ++ [i]).length := by have := o2.1; rw [show intC (natsI p.slots) ++ [.int .i64 (i : Int)] = intC (natsI (p.slots ++ [i])) from by rw [intC_app, natsI_app], intC_len, natsI_len] at this; omega
        rw [show intC p.metas ++ [.int .i64 (-(first : Int) - (l : Int))] = intC (p.metas ++ [-(first : Int) - (l : Int)]) from intC_app _ _] at o1
        rw [show intC (natsI p.slots) ++ [.int .i64 (i : Int)] = intC (natsI (p.slots ++ [i])) from by rw [intC_app, natsI_app]] at o2
        have hk3 := (((Kp.refl [g10] w2).set (p := ⟨g10, 0, none⟩) (.inl (by simp)) (.int .i64 (p.root : Int))).set (p := ⟨g10, 1, none⟩) (.inl (by simp)) (.slice B1 n1 d1)).set (p := ⟨g10, 2, none⟩) (.inl (by simp)) (.slice B2 n2 d2)
        have Q1 := hide ((nrow_of_own (own_kq o1 hk3 (fun g hg e => hap2 g (aggF_vbs.2 (.inl (ownBlock_vbs.1 hg))) (by simp at e; subst e; simp [vbs, vb1])))).base (Nat.zero_le _))
        have Q2 := hide ((nrow_of_own (own_kq o2 hk3 (fun g hg e => hap2 g (aggF_vbs.2 (.inr (ownBlock_vbs.1 hg))) (by simp at e; subst e; simp [vbs, vb1])))).base (Nat.zero_le _))
        have K11 := hide (show Blk _ g10 57 #[.int .i64 (p.root : Int), .slice B1 n1 d1, .slice B2 n2 d2] by simpa using k11.out)
        clear hHeld hH3 u0 u1 u2 z0 z1 z2 k10 k11 o1 o2 hap2 hk3 hb2 hs2 a1 a2 a3 a4
        generalize ((w2.setCell ⟨g10, 0, none⟩ (.int .i64 (p.root : Int))).setCell ⟨g10, 1, none⟩ (.slice B1 n1 d1)).setCell ⟨g10, 2, none⟩ (.slice B2 n2 d2) = w3 at *
        have M3 := hide (M.out.below hb3.out)
        obtain ⟨q, hq⟩ : ∃ q, q = 16 ^ l := ⟨_, rfl⟩
        have hq256 : q ≤ 256 := by rw [hq]; exact Nat.le_trans (Nat.pow_le_pow_right (by decide) hl) (by decide)
        obtain ⟨iq, hiq⟩ : ∃ iq, iq = i * q := ⟨_, rfl⟩
        have hiq2 : iq ≤ 4096 := by rw [hiq]; exact Nat.le_trans (Nat.mul_le_mul (show i ≤ 16 by omega) hq256) (by decide)
        obtain ⟨f2, hf2⟩ : ∃ f2, f2 = first + iq := ⟨_, rfl⟩
        have hwm : IntKind.i64.wrap ((i : Int) * (q : Int)) = (iq : Int) := by rw [hiq, IntKind.wrap_i64, ← Int.natCast_mul, ← hiq]; omega
        have hwa : IntKind.i64.wrap ((first : Int) + (iq : Int)) = (f2 : Int) := by rw [IntKind.wrap_i64]; omega
        have hf2' : f2 ≤ 100000 := by omega
        have W9 := hide (fun w => width_any l (by omega) w)
        rw [← hq] at W9
        have HF2 := hide (show f2 = first + i * 16 ^ l by rw [hf2, hiq, hq])
        have t0 := K11.out.cell 0
        have t1 := K11.out.cell 1
        have t2 := K11.out.cell 2
        simp only [List.getElem?_toArray, List.getElem?_cons_succ, List.getElem?_cons_zero] at t0 t1 t2
        obtain ⟨p2, hp2⟩ : ∃ p2 : PathL, p2 = ⟨p.root, p.metas ++ [-(first : Int) - (l : Int)], p.slots ++ [i]⟩ := ⟨_, rfl⟩
        have IH2 := hide (fun (w4 : World) (hb : Below w3.heap.size w3 w4) => IH.out f2 p2 B1 d1 B2 d2 w4 hf2' (by rw [hp2]; exact HR.out) (by rw [hp2]; have := HM.out; simp; omega) (by rw [hp2]; have := HS.out; simp; omega)
          (by have := Q1.out.below hb; rw [hn1] at this; rw [hp2]; exact this) (by have := Q2.out.below hb; rw [hn2] at this; rw [hp2]; exact this))
        rw [hp2] at IH2
        simp only at IH2
        rw [← hn1, ← hn2, ← hp2] at IH2
        clear hq hiq hf2 hf2' hHeld hn1 hn2
        go_wp2_with fail
        refine wp_region_noPanic ?_
        refine wp_region_held_drew (S := (fun w' => w'.cell? ⟨g10, 0, none⟩ = some (.int .i64 (p.root : Int)) ∧ w'.cell? ⟨g10, 1, none⟩ = some (.slice B1 n1 d1) ∧ w'.cell? ⟨g10, 2, none⟩ = some (.slice B2 n2 d2))) (by kernel_rfl) ?_ (fun hHeld => ?_)
        · ((try dsimp only) <;> (first | trivial | assumption | go_keep))
        refine wpAnyH_take (i := 0) (v := ?_) (by simp only [List.getElem?_toArray, List.getElem?_cons_zero]; rfl) (by kernel_rfl) (by kernel_rfl) (by kernel_rfl) (fun _ _ _ h => h) (Or.inl ⟨by rfl, ?_⟩) (by assumption) ?_
        rotate_left 1
        · (intro w hSw; (try dsimp only at hSw); go_simp; try with_reducible rfl)
        try simp only [Act.put, List.setIfInBounds_toArray, List.set_cons_zero, List.set_cons_succ]
        refine wpAnyH_take (i := 1) (v := ?_) (by simp only [List.getElem?_toArray, List.getElem?_cons_succ, List.getElem?_cons_zero]; rfl) (by kernel_rfl) (by kernel_rfl) (by kernel_rfl) (fun _ _ _ h => h) (Or.inl ⟨by rfl, ?_⟩) (by assumption) ?_
        rotate_left 1
        · (intro w hSw; (try dsimp only at hSw); go_simp; try with_reducible rfl)
        try simp only [Act.put, List.setIfInBounds_toArray, List.set_cons_zero, List.set_cons_succ]
        refine wpAnyH_take (i := 2) (v := ?_) (by simp only [List.getElem?_toArray, List.getElem?_cons_succ, List.getElem?_cons_zero]; rfl) (by kernel_rfl) (by kernel_rfl) (by kernel_rfl) (fun _ _ _ h => h) (Or.inl ⟨by rfl, ?_⟩) (by assumption) ?_
        rotate_left 1
        · (intro w hSw; (try dsimp only at hSw); go_simp; try with_reducible rfl)
        try simp only [Act.put, List.setIfInBounds_toArray, List.set_cons_zero, List.set_cons_succ]
        refine wpAnyH_take (i := 3) (v := ?_) (by simp only [List.getElem?_toArray, List.getElem?_cons_succ, List.getElem?_cons_zero]; rfl) (by kernel_rfl) (by kernel_rfl) (by kernel_rfl) (fun _ _ _ h => h) (Or.inl ⟨by rfl, ?_⟩) (by assumption) ?_
        rotate_left 1
        · (intro w hSw; (try dsimp only at hSw); go_simp; try with_reducible rfl)
        try simp only [Act.put, List.setIfInBounds_toArray, List.set_cons_zero, List.set_cons_succ]
        refine wpAnyH_take (i := 4) (v := ?_) (by simp only [List.getElem?_toArray, List.getElem?_cons_succ, List.getElem?_cons_zero]; rfl) (by kernel_rfl) (by kernel_rfl) (by kernel_rfl) (fun _ _ _ h => h) (Or.inl ⟨by rfl, ?_⟩) (by assumption) ?_
        rotate_left 1
        · (intro w hSw; (try dsimp only at hSw); go_simp; try with_reducible rfl)
        try simp only [Act.put, List.setIfInBounds_toArray, List.set_cons_zero, List.set_cons_succ]
        refine wpAnyH_take (i := 5) (v := ?_) (by simp only [List.getElem?_toArray, List.getElem?_cons_succ, List.getElem?_cons_zero]; rfl) (by kernel_rfl) (by kernel_rfl) (by kernel_rfl) (fun _ _ _ h => h) (Or.inl ⟨by rfl, ?_⟩) (by assumption) ?_
        rotate_left 1
        · (intro w hSw; (try dsimp only at hSw); go_simp; try with_reducible rfl)
        try simp only [Act.put, List.setIfInBounds_toArray, List.set_cons_zero, List.set_cons_succ]
        refine wpAnyH_take (i := 6) (v := ?_) (by simp only [List.getElem?_toArray, List.getElem?_cons_succ, List.getElem?_cons_zero]; rfl) (by kernel_rfl) (by kernel_rfl) (by kernel_rfl) (fun _ _ _ h => h) (Or.inl ⟨by rfl, ?_⟩) (by assumption) ?_
        rotate_left 1
        · (intro w hSw; (try dsimp only at hSw); go_simp; try with_reducible rfl)
        try simp only [Act.put, List.setIfInBounds_toArray, List.set_cons_zero, List.set_cons_succ]
        refine wpAnyH_take (i := 10) (v := ?_) (by simp only [List.getElem?_toArray, List.getElem?_cons_succ, List.getElem?_cons_zero]; rfl) (by kernel_rfl) (by kernel_rfl) (by kernel_rfl) (fun _ _ _ h => h) (Or.inl ⟨by rfl, ?_⟩) (by assumption) ?_
        rotate_left 1
        · (intro w hSw; (try dsimp only at hSw); go_simp; try with_reducible rfl)
        try simp only [Act.put, List.setIfInBounds_toArray, List.set_cons_zero, List.set_cons_succ]
        refine wpAnyH_ready (rs := [7]) (by kernel_rfl) (by simp) ?_
        refine AllReadyH.cons (by simp only [List.getElem?_toArray, List.getElem?_cons_succ, List.getElem?_cons_zero]; rfl) (fun K hK => ?_) ?_
        rotate_left 1
        · exact AllReadyH.nil
        go_simp
        refine (W9.out w3.drew).mono ?_; rintro e w4 ⟨rfl, rfl⟩; go_wp2_with fail
        refine hK.out _ _ ?_ (fun hHeld2 => ?_)
        · ((try dsimp only) <;> (first | trivial | assumption | go_keep))
        clear hHeld
        have hHeld := hHeld2
        clear hHeld2 hK K
        try simp only [Act.put, List.setIfInBounds_toArray, List.set_cons_zero, List.set_cons_succ]
        refine wpAnyH_take (i := 8) (v := ?_) (by simp only [List.getElem?_toArray, List.getElem?_cons_succ, List.getElem?_cons_zero]; rfl) (by kernel_rfl) (by kernel_rfl) (by kernel_rfl) (fun _ _ _ h => h) (Or.inl ⟨by rfl, ?_⟩) (by assumption) ?_
        rotate_left 1
        · (intro w hSw; (try dsimp only at hSw); go_simp; try with_reducible rfl)
        try simp only [Act.put, List.setIfInBounds_toArray, List.set_cons_zero, List.set_cons_succ]
        refine wpAnyH_take (i := 9) (v := ?_) (by simp only [List.getElem?_toArray, List.getElem?_cons_succ, List.getElem?_cons_zero]; rfl) (by kernel_rfl) (by kernel_rfl) (by kernel_rfl) (fun _ _ _ h => h) (Or.inl ⟨by rfl, ?_⟩) (by assumption) ?_
        rotate_left 1
        · (intro w hSw; (try dsimp only at hSw); go_simp; try with_reducible rfl)
        try simp only [Act.put, List.setIfInBounds_toArray, List.set_cons_zero, List.set_cons_succ]
        refine wpAnyH_ready (rs := [11]) (by kernel_rfl) (by simp) ?_
        refine AllReadyH.cons (by simp only [List.getElem?_toArray, List.getElem?_cons_succ, List.getElem?_cons_zero]; rfl) (fun K hK => ?_) ?_
        rotate_left 1
        · exact AllReadyH.nil
        go_simp
        refine (IH2.out w3.drew (Below.refl _ _).drew).mono ?_; rintro e w4 ⟨A4, n4, c4, rfl, hrow, hb4⟩; have B4 := hide ((Below.refl w3.heap.size w3).drew.trans (hb4.mono (by simp))); have t3 := (K11.out.below B4.out).cell 0; have t4 := (K11.out.below B4.out).cell 1; have t5 := (K11.out.below B4.out).cell 2; have ROW := hide hrow; have hn4 := hrow.len; simp only [List.getElem?_toArray, List.getElem?_cons_succ, List.getElem?_cons_zero] at t3 t4 t5; clear hb4 hrow; go_wp2_with fail
        refine hK.out _ _ ?_ (fun hHeld2 => ?_)
        · ((try dsimp only) <;> (first | trivial | assumption | go_keep))
        clear hHeld
        have hHeld := hHeld2
        clear hHeld2 hK K
        try simp only [Act.put, List.setIfInBounds_toArray, List.set_cons_zero, List.set_cons_succ]
        have hlen4 := belowR_len l f2 p2
        rw [hn4] at hlen4
        have h17 : 17 ^ l ≤ 289 := Nat.le_trans (Nat.pow_le_pow_right (by decide) hl) (by decide)
        have M4 := hide (M3.out.below B4.out)
        have hlen5 : n ≤ 1 + i * 289 := by
          have h1 := M.out.row.len
          rw [← h1, List.length_cons, List.length_flatMap]
          have h2 : ∀ is : List Nat, (is.map fun i => (belowR l (first + i * 16 ^ l) ⟨p.root, p.metas ++ [-(first : Int) - (l : Int)], p.slots ++ [i]⟩).length).sum ≤ is.length * 289 := fun is => by
            induction is with
            | nil => simp
            | cons i is ih =>
              rw [List.map_cons, List.sum_cons, List.length_cons, Nat.succ_mul]
              have := belowR_len l (first + i * 16 ^ l) ⟨p.root, p.metas ++ [-(first : Int) - (l : Int)], p.slots ++ [i]⟩
              omega
          have h3 := h2 (List.range i)
          rw [List.length_range] at h3
          omega
        have hk6 : n + n4 ≤ 100000 := by
          have : i * 289 ≤ 16 * 289 := Nat.mul_le_mul (by omega) (Nat.le_refl _)
          omega
        clear hlen4 hlen5 h17 hn4
        refine wpAnyH_ready (rs := [12]) (by kernel_rfl) (by simp) ?_
        refine AllReadyH.cons (by simp only [List.getElem?_toArray, List.getElem?_cons_succ, List.getElem?_cons_zero]; rfl) (fun K hK => ?_) ?_
        rotate_left 1
        · exact AllReadyH.nil
        refine step_mapp (by rfl) (.tmp 50) (.tmp 61) (by rfl) (g5 + 1 + 1) _ A A4 n c n4 c4 _ _ (by rfl) (by rfl) M4.out.row ROW.out M4.out.b.2.2 hk6 ?_; intro A5 c5 w5 hrow5 hg5; obtain ⟨xs, hown⟩ := M4.out.row.own; have hne := (fun g (h : g < g5 + 1 + 1) (e : some g = (Value.slice A n c).ownBlock) => by have := (hown.lt g e.symm).1; omega : ∀ g, g < g5 + 1 + 1 → some g = (Value.slice A n c).ownBlock → False); obtain ⟨xs', hown'⟩ := M.out.row.own; have K5 := blk_gr (K11.out.below B4.out) hg5 (fun e => by have := (hown'.lt g10 e.symm).2; omega); have t6 := K5.cell 0; have t7 := K5.cell 1; have t8 := K5.cell 2; simp only [List.getElem?_toArray, List.getElem?_cons_succ, List.getElem?_cons_zero] at t6 t7 t8; have HG5 := hide hg5; have HROW5 := hide hrow5; have HOWN := hide hown; have HNE := hide hne; clear hg5 hrow5 hown hown' hne K5
        refine hK.out _ _ ?_ (fun hHeld2 => ?_)
        · ((try dsimp only) <;> (first | trivial | assumption | go_keep))
        clear hHeld
        have hHeld := hHeld2
        clear hHeld2 hK K
        try simp only [Act.put, List.setIfInBounds_toArray, List.set_cons_zero, List.set_cons_succ]
        refine wpAnyH_take (i := 13) (v := ?_) (by simp only [List.getElem?_toArray, List.getElem?_cons_succ, List.getElem?_cons_zero]; rfl) (by kernel_rfl) (by kernel_rfl) (by kernel_rfl) (fun _ _ _ h => h) (Or.inl ⟨by rfl, ?_⟩) (by assumption) ?_
        rotate_left 1
        · (intro w hSw; (try dsimp only at hSw); go_simp; try with_reducible rfl)
        try simp only [Act.put, List.setIfInBounds_toArray, List.set_cons_zero, List.set_cons_succ]
        refine wpAnyH_done (by kernel_rfl) ?_ _
        refine NoPanic.normal ?_
        have M5 := hide (show BelM w w5 g5 (g5 + 1) p.root p A1 c1 A2 c2 ⟨-(first : Int) - (l : Int), lev, first, p⟩ A5 (n + n4) c5 (⟨-(first : Int) - (l : Int), lev, first, p⟩ :: (List.range (i + 1)).flatMap fun i => belowR l (first + i * 16 ^ l) ⟨p.root, p.metas ++ [-(first : Int) - (l : Int)], p.slots ++ [i]⟩) from
          ⟨blk_gr M4.out.kP HG5.out (fun e => HNE.out g5 (by omega) e), blk_gr M4.out.kM HG5.out (fun e => HNE.out (g5 + 1) (by omega) e), rdI_gr M4.out.r1 HOWN.out HG5.out, rdI_gr M4.out.r2 HOWN.out HG5.out,
           by have := HROW5.out; rw [List.cons_append] at this; rw [List.range_succ, List.flatMap_append]; simpa [HF2.out, hp2] using this,
           ⟨M4.out.b.1, M4.out.b.2.1, Nat.le_trans M4.out.b.2.2 HG5.out.size⟩,
           bel_gr M4.out.bel HG5.out (fun g e => by have h1 := (HOWN.out.lt g e).1; have h2 := M4.out.b.1; omega) M4.out.bel.size⟩)
        clear t0 t1 t2 t3 t4 t5 t6 t7 t8 hHeld M4 HG5 HROW5 HOWN HNE
        go_wp2_with fail
        go_roundw
        case rel => exact ⟨i + 1, n + n4, c5, A5, by omega, rfl, by go_num, M5.out⟩
        case measure => simp [intOf]; omega
    · have hi16 : i = 16 := by omega
      have hfin : Hid (belowR lev first p = (⟨-(first : Int) - (l : Int), lev, first, p⟩ :: (List.range i).flatMap fun i => belowR l (first + i * 16 ^ l) ⟨p.root, p.metas ++ [-(first : Int) - (l : Int)], p.slots ++ [i]⟩)) := hide (by
        have hl' := HL.out
        clear HB hm M
        rw [hi16, hl']
        conv => lhs; unfold belowR
        rw [if_neg (by omega)])
      have hlt' : ¬ (i : Int) < 16 := by omega
      clear hi16 HB hm
      go_wp2_with fail
      go_ret
      refine ⟨A, n, c, rfl, ?_, M.out.bel⟩
      rw [hfin.out]
      exact M.out.row.base (by have := M.out.b.1; omega)
theorem below_any : ∀ (l : Nat), l ≤ 3 → ∀ (first : Nat) (p : PathL) (A1 : Option Addr) (c1 : Nat) (A2 : Option Addr) (c2 : Nat) (w : World), first ≤ 100000 → p.root ≤ 10 → p.metas.length + l ≤ 10 → p.slots.length + l ≤ 10 → RdI w A1 p.metas.length p.metas → RdI w A2 p.slots.length (natsI p.slots) →
      Calls Tryd.prog 41 #[.int .i64 (l : Int), .int .i64 (first : Int), .agg #[.int .i64 (p.root : Int), .slice A1 p.metas.length c1, .slice A2 p.slots.length c2]] w fun e w' =>
        ∃ A n c, e = .returned (.slice A n c) ∧ MRow w' w.heap.size A n c (belowR l first p) ∧ Below w.heap.size w w'
  | 0, hl, first, p, A1, c1, A2, c2, w, _, _, _, _, _, _ => by
    refine (below_nil 0 first hl (.inl rfl) undef w p.root A1 A2 _ c1 _ c2).mono ?_
    rintro e w' ⟨rfl, hb⟩
    exact ⟨none, 0, 0, rfl, by unfold belowR; exact MRow.nil, hb⟩
  | l + 1, hl, first, p, A1, c1, A2, c2, w, hf, hr, hm, hs, h1, h2 => by
    by_cases h6 : first < 600
    · exact below_step l (by omega) (fun first p A1 c1 A2 c2 w a b c d e f => below_any l (by omega) first p A1 c1 A2 c2 w a b c d e f) first p A1 c1 A2 c2 w h6 hr (by omega) (by omega) h1 h2
    · refine (below_nil (l + 1) first hl (.inr (by omega)) undef w p.root A1 A2 _ c1 _ c2).mono ?_
      rintro e w' ⟨rfl, hb⟩
      exact ⟨none, 0, 0, rfl, by unfold belowR; rw [if_pos (by omega)]; exact MRow.nil, hb⟩
end Go.Proofs.YtbamdibpkkponaaDoor

/- The walk over the reference's All. -/
namespace Go.Proofs.YtbamdibpkkponaaDoor
open Go.RowKit
attribute [local go_sem ↓] Go.wp_at_zero Go.wp_at_succ

theorem rdI_nil {w : World} : RdI w none 0 [] := ⟨rfl, .inl ⟨rfl, rfl⟩⟩
set_option maxHeartbeats 1000000 in
theorem all_any (w : World) : Calls Tryd.prog 37 #[] w fun e w' => ∃ A n c, e = .returned (.slice A n c) ∧ MRow w' w.heap.size A n c allR ∧ n ≤ 10000 ∧ Below w.heap.size w w' := by
  go_enter Tryd.func37, Tryd.ntmps37
  go_wp2_with fail
  refine (below_any 1 (by omega) 6 ⟨6, [], []⟩ none 0 none 0 w (by omega) (by decide) (by decide) (by decide) rdI_nil rdI_nil).mono ?_
  rintro e w1 ⟨A1, n1, c1, rfl, h1, hb1⟩
  have M1 := hide h1
  have B1 := hide hb1
  have l1 := belowR_len 1 6 ⟨6, [], []⟩
  rw [h1.len] at l1
  clear h1 hb1
  go_wp2_with fail
  refine (below_any 2 (by omega) 22 ⟨7, [], []⟩ none 0 none 0 w1 (by omega) (by decide) (by decide) (by decide) rdI_nil rdI_nil).mono ?_
  rintro e w2 ⟨A2, n2, c2, rfl, h2, hb2⟩
  have l2 := belowR_len 2 22 ⟨7, [], []⟩
  rw [h2.len] at l2
  have h1 := M1.out.below hb2
  have hs1 := Nat.le_trans B1.out.size hb2.size
  obtain ⟨xs1, ho1⟩ := h1.own
  have hk := fun g (e : (Value.slice A1 n1 c1).ownBlock = some g) => (ho1.lt g e).1
  have HB := hide (B1.out.trans (hb2.mono B1.out.size))
  have H1 := hide h1
  have H2 := hide h2
  have HK := hide hk
  have HS1 := hide hs1
  clear h1 h2 hb2 M1 B1 hk hs1 ho1
  go_wp2_with (at_builtin; refine wpList_mapp rfl (.tmp 4) (.tmp 6) rfl w.heap.size _ A1 A2 n1 c1 n2 c2 _ _ rfl rfl H1.out H2.out HS1.out (by omega) ?_; intro A3 c3 w3 h3 hg3; have M3 := hide h3; have B3 := hide (bel_gr HB.out hg3 HK.out HS1.out); clear h3 hg3)
  refine (below_any 3 (by omega) 278 ⟨8, [], []⟩ none 0 none 0 w3 (by omega) (by decide) (by decide) (by decide) rdI_nil rdI_nil).mono ?_
  rintro e w4 ⟨A4, n4, c4, rfl, h4, hb4⟩
  have l4 := belowR_len 3 278 ⟨8, [], []⟩
  rw [h4.len] at l4
  have h5 := M3.out.below hb4
  have hs1 := Nat.le_trans B3.out.size hb4.size
  obtain ⟨xs3, ho3⟩ := h5.own
  have hk := fun g (e : (Value.slice A3 (n1 + n2) c3).ownBlock = some g) => (ho3.lt g e).1
  have HB4 := hide (B3.out.trans (hb4.mono B3.out.size))
  have H5 := hide h5
  have H4 := hide h4
  have HK4 := hide hk
  have HS4 := hide hs1
  clear h5 h4 hb4 M3 B3 hk hs1 ho3 HB H1 H2 HK HS1
  go_wp2_with (at_builtin; refine wpList_mapp rfl (.tmp 8) (.tmp 10) rfl w.heap.size _ A3 A4 (n1 + n2) c3 n4 c4 _ _ rfl rfl H5.out H4.out HS4.out (by omega) ?_; intro A5 c5 w5 h6 hg6; have M5 := hide h6; have B5 := hide (bel_gr HB4.out hg6 HK4.out HS4.out); clear h6 hg6)
  go_ret
  exact ⟨A5, n1 + n2 + n4, c5, rfl, M5.out, by omega, B5.out⟩
end Go.Proofs.YtbamdibpkkponaaDoor

/- The walk over the reference's Find. -/
namespace Go.Proofs.YtbamdibpkkponaaDoor
open Go.RowKit
attribute [local go_sem ↓] Go.wp_at_zero Go.wp_at_succ

/-- A boxed struct and a temporary given back. -/
theorem results_ct {P : Program} {fn : Func} {p q : Tmp} {ty : TypeId} (h : fn.results = #[.cell p ty, .tmp q]) (tmps : Array Value) (w : World) (g : Nat) (t : TypeId) (cs : Array Value) (fr : Nat × Nat) (d : TypeDesc)
    (hp : tmps.getD p undef = .pointer (some ⟨g, 0, none⟩)) (hg : w.heap[g]? = some (.cells cs t fr))
    (hu : P.underlying ty = some d) (hd : (match d with | .struct _ | .array _ _ => true | _ => false) = true) (hi : (P.info? ty).map (·.size) = some cs.size) :
    (results fn tmps).run P w = .ok (.tuple #[.agg cs, tmps.getD q undef]) w := by
  have hp' : tmps[p]?.getD undef = .pointer (some ⟨g, 0, none⟩) := by simpa using hp
  simp [results, h, hp', asAddr, run_loadVar_row w g t ty cs fr d hg hu hd hi]
theorem ret_meta {K : Ending → World → Prop} {tmps : Array Value} {w : World} {g : Nat} {x0 x1 x2 x3 x4 x5 v : Value} (hp : tmps.getD 2 undef = .pointer (some ⟨g, 0, none⟩)) (hq : tmps.getD 3 undef = v) (hB : Blk w g 59 #[x0, x1, x2, x3, x4, x5])
    (hK : K (.returned (.tuple #[.agg #[x0, x1, x2, x3, x4, x5], v])) w) : bodyPost Tryd.prog Tryd.f26 K .ret ⟨tmps, []⟩ w :=
  bodyPost_ret (results_ct rfl tmps w g _ _ (0, 0) _ hp hB Tryd.underlying59 rfl (by kernel_rfl)) rfl (by rw [hq]; exact hK)
/-- What Find answers. -/
def findV : Option MetaL → World → Ending → Prop
  | none, _, e => e = .returned (.tuple #[.agg #[.int .i64 0, .int .i64 0, .int .i64 0, .int .i64 0, .slice none 0 0, .slice none 0 0], .bool false])
  | some m, w, e => ∃ A1 c1 A2 c2, e = .returned (.tuple #[.agg (metaV m A1 c1 A2 c2).toArray, .bool true]) ∧ RdI w A1 m.p.metas.length m.p.metas ∧ RdI w A2 m.p.slots.length (natsI m.p.slots)
set_option maxHeartbeats 1000000 in
set_option maxRecDepth 100000 in
theorem findR_few (n : Int) (hn : I64 n) (h06 : 0 ≤ n ∧ n < 6) (w : World) : Calls Tryd.prog 26 #[.int .i64 n] w fun e w' => findV (findR n) w' e ∧ Below w.heap.size w w' := by
  have HN := hide hn
  clear hn
  · have HR : Hid (findR n = some ⟨n, 0, n.toNat, ⟨n.toNat, [], []⟩⟩) := hide (by unfold findR; rw [if_pos h06])
    obtain ⟨k, hk⟩ : ∃ k : Nat, n = (k : Int) := ⟨n.toNat, by omega⟩
    subst hk
    have d1 : (0 : Int) ≤ (k : Int) := by omega
    have d2 : (k : Int) < 6 := h06.2
    clear h06 HN
    go_enter Tryd.func26, Tryd.ntmps26
    go_wp2_with fail
    refine ret_meta rfl rfl (Blk.new w _ _) ?_
    refine ⟨?_, (Below.refl _ _).alloc (Nat.le_refl _) _⟩
    rw [HR.out]
    exact ⟨none, 0, none, 0, rfl, rdI_nil, rdI_nil⟩
end Go.Proofs.YtbamdibpkkponaaDoor
