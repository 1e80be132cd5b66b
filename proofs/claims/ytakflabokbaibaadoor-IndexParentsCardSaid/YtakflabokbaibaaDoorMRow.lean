/- The reference's list of blocks of pointers, as it lies in memory. -/
import Derived.Test.YtakflabokbaibaaDoorRowK
import Derived.Test.YtakflabokbaibaaDoorMeW
set_option linter.unusedVariables false
set_option linter.unusedSimpArgs false
namespace Go.Proofs.YtakflabokbaibaaDoor
open Go.RowKit

theorem etyMeta : EtyK Tryd.prog 53 41 (.agg #[.int .i64 0, .int .i64 0, .int .i64 0, .int .i64 0, .slice none 0 0, .slice none 0 0]) 6 80 := EtyK.mk' Tryd.underlying53 (by kernel_rfl) (by kernel_rfl) (by decide) (by decide)
/-- A list of integers that is only read. -/
abbrev RdI (w : World) (A : Option Addr) (n : Nat) (l : List Int) : Prop := NRow w 0 A n l
/-- The cells of one of them. -/
def metaV (m : MetaL) (A1 : Option Addr) (c1 : Nat) (A2 : Option Addr) (c2 : Nat) : List Value := [.int .i64 m.n, .int .i64 (m.level : Int), .int .i64 (m.first : Int), .int .i64 (m.p.root : Int), .slice A1 m.p.metas.length c1, .slice A2 m.p.slots.length c2]
def metaC (w : World) (x : List Value) (m : MetaL) : Prop := ∃ A1 c1 A2 c2, x = metaV m A1 c1 A2 c2 ∧ RdI w A1 m.p.metas.length m.p.metas ∧ RdI w A2 m.p.slots.length (natsI m.p.slots)
/-- The list in a row of the call's own. -/
def MRow (w : World) (base : Nat) (A : Option Addr) (n c : Nat) (ms : List MetaL) : Prop := ∃ cs : List (List Value), ms.length = n ∧ cs.length = n ∧ w.ownsRow base 41 6 (.slice A n c) n cs.flatten ∧ ∀ (j : Nat) (x : List Value) (m : MetaL), cs[j]? = some x → ms[j]? = some m → metaC w x m
theorem metaC.below {w w' : World} {x : List Value} {m : MetaL} (h : metaC w x m) (hb : Below w.heap.size w w') : metaC w' x m := by
  obtain ⟨A1, c1, A2, c2, e, h1, h2⟩ := h
  exact ⟨A1, c1, A2, c2, e, h1.below hb, h2.below hb⟩
theorem rdI_gr {w w' : World} {base : Nat} {A : Option Addr} {n k : Nat} {l : List Int} {v : Value} {xs : List Value} (h : RdI w A n l) (ho : w.ownsRow base 41 6 v k xs) (hg : w.grownBy w' v.ownBlock) : RdI w' A n l := by
  refine ⟨h.1, ?_⟩
  rcases h.2 with h0 | ⟨g, cur, rfl, h1, h2, h3⟩
  · exact .inl h0
  · refine .inr ⟨g, cur, rfl, h1, blk_gr h2 hg (fun e => ?_), h3⟩
    rcases ho.2 with ⟨rfl, -⟩ | ⟨g', cap, cur', rfl, -, h5, -⟩
    · cases e
    · simp only [Value.ownBlock, Option.some.injEq] at e
      subst e
      have h6 : some (Obj.cells cur 3) = some (Obj.cells cur' 41) := h2.symm.trans h5
      simp at h6
theorem metaC.gr {w w' : World} {base k : Nat} {x : List Value} {m : MetaL} {v : Value} {xs : List Value} (h : metaC w x m) (ho : w.ownsRow base 41 6 v k xs) (hg : w.grownBy w' v.ownBlock) : metaC w' x m := by
  obtain ⟨A1, c1, A2, c2, e, h1, h2⟩ := h
  exact ⟨A1, c1, A2, c2, e, rdI_gr h1 ho hg, rdI_gr h2 ho hg⟩
theorem MRow.below {w w' : World} {base n c : Nat} {A : Option Addr} {ms : List MetaL} (h : MRow w base A n c ms) (hb : Below w.heap.size w w') : MRow w' base A n c ms := by
  obtain ⟨cs, h1, h2, h3, h4⟩ := h
  exact ⟨cs, h1, h2, own_bel h3 hb, fun j x m hx hm => (h4 j x m hx hm).below hb⟩
theorem MRow.base {w : World} {base base' n c : Nat} {A : Option Addr} {ms : List MetaL} (h : MRow w base A n c ms) (hb : base' ≤ base) : MRow w base' A n c ms := by
  obtain ⟨cs, h1, h2, h3, h4⟩ := h
  exact ⟨cs, h1, h2, own_bq h3 hb, h4⟩
theorem MRow.nil {w : World} {base : Nat} : MRow w base none 0 0 [] := ⟨[], rfl, rfl, World.ownsRow_nil _ _ _ _, by simp⟩
theorem MRow.len {w : World} {base n c : Nat} {A : Option Addr} {ms : List MetaL} (h : MRow w base A n c ms) : ms.length = n := by
  obtain ⟨cs, h1, -⟩ := h; exact h1
theorem metaC.one {w : World} {x : List Value} {m : MetaL} (h : metaC w x m) : x.length = 6 ∧ ∀ u ∈ x, u.oneCell' = true := by
  obtain ⟨A1, c1, A2, c2, rfl, -, -⟩ := h
  refine ⟨rfl, fun u hu => ?_⟩
  simp only [metaV, List.mem_cons, List.not_mem_nil, or_false] at hu
  rcases hu with rfl | rfl | rfl | rfl | rfl | rfl <;> rfl
theorem MRow.cells_one {w : World} {cs : List (List Value)} {ms : List MetaL} (hl : ms.length = cs.length) (h : ∀ (j : Nat) (x : List Value) (m : MetaL), cs[j]? = some x → ms[j]? = some m → metaC w x m) : (∀ x ∈ cs, x.length = 6) ∧ ∀ u ∈ cs.flatten, u.oneCell' = true := by
  have hx : ∀ x ∈ cs, ∃ m, metaC w x m := fun x hx => by
    obtain ⟨j, hj, e⟩ := List.getElem_of_mem hx
    exact ⟨ms[j]'(by omega), h j x _ (by rw [List.getElem?_eq_getElem hj, e]) (List.getElem?_eq_getElem (by omega))⟩
  refine ⟨fun x h => by obtain ⟨m, hm⟩ := hx x h; exact hm.one.1, fun u hu => ?_⟩
  obtain ⟨x, hxm, hux⟩ := List.mem_flatten.1 hu
  obtain ⟨m, hm⟩ := hx x hxm
  exact hm.one.2 u hux
/-- One list behind another one. -/
theorem MRow.app {w : World} {base base' n c m c' : Nat} {A A' : Option Addr} {ms ns : List MetaL} {ty : TypeId} (h : MRow w base A n c ms) (h' : MRow w base' A' m c' ns) (hb : base ≤ w.heap.size) (hn : n + m ≤ 100000) :
    ∃ A2 c2 w', (Builtin.append_ #[53, 53] ty #[.slice A n c, .slice A' m c']).run Tryd.prog w = .ok (.slice A2 (n + m) c2) w' ∧ MRow w' base A2 (n + m) c2 (ms ++ ns) ∧ w.grownBy w' (Value.slice A n c).ownBlock := by
  obtain ⟨cs, h1, h2, h3, h4⟩ := h
  obtain ⟨ds, g1, g2, g3, g4⟩ := h'
  obtain ⟨k1, k2⟩ := MRow.cells_one (by omega) g4
  obtain ⟨A2, c2, w', hrun, r1, r2, r3⟩ := run_appK w (ty := ty) etyMeta base _ n _ h3 _ A' m c' ds.flatten (SlC.of_own g3) k2 (by omega) hb
  refine ⟨A2, c2, w', hrun, ⟨cs ++ ds, by rw [List.length_append]; omega, by rw [List.length_append]; omega, by rw [List.flatten_append]; exact r1, fun j x mm hx hm => ?_⟩, r2⟩
  rcases Nat.lt_or_ge j n with hj | hj
  · rw [List.getElem?_append_left (by omega)] at hx hm
    exact (h4 j x mm hx hm).gr h3 r2
  · rw [List.getElem?_append_right (by omega)] at hx hm
    rw [h2] at hx
    rw [h1] at hm
    exact (g4 _ x mm hx hm).gr h3 r2
theorem step_mapp {ops : Array Oper} {o : Oper} {a : Act} {w : World} {K : Act → World → Prop} {Q : Exit → Act → World → Prop} {E : Prop} (hgd : o.guard = none) (s x : Operand)
    (ho : o.op = .call { callee := .builtin .append, args := #[s, x], argTypes := #[53, 53] }) (base base' : Nat) (A A' : Option Addr) (n c m c' : Nat) (ms ns : List MetaL)
    (hs : a.eval s = .slice A n c) (hx : a.eval x = .slice A' m c') (h : MRow w base A n c ms) (h' : MRow w base' A' m c' ns) (hb : base ≤ w.heap.size) (hn : n + m ≤ 100000)
    (hK : ∀ A2 c2 w', MRow w' base A2 (n + m) c2 (ms ++ ns) → w.grownBy w' (Value.slice A n c).ownBlock → K (a.put o.dst (.slice A2 (n + m) c2)) w') :
    if Region.wanted o (yielded ops a.tmps) = true then Oper.wp Tryd.prog o a w K Q else E := by
  rw [if_pos (by simp [Region.wanted, hgd])]
  obtain ⟨A2, c2, w', hrun, h1, h2⟩ := MRow.app (ty := o.type) h h' hb hn
  unfold Oper.wp execOp
  simp only [ho, resolve, invoke, builtin, Sem.run_bind, Sem.run_pure, Result.andThen_ok, List.map_toArray, List.map_cons, List.map_nil, hs, hx, hrun]
  exact hK A2 c2 w' h1 h2
theorem wpList_mapp {ops : Array Oper} {rest : List Oper} {o : Oper} {a : Act} {w : World} {Q : Exit → Act → World → Prop} (hgd : o.guard = none) (s x : Operand)
    (ho : o.op = .call { callee := .builtin .append, args := #[s, x], argTypes := #[53, 53] }) (base base' : Nat) (A A' : Option Addr) (n c m c' : Nat) (ms ns : List MetaL)
    (hs : a.eval s = .slice A n c) (hx : a.eval x = .slice A' m c') (h : MRow w base A n c ms) (h' : MRow w base' A' m c' ns) (hb : base ≤ w.heap.size) (hn : n + m ≤ 100000)
    (hK : ∀ A2 c2 w', MRow w' base A2 (n + m) c2 (ms ++ ns) → w.grownBy w' (Value.slice A n c).ownBlock → wpList Tryd.prog ops Q rest (a.put o.dst (.slice A2 (n + m) c2)) w') : wpList Tryd.prog ops Q (o :: rest) a w := by
  refine wpList_plain hgd fun K' hK' => ?_
  obtain ⟨A2, c2, w', hrun, h1, h2⟩ := MRow.app (ty := o.type) h h' hb hn
  unfold Oper.wp execOp
  simp only [ho, resolve, invoke, builtin, Sem.run_bind, Sem.run_pure, Result.andThen_ok, List.map_toArray, List.map_cons, List.map_nil, hs, hx, hrun]
  exact hK' _ _ (hK A2 c2 w' h1 h2)
theorem MRow.own {w : World} {base n c : Nat} {A : Option Addr} {ms : List MetaL} (h : MRow w base A n c ms) : ∃ xs, w.ownsRow base 41 6 (.slice A n c) n xs := by
  obtain ⟨cs, -, -, h3, -⟩ := h; exact ⟨_, h3⟩
theorem flatten_get {α : Type} {k : Nat} : ∀ (cs : List (List α)), (∀ x ∈ cs, x.length = k) → ∀ (i j : Nat), j < k → cs.flatten[i * k + j]? = cs[i]?.bind fun x => x[j]?
  | [], _, i, j, _ => by simp
  | x :: cs, h, i, j, hj => by
    have hx := h x (by simp)
    rw [List.flatten_cons]
    cases i with
    | zero => rw [List.getElem?_append_left (by rw [hx]; omega)]; simp
    | succ i =>
      rw [List.getElem?_append_right (by rw [hx, Nat.succ_mul]; omega), hx, show (i + 1) * k + j - k = i * k + j by rw [Nat.succ_mul]; omega, flatten_get cs (fun y hy => h y (by simp [hy])) i j hj]
      simp
/-- One of the list. -/
theorem MRow.at {w : World} {base n c j : Nat} {A : Option Addr} {ms : List MetaL} (h : MRow w base A n c ms) (hj : j < n) : ∃ g m A1 c1 A2 c2, A = some ⟨g, 0, none⟩ ∧ base ≤ g ∧ g < w.heap.size ∧ ms[j]? = some m ∧ RdI w A1 m.p.metas.length m.p.metas ∧ RdI w A2 m.p.slots.length (natsI m.p.slots) ∧
    ∀ (k : Nat) (u : Value), (metaV m A1 c1 A2 c2)[k]? = some u → w.cell? ⟨g, j * 6 + k, none⟩ = some u := by
  obtain ⟨cs, h1, h2, h3, h4⟩ := h
  have hm : ms[j]? = some (ms[j]'(by omega)) := List.getElem?_eq_getElem _
  have hx : cs[j]? = some (cs[j]'(by omega)) := List.getElem?_eq_getElem _
  obtain ⟨A1, c1, A2, c2, e, r1, r2⟩ := h4 j _ _ hx hm
  obtain ⟨k1, -⟩ := MRow.cells_one (by omega) h4
  rcases h3.2 with ⟨-, h0⟩ | ⟨g, cap, cur, hv, hg, hB, hnc, hcm, hcs, ht⟩
  · omega
  · injection hv with hv1 _ _
    subst hv1
    refine ⟨g, _, A1, c1, A2, c2, rfl, hg, (h3.lt g rfl).2, hm, r1, r2, fun k u hu => ?_⟩
    have hk : k < 6 := (List.getElem?_eq_some_iff.1 hu).1
    have h5 := flatten_get cs k1 j k hk
    rw [hx] at h5
    simp only [Option.bind_some] at h5
    rw [e, hu, ← ht, List.getElem?_take] at h5
    split at h5
    · rw [show w.cell? ⟨g, j * 6 + k, none⟩ = cur[j * 6 + k]? from cell_of_row w g _ cur _ (0, 0) hB]
      simpa using h5
    · cases h5
end Go.Proofs.YtakflabokbaibaaDoor
