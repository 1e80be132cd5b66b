/- append onto a row of the call's own whose elements have k cells; the source nil, empty or not. -/
import Derived.Test.YtopjkpopdffkeaaDoorInts
set_option linter.unusedVariables false
set_option linter.unusedSimpArgs false
namespace Go.Proofs.YtopjkpopdffkeaaDoor
open Go.RowKit

structure EtyK (P : Program) (t e : TypeId) (z : Value) (k bytes : Nat) : Prop where
  under : P.underlying t = some (.slice e)
  info : ∃ i, P.info? e = some i ∧ i.zero = some z ∧ i.size = k ∧ i.bytes = bytes
  cells : z.cells.size = k
  kpos : 0 < k
  pos : 0 < bytes
theorem EtyK.mk' {P : Program} {t e : TypeId} {z : Value} {k bytes : Nat} (ht : P.underlying t = some (.slice e))
    (h : (P.info? e).map (fun i => (i.zero, i.size, i.bytes)) = some (some z, k, bytes)) (h1 : z.cells.size = k) (hk : 0 < k) (hp : 0 < bytes) : EtyK P t e z k bytes := by
  obtain ⟨i, hi, h0, h1', h2⟩ := info_parts h
  exact ⟨ht, ⟨i, hi, h0, h1', h2⟩, h1, hk, hp⟩
theorem own_formK {w : World} {base n k : Nat} {e : TypeId} {v : Value} {xs : List Value} (h : w.ownsRow base e k v n xs) : ∃ A c, v = .slice A n c ∧ n ≤ c ∧ c ≤ maxLen := by
  rcases h.2 with ⟨rfl, rfl⟩ | ⟨g, cap, cur, rfl, _, _, h1, h2, _, _⟩
  · exact ⟨none, 0, rfl, Nat.le_refl _, by simp [maxLen]⟩
  · exact ⟨_, cap, rfl, h1, h2⟩
/-- What a slice of elements of k cells holds, all cells one behind the other. -/
structure SlC (w : World) (B : Nat) (A : Option Addr) (m k : Nat) (xs : List Value) : Prop where
  len : xs.length = m * k
  cells : ∀ (j : Nat) (u : Value), xs[j]? = some u → ∃ ad, A = some ad ∧ ad.block < B ∧ w.cell? (ad.add j) = some u
theorem SlC.of_own {w : World} {base n c k : Nat} {e : TypeId} {A : Option Addr} {xs : List Value} (h : w.ownsRow base e k (.slice A n c) n xs) : SlC w w.heap.size A n k xs := by
  refine ⟨h.1, fun j u hu => ?_⟩
  rcases h.2 with ⟨h1, h2⟩ | ⟨g, cap, cur, h1, _, hg, hnc, hcm, hcs, ht⟩
  · have := h.1
    subst h2
    have : xs = [] := List.eq_nil_of_length_eq_zero (by omega)
    subst this
    simp at hu
  · injection h1 with h1 _ _
    subst h1
    exact ⟨_, rfl, (h.lt g rfl).2, h.cells (g := g) rfl j u hu⟩
theorem SlC.below {w w' : World} {B m k : Nat} {A : Option Addr} {xs : List Value} (h : SlC w B A m k xs) (hb : Below B w w') : SlC w' B A m k xs :=
  ⟨h.len, fun j u hu => by
    obtain ⟨ad, e, hB, hc⟩ := h.cells j u hu
    exact ⟨ad, e, hB, (hb.cell (by rw [addr_block]; exact hB)).trans hc⟩⟩
theorem run_appK {P : Program} (w : World) {t ty e : TypeId} {z : Value} {k bytes : Nat} (hE : EtyK P t e z k bytes) (base : Nat) (v : Value) (n : Nat) (xs : List Value) (hown : w.ownsRow base e k v n xs)
    (B : Nat) (A : Option Addr) (m c : Nat) (news : List Value) (hr : SlC w B A m k news) (h1 : ∀ u ∈ news, u.oneCell' = true)
    (hbytes : (n + m) * bytes ≤ 140737488355328) (hbase : base ≤ w.heap.size) :
    ∃ A' c' w', (Builtin.append_ #[t, t] ty #[v, .slice A m c]).run P w = .ok (.slice A' (n + m) c') w' ∧ w'.ownsRow base e k (.slice A' (n + m) c') (n + m) (xs ++ news) ∧
      w.grownBy w' v.ownBlock ∧ ((Value.slice A' (n + m) c').ownBlock = v.ownBlock ∨ (Value.slice A' (n + m) c').ownBlock = some w.heap.size) := by
  obtain ⟨i, hi, hz, hs, hb⟩ := hE.info
  have hle : n + m ≤ 140737488355328 := Nat.le_trans (Nat.le_mul_of_pos_right _ hE.pos) hbytes
  have h63 : n + m ≤ maxLen := by simp only [maxLen]; omega
  rcases A with _ | ad
  · have hm : m = 0 := by
      rcases Nat.eq_zero_or_pos m with h0 | h0
      · exact h0
      · have hp := Nat.mul_pos h0 hE.kpos
        have hl := hr.len
        obtain ⟨ad, h, -⟩ := hr.cells 0 _ (List.getElem?_eq_getElem (by omega))
        cases h
    subst hm
    have hn : news = [] := List.eq_nil_of_length_eq_zero (by rw [hr.len]; omega)
    subst hn
    obtain ⟨A, c1, rfl, _, _⟩ := own_formK hown
    refine ⟨A, c1, w, ?_, by simpa using hown, ⟨rfl, rfl, rfl, Nat.le_refl _, fun _ _ _ => rfl⟩, .inl rfl⟩
    rcases hown.2 with ⟨hv, rfl⟩ | ⟨g, cap, cur, hv, _, _, hnc, _⟩
    · injection hv with hv1 _ hv2
      subst hv1 hv2
      simp [Builtin.append_, run_underlying hE.under, sizeOf, typeInfo, hi, Builtin.lenOf, Builtin.firstCells]
    · injection hv with hv1 _ hv2
      subst hv1 hv2
      simp [Builtin.append_, run_underlying hE.under, sizeOf, typeInfo, hi, Builtin.lenOf, Builtin.firstCells, hnc, storeCells]
  · have hcells : ∀ j u, news[j]? = some u → w.cell? (ad.add j) = some u := by
      intro j u hu
      obtain ⟨ad', h, _, hc⟩ := hr.cells j u hu
      injection h with h
      subst h
      exact hc
    obtain ⟨v', w', hrun, h2, h3, _, h5⟩ := run_append_own_at (P := P) w base t ty e i z k bytes hE.under hi hz hs hb hE.cells hE.kpos v n xs hown ad m c news hr.len hcells h1 h63 hbytes hbase
    obtain ⟨A', c', rfl, _, _⟩ := own_formK h2
    exact ⟨A', c', w', hrun, h2, h3, h5⟩
/-- A slice of one element that the text writes out; one of none. -/
theorem one_slice {P : Program} {t e : TypeId} {z : Value} {k bytes : Nat} (hE : EtyK P t e z k bytes) (w : World) (xs : Array Value) (h : xs.size = k) (hk5 : k ≤ 1000) :
    (Instr.buildSlice t 1 #[(0, .agg xs)]).run P w = .ok (.slice (some ⟨w.heap.size, 0, none⟩) 1 1) (w.alloc (.cells xs e)) := by
  obtain ⟨ie, hi, h1, h2, h3⟩ := hE.info
  have hk := hE.kpos
  have hfill := Great.fill_whole (s := k) (by omega) [Value.agg xs] ((Array.range (1 * ie.size)).map (z.cells[· % z.cells.size]!)) (fun v hv => by
    rw [List.mem_singleton] at hv
    subst hv
    simp [Value.cells, h]) (by simp [h2])
  refine run_buildSlice w t e 1 _ xs ie _ hE.under hi h1 (by rw [h2]; omega) (by rw [h2]; omega) ?_
  rw [h2] at hfill ⊢
  simpa [Value.cells] using hfill
theorem no_slice {P : Program} {t e : TypeId} {z : Value} {k bytes : Nat} (hE : EtyK P t e z k bytes) (w : World) :
    (Instr.buildSlice t 0 #[]).run P w = .ok (.slice (some ⟨w.heap.size, 0, none⟩) 0 0) (w.alloc (.cells #[] e)) := by
  obtain ⟨ie, hi, h1, h2, h3⟩ := hE.info
  simp [Instr.buildSlice, run_underlying hE.under, sizeOf, typeInfo, hi, h2, Instr.fill, newRow, h1]
  congr 2
  exact Array.eq_empty_of_size_eq_zero (by simp)
theorem wpList_appK {P : Program} {w : World} {ops : Array Oper} {rest : List Oper} {o : Oper} {a : Act} {Q : Exit → Act → World → Prop} (hgd : o.guard = none) (s x : Operand) (t : TypeId)
    (ho : o.op = .call { callee := .builtin .append, args := #[s, x], argTypes := #[t, t] })
    {e : TypeId} {z : Value} {k bytes : Nat} (hE : EtyK P t e z k bytes) (base : Nat) (v : Value) (n : Nat) (xs : List Value) (hs : a.eval s = v) (hown : w.ownsRow base e k v n xs)
    (B : Nat) (A : Option Addr) (m c : Nat) (news : List Value) (hx : a.eval x = .slice A m c) (hr : SlC w B A m k news) (h1 : ∀ u ∈ news, u.oneCell' = true)
    (hbytes : (n + m) * bytes ≤ 140737488355328) (hbase : base ≤ w.heap.size)
    (h : ∀ A' c' w', w'.ownsRow base e k (.slice A' (n + m) c') (n + m) (xs ++ news) → w.grownBy w' v.ownBlock →
      ((Value.slice A' (n + m) c').ownBlock = v.ownBlock ∨ (Value.slice A' (n + m) c').ownBlock = some w.heap.size) → wpList P ops Q rest (a.put o.dst (.slice A' (n + m) c')) w') : wpList P ops Q (o :: rest) a w := by
  refine wpList_plain hgd fun K' hK' => ?_
  obtain ⟨A', c', w', hrun, h2, h3, h4⟩ := run_appK (P := P) w (ty := o.type) hE base v n xs hown B A m c news hr h1 hbytes hbase
  unfold Oper.wp execOp
  simp only [ho, resolve, invoke, builtin, Sem.run_bind, Sem.run_pure, Result.andThen_ok, List.map_toArray, List.map_cons, List.map_nil, hs, hx, hrun]
  exact hK' _ _ (h A' c' w' h2 h3 h4)
theorem slc_new (w : World) (l : List Value) (t : TypeId) {m k : Nat} (h : l.length = m * k) : SlC (w.alloc (.cells l.toArray t)) (w.heap.size + 1) (some ⟨w.heap.size, 0, none⟩) m k l := by
  refine ⟨h, fun i u hu => ⟨_, rfl, by simp, ?_⟩⟩
  rw [Addr.add_mid, Nat.zero_add, (Blk.new w _ _).cell]
  simpa using hu
theorem step_appK {P : Program} {w : World} {ops : Array Oper} {o : Oper} {a : Act} {K : Act → World → Prop} {Q : Exit → Act → World → Prop} {E : Prop} (hgd : o.guard = none) (s x : Operand) (t : TypeId)
    (ho : o.op = .call { callee := .builtin .append, args := #[s, x], argTypes := #[t, t] })
    {e : TypeId} {z : Value} {k bytes : Nat} (hE : EtyK P t e z k bytes) (base : Nat) (v : Value) (n : Nat) (xs : List Value) (hs : a.eval s = v) (hown : w.ownsRow base e k v n xs)
    (B : Nat) (A : Option Addr) (m c : Nat) (news : List Value) (hx : a.eval x = .slice A m c) (hr : SlC w B A m k news) (h1 : ∀ u ∈ news, u.oneCell' = true)
    (hbytes : (n + m) * bytes ≤ 140737488355328) (hbase : base ≤ w.heap.size)
    (h : ∀ A' c' w', w'.ownsRow base e k (.slice A' (n + m) c') (n + m) (xs ++ news) → w.grownBy w' v.ownBlock →
      ((Value.slice A' (n + m) c').ownBlock = v.ownBlock ∨ (Value.slice A' (n + m) c').ownBlock = some w.heap.size) → K (a.put o.dst (.slice A' (n + m) c')) w') :
    if Region.wanted o (yielded ops a.tmps) = true then Oper.wp P o a w K Q else E := by
  rw [if_pos (by simp [Region.wanted, hgd])]
  obtain ⟨A', c', w', hrun, h2, h3, h4⟩ := run_appK (P := P) w (ty := o.type) hE base v n xs hown B A m c news hr h1 hbytes hbase
  unfold Oper.wp execOp
  simp only [ho, resolve, invoke, builtin, Sem.run_bind, Sem.run_pure, Result.andThen_ok, List.map_toArray, List.map_cons, List.map_nil, hs, hx, hrun]
  exact h A' c' w' h2 h3 h4
end Go.Proofs.YtopjkpopdffkeaaDoor
