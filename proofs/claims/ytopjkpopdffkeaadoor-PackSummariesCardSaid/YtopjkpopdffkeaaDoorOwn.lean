/- Rows of the call's own: made whole, written in a place, cut, grown by zeros. -/
import Derived.Test.YtopjkpopdffkeaaDoorMem
import Derived.Lib.AppendZerosOnto
import Derived.Laws.MakeOwn
set_option linter.unusedVariables false
set_option linter.unusedSimpArgs false
namespace Go.Proofs.YtopjkpopdffkeaaDoor
open Go.RowKit

/-- A row that was built whole. -/
theorem own_built {w : World} {base n : Nat} {e : TypeId} (cur : Array Value) (hb : base ≤ w.heap.size) (hn : cur.size = n) (hm : n ≤ 9223372036854775807) :
    (w.alloc (.cells cur e)).ownsRow base e 1 (.slice (some ⟨w.heap.size, 0, none⟩) n n) n cur.toList := by
  refine ⟨by simp [hn], .inr ⟨w.heap.size, n, cur, rfl, hb, heap_alloc_new w _, Nat.le_refl _, by simp only [maxLen]; omega, by omega, ?_⟩⟩
  rw [List.take_of_length_le (by simp; omega)]
theorem own_drewN {w : World} {base n : Nat} {e : TypeId} {v : Value} {xs : List Value} (h : w.ownsRow base e 1 v n xs) (k : Nat) : (w.drewN k).ownsRow base e 1 v n xs := h
theorem own_base {w : World} {base base' n : Nat} {e : TypeId} {v : Value} {xs : List Value} (h : w.ownsRow base e 1 v n xs) (hb : base' ≤ base) : w.ownsRow base' e 1 v n xs := by
  refine ⟨h.1, ?_⟩
  rcases h.2 with h0 | ⟨g, cap, cur, h1, h2, h3⟩
  · exact .inl h0
  · exact .inr ⟨g, cap, cur, h1, by omega, h3⟩
theorem own_below {w w' : World} {B base n : Nat} {e : TypeId} {v : Value} {xs : List Value} (h : w.ownsRow base e 1 v n xs) (hb : Below B w w') (hv : ∀ g, v.ownBlock = some g → g < B) : w'.ownsRow base e 1 v n xs := by
  refine ⟨h.1, ?_⟩
  rcases h.2 with h0 | ⟨g, cap, cur, rfl, h2, h3, h4⟩
  · exact .inl h0
  · exact .inr ⟨g, cap, cur, rfl, h2, (hb.block g (hv g rfl)).trans h3, h4⟩
theorem own_lt {w : World} {base n : Nat} {e : TypeId} {v : Value} {xs : List Value} (h : w.ownsRow base e 1 v n xs) : ∀ g, v.ownBlock = some g → g < w.heap.size :=
  fun g hg => (h.lt g hg).2
/-- What an own row keeps while all below a later block number stays. -/
theorem own_keep {w w' : World} {base n : Nat} {e : TypeId} {v : Value} {xs : List Value} (h : w.ownsRow base e 1 v n xs) (hb : Below w.heap.size w w') : w'.ownsRow base e 1 v n xs :=
  own_below h hb (own_lt h)
/-- Its first k, with the room as it was. -/
theorem own_head {w : World} {base n c k : Nat} {e : TypeId} {A : Option Addr} {xs : List Value} (h : w.ownsRow base e 1 (.slice A n c) n xs) (hk : k ≤ n) :
    w.ownsRow base e 1 (.slice A k c) k (xs.take k) := by
  have h1 := h.1
  rcases h.2 with ⟨h0, rfl⟩ | ⟨g, cap, cur, h2, h3, h4, h5, h6, h7, h8⟩
  · have : k = 0 := by omega
    subst this
    exact ⟨by simp, .inl ⟨h0, rfl⟩⟩
  · injection h2 with e1 e2 e3
    subst e1 e3
    refine ⟨by rw [List.length_take]; omega, .inr ⟨g, c, cur, rfl, h3, h4, by omega, h6, h7, ?_⟩⟩
    rw [← h8, List.take_take, Nat.mul_one, Nat.mul_one, Nat.min_eq_left (by omega)]
/-- A place of an own row: its cell may be written, and the row then reads so. -/
theorem own_at {w : World} {base n c k : Nat} {e : TypeId} {A : Option Addr} {xs : List Value} (h : w.ownsRow base e 1 (.slice A n c) n xs) (hk : k < n) :
    ∃ ad u, A = some ad ∧ base ≤ ad.block ∧ ad.block < w.heap.size ∧ xs[k]? = some u ∧ w.cell? (ad.add k) = some u ∧ w.frozen? (ad.add k) = false ∧
      ∀ v, (w.setCell (ad.add k) v).ownsRow base e 1 (.slice A n c) n (xs.set k v) := by
  have h1 := h.1
  rcases h.2 with ⟨h0, rfl⟩ | ⟨g, cap, cur, h2, h3, h4, h5, h6, h7, h8⟩
  · omega
  · injection h2 with e1 e2 e3
    subst e1 e3
    have hadd : (Addr.mk g 0 none).add k = ⟨g, k, none⟩ := by unfold Addr.add; split <;> simp_all
    have hx : xs[k]? = some (xs[k]'(by omega)) := List.getElem?_eq_getElem (by omega)
    refine ⟨_, _, rfl, h3, own_lt h g rfl, hx, h.cells (g := g) rfl k _ hx, ?_, fun v => ⟨by rw [List.length_set]; omega, .inr ⟨g, c, cur.setIfInBounds k v, rfl, h3, ?_, h5, h6, by simp [h7], ?_⟩⟩⟩
    · rw [hadd]
      simp [World.frozen?, h4]
    · rw [hadd]
      simp [World.setCell, Array.getElem?_modify, h4]
    · rw [Array.toList_setIfInBounds, List.take_set, h8]
theorem bel_set {B : Nat} {a w : World} (h : Below B a w) {p : Addr} (hp : B ≤ p.block) (k : Nat) (u : Value) : Below B a (w.setCell (p.add k) u) :=
  h.setCell (by rw [addr_block]; exact hp) u

section
variable {P : Program} (w : World)
theorem zeroCells_one {z : Value} (h : z.cells.size = 1) (hz : z.cells = #[z]) (m : Nat) : Builtin.zeroCells z.cells m = (List.replicate m z).toArray := by
  apply Array.ext
  · simp [size_zeroCells, h]
  · intro i h1 h2
    simp [Builtin.zeroCells, hz]
    simp only [Nat.mod_one]
    rfl
/-- append of so many zeros onto a row of the call's own. -/
theorem run_app_zeros {t tn ty e : TypeId} {z : Value} {bytes : Nat} {kn kq : IntKind} (hE : Ety P t e z bytes) (hzc : z.cells = #[z]) (hz1 : z.oneCell' = true) (htn : P.underlying tn = some (.int kn))
    (base : Nat) (v : Value) (n : Nat) (xs : List Value) (hown : w.ownsRow base e 1 v n xs) (m : Nat)
    (hbytes : (n + m) * bytes ≤ 140737488355328) (hbase : base ≤ w.heap.size) :
    ∃ A' c' w', (Builtin.append_ #[t, tn] ty #[v, .int kq (m : Int)]).run P w = .ok (.slice A' (n + m) c') w' ∧ w'.ownsRow base e 1 (.slice A' (n + m) c') (n + m) (xs ++ List.replicate m z) ∧
      w.grownBy w' v.ownBlock ∧ ((Value.slice A' (n + m) c').ownBlock = v.ownBlock ∨ (Value.slice A' (n + m) c').ownBlock = some w.heap.size) := by
  obtain ⟨i, hi, hz, hs, hb⟩ := hE.info
  have hp := hE.pos
  have hle : n + m ≤ 140737488355328 := Nat.le_trans (Nat.le_mul_of_pos_right _ hE.pos) hbytes
  have h63 : n + m ≤ maxLen := by simp only [maxLen]; omega
  have hmb : m * bytes ≤ 140737488355328 := Nat.le_trans (Nat.mul_le_mul_right _ (by omega)) hbytes
  have hw : IntKind.i64.wrap (m : Int) = m := by rw [IntKind.wrap_i64]; omega
  have hneg : ¬ ((m : Int) < 0) := by omega
  have h48i : ¬ (281474976710656 < (m : Int) * (i.bytes : Int)) := by
    rw [hb, ← Int.natCast_mul]; omega
  have h1 := hown.1
  rcases hown.2 with ⟨rfl, rfl⟩ | ⟨g, cap, cur, rfl, hbg, hg, hnc, hcm, hcs, htake⟩
  · have hx : xs = [] := List.eq_nil_of_length_eq_zero (by omega)
    subst hx
    by_cases hm : m = 0
    · subst hm
      refine ⟨none, 0, w, ?_, World.ownsRow_nil w base e 1, ⟨rfl, rfl, rfl, Nat.le_refl _, fun _ _ _ => rfl⟩, .inl rfl⟩
      have hw0 : IntKind.i64.wrap 0 = 0 := rfl
      simp [Builtin.append_, run_underlying hE.under, run_underlying htn, sizeOf, typeInfo, hi, asInt, asIntOf, hw0]
    · have hr := Lib.run_append_nil_zeros (P := P) w t tn ty e i z kq kn hE.under htn hi hz m (by omega) (by omega) (by omega) (by rw [hb]; omega)
      have hge := grownCap_ge w m 0 e
      have hcm := grownCap_le_maxLen w m 0 e (by omega)
      simp only [Nat.zero_add, List.nil_append]
      refine ⟨_, _, _, hr, ⟨by simp, .inr ⟨w.heap.size, _, _, rfl, hbase, heap_alloc_new w.drew _, hge, hcm, ?_, ?_⟩⟩, ⟨rfl, rfl, rfl, by simp, fun k hk _ => heap_alloc_old w.drew _ hk⟩, .inr rfl⟩
      · simp [size_zeroCells, hE.one]; omega
      · rw [zeroCells_one hE.one hzc, zeroCells_one hE.one hzc]
        simp [hge]
  · by_cases hroom : n + m ≤ cap
    · have hst := run_storeCells_at P g n e (List.replicate m z) 0 cur w hg (by simp; omega) (by intro u hu; rw [(List.mem_replicate.1 hu).2]; exact hz1)
      simp only [Nat.add_zero] at hst
      have hz0 : Builtin.zeroCells z.cells m = (List.replicate m z).toArray := zeroCells_one hE.one hzc m
      refine ⟨some ⟨g, 0, none⟩, cap, w.setRow g (cur.toList.take n ++ List.replicate m z ++ cur.toList.drop (n + m)).toArray, ?_, ⟨by simp [h1], .inr ⟨g, cap, _, rfl, hbg, setRow_heap w g cur _ e _ hg, hroom, hcm, ?_, ?_⟩⟩, ⟨rfl, rfl, rfl, by simp, fun k hk hne => setRow_other w g k _ (fun e => hne (by simp [Value.ownBlock, e]))⟩, .inl rfl⟩
      · by_cases hm : m = 0
        · subst hm
          have hsame : w.setRow g (cur.toList.take n ++ List.replicate 0 z ++ cur.toList.drop (n + 0)).toArray = w := by
            simp at hst
            simpa [storeCells] using hst.symm
          rw [hsame]
          have hw0 : IntKind.i64.wrap 0 = 0 := rfl
          simp [Builtin.append_, run_underlying hE.under, run_underlying htn, sizeOf, typeInfo, hi, asInt, asIntOf, hw0, hnc, storeCells]
        · simp at hst
          have hb' : ¬ (281474976710656 < (m : Int) * (bytes : Int)) := by rw [← hb]; exact h48i
          simp [Builtin.append_, run_underlying hE.under, run_underlying htn, sizeOf, typeInfo, zeroValue, hi, hz, hs, hb, hb', asInt, asIntOf, hw, hneg, hroom, hm, Addr.add_lit, hz0, hst]
      · simp; omega
      · have hxl : xs.length = n := by omega
        have ht : cur.toList.take n = xs := by simpa using htake
        rw [ht, List.append_assoc, ← List.append_assoc]
        rw [List.take_left' (by simp [hxl])]
    · have hold : (Builtin.firstCells i.size n (.slice (some ⟨g, 0, none⟩) n cap)).run P w.drew = .ok xs.toArray w.drew := by
        have := run_firstCells_some (P := P) w.drew i.size n ⟨g, 0, none⟩ n cap xs (by rw [hs]; exact h1) (hown.cells (g := g) rfl)
        simpa using this
      have hfit : Builtin.nextslicecap (n + m) cap * i.bytes ≤ 281474976710656 := by
        have : Builtin.nextslicecap (n + m) cap ≤ 2 * (n + m) := by
          have := nextslicecap_le (need := n + m) (old := cap) (by omega)
          omega
        rw [hb]
        calc Builtin.nextslicecap (n + m) cap * bytes ≤ 2 * (n + m) * bytes := Nat.mul_le_mul_right _ this
          _ = 2 * ((n + m) * bytes) := Nat.mul_assoc _ _ _
          _ ≤ 281474976710656 := by omega
      have hr := Lib.run_append_grow_zeros (P := P) w t tn ty e i z kq kn hE.under htn hi hz (some ⟨g, 0, none⟩) n cap xs hold m (by omega) (by omega) (by omega) (by omega) (by rw [hb]; omega) hfit
      have hge := grownCap_ge w (n + m) cap e
      have hcm' := grownCap_le_maxLen w (n + m) cap e h63
      refine ⟨_, _, _, hr, ⟨by simp [h1], .inr ⟨w.heap.size, _, _, rfl, hbase, heap_alloc_new w.drew _, hge, hcm', ?_, ?_⟩⟩, ⟨rfl, rfl, rfl, by simp, fun k hk _ => heap_alloc_old w.drew _ hk⟩, .inr rfl⟩
      · simp [size_zeroCells, hE.one]; omega
      · rw [zeroCells_one hE.one hzc, zeroCells_one hE.one hzc]
        simp
        rw [← List.replicate_append_replicate, ← List.append_assoc, List.take_left' (by simp; omega)]
end

/-- So many of one value. -/
def zs (z : Value) (n : Nat) : Array Value := (List.replicate n z).toArray
theorem zs_size (z : Value) (n : Nat) : (zs z n).size = n := by simp [zs]
theorem madeCells_zs {z : Value} (h : z.cells.size = 1) (hz : z.cells = #[z]) (n : Nat) : madeCells z.cells n = zs z n := by
  apply Array.ext
  · simp [madeCells, zs]
  · intro i h1 h2
    simp [madeCells, hz, zs]
    simp only [Nat.mod_one]
    rfl
/-- make, a length and a room. -/
theorem run_mk {P : Program} {t e : TypeId} {z : Value} {bytes : Nat} (hE : Ety P t e z bytes) (hzc : z.cells = #[z]) (kl kc : IntKind) (n c : Nat) (hnc : n ≤ c) (hb : c * bytes ≤ 140737488355328) (w : World) :
    (Instr.makeSlice t (.int kl (n : Int)) (.int kc (c : Int))).run P w = .ok (.slice (some ⟨w.heap.size, 0, none⟩) n c) (w.alloc (.cells (zs z c) e)) := by
  obtain ⟨i, hi, hz, hs, hby⟩ := hE.info
  have hle : c ≤ 140737488355328 := Nat.le_trans (Nat.le_mul_of_pos_right _ hE.pos) hb
  have hbI : (i.bytes : Int) * (c : Int) ≤ 281474976710656 := by
    rw [hby, ← Int.natCast_mul, Nat.mul_comm]; omega
  have hr := run_make (P := P) w t e i z hE.under hi hz kl kc n c (by omega) (by omega) hbI (by omega)
  simp only [Int.toNat_natCast, hs, Nat.mul_one] at hr
  rw [hr, madeCells_zs hE.one hzc]
theorem own_mk {w : World} {base n c : Nat} {e : TypeId} {z : Value} (hb : base ≤ w.heap.size) (hnc : n ≤ c) (hm : c ≤ 9223372036854775807) :
    (w.alloc (.cells (zs z c) e)).ownsRow base e 1 (.slice (some ⟨w.heap.size, 0, none⟩) n c) n (List.replicate n z) := by
  refine ⟨by simp, .inr ⟨w.heap.size, c, _, rfl, hb, heap_alloc_new w _, hnc, by simp only [maxLen]; omega, by rw [zs_size]; omega, ?_⟩⟩
  simp [zs, hnc]

section
variable {P : Program} (w : World)
/-- append onto a slice that has no room for it: new memory. -/
theorem run_app_new {t ty e : TypeId} {z : Value} {bytes : Nat} (hE : Ety P t e z bytes) {B0 : Nat} (b : Addr) (n c : Nat) (xs : List Value) (hx : Sl w B0 (some b) n xs)
    {B : Nat} (A : Option Addr) (m c' : Nat) (news : List Value) (hr : Sl w B A m news) (hnc : n ≤ c) (hg : c < n + m) (hbytes : (n + m) * bytes ≤ 140737488355328) :
    ∃ A' c'' w', (Builtin.append_ #[t, t] ty #[.slice (some b) n c, .slice A m c']).run P w = .ok (.slice A' (n + m) c'') w' ∧ w'.ownsRow w.heap.size e 1 (.slice A' (n + m) c'') (n + m) (xs ++ news) ∧ Below w.heap.size w w' := by
  obtain ⟨i, hi, hz, hs, hb⟩ := hE.info
  have hle : n + m ≤ 140737488355328 := Nat.le_trans (Nat.le_mul_of_pos_right _ hE.pos) hbytes
  have h63 : n + m ≤ maxLen := by simp only [maxLen]; omega
  obtain ⟨ad, _, rfl, _⟩ := hr.get (show 0 < m by omega)
  have hnews : ∀ j u, news[j]? = some u → w.cell? (ad.add j) = some u := by
    intro j u hu
    obtain ⟨ad', h, _, hc⟩ := hr.cells j u hu
    injection h with h
    subst h
    exact hc
  have holds : ∀ j u, xs[j]? = some u → w.cell? (b.add j) = some u := by
    intro j u hu
    obtain ⟨ad', h, _, hc⟩ := hx.cells j u hu
    injection h with h
    subst h
    exact hc
  have h := run_append_grow (P := P) w t ty e i z hE.under hi hz b n c xs (by rw [hs, hx.len]; omega) holds ad m c' news (by rw [hs, hr.len]; omega) hnews hg (by omega) (by rw [hb]; exact growslice_fits (by omega) hbytes)
  have hge := grownCap_ge w (n + m) c e
  have hcm := grownCap_le_maxLen w (n + m) c e h63
  refine ⟨_, _, _, h, ⟨by rw [List.length_append, hx.len, hr.len]; omega, .inr ⟨w.heap.size, _, _, rfl, Nat.le_refl _, heap_alloc_new w.drew _, hge, hcm, ?_, ?_⟩⟩, ⟨rfl, rfl, rfl, by simp, fun k hk => heap_alloc_old w.drew _ hk⟩⟩
  · simp [size_zeroCells, hE.one, hx.len, hr.len]; omega
  · simp only [Array.toList_append, List.append_assoc, Nat.mul_one]
    rw [← List.append_assoc, List.take_left' (by rw [List.length_append, hx.len, hr.len])]
theorem wpList_app_new {ops : Array Oper} {rest : List Oper} {o : Oper} {a : Act} {Q : Exit → Act → World → Prop} (hgd : o.guard = none) (s x : Operand) (t : TypeId)
    (ho : o.op = .call { callee := .builtin .append, args := #[s, x], argTypes := #[t, t] })
    {e : TypeId} {z : Value} {bytes : Nat} (hE : Ety P t e z bytes) (B0 : Nat) (b : Addr) (n c : Nat) (xs : List Value) (hs : a.eval s = .slice (some b) n c) (hx : Sl w B0 (some b) n xs)
    (B : Nat) (A : Option Addr) (m c' : Nat) (news : List Value) (hxe : a.eval x = .slice A m c') (hr : Sl w B A m news) (hnc : n ≤ c) (hg : c < n + m) (hbytes : (n + m) * bytes ≤ 140737488355328)
    (h : ∀ A' c'' w', w'.ownsRow w.heap.size e 1 (.slice A' (n + m) c'') (n + m) (xs ++ news) → Below w.heap.size w w' → wpList P ops Q rest (a.put o.dst (.slice A' (n + m) c'')) w') : wpList P ops Q (o :: rest) a w := by
  refine wpList_plain hgd fun K hK => ?_
  obtain ⟨A', c'', w', hrun, h2, h3⟩ := run_app_new (P := P) w (ty := o.type) hE b n c xs hx A m c' news hr hnc hg hbytes
  unfold Oper.wp execOp
  simp only [ho, resolve, invoke, builtin, Sem.run_bind, Sem.run_pure, Result.andThen_ok, List.map_toArray, List.map_cons, List.map_nil, hs, hxe, hrun]
  exact hK _ _ (h A' c'' w' h2 h3)
end
end Go.Proofs.YtopjkpopdffkeaaDoor
