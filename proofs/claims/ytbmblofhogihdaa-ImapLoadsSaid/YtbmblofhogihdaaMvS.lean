/- Copies of entries; a row that is read whole within a round. -/
import Derived.Test.YtbmblofhogihdaaMuS
import Derived.RangeFuncCalls
import Derived.RangeFuncWrites
import Derived.Laws.CopyRow
namespace Go.Proofs.Ytbmblofhogihdaa
open Go.RowKit

section
variable {P : Program}
/-- copy of elements of k cells into a row that is known whole. -/
theorem run_copy_rowM (w : World) (dT sT ty elem : TypeId) (g o dLen dCap : Nat) (a : Addr) (sLen sCap : Nat) (cur : Array Value) (t : TypeId) (cs : List Value) (k m : Nat)
    (hu : P.underlying dT = some (.slice elem)) (hs : (P.info? elem).map (·.size) = some k)
    (hg : w.heap[g]? = some (.cells cur t (0, 0))) (hm : m = Nat.min sLen dLen) (hn : cs.length = m * k)
    (hsrc : ∀ j v, cs[j]? = some v → w.cell? (a.add j) = some v) (hfit : o + cs.length ≤ cur.size) (h1 : ∀ v ∈ cs, v.oneCell' = true) :
    (Builtin.copy_ #[dT, sT] ty #[.slice (some ⟨g, o, none⟩) dLen dCap, .slice (some a) sLen sCap]).run P w =
      .ok (goInt m) (w.setRow g (cur.toList.take o ++ cs ++ cur.toList.drop (o + cs.length)).toArray) := by
  have hl := run_loadCells_list (P := P) w a cs hsrc
  have hst := run_storeCells_at P g o t cs 0 cur w hg (by simpa using hfit) h1
  cases hq : P.info? elem with
  | none => simp [hq] at hs
  | some i =>
    have hi : i.size = k := by simpa [hq] using hs
    rw [hn] at hl
    simp [Builtin.copy_, run_underlying hu, Builtin.lenOf, Builtin.firstCells, sizeOf, typeInfo, hq, hi, ← hm, hl, hst]
theorem wpListIn_copy_rowM {F : Fence} {nF : Nat} {w : World} {ops : Array Oper} {rest : List Oper} {o : Oper} {a : Act} {Q : Exit → Act → World → Prop} (hgd : o.guard = none) (d s : Operand) (dT sT : TypeId)
    (ho : o.op = .call { callee := .builtin .copy, args := #[d, s], argTypes := #[dT, sT] }) (elem : TypeId) (k m : Nat) (hu : P.underlying dT = some (.slice elem)) (hsz : (P.info? elem).map (·.size) = some k)
    (g off dLen dCap : Nat) (ad : Addr) (sLen sCap : Nat) (hd : a.eval d = .slice (some ⟨g, off, none⟩) dLen dCap) (hs : a.eval s = .slice (some ad) sLen sCap)
    (cur : Array Value) (t : TypeId) (hg : w.heap[g]? = some (.cells cur t (0, 0))) (cs : List Value) (hm : m = Nat.min sLen dLen) (hn : cs.length = m * k)
    (hsrc : ∀ j v, cs[j]? = some v → w.cell? (ad.add j) = some v) (hfit : off + cs.length ≤ cur.size) (h1 : ∀ v ∈ cs, v.oneCell' = true)
    (h : wpListIn F nF P ops Q rest (a.put o.dst (goInt m)) (w.setRow g (cur.toList.take off ++ cs ++ cur.toList.drop (off + cs.length)).toArray)) : wpListIn F nF P ops Q (o :: rest) a w := by
  refine wpListIn_plain hgd fun K hK' => ?_
  have hrun := run_copy_rowM (P := P) w dT sT o.type elem g off dLen dCap ad sLen sCap cur t cs k m hu hsz hg hm hn hsrc hfit h1
  unfold Oper.wpIn
  refine ⟨?_, ?_⟩
  · simp [Oper.about, ho, resolve, Target.leads, Sem.run_pure]
  · rw [Oper.semAt_plain F _ _ (by rw [ho]; intro c hc'; cases hc')]
    simp only [execOp, ho, resolve, invoke, builtin, List.map_toArray, List.map_cons, List.map_nil, hd, hs, hrun, Sem.run_bind, Sem.run_pure, Result.andThen_ok, Result.andThen]
    exact hK' _ _ h
theorem wpListIn_load_rowM {F : Fence} {nF : Nat} {ops : Array Oper} {rest : List Oper} {o : Oper} {a : Act} {w : World} {Q : Exit → Act → World → Prop} (hgd : o.guard = none) (ty : TypeId) (x : Operand) (ho : o.op = .load ty x)
    (g : Nat) (hx : a.eval x = .pointer (some ⟨g, 0, none⟩)) (t : TypeId) (cs : Array Value) (fr : Nat × Nat) (d : TypeDesc) (hg : w.heap[g]? = some (.cells cs t fr))
    (hu : P.underlying ty = some d) (hd : (match d with | .struct _ | .array _ _ => true | _ => false) = true) (hi : (P.info? ty).map (·.size) = some cs.size)
    (h : wpListIn F nF P ops Q rest (a.put o.dst (.agg cs)) w) : wpListIn F nF P ops Q (o :: rest) a w := by
  refine wpListIn_plain hgd fun K hK' => ?_
  unfold Oper.wpIn
  refine ⟨?_, ?_⟩
  · simp [Oper.about, ho]
  · rw [Oper.semAt_plain F _ _ (by rw [ho]; intro c hc'; cases hc')]
    simp only [execOp, ho, hx, Instr.loadAt, Instr.sureAddr, Sem.run_bind, Sem.run_pure, Result.andThen_ok, run_loadVar_row w g t ty cs fr d hg hu hd hi]
    exact hK' _ _ h
theorem wpListIn_appM {F : Fence} {nF : Nat} {ops : Array Oper} {rest : List Oper} {o : Oper} {a : Act} {w : World} {Q : Exit → Act → World → Prop} (hgd : o.guard = none) (s x : Operand) (t : TypeId)
    (ho : o.op = .call { callee := .builtin .append, args := #[s, x], argTypes := #[t, t] })
    {e : TypeId} {z : Value} {bytes : Nat} (hE : Ety P t e z bytes) (base : Nat) (v : Value) (n : Nat) (xs : List Value) (hs : a.eval s = v) (hown : w.ownsRow base e 1 v n xs)
    (B : Nat) (A : Option Addr) (m c : Nat) (news : List Value) (hx : a.eval x = .slice A m c) (hr : Sl w B A m news) (h1 : ∀ u ∈ news, u.oneCell' = true)
    (hb : (n + m) * bytes ≤ 140737488355328) (hbase : base ≤ w.heap.size)
    (hK : ∀ A' c' w', w'.ownsRow base e 1 (.slice A' (n + m) c') (n + m) (xs ++ news) → w.grownBy w' v.ownBlock → ((Value.slice A' (n + m) c').ownBlock = v.ownBlock ∨ (Value.slice A' (n + m) c').ownBlock = some w.heap.size) → wpListIn F nF P ops Q rest (a.put o.dst (.slice A' (n + m) c')) w') :
    wpListIn F nF P ops Q (o :: rest) a w := by
  refine wpListIn_plain hgd fun K hK' => ?_
  obtain ⟨A', c', w', hrun, r1, r2, r3⟩ := run_app (P := P) w (ty := o.type) hE base v n xs hown B A m c news hr h1 hb hbase
  unfold Oper.wpIn
  refine ⟨?_, ?_⟩
  · simp [Oper.about, ho, resolve, Target.leads, Sem.run_pure]
  · rw [Oper.semAt_plain F _ _ (by rw [ho]; intro c hc'; cases hc')]
    simp [execOp, ho, resolve, invoke, builtin, hs, hx, hrun, Result.andThen]
    exact hK' _ _ (hK A' c' w' r1 r2 r3)
end
/-- The cells that a piece's copy takes over. -/
def pcC (L : List Ent) (x h : Nat) : List Value := ((chk L (8 * x)).take h).flatMap meC
theorem pcC_len (L : List Ent) (x h : Nat) (h8 : h ≤ 8) : (pcC L x h).length = h * 2 := by
  rw [pcC, flat_len meC_len, List.length_take, chk_len, Nat.min_eq_left h8]
theorem pcC_one (L : List Ent) (x h : Nat) : ∀ v ∈ pcC L x h, v.oneCell' = true := by
  intro v hv
  obtain ⟨e, -, hv⟩ := List.mem_flatMap.1 hv
  simp only [meC, List.mem_cons, List.not_mem_nil, or_false] at hv
  rcases hv with rfl | rfl <;> rfl
theorem pcC_get (L : List Ent) (x h : Nat) (h8 : h ≤ 8) (hL : 8 * x + h ≤ L.length) : ∀ j v, (pcC L x h)[j]? = some v → (fl entC L)[8 * x * 2 + j]? = some v := by
  intro j v hv
  have hj : j < h * 2 := by
    have := (List.getElem?_eq_some_iff.1 hv).1
    rwa [pcC_len L x h h8] at this
  obtain ⟨q, hq⟩ : ∃ q, q = j / 2 := ⟨_, rfl⟩
  obtain ⟨s, hs⟩ : ∃ s, s = j % 2 := ⟨_, rfl⟩
  obtain rfl : j = q * 2 + s := by omega
  have hs2 : s < 2 := by omega
  have hqh : q < h := by omega
  have hqL : 8 * x + q < L.length := by omega
  unfold pcC at hv
  rw [flat_get meC_len _ q s hs2, List.getElem?_take, if_pos hqh, chk, List.getElem?_map, List.getElem?_range (by omega), Option.map_some, Option.bind_some, entP_in (List.getElem?_eq_getElem hqL)] at hv
  have := fl_get entC_len L (8 * x + q) s hs2
  rw [show 8 * x * 2 + (q * 2 + s) = (8 * x + q) * 2 + s by omega, this, List.getElem?_eq_getElem hqL, Option.bind_some]
  exact hv
theorem pcC_all (L : List Ent) (x h : Nat) (h8 : h ≤ 8) (hL : h = 8 ∨ L.length ≤ 8 * x + h) :
    (([].append (pcC L x h)) ++ (zer8.flatMap meC).drop (0 + (pcC L x h).length)).toArray = fl meC (chk L (8 * x)) := by
  have hd : (chk L (8 * x)).drop h = List.replicate (8 - h) (0, 0) := by
    apply List.ext_getElem?
    intro i
    rw [List.getElem?_drop, List.getElem?_replicate]
    by_cases hi : i < 8 - h
    · rw [if_pos hi, chk, List.getElem?_map, List.getElem?_range (by omega), Option.map_some, entP_out (by omega)]
    · rw [if_neg hi, List.getElem?_eq_none (by rw [chk_len]; omega)]
  have hz : (zer8.flatMap meC).drop (h * 2) = (List.replicate (8 - h) (0, 0)).flatMap meC := by
    have e : zer8 = List.replicate h (0, 0) ++ List.replicate (8 - h) (0, 0) := by
      rw [zer8, List.replicate_append_replicate, show h + (8 - h) = 8 by omega]
    rw [e, List.flatMap_append, List.drop_append_of_le_length (by rw [flat_len meC_len, List.length_replicate]; exact Nat.le_refl _), List.drop_of_length_le (by rw [flat_len meC_len, List.length_replicate]; exact Nat.le_refl _), List.nil_append]
  show ((pcC L x h) ++ _).toArray = _
  rw [Nat.zero_add, pcC_len L x h h8, hz, ← hd, pcC, ← List.flatMap_append, List.take_append_drop]
  rfl
end Go.Proofs.Ytbmblofhogihdaa
