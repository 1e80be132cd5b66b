import Derived.Test.YtfaingklglelnaaJn07
import Derived.Test.YtfaingklglelnaaJn03
import Derived.Test.YtfaingklglelnaaJn14
import Derived.Test.YtfaingklglelnaaJn09
import Derived.Lib.ConvBytes
import Derived.Test.YtfaingklglelnaaJn10
import Derived.Test.YtfaingklglelnaaJn01
import Derived.DeepKeys
import Derived.Deep.RegionHeld3
/- append onto a row of the call's own whose elements have k cells; the source nil, empty or not. -/
namespace Go.Proofs.Ytfaingklglelnaa
open Go.RowKit

structure EtyK (P : Program) (t e : TypeId) (z : Value) (k bytes : Nat) : Prop where
  under : P.underlying t = some (.slice e)
  info : ∃ i, P.info? e = some i ∧ i.zero = some z ∧ i.size = k ∧ i.bytes = bytes
  cells : z.cells.size = k
  kpos : 0 < k
  pos : 0 < bytes
theorem EtyK.mk' {P : Program} {t e : TypeId} {z : Value} {k bytes : Nat} (ht : P.underlying t = some (.slice e))
    (h : (P.info? e).map (fun i => (i.zero, i.size, i.bytes)) = some (some z, k, bytes)) (h1 : z.cells.size = k) (hk : 0 < k) (hp : 0 < bytes) : EtyK P t e z k bytes := by
  obtain ⟨i, hi, h0, h1', h2⟩ := info_parts h
  exact ⟨ht, ⟨i, hi, h0, h1', h2⟩, h1, hk, hp⟩
theorem own_formK {w : World} {base n k : Nat} {e : TypeId} {v : Value} {xs : List Value} (h : w.ownsRow base e k v n xs) : ∃ A c, v = .slice A n c ∧ n ≤ c ∧ c ≤ maxLen := by
  rcases h.2 with ⟨rfl, rfl⟩ | ⟨g, cap, cur, rfl, _, _, h1, h2, _, _⟩
  · exact ⟨none, 0, rfl, Nat.le_refl _, by simp [maxLen]⟩
  · exact ⟨_, cap, rfl, h1, h2⟩
/-- What a slice of elements of k cells holds, all cells one behind the other. -/
structure SlC (w : World) (B : Nat) (A : Option Addr) (m k : Nat) (xs : List Value) : Prop where
  len : xs.length = m * k
  cells : ∀ (j : Nat) (u : Value), xs[j]? = some u → ∃ ad, A = some ad ∧ ad.block < B ∧ w.cell? (ad.add j) = some u
theorem SlC.of_own {w : World} {base n c k : Nat} {e : TypeId} {A : Option Addr} {xs : List Value} (h : w.ownsRow base e k (.slice A n c) n xs) : SlC w w.heap.size A n k xs := by
  refine ⟨h.1, fun j u hu => ?_⟩
  rcases h.2 with ⟨h1, h2⟩ | ⟨g, cap, cur, h1, _, hg, hnc, hcm, hcs, ht⟩
  · have := h.1
    subst h2
    have : xs = [] := List.eq_nil_of_length_eq_zero (by omega)
    subst this
    simp at hu
  · injection h1 with h1 _ _
    subst h1
    exact ⟨_, rfl, (h.lt g rfl).2, h.cells (g := g) rfl j u hu⟩
theorem SlC.below {w w' : World} {B m k : Nat} {A : Option Addr} {xs : List Value} (h : SlC w B A m k xs) (hb : Below B w w') : SlC w' B A m k xs :=
  ⟨h.len, fun j u hu => by
    obtain ⟨ad, e, hB, hc⟩ := h.cells j u hu
    exact ⟨ad, e, hB, (hb.cell (by rw [addr_block]; exact hB)).trans hc⟩⟩
theorem run_appK {P : Program} (w : World) {t ty e : TypeId} {z : Value} {k bytes : Nat} (hE : EtyK P t e z k bytes) (base : Nat) (v : Value) (n : Nat) (xs : List Value) (hown : w.ownsRow base e k v n xs)
    (B : Nat) (A : Option Addr) (m c : Nat) (news : List Value) (hr : SlC w B A m k news) (h1 : ∀ u ∈ news, u.oneCell' = true)
    (hbytes : (n + m) * bytes ≤ 140737488355328) (hbase : base ≤ w.heap.size) :
    ∃ A' c' w', (Builtin.append_ #[t, t] ty #[v, .slice A m c]).run P w = .ok (.slice A' (n + m) c') w' ∧ w'.ownsRow base e k (.slice A' (n + m) c') (n + m) (xs ++ news) ∧
      w.grownBy w' v.ownBlock ∧ ((Value.slice A' (n + m) c').ownBlock = v.ownBlock ∨ (Value.slice A' (n + m) c').ownBlock = some w.heap.size) := by
  obtain ⟨i, hi, hz, hs, hb⟩ := hE.info
  have hle : n + m ≤ 140737488355328 := Nat.le_trans (Nat.le_mul_of_pos_right _ hE.pos) hbytes
  have h63 : n + m ≤ maxLen := by simp only [maxLen]; omega
  rcases A with _ | ad
  · have hm : m = 0 := by
      rcases Nat.eq_zero_or_pos m with h0 | h0
      · exact h0
      · have hp := Nat.mul_pos h0 hE.kpos
        have hl := hr.len
        obtain ⟨ad, h, -⟩ := hr.cells 0 _ (List.getElem?_eq_getElem (by omega))
        cases h
    subst hm
    have hn : news = [] := List.eq_nil_of_length_eq_zero (by rw [hr.len]; omega)
    subst hn
    obtain ⟨A, c1, rfl, _, _⟩ := own_formK hown
    refine ⟨A, c1, w, ?_, by simpa using hown, ⟨rfl, rfl, rfl, Nat.le_refl _, fun _ _ _ => rfl⟩, .inl rfl⟩
    rcases hown.2 with ⟨hv, rfl⟩ | ⟨g, cap, cur, hv, _, _, hnc, _⟩
    · injection hv with hv1 _ hv2
      subst hv1 hv2
      simp [Builtin.append_, run_underlying hE.under, sizeOf, typeInfo, hi, Builtin.lenOf, Builtin.firstCells]
    · injection hv with hv1 _ hv2
      subst hv1 hv2
      simp [Builtin.append_, run_underlying hE.under, sizeOf, typeInfo, hi, Builtin.lenOf, Builtin.firstCells, hnc, storeCells]
  · have hcells : ∀ j u, news[j]? = some u → w.cell? (ad.add j) = some u := by
      intro j u hu
      obtain ⟨ad', h, _, hc⟩ := hr.cells j u hu
      injection h with h
      subst h
      exact hc
    obtain ⟨v', w', hrun, h2, h3, _, h5⟩ := run_append_own_at (P := P) w base t ty e i z k bytes hE.under hi hz hs hb hE.cells hE.kpos v n xs hown ad m c news hr.len hcells h1 h63 hbytes hbase
    obtain ⟨A', c', rfl, _, _⟩ := own_formK h2
    exact ⟨A', c', w', hrun, h2, h3, h5⟩
/-- A slice of one element that the text writes out; one of none. -/
theorem one_slice {P : Program} {t e : TypeId} {z : Value} {k bytes : Nat} (hE : EtyK P t e z k bytes) (w : World) (xs : Array Value) (h : xs.size = k) (hk5 : k ≤ 1000) :
    (Instr.buildSlice t 1 #[(0, .agg xs)]).run P w = .ok (.slice (some ⟨w.heap.size, 0, none⟩) 1 1) (w.alloc (.cells xs e)) := by
  obtain ⟨ie, hi, h1, h2, h3⟩ := hE.info
  have hk := hE.kpos
  have hfill := Great.fill_whole (s := k) (by omega) [Value.agg xs] ((Array.range (1 * ie.size)).map (z.cells[· % z.cells.size]!)) (fun v hv => by
    rw [List.mem_singleton] at hv
    subst hv
    simp [Value.cells, h]) (by simp [h2])
  refine run_buildSlice w t e 1 _ xs ie _ hE.under hi h1 (by rw [h2]; omega) (by rw [h2]; omega) ?_
  rw [h2] at hfill ⊢
  simpa [Value.cells] using hfill
theorem no_slice {P : Program} {t e : TypeId} {z : Value} {k bytes : Nat} (hE : EtyK P t e z k bytes) (w : World) :
    (Instr.buildSlice t 0 #[]).run P w = .ok (.slice (some ⟨w.heap.size, 0, none⟩) 0 0) (w.alloc (.cells #[] e)) := by
  obtain ⟨ie, hi, h1, h2, h3⟩ := hE.info
  simp [Instr.buildSlice, run_underlying hE.under, sizeOf, typeInfo, hi, h2, Instr.fill, newRow, h1]
  congr 2
  exact Array.eq_empty_of_size_eq_zero (by simp)
theorem wpList_appK {P : Program} {w : World} {ops : Array Oper} {rest : List Oper} {o : Oper} {a : Act} {Q : Exit → Act → World → Prop} (hgd : o.guard = none) (s x : Operand) (t : TypeId)
    (ho : o.op = .call { callee := .builtin .append, args := #[s, x], argTypes := #[t, t] })
    {e : TypeId} {z : Value} {k bytes : Nat} (hE : EtyK P t e z k bytes) (base : Nat) (v : Value) (n : Nat) (xs : List Value) (hs : a.eval s = v) (hown : w.ownsRow base e k v n xs)
    (B : Nat) (A : Option Addr) (m c : Nat) (news : List Value) (hx : a.eval x = .slice A m c) (hr : SlC w B A m k news) (h1 : ∀ u ∈ news, u.oneCell' = true)
    (hbytes : (n + m) * bytes ≤ 140737488355328) (hbase : base ≤ w.heap.size)
    (h : ∀ A' c' w', w'.ownsRow base e k (.slice A' (n + m) c') (n + m) (xs ++ news) → w.grownBy w' v.ownBlock →
      ((Value.slice A' (n + m) c').ownBlock = v.ownBlock ∨ (Value.slice A' (n + m) c').ownBlock = some w.heap.size) → wpList P ops Q rest (a.put o.dst (.slice A' (n + m) c')) w') : wpList P ops Q (o :: rest) a w := by
  refine wpList_plain hgd fun K' hK' => ?_
  obtain ⟨A', c', w', hrun, h2, h3, h4⟩ := run_appK (P := P) w (ty := o.type) hE base v n xs hown B A m c news hr h1 hbytes hbase
  unfold Oper.wp execOp
  simp only [ho, resolve, invoke, builtin, Sem.run_bind, Sem.run_pure, Result.andThen_ok, List.map_toArray, List.map_cons, List.map_nil, hs, hx, hrun]
  exact hK' _ _ (h A' c' w' h2 h3 h4)
theorem slc_new (w : World) (l : List Value) (t : TypeId) {m k : Nat} (h : l.length = m * k) : SlC (w.alloc (.cells l.toArray t)) (w.heap.size + 1) (some ⟨w.heap.size, 0, none⟩) m k l := by
  refine ⟨h, fun i u hu => ⟨_, rfl, by simp, ?_⟩⟩
  rw [Addr.add_mid, Nat.zero_add, (Blk.new w _ _).cell]
  simpa using hu
theorem step_appK {P : Program} {w : World} {ops : Array Oper} {o : Oper} {a : Act} {K : Act → World → Prop} {Q : Exit → Act → World → Prop} {E : Prop} (hgd : o.guard = none) (s x : Operand) (t : TypeId)
    (ho : o.op = .call { callee := .builtin .append, args := #[s, x], argTypes := #[t, t] })
    {e : TypeId} {z : Value} {k bytes : Nat} (hE : EtyK P t e z k bytes) (base : Nat) (v : Value) (n : Nat) (xs : List Value) (hs : a.eval s = v) (hown : w.ownsRow base e k v n xs)
    (B : Nat) (A : Option Addr) (m c : Nat) (news : List Value) (hx : a.eval x = .slice A m c) (hr : SlC w B A m k news) (h1 : ∀ u ∈ news, u.oneCell' = true)
    (hbytes : (n + m) * bytes ≤ 140737488355328) (hbase : base ≤ w.heap.size)
    (h : ∀ A' c' w', w'.ownsRow base e k (.slice A' (n + m) c') (n + m) (xs ++ news) → w.grownBy w' v.ownBlock →
      ((Value.slice A' (n + m) c').ownBlock = v.ownBlock ∨ (Value.slice A' (n + m) c').ownBlock = some w.heap.size) → K (a.put o.dst (.slice A' (n + m) c')) w') :
    if Region.wanted o (yielded ops a.tmps) = true then Oper.wp P o a w K Q else E := by
  rw [if_pos (by simp [Region.wanted, hgd])]
  obtain ⟨A', c', w', hrun, h2, h3, h4⟩ := run_appK (P := P) w (ty := o.type) hE base v n xs hown B A m c news hr h1 hbytes hbase
  unfold Oper.wp execOp
  simp only [ho, resolve, invoke, builtin, Sem.run_bind, Sem.run_pure, Result.andThen_ok, List.map_toArray, List.map_cons, List.map_nil, hs, hx, hrun]
  exact h A' c' w' h2 h3 h4
end Go.Proofs.Ytfaingklglelnaa

/- Blocks of other types are none of a disk's; a disk stays while such are written. -/
namespace Go.Proofs.Ytfaingklglelnaa
open Go.RowKit

theorem own_blkO {w : World} {base n k : Nat} {e : TypeId} {v : Value} {xs : List Value} (h : w.ownsRow base e k v n xs) {g : Nat} (hg : v.ownBlock = some g) : base ≤ g ∧ ∃ cs, Blk w g e cs := by
  rcases h.2 with ⟨hv, -⟩ | ⟨g', cap, cur, hv, hb, hB, -⟩
  · rw [hv] at hg; cases hg
  · rw [hv] at hg
    simp only [Value.ownBlock, Option.some.injEq] at hg
    subst hg
    exact ⟨hb, cur, hB⟩
theorem blk_typeO {w : World} {g : Nat} {t t' : TypeId} {cs cs' : Array Value} (h : Blk w g t cs) (h' : Blk w g t' cs') : t = t' := by
  have e := Option.some.inj (h.symm.trans h')
  injection e
theorem kp_growO {w w' : World} {r : Option Nat} (h : w.grownBy w' r) : Kp r.toList w w' := ⟨h.os, h.tape, h.output, h.size, fun k hk hn => h.block k hk (fun e => hn (by rw [← e]; simp))⟩
theorem out_typeO {w0 w : World} {d k : Nat} {D : Dsk} (h : LD w0 w d D) {t : TypeId} {cs : Array Value} (hB : Blk w k t cs) (ht : t ≠ 94 ∧ t ≠ 99 ∧ t ≠ 101) : Out w0 w d D k := by
  obtain ⟨s, v, hD⟩ := h.ex
  refine ⟨hB.lt, s, v, hD, ?_, ?_, ?_⟩
  · rintro rfl; exact ht.1 (blk_typeO hB hD.hd)
  · rintro rfl; exact ht.2.1 (blk_typeO hB hD.hs)
  · intro e
    obtain ⟨-, cs', hB'⟩ := own_blkO hD.hq e
    exact ht.2.2 (blk_typeO hB hB')
theorem LD.kpO {w0 w w' : World} {d : Nat} {D : Dsk} (h : LD w0 w d D) {gs : List Nat} (hK : Kp gs w w') (hgs : ∀ k ∈ gs, w0.heap.size ≤ k ∧ Out w0 w d D k) : LD w0 w' d D := by
  obtain ⟨s, v, hD⟩ := h.ex
  have ho : ∀ k ∈ gs, k ≠ d ∧ k ≠ s ∧ v.ownBlock ≠ some k := fun k hk => by
    obtain ⟨-, s2, v2, hD2, h1, h2, h3⟩ := (hgs k hk).2
    obtain ⟨rfl, rfl⟩ := dsk_same hD hD2
    exact ⟨h1, h2, h3⟩
  refine ⟨⟨s, v, dsk_kp hD hK (fun hm => (ho d hm).1 rfl) (fun hm => (ho s hm).2.1 rfl) (fun k hk hm => (ho k hm).2.2 hk)⟩, Below.kp2 h.bel hK h.bel.size (fun k hk => (hgs k hk).1)⟩
end Go.Proofs.Ytfaingklglelnaa

/- Pairs of numbers as an argument; a row of points of the call's own. -/
namespace Go.Proofs.Ytfaingklglelnaa
open Go.RowKit

/-- A slice of pairs that came in. -/
def PairsAt (w : World) (A : Option Addr) (n : Nat) (ps : List (Int × Int)) : Prop := SlK w A 2 n (ps.map fun p => [.int .i64 p.1, .int .i64 p.2])
set_option maxRecDepth 100000 in
theorem pairs_of_rd {w : World} {v : Value} (h : Rd Try.prog w 10 42 [v]) : ∃ A n c ps, v = .slice A n c ∧ n ≤ c ∧ c ≤ 9223372036854775807 ∧ PairsAt w A n ps := by
  have hcu : Try.prog.cellsOf 3 = 1 := by kernel_rfl
  obtain ⟨A, n, c, rows, rfl, hl, hm, hs, hr⟩ := slk_of_rd (n := 9) (k := 2) Try.underlying42 (by kernel_rfl) h
  have : ∃ ps : List (Int × Int), rows = ps.map fun p => [.int .i64 p.1, .int .i64 p.2] := by
    have hrow := hs.row
    clear hs hm hl h
    induction rows with
    | nil => exact ⟨[], rfl⟩
    | cons r rows ih =>
      obtain ⟨ps, hps⟩ := ih (fun x hx => hr x (by simp [hx])) (fun i hi => by have := hrow (i + 1) (by simpa using hi); simpa using this)
      have h2 : r.length = 2 := hrow 0 (by simp)
      have hr0 := hr r (by simp)
      match r, h2 with
      | [c0, c1], _ =>
        obtain ⟨a, rfl, _⟩ := rd_arr_int (n := 7) Try.underlying48 hr0 hcu Try.underlying3 0 (by omega) rfl
        obtain ⟨b, rfl, _⟩ := rd_arr_int (n := 7) Try.underlying48 hr0 hcu Try.underlying3 1 (by omega) rfl
        exact ⟨(a, b) :: ps, by rw [hps]; rfl⟩
  obtain ⟨ps, rfl⟩ := this
  exact ⟨A, n, c, ps, rfl, hl, hm, hs⟩
theorem PairsAt.get {w : World} {A : Option Addr} {n : Nat} {ps : List (Int × Int)} (h : PairsAt w A n ps) {i : Nat} (hi : i < n) : ∃ b off, A = some ⟨b, off, none⟩ ∧
    ∀ w', Below w.heap.size w w' → w'.cell? ⟨b, off + i * 2, none⟩ = some (.int .i64 (ps.getD i (0, 0)).1) ∧ w'.cell? ⟨b, off + i * 2 + 1, none⟩ = some (.int .i64 (ps.getD i (0, 0)).2) := by
  obtain ⟨b, off, hA, hb, hc⟩ := SlK.at h (by omega) (by decide)
  have hl : ps.length = n := by have := h.len; simpa using this
  have hx : ps.getD i (0, 0) = ps[i]'(by omega) := by rw [List.getD_eq_getElem?_getD, List.getElem?_eq_getElem (by omega)]; rfl
  refine ⟨b, off, hA, fun w' hw => ?_⟩
  have h0 := hc i (by simpa using (by omega : i < ps.length)) 0 (.int .i64 (ps.getD i (0, 0)).1) (by rw [List.getElem_map, hx]; rfl)
  have h1 := hc i (by simpa using (by omega : i < ps.length)) 1 (.int .i64 (ps.getD i (0, 0)).2) (by rw [List.getElem_map, hx]; rfl)
  exact ⟨(hw.cell (p := ⟨b, off + i * 2, none⟩) hb).trans h0, (hw.cell (p := ⟨b, off + i * 2 + 1, none⟩) hb).trans h1⟩
/-- int(uint(a) % q). -/
def moN (a : Int) (q : Nat) : Nat := (IntKind.u64.wrap a % (q : Int)).toNat
theorem moN_lt (a : Int) {q : Nat} (hq : 0 < q) : moN a q < q := by
  unfold moN
  have h0 : 0 ≤ IntKind.u64.wrap a % (q : Int) := Int.emod_nonneg _ (by omega)
  have h1 := Int.emod_lt_of_pos (IntKind.u64.wrap a) (show (0 : Int) < (q : Int) by omega)
  omega
theorem moN_eq (a : Int) (q : Nat) (hq : 0 < q) (hq2 : q < 1000000) : IntKind.i64.wrap ((IntKind.u64.wrap a).tmod (q : Int)) = (moN a q : Int) := by
  have h0' : 0 ≤ IntKind.u64.wrap a := by simp [IntKind.wrap, IntKind.bits, IntKind.signed]; omega
  unfold moN
  generalize IntKind.u64.wrap a = u at *
  rw [Int.tmod_eq_emod_of_nonneg h0']
  have e1 := Int.emod_nonneg u (show (q : Int) ≠ 0 by omega)
  have e2 := Int.emod_lt_of_pos u (show (0 : Int) < (q : Int) by omega)
  rw [IntKind.wrap_i64]
  omega

theorem moN_w64 (a : Int) (q : Nat) (hq : 0 < q) (hq2 : q < 1000000) : RowKit.wrap64 ((IntKind.u64.wrap a).tmod (q : Int)) = (moN a q : Int) := by
  have h0' : 0 ≤ IntKind.u64.wrap a := by simp [IntKind.wrap, IntKind.bits, IntKind.signed]; omega
  unfold moN
  generalize IntKind.u64.wrap a = u at *
  rw [Int.tmod_eq_emod_of_nonneg h0']
  have e1 := Int.emod_nonneg u (show (q : Int) ≠ 0 by omega)
  have e2 := Int.emod_lt_of_pos u (show (0 : Int) < (q : Int) by omega)
  rw [IntWalk.wrap64_in _ (by omega)]
  omega
/-- The cells of the first n points. -/
def ptsC (q : Nat → Pt) (n : Nat) : List Value := (List.range n).flatMap fun j => (q j).cells.toList
theorem ptsC_succ (q : Nat → Pt) (n : Nat) : ptsC q (n + 1) = ptsC q n ++ (q n).cells.toList := by simp [ptsC, List.range_succ]
theorem ptsC_len (q : Nat → Pt) : ∀ n, (ptsC q n).length = n * 4
  | 0 => rfl
  | n + 1 => by rw [ptsC_succ, List.length_append, ptsC_len q n]; simp; omega
theorem ptsC_get (q : Nat → Pt) {j s : Nat} (hs : s < 4) : ∀ n, j < n → (ptsC q n)[j * 4 + s]? = (q j).cells.toList[s]?
  | 0, h => by omega
  | n + 1, h => by
    rw [ptsC_succ]
    by_cases e : j = n
    · subst e
      rw [List.getElem?_append_right (by rw [ptsC_len]; omega), ptsC_len, show j * 4 + s - j * 4 = s by omega]
    · rw [List.getElem?_append_left (by rw [ptsC_len]; omega), ptsC_get q hs n (by omega)]
/-- A row of points of the call's own. -/
def PtRow (w : World) (base : Nat) (A : Option Addr) (c n : Nat) (q : Nat → Pt) : Prop := w.ownsRow base 23 4 (.slice A n c) n (ptsC q n)
theorem PtRow.get {w : World} {base c n : Nat} {A : Option Addr} {q : Nat → Pt} (h : PtRow w base A c n q) {j : Nat} (hj : j < n) : ∃ g, A = some ⟨g, 0, none⟩ ∧ base ≤ g ∧ (∃ cs, Blk w g 23 cs) ∧
    w.cell? ⟨g, j * 4, none⟩ = some (.int .i64 (q j).e) ∧ w.cell? ⟨g, j * 4 + 1, none⟩ = some (.int .i64 (q j).c) ∧ w.cell? ⟨g, j * 4 + 2, none⟩ = some (.int .i64 (q j).n) ∧ w.cell? ⟨g, j * 4 + 3, none⟩ = some (.int .i64 (q j).f) := by
  have h' := h
  rcases h.2 with ⟨h1, h2⟩ | ⟨g, cap, cur, h1, hb, hg, hnc, hcm, hcs, ht⟩
  · omega
  · injection h1 with h1 _ _
    subst h1
    have hc := fun s (hs : s < 4) u (hu : (q j).cells.toList[s]? = some u) => World.ownsRow.cells h' (g := g) rfl (j * 4 + s) u (by rw [ptsC_get q hs n hj]; exact hu)
    refine ⟨g, rfl, hb, ⟨cur, hg⟩, ?_, ?_, ?_, ?_⟩
    · have := hc 0 (by decide) _ rfl
      rwa [Addr.add_mid, Nat.zero_add] at this
    · have := hc 1 (by decide) _ rfl
      rwa [Addr.add_mid, Nat.zero_add] at this
    · have := hc 2 (by decide) _ rfl
      rwa [Addr.add_mid, Nat.zero_add] at this
    · have := hc 3 (by decide) _ rfl
      rwa [Addr.add_mid, Nat.zero_add] at this
theorem PtRow.below {w w' : World} {base c n : Nat} {A : Option Addr} {q : Nat → Pt} (h : PtRow w base A c n q) (hb : Below w.heap.size w w') : PtRow w' base A c n q :=
  own_kq h (Kp.of_below (gs := []) hb) (by simp)
theorem etyPt : EtyK Try.prog 46 23 (.agg #[.int .i64 0, .int .i64 0, .int .i64 0, .int .i64 0]) 4 32 := EtyK.mk' Try.underlying46 (by kernel_rfl) rfl (by decide) (by decide)
/-- A disk's step leaves the row. -/
theorem PtRow.stp {w0 w w' : World} {d base c n : Nat} {D D' : Dsk} {A : Option Addr} {q : Nat → Pt} (h : PtRow w base A c n q) (hl : LD w0 w d D) (hs : Stp w0 w w' d D D') : PtRow w' base A c n q := by
  obtain ⟨gs, hk, hf⟩ := hs.kp
  refine own_kq h hk (fun g hg => ?_)
  obtain ⟨-, cs, hB⟩ := own_blkO h hg
  exact (hf g (out_typeO hl hB (by decide))).1
end Go.Proofs.Ytfaingklglelnaa

/- A point as an argument; lists of pairs of numbers. -/
namespace Go.Proofs.Ytfaingklglelnaa
open Go.RowKit

set_option maxRecDepth 100000 in
theorem pt_arg {w : World} {v : Value} (ha : Arg Try.prog w 23 v) : ∃ e c n f, v = ptV e c n f := by
  have hc : Try.prog.cellsOf 3 = 1 := by kernel_rfl
  have hc4 : Try.prog.cellsOf 23 = 4 := by kernel_rfl
  obtain ⟨⟨l⟩, rfl, h⟩ := arg_agg ha (.inl ⟨_, Try.underlying23⟩)
  have hl := rd_len Try.underlying23 h
  rw [hc4] at hl
  match l, hl with
  | [c0, c1, c2, c3], _ =>
    obtain ⟨a, rfl, _⟩ := rd_fld_int Try.underlying23 h 0 (u := 3) (o := 0) rfl hc Try.underlying3 rfl
    obtain ⟨b, rfl, _⟩ := rd_fld_int Try.underlying23 h 1 (u := 3) (o := 1) rfl hc Try.underlying3 rfl
    obtain ⟨s, rfl, _⟩ := rd_fld_int Try.underlying23 h 2 (u := 3) (o := 2) rfl hc Try.underlying3 rfl
    obtain ⟨i, rfl, _⟩ := rd_fld_int Try.underlying23 h 3 (u := 3) (o := 3) rfl hc Try.underlying3 rfl
    exact ⟨a, b, s, i, rfl⟩
set_option maxRecDepth 100000 in
theorem int_argP {w : World} {v : Value} (h : Arg Try.prog w 3 v) : ∃ n, v = .int .i64 n ∧ -9223372036854775808 ≤ n ∧ n ≤ 9223372036854775807 := by
  obtain ⟨n, hn, hw⟩ := rd_int Try.underlying3 (arg_one h Try.underlying3 (fun _ => by simp) (fun _ _ => by simp))
  simp at hn
  have := wf_bd_i64 hw
  exact ⟨n, hn, this.1, this.2⟩
end Go.Proofs.Ytfaingklglelnaa

/- The script of PointPlays as an argument. -/
namespace Go.Proofs.Ytfaingklglelnaa
open Go.RowKit

structure OpT where
  kind : Int
  n : Int
  sec : Int
  e : Int
  c : Int
  m : Int
  f : Int
  bA : Option Addr
  bn : Nat
  bc : Nat
  b : List UInt8
  kA : Option Addr
  kn : Nat
  kc : Nat
  keep : List Bool
def opT (o : OpT) : Array Value := #[.int .i64 o.kind, .int .i64 o.n, .int .i64 o.sec, .int .i64 o.e, .int .i64 o.c, .int .i64 o.m, .int .i64 o.f, .slice o.bA o.bn o.bc, .slice o.kA o.kn o.kc]
structure OpTAt (w : World) (B : Nat) (o : OpT) : Prop where
  b : By w B o.bA o.bn o.b
  keep : Sl w B o.kA o.kn (o.keep.map Value.bool)
  bc : o.bn ≤ 9223372036854775807
  kc : o.kn ≤ 9223372036854775807
  n : -9223372036854775808 ≤ o.n ∧ o.n ≤ 9223372036854775807
theorem OpTAt.below {w w' : World} {B : Nat} {o : OpT} (h : OpTAt w B o) (hb : Below B w w') : OpTAt w' B o := { h with b := h.b.below hb, keep := h.keep.below hb }
structure OpsT (w : World) (A : Option Addr) (n : Nat) (os : List OpT) : Prop where
  sl : SlK w A 9 n (os.map fun o => (opT o).toList)
  at_ : ∀ o ∈ os, OpTAt w w.heap.size o
set_option maxRecDepth 100000 in
theorem opT_row {w : World} {r : List Value} (h : Rd Try.prog w 9 68 r) : ∃ o, r = (opT o).toList ∧ OpTAt w w.heap.size o := by
  have ht := Try.underlying68
  have h9 : Try.prog.cellsOf 68 = 9 := by kernel_rfl
  have hl := rd_len ht h
  rw [h9] at hl
  match r, hl with
  | [x0, x1, x2, x3, x4, x5, x6, x7, x8], _ =>
    obtain ⟨m0, rfl, _⟩ := rd_fld_int (n := 7) ht h 0 (u := 3) (o := 0) rfl (by kernel_rfl) Try.underlying3 rfl
    obtain ⟨m1, rfl, b1⟩ := rd_fld_int (n := 7) ht h 1 (u := 3) (o := 1) rfl (by kernel_rfl) Try.underlying3 rfl
    obtain ⟨m2, rfl, _⟩ := rd_fld_int (n := 7) ht h 2 (u := 3) (o := 2) rfl (by kernel_rfl) Try.underlying3 rfl
    have hp := rd_field (n := 8) ht h 3 (u := 23) (o := 3) rfl (c := 4) (by kernel_rfl)
    replace hp : Rd Try.prog w 8 23 [x3, x4, x5, x6] := by simpa using hp
    obtain ⟨e, rfl, _⟩ := rd_fld_int (n := 6) Try.underlying23 hp 0 (u := 3) (o := 0) rfl (by kernel_rfl) Try.underlying3 rfl
    obtain ⟨c, rfl, _⟩ := rd_fld_int (n := 6) Try.underlying23 hp 1 (u := 3) (o := 1) rfl (by kernel_rfl) Try.underlying3 rfl
    obtain ⟨m, rfl, _⟩ := rd_fld_int (n := 6) Try.underlying23 hp 2 (u := 3) (o := 2) rfl (by kernel_rfl) Try.underlying3 rfl
    obtain ⟨f, rfl, _⟩ := rd_fld_int (n := 6) Try.underlying23 hp 3 (u := 3) (o := 3) rfl (by kernel_rfl) Try.underlying3 rfl
    have hb := rd_field (n := 8) ht h 4 (u := 24) (o := 7) rfl (c := 1) (by kernel_rfl)
    replace hb : Rd Try.prog w 8 24 [x7] := by simpa using hb
    obtain ⟨bA, bn, bc, b, rfl, c1, c2, c3⟩ := by_of_rd (n := 6) Try.underlying24 Try.underlying5 (by kernel_rfl) hb
    have hk := rd_field (n := 8) ht h 5 (u := 55) (o := 8) rfl (c := 1) (by kernel_rfl)
    replace hk : Rd Try.prog w 8 55 [x8] := by simpa using hk
    obtain ⟨kA, kn, kc, keep, rfl, d1, d2, d3⟩ := bools_of_rd (n := 6) Try.underlying55 Try.underlying4 (by kernel_rfl) hk
    exact ⟨⟨m0, m1, m2, e, c, m, f, bA, bn, bc, b, kA, kn, kc, keep⟩, rfl, ⟨c3, d3, Nat.le_trans c1 c2, Nat.le_trans d1 d2, wf_bd_i64 b1⟩⟩
set_option maxRecDepth 100000 in
theorem opsT_of_rd {w : World} {v : Value} (h : Rd Try.prog w 10 60 [v]) : ∃ A n c os, v = .slice A n c ∧ n ≤ c ∧ c ≤ 9223372036854775807 ∧ OpsT w A n os := by
  obtain ⟨A, n, c, rows, rfl, h1, h2, h3, h4⟩ := slk_of_rd (n := 9) (k := 9) Try.underlying60 (by kernel_rfl) h
  obtain ⟨os, rfl, ho⟩ : ∃ os : List OpT, rows = os.map (fun o => (opT o).toList) ∧ ∀ o ∈ os, OpTAt w w.heap.size o := by
    clear h3
    induction rows with
    | nil => exact ⟨[], rfl, by simp⟩
    | cons r rs ih =>
      obtain ⟨o, rfl, ho⟩ := opT_row (h4 r (by simp))
      obtain ⟨os, rfl, hos⟩ := ih (fun x hx => h4 x (by simp [hx]))
      exact ⟨o :: os, rfl, by simpa [ho] using hos⟩
  exact ⟨A, n, c, os, rfl, h1, h2, h3, ho⟩
theorem OpsT.at {w0 : World} {A : Option Addr} {n : Nat} {os : List OpT} (h : OpsT w0 A n os) (hn : 0 < n) :
    ∃ b off, A = some ⟨b, off, none⟩ ∧ b < w0.heap.size ∧ ∀ i, i < n → ∃ o, OpTAt w0 w0.heap.size o ∧ ∀ j u, (opT o)[j]? = some u → w0.cell? ⟨b, off + i * 9 + j, none⟩ = some u := by
  obtain ⟨b, off, e, hb, hc⟩ := h.sl.at hn (by omega)
  have hl := h.sl.len
  rw [List.length_map] at hl
  refine ⟨b, off, e, hb, fun i hi => ⟨os[i]'(by omega), h.at_ _ (List.getElem_mem _), fun j u hu => ?_⟩⟩
  have := hc i (by rw [List.length_map]; omega) j u
  rw [List.getElem_map] at this
  exact this (by simpa using hu)
theorem opT_cells {w0 w : World} {b off i : Nat} {o : OpT} (hb : b < w0.heap.size) (h : ∀ j u, (opT o)[j]? = some u → w0.cell? ⟨b, off + i * 9 + j, none⟩ = some u) (hw : Below w0.heap.size w0 w) :
    w.cell? ⟨b, off + i * 9, none⟩ = some (.int .i64 o.kind) ∧ w.cell? ⟨b, off + i * 9 + 1, none⟩ = some (.int .i64 o.n) ∧ w.cell? ⟨b, off + i * 9 + 2, none⟩ = some (.int .i64 o.sec) ∧
      w.cell? ⟨b, off + i * 9 + 3, none⟩ = some (.int .i64 o.e) ∧ w.cell? ⟨b, off + i * 9 + 4, none⟩ = some (.int .i64 o.c) ∧ w.cell? ⟨b, off + i * 9 + 5, none⟩ = some (.int .i64 o.m) ∧ w.cell? ⟨b, off + i * 9 + 6, none⟩ = some (.int .i64 o.f) ∧
      w.cell? ⟨b, off + i * 9 + 7, none⟩ = some (.slice o.bA o.bn o.bc) ∧ w.cell? ⟨b, off + i * 9 + 8, none⟩ = some (.slice o.kA o.kn o.kc) := by
  have k : ∀ j u, (opT o)[j]? = some u → w.cell? ⟨b, off + i * 9 + j, none⟩ = some u := fun j u hu => (hw.cell (p := ⟨b, _, none⟩) hb).trans (h j u hu)
  exact ⟨k 0 _ rfl, k 1 _ rfl, k 2 _ rfl, k 3 _ rfl, k 4 _ rfl, k 5 _ rfl, k 6 _ rfl, k 7 _ rfl, k 8 _ rfl⟩
end Go.Proofs.Ytfaingklglelnaa

/- Of the answers of save, wipe, arm, write: numbers; a write whose bytes came of a text. -/
namespace Go.Proofs.Ytfaingklglelnaa
open Go.RowKit

/-- What an operation may turn. -/
def Near (D E : Dsk) : Prop := E.steps ≤ D.steps + 3 ∧ E.queue.length ≤ D.queue.length + 2 ∧ E.sure.length = D.sure.length
theorem near_refl (D : Dsk) : Near D D := ⟨by omega, by omega, rfl⟩
theorem wrtP_near (D : Dsk) (x : Int) (b : List UInt8) : Near D (wrtP D x b).2 := by
  obtain ⟨h1, h2, h3⟩ := wrtP_num D x b
  exact ⟨by omega, by omega, h3⟩
theorem armP_near (D : Dsk) (n : Int) : Near D (armP D n).2 := by
  unfold armP
  split
  · exact near_refl D
  · split
    · exact near_refl D
    · exact near_refl D
theorem wipeP_near (D : Dsk) : Near D (wipeP D).2 := by
  obtain ⟨a1, a2, a3⟩ := wrtP_num D 1 zero64
  obtain ⟨b1, b2, b3⟩ := wrtP_num (wrtP D 1 zero64).2 2 zero64
  obtain ⟨c1, c2, c3⟩ := barP_num (wrtP (wrtP D 1 zero64).2 2 zero64).2
  unfold wipeP
  split
  · exact near_refl D
  · split
    · exact ⟨by omega, by omega, a3⟩
    · split
      · exact ⟨by omega, by omega, by omega⟩
      · exact ⟨by omega, by omega, by omega⟩
theorem saveP_near (D : Dsk) (p : Pt) : Near D (saveP D p).2 := by
  rw [saveP_wrt]
  split
  · exact near_refl D
  · split
    · exact near_refl D
    · generalize (((if (countsP D).1 = 1 then 2 else 1 : Nat) : Int)) = i
      obtain ⟨a1, a2, a3⟩ := wrtP_num D i p.bytes
      obtain ⟨c1, c2, c3⟩ := barP_num (wrtP D i p.bytes).2
      split
      · exact ⟨by omega, by omega, a3⟩
      · exact ⟨by omega, by omega, by omega⟩
theorem crash_near {D : Dsk} (h : D.Ok) (f : Nat → Nat → Bool) (cap : Nat) (pad : Array Value) : Near D (D.crashed f cap pad) := ⟨Nat.zero_le _, Nat.zero_le _, crashed_len2 h f cap pad⟩
section
variable {w0 w w' : World} {d : Nat} {D : Dsk}
theorem arm_stp (h : LD w0 w d D) (n : Int) (hn : n ≤ 9223372036854775807) :
    Calls Try.prog 23 #[.pointer (some ⟨d, 0, none⟩), .int .i64 n] w fun e w' => e = .returned (.int .i64 (armP D n).1) ∧ Stp w0 w w' d D (armP D n).2 := by
  unfold armP
  by_cases h0 : n < 0
  · rw [if_pos h0]
    refine (ld_arm_no h n h0).mono ?_
    rintro e w' ⟨rfl, rfl⟩
    exact ⟨rfl, Stp.refl h⟩
  · rw [if_neg h0]
    by_cases hl : D.left = 0
    · rw [if_pos hl]
      refine (ld_arm_dead h n h0 hl).mono ?_
      rintro e w' ⟨rfl, rfl⟩
      exact ⟨rfl, Stp.refl h⟩
    · rw [if_neg hl]
      refine (ld_arm_ok2 h n (by omega) hn hl).mono ?_
      rintro e w' ⟨rfl, h1, h2⟩
      exact ⟨rfl, h1, h2⟩
/-- A write whose bytes stay where they lie. -/
theorem wr_stpF (h : LD w0 w d D) (x : Int) (g c : Nat) (b : List UInt8) (hs : D.steps < 1000000) (hq : D.queue.length < 1000000) (hb : b.length = 64) (hc : 64 ≤ c) (hcs : ∀ w', Kp [d] w w' → ∀ (j : Nat) (u : Value), (u8s b)[j]? = some u → w'.cell? ⟨g, j, none⟩ = some u) :
    Calls Try.prog 31 #[.pointer (some ⟨d, 0, none⟩), .int .i64 x, .slice (some ⟨g, 0, none⟩) 64 c] w fun e w' => e = .returned (.int .i64 (wrtP D x b).1) ∧ Stp w0 w w' d D (wrtP D x b).2 := by
  by_cases hx : 0 ≤ x ∧ x < D.sure.length
  · obtain ⟨i, rfl⟩ : ∃ i : Nat, x = (i : Int) := ⟨x.toNat, by omega⟩
    have hi : i < D.sure.length := by omega
    by_cases hl : D.left = 0
    · have e : wrtP D (i : Int) b = (102, D) := by unfold wrtP; rw [if_neg (fun hn => hn hx), if_pos hl]
      rw [e]
      refine (ld_write_dead h i (some ⟨g, 0, none⟩) c hi hl).mono ?_
      rintro e w' ⟨rfl, rfl⟩
      exact ⟨rfl, Stp.refl h⟩
    · have e : wrtP D (i : Int) b = (0, D.wrote i b) := by unfold wrtP; rw [if_neg (fun hn => hn hx), if_neg hl, Int.toNat_natCast]
      rw [e]
      obtain ⟨s, v, hD⟩ := h.ex
      refine (write_ok w _ d s v D i ⟨g, 0, none⟩ c b hD hi hl hs hq hb hc (fun w' hk j u hu => by
        rw [Addr.add_mid, Nat.zero_add]
        exact hcs w' hk j u hu)).mono ?_
      rintro e w' ⟨rfl, v', hD', hk, hnew⟩
      refine ⟨rfl, ⟨⟨s, v', hD'⟩, ?_⟩, d :: v.ownBlock.toList, hk (d :: v.ownBlock.toList) (by simp) (fun g hg => by simp [hg]), fun k hn => ?_⟩
      · refine Below.kp2 h.bel (hk (d :: v.ownBlock.toList) (by simp) (fun g hg => by simp [hg])) h.bel.size (fun g hg => ?_)
        rcases List.mem_cons.1 hg with rfl | hg
        · exact hD.db
        · exact (dsk_own hD (by simpa using hg)).1
      · obtain ⟨hkl, s2, v2, hD2, n1, n2, n3⟩ := hn
        obtain ⟨rfl, rfl⟩ := dsk_same hD hD2
        have hK := hk (d :: v.ownBlock.toList) (by simp) (fun g hg => by simp [hg])
        refine ⟨?_, Nat.lt_of_lt_of_le hkl hK.size, s, v', hD', n1, n2, ?_⟩
        · intro hm
          rcases List.mem_cons.1 hm with rfl | hm
          · exact n1 rfl
          · exact n3 (by simpa using hm)
        · intro e
          rcases hnew k e with h | h
          · exact n3 h
          · omega
  · have e : wrtP D x b = (22, D) := by unfold wrtP; rw [if_pos hx]
    rw [e]
    refine (ld_write_no h x (some ⟨g, 0, none⟩) 64 c (.inl hx) (by decide)).mono ?_
    rintro e w' ⟨rfl, rfl⟩
    exact ⟨rfl, Stp.refl h⟩
end
/-- Bytes of a text in a row of their own. -/
theorem bw_below (w : World) (t : TypeId) (s : ByteArray) : Below w.heap.size w (Lib.bytesWorld w t s) := by
  have h1 : Below w.heap.size w (w.drew.alloc (.cells (Lib.bytesCells w t s) t)) := ((Below.refl _ _).drew).alloc (by simp) _
  refine ⟨h1.os, h1.tape, h1.output, by rw [Lib.bytesWorld_size]; omega, fun k hk => Lib.bytesWorld_at_old w t s k hk⟩
theorem bw_cells (w : World) (t : TypeId) (l : List UInt8) {w' : World} {d : Nat} (hk : Kp [d] (Lib.bytesWorld w t (txt l)) w') (hd : w.heap.size ≠ d) (j : Nat) (u : Value) (hu : (u8s l)[j]? = some u) : w'.cell? ⟨w.heap.size, j, none⟩ = some u := by
  have hj : j < l.length := by
    have := (List.getElem?_eq_some_iff.1 hu).1
    simpa [u8s] using this
  have hb := hk.block w.heap.size (by rw [Lib.bytesWorld_size]; omega) (by simpa using hd)
  have hc := Lib.bytesWorld_cell w t (txt l) j (by simpa [txt, ByteArray.size] using hj)
  have e : w'.cell? ⟨w.heap.size, j, none⟩ = (Lib.bytesWorld w t (txt l)).cell? ⟨w.heap.size, j, none⟩ := by
    unfold World.cell?
    simp only [hb]
  rw [e, hc, ← hu]
  simp [u8s, txt, List.getElem?_eq_getElem hj]
theorem by_blk17 {w : World} {g : Nat} {l : List UInt8} (h : Blk w g 5 (u8s l).toArray) : By w w.heap.size (some ⟨g, 0, none⟩) l.length l := by
  refine ⟨by simp [u8s], fun i u hu => ⟨_, rfl, h.lt, ?_⟩⟩
  rw [Addr.add_mid, Nat.zero_add, h.cell]
  simpa using hu
end Go.Proofs.Ytfaingklglelnaa

/- The walk over marllaw17's awake: a fixed fact. -/
namespace Go.Proofs.Ytfaingklglelnaa
open Go.RowKit
attribute [local go_sem ↓] Go.wp_at_zero Go.wp_at_succ

def aw1 : Dsk := (saveP (freshD 4) ⟨1, 0, 3, 3⟩).2
def aw2 : Dsk := (saveP aw1 ⟨1, 1, 0, 0⟩).2
def aw3 : Dsk := (saveP aw2 ⟨2, 0, 2, 0⟩).2
def aw4 : Dsk := (saveP aw3 ⟨1, 9, 0, 0⟩).2
theorem aw_1 : (saveP (freshD 4) ⟨1, 0, 3, 3⟩).1 = 0 := by kernel_rfl
theorem aw_2 : (saveP aw1 ⟨1, 1, 0, 0⟩).1 = 0 := by kernel_rfl
theorem aw_3 : (saveP aw2 ⟨2, 0, 2, 0⟩).1 = 0 := by kernel_rfl
theorem aw_4 : (saveP aw3 ⟨1, 9, 0, 0⟩).1 = 103 := by kernel_rfl
theorem aw_5 : countsP aw4 = (1, ⟨2, 0, 2, 0⟩) := by kernel_rfl
theorem aw_s0 : (freshD 4).steps = 0 ∧ (freshD 4).queue.length = 0 := ⟨rfl, rfl⟩
set_option maxHeartbeats 2000000 in
theorem awake17 (w : World) : Calls Try.prog 9 #[] w fun e w' => e = .returned (.bool true) ∧ Below w.heap.size w w' := by
  go_enter Try.func9, Try.ntmps9
  go_wp2_with fail
  refine (ld_new w 4 (by decide) (by decide)).mono ?_
  rintro e w1 ⟨d, rfl, h1⟩
  have H1 := hide (Stp.refl h1)
  clear h1
  go_wp2_with fail
  have p1 := saveP_steps (freshD 4) ⟨1, 0, 3, 3⟩
  refine (save_yes w w1 d _ H1.out.ld ⟨1, 0, 3, 3⟩ (by decide) (by have := aw_s0; omega) (by have := aw_s0; omega)).mono ?_
  rintro e w2 ⟨rfl, h2⟩
  rw [aw_1]
  replace H1 := hide (H1.out.trans h2)
  have P1 := hide p1
  clear h2 p1
  go_wp2_with fail
  have p2 := saveP_steps aw1 ⟨1, 1, 0, 0⟩
  refine (save_yes w w2 d aw1 H1.out.ld ⟨1, 1, 0, 0⟩ (by decide) (by have := aw_s0; have := P1.out; unfold aw1; omega) (by have := aw_s0; have := P1.out; unfold aw1; omega)).mono ?_
  rintro e w3 ⟨rfl, h2⟩
  rw [aw_2]
  replace H1 := hide (H1.out.trans h2)
  have P2 := hide p2
  clear h2 p2
  go_wp2_with fail
  have p3 := saveP_steps aw2 ⟨2, 0, 2, 0⟩
  refine (save_yes w w3 d aw2 H1.out.ld ⟨2, 0, 2, 0⟩ (by decide) (by have := aw_s0; have := P1.out; have := P2.out; unfold aw2; unfold aw1 at *; omega) (by have := aw_s0; have := P1.out; have := P2.out; unfold aw2; unfold aw1 at *; omega)).mono ?_
  rintro e w4 ⟨rfl, h2⟩
  rw [aw_3]
  replace H1 := hide (H1.out.trans h2)
  have P3 := hide p3
  clear h2 p3
  go_wp2_with fail
  refine (save_yes w w4 d aw3 H1.out.ld ⟨1, 9, 0, 0⟩ (by decide) (by have := aw_s0; have := P1.out; have := P2.out; have := P3.out; unfold aw3; unfold aw2 aw1 at *; omega) (by have := aw_s0; have := P1.out; have := P2.out; have := P3.out; unfold aw3; unfold aw2 aw1 at *; omega)).mono ?_
  rintro e w5 ⟨rfl, h2⟩
  rw [aw_4]
  replace H1 := hide (H1.out.trans h2)
  clear h2 P1 P2 P3
  go_wp2_with fail
  refine (load_any w w5 d aw4 H1.out.ld).mono ?_
  rintro e w6 ⟨rfl, hb⟩
  rw [aw_5]
  have B := hide (H1.out.ld.bel.trans (hb.mono H1.out.ld.bel.size))
  clear hb H1
  go_wp2_with fail
  go_ret
  exact ⟨rfl, B.out.alloc B.out.size _⟩
end Go.Proofs.Ytfaingklglelnaa

/- == on structs and arrays, as one answer. -/
namespace Go.Proofs.Ytfaingklglelnaa
open Go.RowKit

theorem eql_yes {P : Program} {t : TypeId} {D : Nat} {xs ys : Array Value} {ls : List Lit} (hk : P.keyTypeAt 100 t = true) (fx : (Value.agg xs).formed P t = true) (fy : (Value.agg ys).formed P t = true)
    (hx : P.keyLits D t xs.toList = some ls) (hy : P.keyLits D t ys.toList = some ls) (w : World) : (Op.equalIn 10000 t (.agg xs) (.agg ys)).run P w = .ok true w := by
  obtain ⟨r, h1, h2⟩ := run_equalIn_deep 9900 100 t hk w D D (.agg xs) (.agg ys) ls ls fx fy hx hy
  rw [h2.2 rfl] at h1
  exact h1
theorem eql_no {P : Program} {t : TypeId} {D : Nat} {xs ys : Array Value} {ls ls' : List Lit} (hk : P.keyTypeAt 100 t = true) (fx : (Value.agg xs).formed P t = true) (fy : (Value.agg ys).formed P t = true)
    (hx : P.keyLits D t xs.toList = some ls) (hy : P.keyLits D t ys.toList = some ls') (hn : ls ≠ ls') (w : World) : (Op.equalIn 10000 t (.agg xs) (.agg ys)).run P w = .ok false w := by
  obtain ⟨r, h1, h2⟩ := run_equalIn_deep 9900 100 t hk w D D (.agg xs) (.agg ys) ls ls' fx fy hx hy
  cases r with
  | true => exact absurd (h2.1 rfl) hn
  | false => exact h1
end Go.Proofs.Ytfaingklglelnaa

/- What == says of points (printed by gen_pteq.py). -/
namespace Go.Proofs.Ytfaingklglelnaa
open Go.RowKit

theorem keyLitsP {P : Program} {d : Nat} {t : TypeId} {q : IntKind} {m : Int} (hu : P.underlying t = some (.int q)) (hw : (Lit.int q m).wf = true) : P.keyLits (d + 1) t [.int q m] = some [.int q m] := by
  unfold Program.keyLits
  rw [hu]
  simp [hw]
theorem wf_natP {n : Nat} (h : n < 9223372036854775808) : (Lit.int .i64 (n : Int)).wf = true := by
  simp [Lit.wf, IntKind.min, IntKind.max, IntKind.signed, IntKind.bits]; omega
/-- It fits its fields. -/
def Pt.fit (p : Pt) : Prop := p.e < 65536 ∧ p.c < 65536 ∧ p.n < 65536 ∧ p.f < 65536
theorem Pt.fit_of {p : Pt} (h : p.P) : p.fit := by
  obtain ⟨h1, h2, h3, h4⟩ := h
  exact ⟨Int.ofNat_lt.1 h1.2, Int.ofNat_lt.1 h2.2, by omega, by omega⟩
theorem pt0_fit : Pt.fit ⟨0, 0, 0, 0⟩ := ⟨by decide, by decide, by decide, by decide⟩

set_option maxRecDepth 100000 in
theorem pt_lits (e c n f : Nat) (he : e < 65536) (hc : c < 65536) (hn : n < 65536) (hf : f < 65536) : Try.prog.keyLits 10 23 [.int .i64 (e : Int), .int .i64 (c : Int), .int .i64 (n : Int), .int .i64 (f : Int)] = some [.int .i64 (e : Int), .int .i64 (c : Int), .int .i64 (n : Int), .int .i64 (f : Int)] := by
  have hc1 : Try.prog.cellsOf 3 = 1 := by kernel_rfl
  have hc4 : Try.prog.cellsOf 23 = 4 := by kernel_rfl
  have x0 := wf_natP (n := e) (by omega)
  have x1 := wf_natP (n := c) (by omega)
  have x2 := wf_natP (n := n) (by omega)
  have x3 := wf_natP (n := f) (by omega)
  unfold Program.keyLits
  rw [Try.underlying23]
  simp only [hc1, hc4, List.length_cons, List.length_nil, List.mapM_cons, List.mapM_nil, List.drop_succ_cons, List.drop_zero, List.take_succ_cons, List.take_zero]
  simp only [keyLitsP Try.underlying3, x0, x1, x2, x3]
  simp
theorem pt_key : Try.prog.keyTypeAt 100 23 = true := by kernel_rfl
theorem pt_formed (e c n f : Int) : (ptV e c n f).formed Try.prog 23 = true := by kernel_rfl
theorem pt_same (p : Pt) (h : p.fit) (w : World) : (Op.equalIn 10000 23 p.val p.val).run Try.prog w = .ok true w := by
  have e := pt_lits p.e p.c p.n p.f h.1 h.2.1 h.2.2.1 h.2.2.2
  exact eql_yes pt_key (pt_formed _ _ _ _) (pt_formed _ _ _ _) e e w
theorem pt_other (p q : Pt) (h : p.fit) (h' : q.fit) (hn : p ≠ q) (w : World) : (Op.equalIn 10000 23 p.val q.val).run Try.prog w = .ok false w := by
  refine eql_no pt_key (pt_formed _ _ _ _) (pt_formed _ _ _ _) (pt_lits p.e p.c p.n p.f h.1 h.2.1 h.2.2.1 h.2.2.2) (pt_lits q.e q.c q.n q.f h'.1 h'.2.1 h'.2.2.1 h'.2.2.2) (fun e => hn ?_) w
  obtain ⟨a, b, c, d⟩ := p
  obtain ⟨a', b', c', d'⟩ := q
  simp only [List.cons.injEq, Lit.int.injEq, true_and, and_true] at e
  obtain ⟨e1, e2, e3, e4⟩ := e
  rw [Int.ofNat_inj.1 e1, Int.ofNat_inj.1 e2, Int.ofNat_inj.1 e3, Int.ofNat_inj.1 e4]

set_option maxRecDepth 100000 in
theorem rt_lits (e c n f : Nat) (he : e < 65536) (hc : c < 65536) (hn : n < 65536) (hf : f < 65536) : Try.prog.keyLits 10 30 [.int .i64 (e : Int), .int .i64 (c : Int), .int .i64 (n : Int), .int .i64 (f : Int)] = some [.int .i64 (e : Int), .int .i64 (c : Int), .int .i64 (n : Int), .int .i64 (f : Int)] := by
  have hc1 : Try.prog.cellsOf 3 = 1 := by kernel_rfl
  have hc4 : Try.prog.cellsOf 30 = 4 := by kernel_rfl
  have x0 := wf_natP (n := e) (by omega)
  have x1 := wf_natP (n := c) (by omega)
  have x2 := wf_natP (n := n) (by omega)
  have x3 := wf_natP (n := f) (by omega)
  unfold Program.keyLits
  rw [Try.underlying30]
  simp only [hc1, hc4, List.length_cons, List.length_nil, List.mapM_cons, List.mapM_nil, List.drop_succ_cons, List.drop_zero, List.take_succ_cons, List.take_zero]
  simp only [keyLitsP Try.underlying3, x0, x1, x2, x3]
  simp
theorem rt_key : Try.prog.keyTypeAt 100 30 = true := by kernel_rfl
theorem rt_formed (e c n f : Int) : (ptV e c n f).formed Try.prog 30 = true := by kernel_rfl
theorem rt_same (p : Pt) (h : p.fit) (w : World) : (Op.equalIn 10000 30 p.val p.val).run Try.prog w = .ok true w := by
  have e := rt_lits p.e p.c p.n p.f h.1 h.2.1 h.2.2.1 h.2.2.2
  exact eql_yes rt_key (rt_formed _ _ _ _) (rt_formed _ _ _ _) e e w
theorem rt_other (p q : Pt) (h : p.fit) (h' : q.fit) (hn : p ≠ q) (w : World) : (Op.equalIn 10000 30 p.val q.val).run Try.prog w = .ok false w := by
  refine eql_no rt_key (rt_formed _ _ _ _) (rt_formed _ _ _ _) (rt_lits p.e p.c p.n p.f h.1 h.2.1 h.2.2.1 h.2.2.2) (rt_lits q.e q.c q.n q.f h'.1 h'.2.1 h'.2.2.1 h'.2.2.2) (fun e => hn ?_) w
  obtain ⟨a, b, c, d⟩ := p
  obtain ⟨a', b', c', d'⟩ := q
  simp only [List.cons.injEq, Lit.int.injEq, true_and, and_true] at e
  obtain ⟨e1, e2, e3, e4⟩ := e
  rw [Int.ofNat_inj.1 e1, Int.ofNat_inj.1 e2, Int.ofNat_inj.1 e3, Int.ofNat_inj.1 e4]
end Go.Proofs.Ytfaingklglelnaa

/- A region whose last operation waits for all others: what the region holds to need not hold behind that last one. No program in sight. -/
namespace Go.Proofs.Ytfaingklglelnaa

/-- The post of the region without its last operation. -/
def LastQ (P : Program) (ops : Array Oper) (Q : Exit → Act → World → Prop) (z : Nat) : Exit → Act → World → Prop
  | .normal, a, w => wpOp P ops Q z (fun a' w' => Q .normal a' w') a w
  | e, a, w => Q e a w
section
variable {P : Program} {ops : Array Oper} {Q : Exit → Act → World → Prop} {md : Region.Mode} {z : Nat}
theorem upon_imp {o : Oper} {a : Act} {K K' : Act → World → Prop} {Q' : Exit → Act → World → Prop} (hK : ∀ a w, K a w → K' a w) (hp : ∀ c a w, Q' (.panic c) a w → Q (.panic c) a w) (ho : LetsOut Q' → LetsOut Q) :
    ∀ r, o.upon P a K Q' r → o.upon P a K' Q r := by
  intro r h
  unfold Oper.upon at *
  split at h
  · exact hK _ _ h
  · exact hK _ _ h
  · exact hK _ _ h
  · refine Calls.mono h fun e w' he => ?_
    cases e with
    | returned v => exact hK _ _ he
    | panicked c => exact hp _ _ _ he
    | outgrown => exact ho he
  · exact Rows.mono h fun u w' he => hK _ _ he
  · exact hp _ _ _ h
  · exact h
theorem wpOp_imp {i : Nat} {a : Act} {w : World} {K K' : Act → World → Prop} {Q' : Exit → Act → World → Prop} (hK : ∀ a w, K a w → K' a w) (hp : ∀ c a w, Q' (.panic c) a w → Q (.panic c) a w) (ho : LetsOut Q' → LetsOut Q)
    (h : wpOp P ops Q' i K a w) : wpOp P ops Q i K' a w := by
  unfold wpOp at *
  split
  · rename_i hn
    simp only [hn] at h
    exact hK _ _ h
  · rename_i o hn
    simp only [hn] at h
    split
    · rename_i hw
      rw [if_pos hw] at h
      rcases h with h | ⟨h1, h2⟩
      · exact .inl (upon_imp hK hp ho _ h)
      · exact .inr ⟨h1, ho h2⟩
    · rename_i hw
      rw [if_neg hw] at h
      exact hK _ _ h
/-- The check: each edge leads back, none to z, and for each other one somebody waits. -/
def lastOk (ops : Array Oper) (md : Region.Mode) (z : Nat) : Bool :=
  decide (z + 1 = ops.size) && (List.range ops.size).all (fun i => match ops[i]? with
    | none => true
    | some o => o.after.all (fun e => !Region.binds md e || (decide (e.on < i) && decide (e.on ≠ z)))) &&
  (List.range z).all fun j => (List.range ops.size).any fun i => match ops[i]? with
    | none => false
    | some o => o.after.any fun e => Region.binds md e && decide (e.on = j)
theorem lastOk_spec (h : lastOk ops md z = true) : z + 1 = ops.size ∧ (∀ i o, ops[i]? = some o → ∀ e ∈ o.after, Region.binds md e = true → e.on < i ∧ e.on ≠ z) ∧ ∀ j, j < z → ∃ (i : Nat) (o : Oper), ops[i]? = some o ∧ ∃ e ∈ o.after, Region.binds md e = true ∧ e.on = j := by
  unfold lastOk at h
  rw [Bool.and_eq_true, Bool.and_eq_true] at h
  obtain ⟨⟨h1, h2⟩, h3⟩ := h
  have h1 := of_decide_eq_true h1
  refine ⟨h1, fun i o ho e he hb => ?_, fun j hj => ?_⟩
  · have h4 := List.all_eq_true.1 h2 i (List.mem_range.2 (Array.getElem?_eq_some_iff.1 ho).1)
    rw [ho] at h4
    have h5 := Array.all_eq_true'.1 h4 e he
    rw [hb] at h5
    simp only [Bool.not_true, Bool.false_or, Bool.and_eq_true] at h5
    exact ⟨of_decide_eq_true h5.1, of_decide_eq_true h5.2⟩
  · obtain ⟨i, hi, h4⟩ := List.any_eq_true.1 (List.all_eq_true.1 h3 j (List.mem_range.2 hj))
    rcases ho : ops[i]? with _ | o
    · rw [ho] at h4; cases h4
    · rw [ho] at h4
      obtain ⟨e, he, h6⟩ := Array.any_eq_true'.1 h4
      rw [Bool.and_eq_true] at h6
      exact ⟨i, o, ho, e, he, h6.1, of_decide_eq_true h6.2⟩
/-- What is listed, its edges are. -/
def Shut2 (ops : Array Oper) (md : Region.Mode) (z : Nat) (listed : Array Bool) : Prop := ∀ i o, i ≠ z → ops[i]? = some o → listed.getD i false = true → ∀ e ∈ o.after, Region.binds md e = true → listed.getD e.on false = true
theorem Shut2.add {listed : Array Bool} (h : Shut2 ops md z listed) {i : Nat} (hi : i ∈ Region.ready md ops listed) : Shut2 ops md z (listed.setIfInBounds i true) := by
  intro j o hj ho hl e he hb
  refine getD_set_true ?_
  by_cases hij : i = j
  · subst hij
    obtain ⟨-, o', ho', h'⟩ := mem_ready.1 hi
    rw [ho] at ho'
    injection ho' with ho'
    subst ho'
    exact h' e he hb
  · rw [getD_set_ne false hij] at hl
    exact h j o hj ho hl e he hb
theorem wpAny_last (hok : lastOk ops md z = true) : ∀ (fuel : Nat) (listed : Array Bool) (a : Act) (w : World), listed.size = ops.size → listed.getD z true = false → Shut2 ops md z listed →
    wpAny P md ops (LastQ P ops Q z) fuel (listed.setIfInBounds z true) a w → wpAny P md ops Q (fuel + 1) listed a w := by
  obtain ⟨hz, hback, hwait⟩ := lastOk_spec hok
  have hzlt : z < ops.size := by omega
  obtain ⟨oz, hoz⟩ : ∃ o, ops[z]? = some o := ⟨_, Array.getElem?_eq_getElem hzlt⟩
  -- what is ready while z is not listed, and what is where it is held for listed
  have hsame : ∀ (listed : Array Bool) (j : Nat), j ≠ z → (j ∈ Region.ready md ops listed ↔ j ∈ Region.ready md ops (listed.setIfInBounds z true)) := fun listed j hj => by
    rw [mem_ready, mem_ready, getD_set_ne true (Ne.symm hj)]
    refine and_congr_right fun _ => ⟨fun ⟨o, ho, h⟩ => ⟨o, ho, fun e he hb => ?_⟩, fun ⟨o, ho, h⟩ => ⟨o, ho, fun e he hb => ?_⟩⟩
    · exact getD_set_true (h e he hb)
    · have := h e he hb
      rwa [getD_set_ne false (Ne.symm (hback j o ho e he hb).2)] at this
  have hall : ∀ (listed : Array Bool), listed.size = ops.size → Region.ready md ops (listed.setIfInBounds z true) = [] → ∀ j, j < z → listed.getD j false = true := fun listed hs hr j => by
    induction j using Nat.strongRecOn with
    | _ j ih =>
      intro hj
      rcases hb : listed.getD j true with _ | _
      · exfalso
        have hjo : j < ops.size := by omega
        have : j ∈ Region.ready md ops (listed.setIfInBounds z true) := (hsame listed j (by omega)).1 (mem_ready.2 ⟨hb, _, Array.getElem?_eq_getElem hjo, fun e he hbd => by
          obtain ⟨h1, h2⟩ := hback j _ (Array.getElem?_eq_getElem hjo) e he hbd
          exact ih e.on h1 (by omega)⟩)
        rw [hr] at this
        cases this
      · have hjl : j < listed.size := by omega
        simpa [hjl] using hb
  have hzr : ∀ (listed : Array Bool), Shut2 ops md z listed → z ∈ Region.ready md ops listed → ∀ j, j < z → listed.getD j false = true := fun listed hcl hr => by
    obtain ⟨-, o, ho, h⟩ := mem_ready.1 hr
    have main : ∀ d j, z - j = d → j < z → listed.getD j false = true := fun d => by
      induction d using Nat.strongRecOn with
      | _ d ih =>
        intro j hd hj
        obtain ⟨i, oi, hoi, e, he, hb, rfl⟩ := hwait j hj
        have h1 := (hback i oi hoi e he hb).1
        have hil := (Array.getElem?_eq_some_iff.1 hoi).1
        by_cases hiz : i = z
        · subst hiz
          rw [ho] at hoi
          injection hoi with hoi
          subst hoi
          exact h e he hb
        · exact hcl i oi hiz hoi (ih (z - i) (by omega) i rfl (by omega)) e he hb
    exact fun j hj => main (z - j) j rfl hj
  have fin : ∀ (fuel : Nat) (listed : Array Bool) (a : Act) (w : World), listed.size = ops.size → listed.getD z true = false → (∀ j, j < z → listed.getD j false = true) → LastQ P ops Q z .normal a w → wpAny P md ops Q (fuel + 1) listed a w := fun fuel listed a w hs hl hA h => by
    have hnone : ∀ j, j ∈ Region.ready md ops listed → j = z := fun j hj => by
      obtain ⟨h0, o, ho, -⟩ := mem_ready.1 hj
      have hjl := (Array.getElem?_eq_some_iff.1 ho).1
      rcases Nat.lt_trichotomy j z with h1 | h1 | h1
      · have := hA j h1
        have hjs : j < listed.size := by omega
        simp [hjs] at h0 this
        rw [h0] at this; cases this
      · exact h1
      · omega
    have hzm : z ∈ Region.ready md ops listed := mem_ready.2 ⟨hl, oz, hoz, fun e he hb => by
      obtain ⟨h1, h2⟩ := hback z oz hoz e he hb
      exact hA e.on h1⟩
    refine ⟨fun h0 => (by rw [h0] at hzm; cases hzm), fun i hi => ?_⟩
    have := hnone i hi
    subst this
    refine wpOp_mono (fun a' w' hq => ?_) h
    have hr : Region.ready md ops (listed.setIfInBounds i true) = [] := by
      rw [List.eq_nil_iff_forall_not_mem]
      intro j hj
      obtain ⟨h0, o, ho, -⟩ := mem_ready.1 hj
      have hjl := (Array.getElem?_eq_some_iff.1 ho).1
      have hil : i < listed.size := by omega
      by_cases e : j = i
      · subst e
        simp [hil] at h0
      · rw [getD_set_ne true (Ne.symm e)] at h0
        have hji : j < i := by omega
        have := hA j hji
        have hjs : j < listed.size := by omega
        simp [hjs] at h0 this
        rw [h0] at this; cases this
    cases fuel with
    | zero => exact ⟨hr, hq⟩
    | succ n => exact ⟨fun _ => hq, fun k hk => by rw [hr] at hk; cases hk⟩
  intro fuel
  induction fuel with
  | zero =>
    intro listed a w hs hl hcl h
    exact fin 0 listed a w hs hl (hall listed hs h.1) h.2
  | succ fuel ih =>
    intro listed a w hs hl hcl h
    by_cases hr : Region.ready md ops (listed.setIfInBounds z true) = []
    · exact fin (fuel + 1) listed a w hs hl (hall listed hs hr) (h.1 hr)
    · obtain ⟨j0, hj0⟩ := List.exists_mem_of_ne_nil _ hr
      have hj0z : j0 ≠ z := by
        rintro rfl
        obtain ⟨h0, -⟩ := mem_ready.1 hj0
        have hil : j0 < listed.size := by omega
        simp [hil] at h0
      refine ⟨fun h0 => ?_, fun i hi => ?_⟩
      · have := (hsame listed j0 hj0z).2 hj0
        rw [h0] at this; cases this
      · by_cases hiz : i = z
        · exfalso
          subst hiz
          obtain ⟨h0, o, ho, -⟩ := mem_ready.1 hj0
          rw [getD_set_ne true (Ne.symm hj0z)] at h0
          have hjl := (Array.getElem?_eq_some_iff.1 ho).1
          have hA := hzr listed hcl hi j0 (by omega)
          have hjs : j0 < listed.size := by omega
          simp [hjs] at h0 hA
          rw [h0] at hA; cases hA
        · have h1 := h.2 i ((hsame listed i hiz).1 hi)
          refine wpOp_imp (fun a' w' hk => ?_) (fun _ _ _ hp => hp) (fun hp => hp) h1
          rw [Array.setIfInBounds_comm _ _ (Ne.symm hiz)] at hk
          exact ih (listed.setIfInBounds i true) a' w' (by simpa using hs) (by rw [getD_set_ne true hiz]; exact hl) (hcl.add hi) hk
/-- The beginning of a region whose last operation stands apart. -/
theorem wp_region_last {S : World → Prop} {id : Nat} {a : Act} {w : World} {n : Nat} (hm : P.follows .mixedOrders = true) (hn : ops.size = n + 1) (hok : lastOk ops .any n = true) (hS : S w.drew)
    (h : S w.drew → wpAnyH P .any ops (LastQ P ops Q n) S n ((Array.replicate ops.size false).setIfInBounds n true) a w.drew) : (Code.region id ops true).wp P Q a w := by
  refine wp_region_any hm ?_
  rw [hn]
  exact wpAny_last hok n _ a _ (by simp [hn]) (by simp) (fun i o _ _ hl => by exfalso; rw [Array.getD_eq_getD_getElem?, Array.getElem?_replicate] at hl; split at hl <;> simp at hl) (by have := wpAny_of_held _ _ _ _ (h hS); rw [hn] at this; exact this)
theorem LastQ.step {a : Act} {w : World} {o : Oper} (ho : ops[z]? = some o) (hg : o.guard = none) (h : Oper.wp P o a w (fun a' w' => Q .normal a' w') Q) : LastQ P ops Q z .normal a w := by
  show wpOp P ops Q z _ a w
  unfold wpOp
  simp only [ho]
  rw [if_pos (by simp [Region.wanted, hg])]
  exact .inl h
end
end Go.Proofs.Ytfaingklglelnaa
