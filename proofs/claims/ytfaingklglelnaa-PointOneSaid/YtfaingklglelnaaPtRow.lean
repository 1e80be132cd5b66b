/- Pairs of numbers as an argument; a row of points of the call's own. -/
import Derived.Test.YtfaingklglelnaaPtDsk
import Derived.Test.YtfaingklglelnaaRdMore
import Derived.Test.YtfaingklglelnaaRowK
import Derived.Test.YtfaingklglelnaaDskOut
namespace Go.Proofs.Ytfaingklglelnaa
open Go.RowKit

/-- A slice of pairs that came in. -/
def PairsAt (w : World) (A : Option Addr) (n : Nat) (ps : List (Int × Int)) : Prop := SlK w A 2 n (ps.map fun p => [.int .i64 p.1, .int .i64 p.2])
set_option maxRecDepth 100000 in
theorem pairs_of_rd {w : World} {v : Value} (h : Rd Try.prog w 10 42 [v]) : ∃ A n c ps, v = .slice A n c ∧ n ≤ c ∧ c ≤ 9223372036854775807 ∧ PairsAt w A n ps := by
  have hcu : Try.prog.cellsOf 3 = 1 := by kernel_rfl
  obtain ⟨A, n, c, rows, rfl, hl, hm, hs, hr⟩ := slk_of_rd (n := 9) (k := 2) Try.underlying42 (by kernel_rfl) h
  have : ∃ ps : List (Int × Int), rows = ps.map fun p => [.int .i64 p.1, .int .i64 p.2] := by
    have hrow := hs.row
    clear hs hm hl h
    induction rows with
    | nil => exact ⟨[], rfl⟩
    | cons r rows ih =>
      obtain ⟨ps, hps⟩ := ih (fun x hx => hr x (by simp [hx])) (fun i hi => by have := hrow (i + 1) (by simpa using hi); simpa using this)
      have h2 : r.length = 2 := hrow 0 (by simp)
      have hr0 := hr r (by simp)
      match r, h2 with
      | [c0, c1], _ =>
        obtain ⟨a, rfl, _⟩ := rd_arr_int (n := 7) Try.underlying48 hr0 hcu Try.underlying3 0 (by omega) rfl
        obtain ⟨b, rfl, _⟩ := rd_arr_int (n := 7) Try.underlying48 hr0 hcu Try.underlying3 1 (by omega) rfl
        exact ⟨(a, b) :: ps, by rw [hps]; rfl⟩
  obtain ⟨ps, rfl⟩ := this
  exact ⟨A, n, c, ps, rfl, hl, hm, hs⟩
theorem PairsAt.get {w : World} {A : Option Addr} {n : Nat} {ps : List (Int × Int)} (h : PairsAt w A n ps) {i : Nat} (hi : i < n) : ∃ b off, A = some ⟨b, off, none⟩ ∧
    ∀ w', Below w.heap.size w w' → w'.cell? ⟨b, off + i * 2, none⟩ = some (.int .i64 (ps.getD i (0, 0)).1) ∧ w'.cell? ⟨b, off + i * 2 + 1, none⟩ = some (.int .i64 (ps.getD i (0, 0)).2) := by
  obtain ⟨b, off, hA, hb, hc⟩ := SlK.at h (by omega) (by decide)
  have hl : ps.length = n := by have := h.len; simpa using this
  have hx : ps.getD i (0, 0) = ps[i]'(by omega) := by rw [List.getD_eq_getElem?_getD, List.getElem?_eq_getElem (by omega)]; rfl
  refine ⟨b, off, hA, fun w' hw => ?_⟩
  have h0 := hc i (by simpa using (by omega : i < ps.length)) 0 (.int .i64 (ps.getD i (0, 0)).1) (by rw [List.getElem_map, hx]; rfl)
  have h1 := hc i (by simpa using (by omega : i < ps.length)) 1 (.int .i64 (ps.getD i (0, 0)).2) (by rw [List.getElem_map, hx]; rfl)
  exact ⟨(hw.cell (p := ⟨b, off + i * 2, none⟩) hb).trans h0, (hw.cell (p := ⟨b, off + i * 2 + 1, none⟩) hb).trans h1⟩
/-- int(uint(a) % q). -/
def moN (a : Int) (q : Nat) : Nat := (IntKind.u64.wrap a % (q : Int)).toNat
theorem moN_lt (a : Int) {q : Nat} (hq : 0 < q) : moN a q < q := by
  unfold moN
  have h0 : 0 ≤ IntKind.u64.wrap a % (q : Int) := Int.emod_nonneg _ (by omega)
  have h1 := Int.emod_lt_of_pos (IntKind.u64.wrap a) (show (0 : Int) < (q : Int) by omega)
  omega
theorem moN_eq (a : Int) (q : Nat) (hq : 0 < q) (hq2 : q < 1000000) : IntKind.i64.wrap ((IntKind.u64.wrap a).tmod (q : Int)) = (moN a q : Int) := by
  have h0' : 0 ≤ IntKind.u64.wrap a := by simp [IntKind.wrap, IntKind.bits, IntKind.signed]; omega
  unfold moN
  generalize IntKind.u64.wrap a = u at *
  rw [Int.tmod_eq_emod_of_nonneg h0']
  have e1 := Int.emod_nonneg u (show (q : Int) ≠ 0 by omega)
  have e2 := Int.emod_lt_of_pos u (show (0 : Int) < (q : Int) by omega)
  rw [IntKind.wrap_i64]
  omega

theorem moN_w64 (a : Int) (q : Nat) (hq : 0 < q) (hq2 : q < 1000000) : RowKit.wrap64 ((IntKind.u64.wrap a).tmod (q : Int)) = (moN a q : Int) := by
  have h0' : 0 ≤ IntKind.u64.wrap a := by simp [IntKind.wrap, IntKind.bits, IntKind.signed]; omega
  unfold moN
  generalize IntKind.u64.wrap a = u at *
  rw [Int.tmod_eq_emod_of_nonneg h0']
  have e1 := Int.emod_nonneg u (show (q : Int) ≠ 0 by omega)
  have e2 := Int.emod_lt_of_pos u (show (0 : Int) < (q : Int) by omega)
  rw [IntWalk.wrap64_in _ (by omega)]
  omega
/-- The cells of the first n points. -/
def ptsC (q : Nat → Pt) (n : Nat) : List Value := (List.range n).flatMap fun j => (q j).cells.toList
theorem ptsC_succ (q : Nat → Pt) (n : Nat) : ptsC q (n + 1) = ptsC q n ++ (q n).cells.toList := by simp [ptsC, List.range_succ]
theorem ptsC_len (q : Nat → Pt) : ∀ n, (ptsC q n).length = n * 4
  | 0 => rfl
  | n + 1 => by rw [ptsC_succ, List.length_append, ptsC_len q n]; simp; omega
theorem ptsC_get (q : Nat → Pt) {j s : Nat} (hs : s < 4) : ∀ n, j < n → (ptsC q n)[j * 4 + s]? = (q j).cells.toList[s]?
  | 0, h => by omega
  | n + 1, h => by
    rw [ptsC_succ]
    by_cases e : j = n
    · subst e
      rw [List.getElem?_append_right (by rw [ptsC_len]; omega), ptsC_len, show j * 4 + s - j * 4 = s by omega]
    · rw [List.getElem?_append_left (by rw [ptsC_len]; omega), ptsC_get q hs n (by omega)]
/-- A row of points of the call's own. -/
def PtRow (w : World) (base : Nat) (A : Option Addr) (c n : Nat) (q : Nat → Pt) : Prop := w.ownsRow base 23 4 (.slice A n c) n (ptsC q n)
theorem PtRow.get {w : World} {base c n : Nat} {A : Option Addr} {q : Nat → Pt} (h : PtRow w base A c n q) {j : Nat} (hj : j < n) : ∃ g, A = some ⟨g, 0, none⟩ ∧ base ≤ g ∧ (∃ cs, Blk w g 23 cs) ∧
    w.cell? ⟨g, j * 4, none⟩ = some (.int .i64 (q j).e) ∧ w.cell? ⟨g, j * 4 + 1, none⟩ = some (.int .i64 (q j).c) ∧ w.cell? ⟨g, j * 4 + 2, none⟩ = some (.int .i64 (q j).n) ∧ w.cell? ⟨g, j * 4 + 3, none⟩ = some (.int .i64 (q j).f) := by
  have h' := h
  rcases h.2 with ⟨h1, h2⟩ | ⟨g, cap, cur, h1, hb, hg, hnc, hcm, hcs, ht⟩
  · omega
  · injection h1 with h1 _ _
    subst h1
    have hc := fun s (hs : s < 4) u (hu : (q j).cells.toList[s]? = some u) => World.ownsRow.cells h' (g := g) rfl (j * 4 + s) u (by rw [ptsC_get q hs n hj]; exact hu)
    refine ⟨g, rfl, hb, ⟨cur, hg⟩, ?_, ?_, ?_, ?_⟩
    · have := hc 0 (by decide) _ rfl
      rwa [Addr.add_mid, Nat.zero_add] at this
    · have := hc 1 (by decide) _ rfl
      rwa [Addr.add_mid, Nat.zero_add] at this
    · have := hc 2 (by decide) _ rfl
      rwa [Addr.add_mid, Nat.zero_add] at this
    · have := hc 3 (by decide) _ rfl
      rwa [Addr.add_mid, Nat.zero_add] at this
theorem PtRow.below {w w' : World} {base c n : Nat} {A : Option Addr} {q : Nat → Pt} (h : PtRow w base A c n q) (hb : Below w.heap.size w w') : PtRow w' base A c n q :=
  own_kq h (Kp.of_below (gs := []) hb) (by simp)
theorem etyPt : EtyK Try.prog 46 23 (.agg #[.int .i64 0, .int .i64 0, .int .i64 0, .int .i64 0]) 4 32 := EtyK.mk' Try.underlying46 (by kernel_rfl) rfl (by decide) (by decide)
/-- A disk's step leaves the row. -/
theorem PtRow.stp {w0 w w' : World} {d base c n : Nat} {D D' : Dsk} {A : Option Addr} {q : Nat → Pt} (h : PtRow w base A c n q) (hl : LD w0 w d D) (hs : Stp w0 w w' d D D') : PtRow w' base A c n q := by
  obtain ⟨gs, hk, hf⟩ := hs.kp
  refine own_kq h hk (fun g hg => ?_)
  obtain ⟨-, cs, hB⟩ := own_blkO h hg
  exact (hf g (out_typeO hl hB (by decide))).1
theorem wpList_appK {P : Program} {w : World} {ops : Array Oper} {rest : List Oper} {o : Oper} {a : Act} {Q : Exit → Act → World → Prop} (hgd : o.guard = none) (s x : Operand) (t : TypeId)
    (ho : o.op = .call { callee := .builtin .append, args := #[s, x], argTypes := #[t, t] })
    {e : TypeId} {z : Value} {k bytes : Nat} (hE : EtyK P t e z k bytes) (base : Nat) (v : Value) (n : Nat) (xs : List Value) (hs : a.eval s = v) (hown : w.ownsRow base e k v n xs)
    (B : Nat) (A : Option Addr) (m c : Nat) (news : List Value) (hx : a.eval x = .slice A m c) (hr : SlC w B A m k news) (h1 : ∀ u ∈ news, u.oneCell' = true)
    (hbytes : (n + m) * bytes ≤ 140737488355328) (hbase : base ≤ w.heap.size)
    (h : ∀ A' c' w', w'.ownsRow base e k (.slice A' (n + m) c') (n + m) (xs ++ news) → w.grownBy w' v.ownBlock →
      ((Value.slice A' (n + m) c').ownBlock = v.ownBlock ∨ (Value.slice A' (n + m) c').ownBlock = some w.heap.size) → wpList P ops Q rest (a.put o.dst (.slice A' (n + m) c')) w') : wpList P ops Q (o :: rest) a w := by
  refine wpList_plain hgd fun K' hK' => ?_
  obtain ⟨A', c', w', hrun, h2, h3, h4⟩ := run_appK (P := P) w (ty := o.type) hE base v n xs hown B A m c news hr h1 hbytes hbase
  unfold Oper.wp execOp
  simp only [ho, resolve, invoke, builtin, Sem.run_bind, Sem.run_pure, Result.andThen_ok, List.map_toArray, List.map_cons, List.map_nil, hs, hx, hrun]
  exact hK' _ _ (h A' c' w' h2 h3 h4)
theorem slc_new (w : World) (l : List Value) (t : TypeId) {m k : Nat} (h : l.length = m * k) : SlC (w.alloc (.cells l.toArray t)) (w.heap.size + 1) (some ⟨w.heap.size, 0, none⟩) m k l := by
  refine ⟨h, fun i u hu => ⟨_, rfl, by simp, ?_⟩⟩
  rw [Addr.add_mid, Nat.zero_add, (Blk.new w _ _).cell]
  simpa using hu
end Go.Proofs.Ytfaingklglelnaa
