/- Play, whatever it is called with: both disks go on side by side. -/
import Derived.Test.YtpcaaobninnkaaaPlA
import Derived.Test.YtpcaaobninnkaaaPlB
import Derived.Test.YtpcaaobninnkaaaPlWRNo
import Derived.Test.YtpcaaobninnkaaaPlWRDe
import Derived.Test.YtpcaaobninnkaaaPlWROk
import Derived.Test.YtpcaaobninnkaaaPlWBNo
import Derived.Test.YtpcaaobninnkaaaPlWBDe
import Derived.Test.YtpcaaobninnkaaaPlWBOk
import Derived.Test.YtpcaaobninnkaaaPlCDe
import Derived.Test.YtpcaaobninnkaaaPlCOn
import Derived.Test.YtpcaaobninnkaaaPlCOk
namespace Go.Proofs.Ytpcaaobninnkaaa
open Go.RowKit

theorem play_any {w0 w : World} {d : Nat} {D : Dsk} {As : Option Addr} {cs : Nat} {Aq : Option Addr} {cq : Nat} (h : PJ w0 w d D As cs Aq cq D) (o : OpL) (hO : OpAt w0 w0.heap.size o) (hs : D.steps < 1000) (hq : D.queue.length < 1000) (h1 : 1 ≤ D.sure.length) :
    Calls Try.prog 22 #[.pointer (some ⟨d, 0, none⟩), .agg (refV As cs Aq cq D), .agg (opV o)] w (Played w0 w d D As Aq) := by
  by_cases k1 : o.kind = 1
  · cases hr : o.raw with
    | true =>
      by_cases hi : ¬ (0 ≤ o.n ∧ o.n < D.sure.length) ∨ o.bn ≠ 64
      · exact play_wr_no h o hO k1 hr hs hq hi
      · have h2 : 0 ≤ o.n ∧ o.n < D.sure.length := Classical.byContradiction fun e => hi (.inl e)
        have h3 : o.bn = 64 := Classical.byContradiction fun e => hi (.inr e)
        by_cases hl : D.left = 0
        · exact play_wr_dead h o hO k1 hr hs hq o.n.toNat (by omega) (by omega) hl h3
        · exact play_wr_ok h o hO k1 hr hs hq o.n.toNat (by omega) (by omega) hl h3
    | false =>
      by_cases h2 : 0 ≤ o.n ∧ o.n < D.sure.length
      · by_cases hl : D.left = 0
        · exact play_wb_dead h o hO k1 hr hs hq o.n.toNat (by omega) (by omega) hl
        · exact play_wb_ok h o hO k1 hr hs hq o.n.toNat (by omega) (by omega) hl
      · exact play_wb_no h o hO k1 hr hs hq h2
  · by_cases k2 : o.kind = 2
    · by_cases hl : D.left = 0
      · exact play_bar_dead h o k2 hl
      · exact play_bar h o k2 hs hl
    · by_cases k3 : o.kind = 3
      · by_cases hn : o.n < 0
        · exact play_arm_no h o k3 hn
        · by_cases hl : D.left = 0
          · exact play_arm_dead h o k3 hn hl
          · exact play_arm h o k3 hn hO.n.2 hl
      · by_cases k4 : o.kind = 4
        · by_cases hl : D.left = 0
          · exact play_crash_dead h o hO k4 hs hq h1 hl
          · by_cases hl1 : D.left = 1
            · exact play_crash_one h o hO k4 hs hq h1 hl1
            · exact play_crash_ok h o hO k4 hs hq h1 ⟨hl, hl1⟩
        · exact play_other h o k1 k2 k3 k4

/-- A script that came in: its operations, row by row. -/
structure OpsAt (w : World) (A : Option Addr) (n : Nat) (os : List OpL) : Prop where
  sl : SlK w A 6 n (os.map fun o => (opV o).toList)
  at_ : ∀ o ∈ os, OpAt w w.heap.size o
theorem ops_row {w : World} {r : List Value} (h : Rz Try.prog w 9 57 r) : ∃ o, r = (opV o).toList ∧ OpAt w w.heap.size o := by
  have ht := Try.underlying57
  have hl := rz_len (n := 8) ht h
  have hl6 : r.length = 6 := by rw [hl]; kernel_rfl
  match r, hl6 with
  | [x0, x1, x2, x3, x4, x5], _ =>
    obtain ⟨m0, rfl, _⟩ := rz_i64 (n := 7) Try.underlying3 (rz_fld (n := 8) ht h 0 (u := 3) (o := 0) (by kernel_rfl) (by kernel_rfl) rfl)
    obtain ⟨m1, rfl, b1⟩ := rz_i64 (n := 7) Try.underlying3 (rz_fld (n := 8) ht h 1 (u := 3) (o := 1) (by kernel_rfl) (by kernel_rfl) rfl)
    obtain ⟨m2, rfl, _⟩ := rz_i64 (n := 7) Try.underlying3 (rz_fld (n := 8) ht h 2 (u := 3) (o := 2) (by kernel_rfl) (by kernel_rfl) rfl)
    obtain ⟨bA, bn, bc, b, rfl, c1, c2, c3⟩ := by_of_rz (n := 6) Try.underlying22 Try.underlying5 (by kernel_rfl) (by kernel_rfl) (rz_fld (n := 8) ht h 3 (u := 22) (o := 3) (by kernel_rfl) (by kernel_rfl) rfl)
    obtain ⟨x4', hx4⟩ := rz_bool (n := 7) Try.underlying4 (rz_fld (n := 8) ht h 4 (u := 4) (o := 4) (by kernel_rfl) (by kernel_rfl) rfl)
    simp only [List.cons.injEq, and_true] at hx4
    subst hx4
    obtain ⟨kA, kn, kc, keep, rfl, d1, d2, d3⟩ := bools_of_rz (n := 6) Try.underlying37 Try.underlying4 (by kernel_rfl) (by kernel_rfl) (rz_fld (n := 8) ht h 5 (u := 37) (o := 5) (by kernel_rfl) (by kernel_rfl) rfl)
    exact ⟨⟨m0, m1, m2, bA, bn, bc, b, x4', kA, kn, kc, keep⟩, rfl, ⟨c3, d3, ⟨c1, c2⟩, ⟨d1, d2⟩, b1⟩⟩
theorem ops_of_rz {w : World} {v : Value} (h : Rz Try.prog w 10 47 [v]) : ∃ A n c os, v = .slice A n c ∧ n ≤ c ∧ c ≤ 9223372036854775807 ∧ OpsAt w A n os := by
  obtain ⟨A, n, c, rows, rfl, h1, h2, _, h3, h4⟩ := slk_of_rz (n := 9) (k := 6) Try.underlying47 (by kernel_rfl) h
  obtain ⟨os, rfl, ho⟩ : ∃ os : List OpL, rows = os.map (fun o => (opV o).toList) ∧ ∀ o ∈ os, OpAt w w.heap.size o := by
    clear h3
    induction rows with
    | nil => exact ⟨[], rfl, by simp⟩
    | cons r rs ih =>
      obtain ⟨o, rfl, ho⟩ := ops_row (h4 r (by simp))
      obtain ⟨os, rfl, hos⟩ := ih (fun x hx => h4 x (by simp [hx]))
      exact ⟨o :: os, rfl, by simpa [ho] using hos⟩
  exact ⟨A, n, c, os, rfl, h1, h2, h3, ho⟩
theorem two_of_rz {w : World} {v : Value} (h : ArgZ Try.prog w 42 v) : ∃ a0 a1 : Int, v = .agg #[.int .i64 a0, .int .i64 a1] := by
  obtain ⟨cs, rfl, hr⟩ := argz_agg h (.inr ⟨_, _, Try.underlying42⟩)
  obtain ⟨hl, hi⟩ := rz_array (n := 9) Try.underlying42 hr
  have h2 : cs.toList.length = 2 := by rw [hl]; kernel_rfl
  have hc : Try.prog.cellsOf 3 = 1 := by kernel_rfl
  obtain ⟨l, rfl⟩ : ∃ l : List Value, cs = l.toArray := ⟨cs.toList, by simp⟩
  match l, h2 with
  | [x0, x1], _ =>
    have r0 := hi 0 (by omega)
    have r1 := hi 1 (by omega)
    rw [hc] at r0 r1
    obtain ⟨a0, h0, _⟩ := rz_int (n := 8) Try.underlying3 r0
    obtain ⟨a1, h1, _⟩ := rz_int (n := 8) Try.underlying3 r1
    simp at h0 h1
    subst h0 h1
    exact ⟨a0, a1, rfl⟩
/-- Where they lie, and the cells of one of them. -/
theorem OpsAt.at {w0 : World} {A : Option Addr} {n : Nat} {os : List OpL} (h : OpsAt w0 A n os) (hn : 0 < n) :
    ∃ b off, A = some ⟨b, off, none⟩ ∧ b < w0.heap.size ∧ ∀ i, i < n → ∃ o, OpAt w0 w0.heap.size o ∧ ∀ j u, (opV o)[j]? = some u → w0.cell? ⟨b, off + i * 6 + j, none⟩ = some u := by
  obtain ⟨b, off, e, hb, hc⟩ := h.sl.at hn (by omega)
  have hl := h.sl.len
  rw [List.length_map] at hl
  refine ⟨b, off, e, hb, fun i hi => ⟨os[i]'(by omega), h.at_ _ (List.getElem_mem _), fun j u hu => ?_⟩⟩
  have := hc i (by rw [List.length_map]; omega) j u
  rw [List.getElem_map] at this
  exact this (by simpa using hu)
theorem op_cells {w0 w : World} {b off i : Nat} {o : OpL} (hb : b < w0.heap.size) (h : ∀ j u, (opV o)[j]? = some u → w0.cell? ⟨b, off + i * 6 + j, none⟩ = some u) (hw : Below w0.heap.size w0 w) :
    w.cell? ⟨b, off + i * 6, none⟩ = some (.int .i64 o.kind) ∧ w.cell? ⟨b, off + i * 6 + 1, none⟩ = some (.int .i64 o.n) ∧ w.cell? ⟨b, off + i * 6 + 2, none⟩ = some (.int .i64 o.sectors) ∧
      w.cell? ⟨b, off + i * 6 + 3, none⟩ = some (.slice o.bA o.bn o.bc) ∧ w.cell? ⟨b, off + i * 6 + 4, none⟩ = some (.bool o.raw) ∧ w.cell? ⟨b, off + i * 6 + 5, none⟩ = some (.slice o.kA o.kn o.kc) := by
  have k : ∀ j u, (opV o)[j]? = some u → w.cell? ⟨b, off + i * 6 + j, none⟩ = some u := fun j u hu => (hw.cell (p := ⟨b, _, none⟩) hb).trans (h j u hu)
  exact ⟨k 0 _ rfl, k 1 _ rfl, k 2 _ rfl, k 3 _ rfl, k 4 _ rfl, k 5 _ rfl⟩

/-- Both disks, and the box in which a law keeps the reference's. -/
structure PB (w0 w : World) (g d : Nat) (D : Dsk) (As : Option Addr) (cs : Nat) (Aq : Option Addr) (cq : Nat) : Prop where
  pj : PJ w0 w d D As cs Aq cq D
  x : PX w0 w d D As Aq g
  bk : Blk w g 51 (refV As cs Aq cq D)
  hg : w0.heap.size ≤ g
section
variable {w0 w w' : World} {g d : Nat} {D : Dsk} {As Aq : Option Addr} {cs cq : Nat}
theorem PB.below (h : PB w0 w g d D As cs Aq cq) (hb : Below w.heap.size w w') : PB w0 w' g d D As cs Aq cq := ⟨h.pj.below hb, h.x.below hb, h.bk.below hb, h.hg⟩
theorem PB.drew (h : PB w0 w g d D As cs Aq cq) : PB w0 w.drew g d D As cs Aq cq := h.below (Below.refl _ _).drew
theorem PB.alloc (h : PB w0 w g d D As cs Aq cq) (o : Obj) : PB w0 (w.alloc o) g d D As cs Aq cq := h.below ((Below.refl _ _).alloc (Nat.le_refl _) o)
theorem RefM.base {B B' : Nat} (h : RefM w B As cs Aq cq D) (hb : B' ≤ B) : RefM w B' As cs Aq cq D := ⟨own_base65 h.s hb, own_base65 h.q hb, h.ok⟩
/-- At the start. -/
theorem PB.start {w1 w2 : World} {d n : Nat} {As : Option Addr} {cs : Nat} (hb : Below w0.heap.size w0 w) (h1 : LD w w1 d (freshD n)) (h2 : RefM w2 w1.heap.size As cs none 0 (freshD n)) (h3 : Below w1.heap.size w1 w2) :
    PB w0 (w2.alloc (.cells (refV As cs none 0 (freshD n)) 51)) w2.heap.size d (freshD n) As cs none 0 := by
  have h1' := h1.base hb
  have hb4 : Below w2.heap.size w2 (w2.alloc (.cells (refV As cs none 0 (freshD n)) 51)) := (Below.refl _ _).alloc (Nat.le_refl _) _
  have hp : PJ w0 w2 d (freshD n) As cs none 0 (freshD n) := ⟨h1'.below h3, h2.base h1'.sz, fun g hg => h1'.out h3 (h2.sLt g hg).1 (h2.sLt g hg).2, fun g hg => by cases hg⟩
  exact ⟨hp.below hb4, PX.mk' hp hb4 (Nat.le_refl _) (by simp), Blk.new _ _ _, hp.ld.sz⟩
/-- Behind Play, and the store of what it gave. -/
theorem PB.next {d' : Nat} {D' : Dsk} {As' Aq' : Option Addr} {cs' cq' : Nat} (h : PB w0 w g d D As cs Aq cq) (hp : PJ w0 w' d' D' As' cs' Aq' cq' D') (hf : ∀ g t c, FrQ w0 w d D As Aq g t c → FrQ w0 w' d' D' As' Aq' g t c) :
    Blk w' g 51 (refV As cs Aq cq D) ∧ PB w0 ((((w'.setCell ⟨g, 0, none⟩ (.slice As' D'.sure.length cs')).setCell ⟨g, 1, none⟩ (.slice Aq' D'.queue.length cq')).setCell ⟨g, 2, none⟩ (.int .i64 (D'.steps : Int))).setCell ⟨g, 3, none⟩ (.int .i64 D'.left)) g d' D' As' cs' Aq' cq' := by
  obtain ⟨x, bk⟩ := hf g _ _ ⟨h.x, h.bk⟩
  have hx0 := x.box x.o 0 (.slice As' D'.sure.length cs')
  have hx1 := hx0.box hx0.o 1 (.slice Aq' D'.queue.length cq')
  have hx2 := hx1.box hx1.o 2 (.int .i64 (D'.steps : Int))
  exact ⟨bk, (((hp.box x.o x.ns x.nq h.hg 0 _).box hx0.o x.ns x.nq h.hg 1 _).box hx1.o x.ns x.nq h.hg 2 _).box hx2.o x.ns x.nq h.hg 3 _, hx2.box hx2.o 3 _, _root_.Go.Proofs.Ytpcaaobninnkaaa.set4 bk _ _ _ _, h.hg⟩
end
end Go.Proofs.Ytpcaaobninnkaaa
