/- The walk over index.To: the path to a block. -/
import Derived.Test.YtakflabokbaibaaDoorIdxLW
import Derived.Test.YtakflabokbaibaaDoorInts
set_option linter.unusedVariables false
set_option linter.unusedSimpArgs false
namespace Go.Proofs.YtakflabokbaibaaDoor
open Go.RowKit
attribute [local go_sem ↓] Go.wp_at_zero Go.wp_at_succ

def natsI (l : List Nat) : List Int := l.map fun (n : Nat) => (n : Int)
theorem natsI_app (l : List Nat) (n : Nat) : natsI l ++ [(n : Int)] = natsI (l ++ [n]) := by simp [natsI]
theorem natsI_len (l : List Nat) : (natsI l).length = l.length := by simp [natsI]
/-- A path as a value. -/
def pathV (r : Nat) (A1 : Option Addr) (n1 c1 : Nat) (A2 : Option Addr) (n2 c2 : Nat) : Array Value := #[.int .i64 (r : Int), .slice A1 n1 c1, .slice A2 n2 c2]
/-- Both lists of a path, of n integers each, lie in rows above base, apart. -/
structure PathM (w : World) (base : Nat) (A1 : Option Addr) (n c1 : Nat) (A2 : Option Addr) (c2 : Nat) (p : PathL) : Prop where
  m : w.ownsRow base 3 1 (.slice A1 n c1) n (intC p.metas)
  s : w.ownsRow base 3 1 (.slice A2 n c2) n (intC (natsI p.slots))
  ne : ∀ g, (Value.slice A1 0 0).ownBlock = some g → (Value.slice A2 0 0).ownBlock ≠ some g
theorem PathM.below {w w' : World} {base n c1 c2 : Nat} {A1 A2 : Option Addr} {p : PathL} (h : PathM w base A1 n c1 A2 c2 p) (hb : Below w.heap.size w w') : PathM w' base A1 n c1 A2 c2 p := ⟨own_bel h.m hb, own_bel h.s hb, h.ne⟩
theorem PathM.base {w : World} {base base' n c1 c2 : Nat} {A1 A2 : Option Addr} {p : PathL} (h : PathM w base A1 n c1 A2 c2 p) (hb : base' ≤ base) : PathM w base' A1 n c1 A2 c2 p := ⟨own_bq h.m hb, own_bq h.s hb, h.ne⟩
theorem PathM.nil {w : World} {base : Nat} (r : Nat) : PathM w base none 0 0 none 0 ⟨r, [], []⟩ := ⟨World.ownsRow_nil _ _ _ _, World.ownsRow_nil _ _ _ _, by simp [Value.ownBlock]⟩
/-- To's two boxes and the lists. -/
structure ToM (w0 w : World) (R P base : Nat) (x0 : Value) (A1 : Option Addr) (n1 c1 : Nat) (A2 : Option Addr) (n2 c2 : Nat) (l1 l2 : List Int) : Prop where
  kR : Blk w R 34 #[.int .i64 0, .slice none 0 0, .slice none 0 0]
  kP : Blk w P 34 #[x0, .slice A1 n1 c1, .slice A2 n2 c2]
  m1 : w.ownsRow base 3 1 (.slice A1 n1 c1) n1 (intC l1)
  m2 : w.ownsRow base 3 1 (.slice A2 n2 c2) n2 (intC l2)
  ne : ∀ g, (Value.slice A1 0 0).ownBlock = some g → (Value.slice A2 0 0).ownBlock ≠ some g
  b : w0.heap.size ≤ R ∧ R < P ∧ P < base ∧ base ≤ w.heap.size
  bel : Below w0.heap.size w0 w
section
variable {w0 w w' : World} {R P base : Nat} {x0 : Value} {A1 A2 A' : Option Addr} {n1 c1 n2 c2 c' : Nat} {l1 l2 : List Int} {x : Int}
theorem ToM.below (h : ToM w0 w R P base x0 A1 n1 c1 A2 n2 c2 l1 l2) (hb : Below w.heap.size w w') : ToM w0 w' R P base x0 A1 n1 c1 A2 n2 c2 l1 l2 := by
  obtain ⟨b1, b2, b3, b4⟩ := h.b
  exact ⟨h.kR.below hb, h.kP.below hb, own_bel h.m1 hb, own_bel h.m2 hb, h.ne, ⟨b1, b2, b3, Nat.le_trans b4 hb.size⟩, h.bel.trans (hb.mono (by omega))⟩
theorem ToM.drew (h : ToM w0 w R P base x0 A1 n1 c1 A2 n2 c2 l1 l2) : ToM w0 w.drew R P base x0 A1 n1 c1 A2 n2 c2 l1 l2 := h.below (Below.refl _ _).drew
theorem ToM.app1 (h : ToM w0 w R P base x0 A1 n1 c1 A2 n2 c2 l1 l2) (hown : w'.ownsRow base 3 1 (.slice A' (n1 + 1) c') (n1 + 1) (intC l1 ++ [.int .i64 x])) (hg : w.grownBy w' (Value.slice A1 n1 c1).ownBlock)
    (hat : (Value.slice A' (n1 + 1) c').ownBlock = (Value.slice A1 n1 c1).ownBlock ∨ (Value.slice A' (n1 + 1) c').ownBlock = some w.heap.size) :
    Blk w' P 34 #[x0, .slice A1 n1 c1, .slice A2 n2 c2] ∧ ToM w0 (w'.setCell ⟨P, 1, none⟩ (.slice A' (n1 + 1) c')) R P base x0 A' (n1 + 1) c' A2 n2 c2 (l1 ++ [x]) l2 := by
  obtain ⟨b1, b2, b3, b4⟩ := h.b
  have e1 : ∀ k, (Value.slice A1 n1 c1).ownBlock = some k → base ≤ k := fun k hk => (h.m1.lt k hk).1
  have hP : Blk w' P 34 #[x0, .slice A1 n1 c1, .slice A2 n2 c2] := blk_gr h.kP hg (fun e => by have := e1 P e.symm; omega)
  have hR : Blk w' R 34 #[.int .i64 0, .slice none 0 0, .slice none 0 0] := blk_gr h.kR hg (fun e => by have := e1 R e.symm; omega)
  have hne : ∀ k, (Value.slice A' 0 0).ownBlock = some k → (Value.slice A2 0 0).ownBlock ≠ some k := fun k hk e => by
    rw [← ob' A' (n1 + 1) c'] at hk
    rcases hat with h' | h'
    · rw [h', ob' A1] at hk; exact h.ne k hk e
    · rw [h'] at hk
      rw [← ob' A2 n2 c2] at e
      have := (h.m2.lt k e).2
      injection hk with hk; omega
  have h2 : w'.ownsRow base 3 1 (.slice A2 n2 c2) n2 (intC l2) := own_gr h.m2 hg (fun k hk e => by rw [ob' A2] at hk; rw [ob' A1] at e; exact h.ne k e.symm hk)
  have hK : Kp [P] w' (w'.setCell ⟨P, 1, none⟩ (.slice A' (n1 + 1) c')) := (Kp.refl [P] w').set (p := ⟨P, 1, none⟩) (.inl (by simp)) _
  refine ⟨hP, hR.far (p := ⟨P, 1, none⟩) (by show R ≠ P; omega) _, hP.set 1 _, ?_, own_kq h2 hK (fun k hk => by have := (h2.lt k hk).1; simp; omega), hne, ⟨b1, b2, b3, ?_⟩, ?_⟩
  · have := own_kq hown hK (fun k hk => by have := (hown.lt k hk).1; simp; omega)
    rwa [intC_app] at this
  · have := hg.size; simp only [World.setCell, Array.size_modify]; omega
  · exact (bel_gr h.bel hg (fun k hk => by have := e1 k hk; omega) (by omega)).setCell (p := ⟨P, 1, none⟩) (by show _ ≤ P; omega) _
theorem ToM.app2 (h : ToM w0 w R P base x0 A1 n1 c1 A2 n2 c2 l1 l2) (hown : w'.ownsRow base 3 1 (.slice A' (n2 + 1) c') (n2 + 1) (intC l2 ++ [.int .i64 x])) (hg : w.grownBy w' (Value.slice A2 n2 c2).ownBlock)
    (hat : (Value.slice A' (n2 + 1) c').ownBlock = (Value.slice A2 n2 c2).ownBlock ∨ (Value.slice A' (n2 + 1) c').ownBlock = some w.heap.size) :
    Blk w' P 34 #[x0, .slice A1 n1 c1, .slice A2 n2 c2] ∧ ToM w0 (w'.setCell ⟨P, 2, none⟩ (.slice A' (n2 + 1) c')) R P base x0 A1 n1 c1 A' (n2 + 1) c' l1 (l2 ++ [x]) := by
  obtain ⟨b1, b2, b3, b4⟩ := h.b
  have e1 : ∀ k, (Value.slice A2 n2 c2).ownBlock = some k → base ≤ k := fun k hk => (h.m2.lt k hk).1
  have hP : Blk w' P 34 #[x0, .slice A1 n1 c1, .slice A2 n2 c2] := blk_gr h.kP hg (fun e => by have := e1 P e.symm; omega)
  have hR : Blk w' R 34 #[.int .i64 0, .slice none 0 0, .slice none 0 0] := blk_gr h.kR hg (fun e => by have := e1 R e.symm; omega)
  have hne : ∀ k, (Value.slice A1 0 0).ownBlock = some k → (Value.slice A' 0 0).ownBlock ≠ some k := fun k hk e => by
    rw [← ob' A' (n2 + 1) c'] at e
    rcases hat with h' | h'
    · rw [h', ob' A2] at e; exact h.ne k hk e
    · rw [h'] at e
      rw [← ob' A1 n1 c1] at hk
      have := (h.m1.lt k hk).2
      injection e with e; omega
  have h2 : w'.ownsRow base 3 1 (.slice A1 n1 c1) n1 (intC l1) := own_gr h.m1 hg (fun k hk e => by rw [ob' A1] at hk; rw [ob' A2] at e; exact h.ne k hk e.symm)
  have hK : Kp [P] w' (w'.setCell ⟨P, 2, none⟩ (.slice A' (n2 + 1) c')) := (Kp.refl [P] w').set (p := ⟨P, 2, none⟩) (.inl (by simp)) _
  refine ⟨hP, hR.far (p := ⟨P, 2, none⟩) (by show R ≠ P; omega) _, hP.set 2 _, own_kq h2 hK (fun k hk => by have := (h2.lt k hk).1; simp; omega), ?_, hne, ⟨b1, b2, b3, ?_⟩, ?_⟩
  · have := own_kq hown hK (fun k hk => by have := (hown.lt k hk).1; simp; omega)
    rwa [intC_app] at this
  · have := hg.size; simp only [World.setCell, Array.size_modify]; omega
  · exact (bel_gr h.bel hg (fun k hk => by have := e1 k hk; omega) (by omega)).setCell (p := ⟨P, 2, none⟩) (by show _ ≤ P; omega) _
end
theorem blk3 {w : World} {g : Nat} {t : TypeId} {x0 x1 x2 : Value} (h : Blk w g t #[x0, x1, x2]) :
    w.cell? ⟨g, 0, none⟩ = some x0 ∧ w.cell? ⟨g, 1, none⟩ = some x1 ∧ w.cell? ⟨g, 2, none⟩ = some x2 ∧ w.frozen? ⟨g, 0, none⟩ = false ∧ w.frozen? ⟨g, 1, none⟩ = false ∧ w.frozen? ⟨g, 2, none⟩ = false :=
  ⟨h.cell 0, h.cell 1, h.cell 2, h.frozen 0, h.frozen 1, h.frozen 2⟩
theorem set3 {w : World} {g : Nat} {t : TypeId} {x0 x1 x2 : Value} (h : Blk w g t #[x0, x1, x2]) (y0 y1 y2 : Value) : Blk (((w.setCell ⟨g, 0, none⟩ y0).setCell ⟨g, 1, none⟩ y1).setCell ⟨g, 2, none⟩ y2) g t #[y0, y1, y2] := ((h.set 0 y0).set 1 y1).set 2 y2
theorem bel3 {w0 w : World} {B g' : Nat} (h : Below B w0 w) (hn : B ≤ g') (y0 y1 y2 : Value) : Below B w0 (((w.setCell ⟨g', 0, none⟩ y0).setCell ⟨g', 1, none⟩ y1).setCell ⟨g', 2, none⟩ y2) :=
  ((h.setCell (p := ⟨g', 0, none⟩) hn y0).setCell (p := ⟨g', 1, none⟩) hn y1).setCell (p := ⟨g', 2, none⟩) hn y2

theorem to_no (n : Int) (hn : I64 n) (h : findP n = none) (w : World) (sp : SpanAt w) : Calls Tryd.prog 14 #[.int .i64 n] w fun e w' => e = .returned (.tuple #[.agg #[.int .i64 0, .slice none 0 0, .slice none 0 0], .int .i64 22]) ∧ Below w.heap.size w w' := by
  have sp1 := sp.alloc (.cells #[.int .i64 0, .slice none 0 0, .slice none 0 0] 34)
  have C := hide (find_no n hn h _ sp1)
  have B0 := hide ((Below.refl w.heap.size w).alloc (Nat.le_refl _) (.cells #[.int .i64 0, .slice none 0 0, .slice none 0 0] 34))
  have K0 := hide (Blk.new w 34 #[.int .i64 0, .slice none 0 0, .slice none 0 0])
  clear h hn sp sp1
  go_enter Tryd.func14, Tryd.ntmps14
  go_wp2_with fail
  refine C.out.mono ?_
  rintro e w1 ⟨⟨a, b, rfl⟩, hb⟩
  have B := hide (B0.out.trans (hb.mono (by simp)))
  have K := hide (K0.out.below hb)
  obtain ⟨k0, k1, k2, f0, f1, f2⟩ := blk3 K.out
  clear hb C B0 K0
  go_wp2_with fail
  have K2 := set3 K.out (.int .i64 0) (.slice none 0 0) (.slice none 0 0)
  clear k0 k1 k2 f0 f1 f2
  obtain ⟨k0, k1, k2, -⟩ := blk3 K2
  exact bodyPost_ret (v := .tuple #[.agg #[.int .i64 0, .slice none 0 0, .slice none 0 0], .int .i64 22]) (by simp [results, Tryd.results14, go_sem, k0, k1, k2]) rfl ⟨rfl, bel3 B.out (Nat.le_refl _) _ _ _⟩
theorem to_direct (n : Int) (hn : I64 n) {l f : Nat} (h : findP n = some (l, f)) (hr : rootN f = 0) (w : World) (sp : SpanAt w) : Calls Tryd.prog 14 #[.int .i64 n] w fun e w' => e = .returned (.tuple #[.agg #[.int .i64 (f : Int), .slice none 0 0, .slice none 0 0], .int .i64 0]) ∧ Below w.heap.size w w' := by
  have hf6 := (findP_bd h).2.1
  have sp1 := sp.alloc (.cells #[.int .i64 0, .slice none 0 0, .slice none 0 0] 34)
  have C := hide (find_yes n hn h _ sp1)
  have SP := hide sp1
  have B0 := hide ((Below.refl w.heap.size w).alloc (Nat.le_refl _) (.cells #[.int .i64 0, .slice none 0 0, .slice none 0 0] 34))
  have K0 := hide (Blk.new w 34 #[.int .i64 0, .slice none 0 0, .slice none 0 0])
  have HR := hide hr
  clear h hn sp sp1 hr
  go_enter Tryd.func14, Tryd.ntmps14
  go_wp2_with fail
  refine C.out.mono ?_
  rintro e w1 ⟨rfl, hb⟩
  have B := hide (B0.out.trans (hb.mono (by simp)))
  have K := hide (K0.out.below hb)
  have SP1 := hide (SP.out.bel hb)
  obtain ⟨k0, k1, k2, f0, f1, f2⟩ := blk3 K.out
  clear hb C B0 K0 SP
  go_wp2_with fail
  refine (rootOf_any f hf6 w1 SP1.out).mono ?_
  rintro e w2 ⟨rfl, rfl⟩
  rw [HR.out]
  go_wp2_with fail
  have K2 := set3 K.out (.int .i64 (f : Int)) (.slice none 0 0) (.slice none 0 0)
  clear k0 k1 k2 f0 f1 f2
  obtain ⟨k0, k1, k2, -⟩ := blk3 K2
  exact bodyPost_ret (v := .tuple #[.agg #[.int .i64 (f : Int), .slice none 0 0, .slice none 0 0], .int .i64 0]) (by simp [results, Tryd.results14, go_sem, k0, k1, k2]) rfl ⟨rfl, bel3 B.out (Nat.le_refl _) _ _ _⟩
end Go.Proofs.YtakflabokbaibaaDoor
