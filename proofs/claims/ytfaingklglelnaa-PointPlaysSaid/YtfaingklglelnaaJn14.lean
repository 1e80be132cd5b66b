import Derived.Test.YtfaingklglelnaaJn06
import Derived.Test.YtfaingklglelnaaJn13
import Derived.Test.YtfaingklglelnaaJn01
import Derived.Test.YtfaingklglelnaaJn09
import Derived.Test.YtfaingklglelnaaJn10
import Derived.Test.YtfaingklglelnaaJn03
import Derived.ProofKit
import Derived.OpenShut
import Derived.Deep.Slices
/- The two disks of a law and its boxes: the one that keeps the reference's disk, and the operation's. -/
namespace Go.Proofs.Ytfaingklglelnaa
open Go.RowKit

theorem refV_eq (As : Option Addr) (cs : Nat) (Aq : Option Addr) (cq : Nat) (D : Dsk) : refV As cs Aq cq D = #[.slice As D.sure.length cs, .slice Aq D.queue.length cq, .int .i64 (D.steps : Int), .int .i64 D.left] := rfl
section
variable {w0 w w' : World} {d : Nat} {D E : Dsk} {As Aq : Option Addr} {cs cq : Nat}
/-- A store into one of the boxes. -/
theorem PJ.box (h : PJ w0 w d D As cs Aq cq E) {g : Nat} (ho : Out w0 w d D g) (ns : ∀ k, (Value.slice As 0 0).ownBlock = some k → k ≠ g) (nq : ∀ k, (Value.slice Aq 0 0).ownBlock = some k → k ≠ g) (hg : w0.heap.size ≤ g) (i : Nat) (v : Value) : PJ w0 (w.setCell ⟨g, i, none⟩ v) d D As cs Aq cq E := by
  obtain ⟨hl, s, u, hD, n1, n2, n3⟩ := ho
  have hK : Kp [g] w (w.setCell ⟨g, i, none⟩ v) := (Kp.refl [g] w).set (p := ⟨g, i, none⟩) (.inl (by simp)) v
  have hD' : DskA (w.setCell ⟨g, i, none⟩ v) w0.heap.size d s u D := dsk_kp hD hK (by simpa using n1.symm) (by simpa using n2.symm) (fun k hk => by
    simp only [List.mem_singleton]; rintro rfl; exact n3 hk)
  have hO : ∀ k, Out w0 w d D k → Out w0 (w.setCell ⟨g, i, none⟩ v) d D k := by
    rintro k ⟨kl, s2, u2, hD2, m1, m2, m3⟩
    obtain ⟨rfl, rfl⟩ := dsk_same hD hD2
    exact ⟨by simpa [World.setCell] using kl, s, u, hD', m1, m2, m3⟩
  exact ⟨⟨⟨s, u, hD'⟩, h.ld.bel.setCell (p := ⟨g, i, none⟩) hg v⟩, h.rm.kp hK (fun k hk => by simpa using ns k hk) (fun k hk => by simpa using nq k hk), fun k hk => hO k (h.os k hk), fun k hk => hO k (h.oq k hk)⟩
theorem Out.box {k g : Nat} (h : Out w0 w d D k) (ho : Out w0 w d D g) (i : Nat) (v : Value) : Out w0 (w.setCell ⟨g, i, none⟩ v) d D k := by
  obtain ⟨hl, s, u, hD, n1, n2, n3⟩ := ho
  have hK : Kp [g] w (w.setCell ⟨g, i, none⟩ v) := (Kp.refl [g] w).set (p := ⟨g, i, none⟩) (.inl (by simp)) v
  have hD' : DskA (w.setCell ⟨g, i, none⟩ v) w0.heap.size d s u D := dsk_kp hD hK (by simpa using n1.symm) (by simpa using n2.symm) (fun k hk => by
    simp only [List.mem_singleton]; rintro rfl; exact n3 hk)
  obtain ⟨kl, s2, u2, hD2, m1, m2, m3⟩ := h
  obtain ⟨rfl, rfl⟩ := dsk_same hD hD2
  exact ⟨by simpa [World.setCell] using kl, s, u, hD', m1, m2, m3⟩
end
/-- One block more, of the call's own. -/
structure PX (w0 w : World) (d : Nat) (D : Dsk) (As Aq : Option Addr) (g : Nat) : Prop where
  o : Out w0 w d D g
  ns : ∀ k, (Value.slice As 0 0).ownBlock = some k → k ≠ g
  nq : ∀ k, (Value.slice Aq 0 0).ownBlock = some k → k ≠ g
section
variable {w0 w w' : World} {b d g : Nat} {D D' E E' : Dsk} {r ov : Array Value} {As Aq As' Aq' : Option Addr} {cs cq cs' cq' : Nat}
theorem PX.lt (h : PX w0 w d D As Aq g) : g < w.heap.size := h.o.1
theorem PX.below (h : PX w0 w d D As Aq g) (hb : Below w.heap.size w w') : PX w0 w' d D As Aq g := ⟨h.o.below hb, h.ns, h.nq⟩
theorem PX.prog (h : PX w0 w d D As Aq g) {gs : List Nat} (hf : ∀ k, Out w0 w d D k → k ∉ gs ∧ Out w0 w' d D' k) : PX w0 w' d D' As Aq g := ⟨(hf g h.o).2, h.ns, h.nq⟩
theorem PX.ref (h : PX w0 w d D As Aq g) (hb : Below w.heap.size w w') (hs : ∀ k, (Value.slice As' 0 0).ownBlock = some k → w.heap.size ≤ k ∨ (Value.slice As 0 0).ownBlock = some k)
    (hq : ∀ k, (Value.slice Aq' 0 0).ownBlock = some k → w.heap.size ≤ k ∨ (Value.slice Aq 0 0).ownBlock = some k) : PX w0 w' d D As' Aq' g :=
  ⟨h.o.below hb, fun k hk => (hs k hk).elim (fun e => by have := h.lt; omega) (h.ns k), fun k hk => (hq k hk).elim (fun e => by have := h.lt; omega) (h.nq k)⟩
theorem PX.mk' (h : PJ w0 w d D As cs Aq cq E) (hb : Below w.heap.size w w') (hg : w.heap.size ≤ g) (hl : g < w'.heap.size) : PX w0 w' d D As Aq g :=
  ⟨h.ld.out hb hg hl, fun k hk => by have := (h.rm.sLt k hk).2; omega, fun k hk => by have := (h.rm.qLt k hk).2; omega⟩
theorem PX.box (h : PX w0 w d D As Aq g) {k : Nat} (ho : Out w0 w d D k) (i : Nat) (v : Value) : PX w0 (w.setCell ⟨k, i, none⟩ v) d D As Aq g := ⟨h.o.box ho i v, h.ns, h.nq⟩
end
theorem crashed_len2 {D : Dsk} (h : D.Ok) (f : Nat → Nat → Bool) (cap : Nat) (pad : Array Value) : (D.crashed f cap pad).sure.length = D.sure.length :=
  (crashN_64 (f := f) (n := D.sure.length) ⟨rfl, h.b⟩ (fun x hx => h.q x hx) _ (Nat.le_refl _)).1

/-- Both disks, the box that keeps the reference's, and the operation's. -/
structure PZ (w0 w : World) (g k d : Nat) (D : Dsk) (As : Option Addr) (cs : Nat) (Aq : Option Addr) (cq : Nat) (E : Dsk) (r oc : Array Value) : Prop where
  pj : PJ w0 w d D As cs Aq cq E
  x : PX w0 w d D As Aq g
  y : PX w0 w d D As Aq k
  bg : Blk w g 64 r
  bk : Blk w k 68 oc
  hg : w0.heap.size ≤ g
  ne : k ≠ g
theorem RefM.base {w : World} {B B' : Nat} {D : Dsk} {As Aq : Option Addr} {cs cq : Nat} (h : RefM w B As cs Aq cq D) (hb : B' ≤ B) : RefM w B' As cs Aq cq D := ⟨own_base65 h.s hb, own_base65 h.q hb, h.ok⟩
section
variable {w0 w w' : World} {g k d c : Nat} {D D' E E' C : Dsk} {As Aq As' Aq' : Option Addr} {cs cq cs' cq' : Nat} {r oc : Array Value}
theorem PZ.below (h : PZ w0 w g k d D As cs Aq cq E r oc) (hb : Below w.heap.size w w') : PZ w0 w' g k d D As cs Aq cq E r oc := ⟨h.pj.below hb, h.x.below hb, h.y.below hb, h.bg.below hb, h.bk.below hb, h.hg, h.ne⟩
theorem PZ.drew (h : PZ w0 w g k d D As cs Aq cq E r oc) : PZ w0 w.drew g k d D As cs Aq cq E r oc := h.below (Below.refl _ _).drew
/-- Behind a call of the program's. -/
theorem PZ.stp (h : PZ w0 w g k d D As cs Aq cq E r oc) (s : Stp w0 w w' d D D') : PZ w0 w' g k d D' As cs Aq cq E r oc := by
  obtain ⟨gs, hK, hf⟩ := s.kp
  exact ⟨h.pj.prog s.ld hK hf, h.x.prog hf, h.y.prog hf, h.bg.kp hK (hf g h.x.o).1, h.bk.kp hK (hf k h.y.o).1, h.hg, h.ne⟩
/-- Behind a call of the reference's. -/
theorem PZ.ref (h : PZ w0 w g k d D As cs Aq cq E r oc) (n : RefN w0.heap.size w w' As Aq As' cs' Aq' cq' E') : PZ w0 w' g k d D As' cs' Aq' cq' E' r oc :=
  ⟨h.pj.ref n.bel n.rm n.fs n.fq, h.x.ref n.bel n.fs n.fq, h.y.ref n.bel n.fs n.fq, h.bg.below n.bel, h.bk.below n.bel, h.hg, h.ne⟩
theorem PZ.put {x0 x1 x2 x3 : Value} (h : PZ w0 w g k d D As cs Aq cq E #[x0, x1, x2, x3] oc) (y0 y1 y2 y3 : Value) : PZ w0 ((((w.setCell ⟨g, 0, none⟩ y0).setCell ⟨g, 1, none⟩ y1).setCell ⟨g, 2, none⟩ y2).setCell ⟨g, 3, none⟩ y3) g k d D As cs Aq cq E #[y0, y1, y2, y3] oc := by
  have hx0 := h.x.box h.x.o 0 y0
  have hx1 := hx0.box hx0.o 1 y1
  have hx2 := hx1.box hx1.o 2 y2
  exact ⟨(((h.pj.box h.x.o h.x.ns h.x.nq h.hg 0 _).box hx0.o h.x.ns h.x.nq h.hg 1 _).box hx1.o h.x.ns h.x.nq h.hg 2 _).box hx2.o h.x.ns h.x.nq h.hg 3 _, hx2.box hx2.o 3 _,
    ((((h.y.box h.x.o 0 y0).box hx0.o 1 y1).box hx1.o 2 y2).box hx2.o 3 y3), set4b h.bg _ _ _ _, far4D h.bk h.ne _ _ _ _, h.hg, h.ne⟩
theorem PX.crash (h : PX w0 w d D As Aq g) (hs : w0.heap.size ≤ w.heap.size) (hc : LD w w' c C) : PX w0 w' c C As Aq g := by
  obtain ⟨s, v, hC⟩ := hc.ex
  have hl := h.lt
  exact ⟨⟨Nat.lt_of_lt_of_le hl hc.bel.size, s, v, dsk_base hC hs, (by have := hC.db; omega), (by have := hC.sb; omega), (by intro e; have := (dsk_own hC e).1; omega)⟩, h.ns, h.nq⟩
/-- Behind a crash: the old disk is let go. -/
theorem PZ.crash (h : PZ w0 w g k d D As cs Aq cq E r oc) (hc : LD w w' c C) : PZ w0 w' g k c C As cs Aq cq E r oc :=
  ⟨(PC.of h.pj hc).fin, h.x.crash h.pj.ld.sz hc, h.y.crash h.pj.ld.sz hc, h.bg.below hc.bel, h.bk.below hc.bel, h.hg, h.ne⟩
theorem PZ.to (h : PZ w0 w g k d D As cs Aq cq E r oc) (e1 : E'.sure = E.sure) (e2 : E'.queue = E.queue) (ok : E'.Ok) : PZ w0 w g k d D As cs Aq cq E' r oc := ⟨h.pj.to e1 e2 ok, h.x, h.y, h.bg, h.bk, h.hg, h.ne⟩
end
/-- Both disks, and the box in which a law keeps the reference's. -/
structure PB (w0 w : World) (g d : Nat) (D : Dsk) (As : Option Addr) (cs : Nat) (Aq : Option Addr) (cq : Nat) : Prop where
  pj : PJ w0 w d D As cs Aq cq D
  x : PX w0 w d D As Aq g
  bk : Blk w g 64 (refV As cs Aq cq D)
  hg : w0.heap.size ≤ g
section
variable {w0 w w' : World} {g d : Nat} {D : Dsk} {As Aq : Option Addr} {cs cq : Nat}
theorem PB.below (h : PB w0 w g d D As cs Aq cq) (hb : Below w.heap.size w w') : PB w0 w' g d D As cs Aq cq := ⟨h.pj.below hb, h.x.below hb, h.bk.below hb, h.hg⟩
theorem PB.drew (h : PB w0 w g d D As cs Aq cq) : PB w0 w.drew g d D As cs Aq cq := h.below (Below.refl _ _).drew
theorem PB.alloc (h : PB w0 w g d D As cs Aq cq) (o : Obj) : PB w0 (w.alloc o) g d D As cs Aq cq := h.below ((Below.refl _ _).alloc (Nat.le_refl _) o)
/-- At the start. -/
theorem PB.start {w1 w2 : World} {d n : Nat} {As : Option Addr} {cs : Nat} (hb : Below w0.heap.size w0 w) (h1 : LD w w1 d (freshD n)) (h2 : RefM w2 w1.heap.size As cs none 0 (freshD n)) (h3 : Below w1.heap.size w1 w2) :
    PB w0 (w2.alloc (.cells (refV As cs none 0 (freshD n)) 64)) w2.heap.size d (freshD n) As cs none 0 := by
  have h1' := h1.base hb
  have hb4 : Below w2.heap.size w2 (w2.alloc (.cells (refV As cs none 0 (freshD n)) 64)) := (Below.refl _ _).alloc (Nat.le_refl _) _
  have hp : PJ w0 w2 d (freshD n) As cs none 0 (freshD n) := ⟨h1'.below h3, h2.base h1'.sz, fun g hg => h1'.out h3 (h2.sLt g hg).1 (h2.sLt g hg).2, fun g hg => by cases hg⟩
  exact ⟨hp.below hb4, PX.mk' hp hb4 (Nat.le_refl _) (by simp), Blk.new _ _ _, hp.ld.sz⟩
theorem PB.open (h : PB w0 w g d D As cs Aq cq) (oc : Array Value) : PZ w0 (w.alloc (.cells oc 68)) g w.heap.size d D As cs Aq cq D (refV As cs Aq cq D) oc := by
  have hb : Below w.heap.size w (w.alloc (.cells oc 68)) := (Below.refl _ _).alloc (Nat.le_refl _) _
  exact ⟨h.pj.below hb, h.x.below hb, PX.mk' h.pj hb (Nat.le_refl _) (by simp), h.bk.below hb, Blk.new _ _ _, h.hg, by have := h.x.lt; omega⟩
theorem PZ.close {k : Nat} {oc : Array Value} (h : PZ w0 w g k d D As cs Aq cq D (refV As cs Aq cq D) oc) : PB w0 w g d D As cs Aq cq := ⟨h.pj, h.x, h.bg, h.hg⟩
end
end Go.Proofs.Ytfaingklglelnaa

/- Sectors of blocks, in plain lists. No program in sight. -/
namespace Go.Proofs.Ytfaingklglelnaa
open Go.RowKit

/-- A sector. -/
def sec (l : List UInt8) (s : Nat) : List UInt8 := (l.drop (16 * s)).take 16
theorem sec_length {l : List UInt8} {s : Nat} (hl : l.length = 64) (hs : s < 4) : (sec l s).length = 16 := by
  unfold sec; rw [List.length_take, List.length_drop]; omega
theorem secs_of {l : List UInt8} (hl : l.length = 64) : l = sec l 0 ++ (sec l 1 ++ (sec l 2 ++ sec l 3)) := by
  unfold sec
  have h3 : (l.drop (16 * 3)).take 16 = l.drop 48 := List.take_of_length_le (by rw [List.length_drop]; omega)
  have h0 := (List.take_append_drop 16 l).symm
  have h1 := (List.take_append_drop 16 (l.drop 16)).symm
  have h2 := (List.take_append_drop 16 (l.drop 32)).symm
  rw [List.drop_drop] at h1 h2
  rw [h3]
  simpa using h0.trans (by rw [← h2, ← h1])
theorem sec_app {a b c d : List UInt8} (ha : a.length = 16) (hb : b.length = 16) (hc : c.length = 16) (hd : d.length = 16) :
    sec (a ++ (b ++ (c ++ d))) 0 = a ∧ sec (a ++ (b ++ (c ++ d))) 1 = b ∧ sec (a ++ (b ++ (c ++ d))) 2 = c ∧ sec (a ++ (b ++ (c ++ d))) 3 = d := by
  unfold sec
  refine ⟨?_, ?_, ?_, ?_⟩
  · rw [Nat.mul_zero, List.drop_zero, List.take_append_of_le_length (by omega), List.take_of_length_le (by omega)]
  · rw [show 16 * 1 = a.length by omega, List.drop_left, List.take_append_of_le_length (by omega), List.take_of_length_le (by omega)]
  · rw [← List.append_assoc, show 16 * 2 = (a ++ b).length by rw [List.length_append]; omega, List.drop_left, List.take_append_of_le_length (by omega), List.take_of_length_le (by omega)]
  · rw [← List.append_assoc, ← List.append_assoc, show 16 * 3 = (a ++ b ++ c).length by rw [List.length_append, List.length_append]; omega, List.drop_left, List.take_of_length_le (by omega)]
/-- A block of sectors of two. -/
def mixS (m : Nat → Bool) (a b : List UInt8) (s : Nat) : List UInt8 := if m s then sec a s else sec b s
def mixB (m : Nat → Bool) (a b : List UInt8) : List UInt8 := (List.range 4).flatMap (mixS m a b)
theorem mixB_eq (m : Nat → Bool) (a b : List UInt8) : mixB m a b = mixS m a b 0 ++ (mixS m a b 1 ++ (mixS m a b 2 ++ mixS m a b 3)) := by simp [mixB, List.range_succ]
theorem mixS_length {m : Nat → Bool} {a b : List UInt8} {s : Nat} (ha : a.length = 64) (hb : b.length = 64) (hs : s < 4) : (mixS m a b s).length = 16 := by
  unfold mixS
  split
  · exact sec_length ha hs
  · exact sec_length hb hs
theorem sec_mix {m : Nat → Bool} {a b : List UInt8} {s : Nat} (ha : a.length = 64) (hb : b.length = 64) (hs : s < 4) : sec (mixB m a b) s = mixS m a b s := by
  obtain ⟨h0, h1, h2, h3⟩ := sec_app (mixS_length (m := m) (s := 0) ha hb (by decide)) (mixS_length (m := m) (s := 1) ha hb (by decide)) (mixS_length (m := m) (s := 2) ha hb (by decide)) (mixS_length (m := m) (s := 3) ha hb (by decide))
  rw [mixB_eq]
  have : s = 0 ∨ s = 1 ∨ s = 2 ∨ s = 3 := by omega
  rcases this with rfl | rfl | rfl | rfl
  · exact h0
  · exact h1
  · exact h2
  · exact h3
theorem mixB_length {m : Nat → Bool} {a b : List UInt8} (ha : a.length = 64) (hb : b.length = 64) : (mixB m a b).length = 64 := by
  rw [mixB_eq]
  simp only [List.length_append, mixS_length (m := m) (s := 0) ha hb (by decide), mixS_length (m := m) (s := 1) ha hb (by decide), mixS_length (m := m) (s := 2) ha hb (by decide), mixS_length (m := m) (s := 3) ha hb (by decide)]
theorem mixB_all {m : Nat → Bool} {a b : List UInt8} (ha : a.length = 64) (h : ∀ s, s < 4 → m s = true) : mixB m a b = a := by
  rw [mixB_eq]
  simp only [mixS, h 0 (by decide), h 1 (by decide), h 2 (by decide), h 3 (by decide), if_true]
  exact (secs_of ha).symm
theorem mixB_none {m : Nat → Bool} {a b : List UInt8} (hb : b.length = 64) (h : ∀ s, s < 4 → m s = false) : mixB m a b = b := by
  rw [mixB_eq]
  simp only [mixS, h 0 (by decide), h 1 (by decide), h 2 (by decide), h 3 (by decide), Bool.false_eq_true, if_false]
  exact (secs_of hb).symm
end Go.Proofs.Ytfaingklglelnaa

/- Points and their blocks, in plain lists: what is written is read; blocks of sectors of two points. -/
namespace Go.Proofs.Ytfaingklglelnaa
open Go.RowKit

theorem ptBytes_cons (e c n f : Nat) : ptBytes e c n f = leN e 2 ++ (leN c 2 ++ (0 :: (leN n 2 ++ (leN f 2 ++ (ptBytes e c n f).drop 9)))) := by
  simp [ptBytes, ptUp, ptSec, ptHead, ptW, leN_two, List.range_succ, List.replicate]
theorem ptOf_bytes {p : Pt} (h : p.P) : ptOf p.bytes = p := by
  obtain ⟨e, c, n, f⟩ := p
  obtain ⟨h1, h2, h3, h4⟩ := h
  have E := ptBytes_cons e c n f
  have f0 := fld2_leN (l := ptBytes e c n f) (i := 0) (x := e) (pre := []) (rest := leN c 2 ++ (0 :: (leN n 2 ++ (leN f 2 ++ (ptBytes e c n f).drop 9)))) E rfl
  have f2 := fld2_leN (l := ptBytes e c n f) (i := 2) (x := c) (pre := leN e 2) (rest := 0 :: (leN n 2 ++ (leN f 2 ++ (ptBytes e c n f).drop 9))) E (leN_length _ _)
  have f5 := fld2_leN (l := ptBytes e c n f) (i := 5) (x := n) (pre := leN e 2 ++ (leN c 2 ++ [0])) (rest := leN f 2 ++ (ptBytes e c n f).drop 9) (by rw [List.append_assoc, List.append_assoc]; exact E) (by simp [leN_length])
  have f7 := fld2_leN (l := ptBytes e c n f) (i := 7) (x := f) (pre := leN e 2 ++ (leN c 2 ++ (0 :: leN n 2))) (rest := (ptBytes e c n f).drop 9) (by rw [List.append_assoc, List.append_assoc]; exact E) (by simp [leN_length])
  have b1 : e < 65536 := Int.ofNat_lt.1 h1.2
  have b2 : c < 65536 := Int.ofNat_lt.1 h2.2
  have b3 : n < 4096 := Int.ofNat_lt.1 h3.2
  have b4 : f < 4096 := Int.ofNat_lt.1 h4.2
  rw [Nat.mod_eq_of_lt b1] at f0
  rw [Nat.mod_eq_of_lt b2] at f2
  rw [Nat.mod_eq_of_lt (by omega)] at f5 f7
  show (⟨_, _, _, _⟩ : Pt) = _
  rw [show (Pt.bytes ⟨e, c, n, f⟩) = ptBytes e c n f from rfl, f0, f2, f5, f7]
theorem decP_bytes {p : Pt} (h : p.P) : decP p.bytes = some p := by
  unfold decP
  rw [ptOf_bytes h, if_pos ⟨ptBytes_length _ _ _ _, h, rfl⟩]
theorem decP_some {l : List UInt8} {p : Pt} (h : decP l = some p) : p.P ∧ p.bytes = l := by
  unfold decP at h
  split at h
  · rename_i hh
    simp only [Option.some.injEq] at h
    exact ⟨h ▸ hh.2.1, h ▸ hh.2.2⟩
  · cases h
theorem bytes_inj {p q : Pt} (hp : p.P) (hq : q.P) (h : p.bytes = q.bytes) : p = q := by
  have := decP_bytes hp
  rw [h, decP_bytes hq] at this
  simpa using this.symm
theorem sec_bytes (p : Pt) {s : Nat} (hs : s < 4) : sec p.bytes s = ptSec p.e p.c p.n p.f s := by
  have E : p.bytes = ptSec p.e p.c p.n p.f 0 ++ (ptSec p.e p.c p.n p.f 1 ++ (ptSec p.e p.c p.n p.f 2 ++ ptSec p.e p.c p.n p.f 3)) := by
    show ptBytes _ _ _ _ = _
    simp [ptBytes, ptUp, List.range_succ]
  obtain ⟨h0, h1, h2, h3⟩ := sec_app (ptSec_length (e := p.e) (c := p.c) (n := p.n) (f := p.f) (s := 0) (by decide)) (ptSec_length (e := p.e) (c := p.c) (n := p.n) (f := p.f) (s := 1) (by decide)) (ptSec_length (e := p.e) (c := p.c) (n := p.n) (f := p.f) (s := 2) (by decide)) (ptSec_length (e := p.e) (c := p.c) (n := p.n) (f := p.f) (s := 3) (by decide))
  rw [E]
  have : s = 0 ∨ s = 1 ∨ s = 2 ∨ s = 3 := by omega
  rcases this with rfl | rfl | rfl | rfl
  · exact h0
  · exact h1
  · exact h2
  · exact h3
/-- The Epoch and the Count in a sector. -/
def secE (l : List UInt8) (s : Nat) : Nat := fld (sec l s) 0 2
def secC (l : List UInt8) (s : Nat) : Nat := fld (sec l s) 2 2
theorem sec_head {p : Pt} (h : p.P) {s : Nat} (hs : s < 4) : secE p.bytes s = p.e ∧ secC p.bytes s = p.c := by
  obtain ⟨h1, h2, -, -⟩ := h
  unfold secE secC
  rw [sec_bytes p hs]
  unfold ptSec ptHead
  constructor
  · rw [fld2_leN (i := 0) (pre := []) (x := p.e) (rest := leN p.c 2 ++ [UInt8.ofNat s] ++ ((ptW p.n p.f).drop (11 * s)).take 11) (by simp) rfl]; omega
  · rw [fld2_leN (i := 2) (pre := leN p.e 2) (x := p.c) (rest := [UInt8.ofNat s] ++ ((ptW p.n p.f).drop (11 * s)).take 11) (by simp) (leN_length _ _)]; omega
/-- A block that has a sector of a point, and one of unlike Epoch or Count, is no point's. -/
theorem mix_no {m : Nat → Bool} {p : Pt} {b : List UInt8} (hp : p.P) (hb : b.length = 64) {s t : Nat} (hs : s < 4) (ht : t < 4) (ms : m s = true) (mt : m t = false) (hne : secE b t ≠ p.e ∨ secC b t ≠ p.c) :
    decP (mixB m p.bytes b) = none := by
  rcases h : decP (mixB m p.bytes b) with _ | x
  · rfl
  · exfalso
    obtain ⟨hx, he⟩ := decP_some h
    have hpl : p.bytes.length = 64 := ptBytes_length _ _ _ _
    have e1 : sec x.bytes s = sec p.bytes s := by rw [he, sec_mix hpl hb hs]; unfold mixS; rw [if_pos ms]
    have e2 : sec x.bytes t = sec b t := by rw [he, sec_mix hpl hb ht]; unfold mixS; rw [mt]; rfl
    have a1 := sec_head hx hs
    have a2 := sec_head hp hs
    have a3 := sec_head hx ht
    unfold secE secC at *
    rw [e1] at a1
    rw [e2] at a3
    rcases hne with h | h
    · exact h (by rw [a3.1, ← a1.1, a2.1])
    · exact h (by rw [a3.2, ← a1.2, a2.2])
end Go.Proofs.Ytfaingklglelnaa

/- Disks with points, in plain lists: the block that counts; points saved one by one; a crash within a save. -/
namespace Go.Proofs.Ytfaingklglelnaa
open Go.RowKit

theorem counts_two {D : Dsk} (h : 2 < D.sure.length) : countsP D = cntStep 2 (decP (D.read 2)) (cntStep 1 (decP (D.read 1)) (0, pt0)) := by
  unfold countsP; rw [if_pos h]; rfl
theorem counts_same {D D' : Dsk} (h : D'.sure.length = D.sure.length) (h1 : D'.read 1 = D.read 1) (h2 : D'.read 2 = D.read 2) : countsP D' = countsP D := by
  unfold countsP
  rw [h]
  split
  · show cntStep 2 (decP (D'.read 2)) (cntStep 1 (decP (D'.read 1)) (0, pt0)) = cntStep 2 (decP (D.read 2)) (cntStep 1 (decP (D.read 1)) (0, pt0))
    rw [h1, h2]
  · rfl
theorem read_sure {D : Dsk} (hq : D.queue = []) (i : Nat) : D.read i = D.sure.getD i [] := by unfold Dsk.read readQ; rw [hq]; rfl
/-- A write and a barrier. -/
theorem wb_read {D : Dsk} (hq : D.queue = []) {i : Nat} (hi : i < D.sure.length) (b : List UInt8) (j : Nat) : (D.wrote i b).barred.read j = if j = i then b else D.read j := by
  rw [read_sure rfl, read_sure hq]
  show (putQ (D.queue ++ [(i, b)]) D.sure).getD j [] = _
  rw [hq]
  show (D.sure.set i b).getD j [] = _
  rw [List.getD_eq_getElem?_getD, List.getElem?_set]
  by_cases h : i = j
  · subst h; rw [if_pos rfl, if_pos rfl, if_pos hi]; rfl
  · rw [if_neg h, if_neg (Ne.symm h), List.getD_eq_getElem?_getD]
theorem wb_len {D : Dsk} (i : Nat) (b : List UInt8) : (D.wrote i b).barred.sure.length = D.sure.length := by
  show (putQ _ _).length = _
  rw [putQ_len]; rfl
theorem newer_iff {p q : Pt} : p.newer q = true ↔ (q.e < p.e ∨ (p.e = q.e ∧ q.c < p.c)) := by
  unfold Pt.newer newP
  rw [decide_eq_true_iff]
  omega
/-- Save, where none is as new, on a disk that isn't armed. -/
theorem saveP_new {D : Dsk} {p : Pt} (h3 : 3 ≤ D.sure.length) (hl : D.left = -1) (hn : (countsP D).1 = 0 ∨ p.newer (countsP D).2 = true) :
    saveP D p = (0, (D.wrote (if (countsP D).1 = 1 then 2 else 1) p.bytes).barred) := by
  unfold saveP
  rw [if_neg (by omega), if_neg (by rintro ⟨h1, h2⟩; rcases hn with hn | hn; omega; rw [hn] at h2; cases h2), if_neg (by omega)]
  dsimp only
  rw [if_neg (by show ¬ max (D.left - 1) (-1) = 0; rw [hl]; decide)]
theorem saveP_old {D : Dsk} {p : Pt} (h3 : 3 ≤ D.sure.length) (h : 0 < (countsP D).1) (hn : p.newer (countsP D).2 = false) : saveP D p = (103, D) := by
  unfold saveP
  rw [if_neg (by omega), if_pos ⟨h, hn⟩]
theorem wb_left {D : Dsk} (hl : D.left = -1) (i : Nat) (b : List UInt8) : (D.wrote i b).barred.left = -1 := by
  show max (max (D.left - 1) (-1) - 1) (-1) = -1
  rw [hl]; decide

/-- The disk behind i points that were saved one by one. -/
structure Trn (q : Nat → Pt) (i : Nat) (D : Dsk) : Prop where
  left : D.left = -1
  queue : D.queue = []
  len : D.sure.length = 3
  steps : D.steps = 2 * i
  r1 : 0 < i → D.read (1 + (i - 1) % 2) = (q (i - 1)).bytes
  r2 : 1 < i → D.read (1 + (i - 2) % 2) = (q (i - 2)).bytes
  z1 : i = 0 → decP (D.read 1) = none
  z2 : i ≤ 1 → decP (D.read 2) = none
theorem zero_none : decP zero64 = none := by kernel_rfl
theorem trn_zero (q : Nat → Pt) : Trn q 0 (freshD 3) :=
  ⟨rfl, rfl, by show (List.replicate _ _).length = _; rw [List.length_replicate], rfl, fun h => absurd h (by decide), fun h => absurd h (by decide), fun _ => by rw [read_sure rfl]; exact zero_none, fun _ => by rw [read_sure rfl]; exact zero_none⟩
/-- These points are good, and each is newer than the one ahead of it. -/
structure Asc (q : Nat → Pt) (n : Nat) : Prop where
  good : ∀ i, i < n → (q i).P
  up : ∀ i, i + 1 < n → (q (i + 1)).newer (q i) = true
theorem newer_not {p q : Pt} (h : p.newer q = true) : q.newer p = false := by
  rw [Bool.eq_false_iff]
  intro h2
  rw [newer_iff] at h h2
  omega
theorem newer_self (p : Pt) : p.newer p = false := by
  rw [Bool.eq_false_iff]
  intro h2
  rw [newer_iff] at h2
  omega
theorem trn_counts {q : Nat → Pt} {n i : Nat} {D : Dsk} (hq : Asc q n) (h : Trn q i D) (hi : i ≤ n) : countsP D = if i = 0 then (0, pt0) else (1 + (i - 1) % 2, q (i - 1)) := by
  rw [counts_two (by rw [h.len]; decide)]
  by_cases h0 : i = 0
  · rw [if_pos h0, h.z1 h0, h.z2 (by omega)]; rfl
  · rw [if_neg h0]
    have a1 := h.r1 (by omega)
    have d1 := decP_bytes (hq.good (i - 1) (by omega))
    by_cases h1 : i = 1
    · subst h1
      rw [h.z2 (by omega)]
      have a1' : D.read 1 = (q 0).bytes := a1
      rw [a1', decP_bytes (hq.good 0 (by omega))]
      rfl
    · have a2 := h.r2 (by omega)
      have d2 := decP_bytes (hq.good (i - 2) (by omega))
      have hu := hq.up (i - 2) (by omega)
      rw [show i - 2 + 1 = i - 1 by omega] at hu
      by_cases hp : (i - 1) % 2 = 0
      · have hp2 : (i - 2) % 2 = 1 := by omega
        rw [hp] at a1 ⊢
        rw [hp2] at a2
        rw [show D.read 1 = _ from a1, show D.read 2 = _ from a2, d1, d2]
        unfold cntStep
        simp only [true_or, if_true]
        rw [newer_not hu]
        simp
      · have hp1 : (i - 1) % 2 = 1 := by omega
        have hp2 : (i - 2) % 2 = 0 := by omega
        rw [hp1] at a1 ⊢
        rw [hp2] at a2
        rw [show D.read 1 = _ from a2, show D.read 2 = _ from a1, d1, d2]
        unfold cntStep
        simp only [true_or, if_true]
        rw [hu]
        simp
theorem trn_save {q : Nat → Pt} {n i : Nat} {D : Dsk} (hq : Asc q n) (h : Trn q i D) (hi : i < n) : ∃ D', saveP D (q i) = (0, D') ∧ Trn q (i + 1) D' := by
  have hc := trn_counts hq h (by omega)
  have hto : (if (countsP D).1 = 1 then 2 else 1) = 1 + i % 2 := by
    rw [hc]
    by_cases h0 : i = 0
    · subst h0; rfl
    · rw [if_neg h0]
      show (if 1 + (i - 1) % 2 = 1 then 2 else 1) = _
      split <;> omega
  have hnew : (countsP D).1 = 0 ∨ (q i).newer (countsP D).2 = true := by
    rw [hc]
    by_cases h0 : i = 0
    · left; rw [if_pos h0]
    · right
      rw [if_neg h0]
      have := hq.up (i - 1) (by omega)
      rwa [show i - 1 + 1 = i by omega] at this
  refine ⟨_, saveP_new (by rw [h.len]; decide) h.left hnew, ?_⟩
  rw [hto]
  have hr := fun j => wb_read h.queue (i := 1 + i % 2) (by rw [h.len]; omega) (q i).bytes j
  refine ⟨wb_left h.left _ _, rfl, by rw [wb_len]; exact h.len, by show D.steps + 1 + 1 = _; rw [h.steps]; omega, fun _ => ?_, fun h1 => ?_, fun h1 => by omega, fun h1 => ?_⟩
  · rw [hr, Nat.add_sub_cancel, if_pos rfl]
  · rw [hr, show i + 1 - 2 = i - 1 by omega, if_neg (by omega)]
    exact h.r1 (by omega)
  · obtain rfl : i = 0 := by omega
    rw [hr, if_neg (by decide)]
    exact h.z2 (by decide)
theorem trn_again {q : Nat → Pt} {n i : Nat} {D : Dsk} (hq : Asc q n) (h : Trn q (i + 1) D) (hi : i < n) (h0 : 0 < i) : saveP D (q (i - 1)) = (103, D) := by
  have hc := trn_counts hq h (by omega)
  rw [if_neg (by omega), Nat.add_sub_cancel] at hc
  refine saveP_old (by rw [h.len]; decide) (by rw [hc]; show 0 < 1 + i % 2; omega) ?_
  rw [hc]
  have := hq.up (i - 1) (by omega)
  rw [show i - 1 + 1 = i by omega] at this
  exact newer_not this

theorem mix_mixB (f : Nat → Bool) (a b : List UInt8) : mix f a b 4 = mixB f b a := by
  simp [mix, mixB_eq, mixS, sec, sect, Nat.mul_comm]
/-- A disk between two saves of PointOne: all sectors where points stand are of an elder Epoch. -/
structure One (i : Nat) (D : Dsk) : Prop where
  left : D.left = -1
  queue : D.queue = []
  len : D.sure.length = 5
  steps : D.steps = 0
  b : ∀ x ∈ D.sure, x.length = 64
  old : ∀ j s, j = 1 ∨ j = 2 → s < 4 → secE (D.read j) s ≤ i
theorem one_zero : One 0 (freshD 5) := by
  refine ⟨rfl, rfl, by show (List.replicate _ _).length = _; rw [List.length_replicate], rfl, fun x hx => by rw [List.eq_of_mem_replicate hx]; rfl, fun j s hj hs => ?_⟩
  have hz : ∀ s, s < 4 → secE zero64 s ≤ 0 := by decide
  rw [read_sure rfl]
  rcases hj with rfl | rfl
  · exact hz s hs
  · exact hz s hs
theorem One.rl {i : Nat} {D : Dsk} (h : One i D) {j : Nat} (hj : j < 5) : (D.read j).length = 64 := by
  rw [read_sure h.queue, List.getD_eq_getElem?_getD, List.getElem?_eq_getElem (by rw [h.len]; exact hj)]
  exact h.b _ (List.getElem_mem _)
theorem dec_old {l : List UInt8} {p : Pt} {i : Nat} (hd : decP l = some p) (ho : ∀ s, s < 4 → secE l s ≤ i) : p.e ≤ i := by
  obtain ⟨hp, rfl⟩ := decP_some hd
  have := ho 0 (by decide)
  rwa [(sec_head hp (by decide)).1] at this
/-- What counts, of two blocks. -/
def cnt2 (a b : Option Pt) : Nat × Pt := cntStep 2 b (cntStep 1 a (0, pt0))
theorem cnt2_cases (a b : Option Pt) : (a = none ∧ b = none ∧ cnt2 a b = (0, pt0)) ∨ (∃ p, a = some p ∧ cnt2 a b = (1, p) ∧ ∀ q, b = some q → q.newer p = false) ∨ ∃ q, b = some q ∧ cnt2 a b = (2, q) := by
  rcases a with _ | p <;> rcases b with _ | q
  · exact .inl ⟨rfl, rfl, rfl⟩
  · exact .inr (.inr ⟨q, rfl, rfl⟩)
  · exact .inr (.inl ⟨p, rfl, rfl, fun q h => by cases h⟩)
  · by_cases h : q.newer p = true
    · exact .inr (.inr ⟨q, rfl, by simp [cnt2, cntStep, h]⟩)
    · rw [Bool.not_eq_true] at h
      exact .inr (.inl ⟨p, rfl, by simp [cnt2, cntStep, h], fun q' hq => by cases hq; exact h⟩)
theorem One.counts {i : Nat} {D : Dsk} (h : One i D) : countsP D = cnt2 (decP (D.read 1)) (decP (D.read 2)) := counts_two (by rw [h.len]; decide)
theorem One.now {i : Nat} {D : Dsk} (h : One i D) : (countsP D).2.e ≤ i ∧ (countsP D).1 ≤ 2 := by
  rw [h.counts]
  rcases cnt2_cases (decP (D.read 1)) (decP (D.read 2)) with ⟨-, -, e⟩ | ⟨p, h1, e, -⟩ | ⟨q, h2, e⟩ <;> rw [e]
  · exact ⟨Nat.zero_le _, by decide⟩
  · exact ⟨dec_old h1 (fun s hs => h.old 1 s (.inl rfl) hs), Nat.le_succ 1⟩
  · exact ⟨dec_old h2 (fun s hs => h.old 2 s (.inr rfl) hs), Nat.le_refl 2⟩
/-- What a crash leaves of one write in the queue. -/
theorem crash_one {D : Dsk} (hq : D.queue = []) (hb : ∀ x ∈ D.sure, x.length = 64) {tb : Nat} (ht : tb < D.sure.length) {b : List UInt8} (hbl : b.length = 64) (f : Nat → Nat → Bool) (cap : Nat) (pad : Array Value) (j : Nat) :
    ((D.wrote tb b).crashed f cap pad).read j = if j = tb then mixB (f 0) b (D.read tb) else D.read j := by
  rw [read_sure rfl]
  show (crashN f (D.queue ++ [(tb, b)]) (D.queue ++ [(tb, b)]).length D.sure).getD j [] = _
  rw [read_sure hq, read_sure hq, hq]
  show (crash1 (f 0) (tb, b) 4 D.sure).getD j [] = _
  rw [crash1_four (f 0) (tb, b) D.sure D.sure.length ⟨rfl, hb⟩ hbl ht, mix_mixB, List.getD_eq_getElem?_getD, List.getElem?_set]
  by_cases h : tb = j
  · subst h; rw [if_pos rfl, if_pos rfl, if_pos ht]; rfl
  · rw [if_neg h, if_neg (Ne.symm h), List.getD_eq_getElem?_getD]
theorem crash_none {D : Dsk} (hq : D.queue = []) (f : Nat → Nat → Bool) (cap : Nat) (pad : Array Value) (j : Nat) : (D.crashed f cap pad).read j = D.read j := by
  rw [read_sure rfl, read_sure hq]
  show (crashN f D.queue D.queue.length D.sure).getD j [] = _
  rw [hq]
  rfl
/-- Two of three: the new point alone, or the elder one. -/
theorem cnt_put {i : Nat} {D D' : Dsk} (h : One i D) {p : Pt} (hp : p.P) (he : p.e = i + 1) {tb : Nat} (hto : tb = if (countsP D).1 = 1 then 2 else 1) (hl : D'.sure.length = 5) {x : Option Pt} (hd : decP (D'.read tb) = x) (hr : ∀ j, j ≠ tb → D'.read j = D.read j) :
    (x = some p → countsP D' = (tb, p)) ∧ (x = none → countsP D' = countsP D) := by
  have hc := h.counts
  have hc' : countsP D' = cnt2 (decP (D'.read 1)) (decP (D'.read 2)) := counts_two (by rw [hl]; decide)
  have o1 := fun q (hq : decP (D.read 1) = some q) => dec_old hq (fun s hs => h.old 1 s (.inl rfl) hs)
  have o2 := fun q (hq : decP (D.read 2) = some q) => dec_old hq (fun s hs => h.old 2 s (.inr rfl) hs)
  rw [hc', hc]
  rw [hc] at hto
  generalize h1 : decP (D.read 1) = a at *
  generalize h2 : decP (D.read 2) = b at *
  by_cases ht : (cnt2 a b).1 = 1
  · rw [if_pos ht] at hto
    subst hto
    rw [hr 1 (by decide), hd, h1]
    rcases cnt2_cases a b with ⟨-, -, e⟩ | ⟨q, ha, e, -⟩ | ⟨q, -, e⟩
    · rw [e] at ht; exact absurd ht (by decide)
    · subst ha
      constructor
      · rintro rfl
        have := o1 q rfl
        have : p.newer q = true := by rw [newer_iff]; left; omega
        simp [cnt2, cntStep, this]
      · rintro rfl
        rw [e]
        rfl
    · rw [e] at ht; exact absurd ht (show ¬ (2 = 1) by decide)
  · rw [if_neg ht] at hto
    subst hto
    rw [hr 2 (by decide), hd, h2]
    rcases cnt2_cases a b with ⟨ha, hb, e⟩ | ⟨q, ha, e, -⟩ | ⟨q, hb, e⟩
    · subst hb
      constructor
      · rintro rfl; rfl
      · rintro rfl; rw [e]; rfl
    · rw [e] at ht; exact absurd rfl ht
    · subst hb
      constructor
      · rintro rfl
        have := o2 q rfl
        have hn : p.newer q = true := by rw [newer_iff]; left; omega
        have := newer_not hn
        simp [cnt2, cntStep, this]
      · rintro rfl
        rw [e]
        rfl
/-- One round of PointOne. -/
theorem one_step {i : Nat} {D : Dsk} (h : One i D) {p : Pt} (hp : p.P) (he : p.e = i + 1) (k : Nat) (f : Nat → Nat → Bool) (cap : Nat) (pad : Array Value) :
    One (i + 1) ((saveP { D with left := (k : Int) } p).2.crashed f cap pad) ∧
    ((0 < (countsP ((saveP { D with left := (k : Int) } p).2.crashed f cap pad)).1 ∧ (countsP ((saveP { D with left := (k : Int) } p).2.crashed f cap pad)).2 = p) ∨
      ((saveP { D with left := (k : Int) } p).1 ≠ 0 ∧ countsP ((saveP { D with left := (k : Int) } p).2.crashed f cap pad) = countsP D)) := by
  have hcl : countsP { D with left := (k : Int) } = countsP D := counts_same rfl rfl rfl
  have hn := h.now
  obtain ⟨tb, hto⟩ : ∃ tb, tb = if (countsP D).1 = 1 then 2 else 1 := ⟨_, rfl⟩
  have ht12 : tb = 1 ∨ tb = 2 := by rw [hto]; split <;> simp
  have ht5 : tb < D.sure.length := by rw [h.len]; omega
  have hbl : p.bytes.length = 64 := ptBytes_length _ _ _ _
  have hS : saveP { D with left := (k : Int) } p = if (k : Int) = 0 then (102, { D with left := (k : Int) }) else
      if ({ D with left := (k : Int) }.wrote tb p.bytes).left = 0 then (102, { D with left := (k : Int) }.wrote tb p.bytes) else (0, ({ D with left := (k : Int) }.wrote tb p.bytes).barred) := by
    unfold saveP
    rw [hcl, if_neg (by show ¬ D.sure.length < 3; rw [h.len]; decide), if_neg]
    · rw [← hto]
    · rintro ⟨h1, h2⟩
      have : p.newer (countsP D).2 = true := by rw [newer_iff]; left; omega
      rw [this] at h2
      cases h2
  have hsec : ∀ s, s < 4 → secE p.bytes s = i + 1 := fun s hs => by rw [(sec_head hp hs).1, he]
  rw [hS]
  by_cases hk : (k : Int) = 0
  · rw [if_pos hk]
    have hr := crash_none (D := { D with left := (k : Int) }) h.queue f cap pad
    have hc2 : ({ D with left := (k : Int) }.crashed f cap pad).sure = D.sure := by
      show crashN f D.queue D.queue.length D.sure = _
      rw [h.queue]; rfl
    refine ⟨⟨rfl, rfl, by rw [hc2]; exact h.len, rfl, by rw [hc2]; exact h.b, fun j s hj hs => ?_⟩, .inr ⟨show (102 : Int) ≠ 0 by decide, ?_⟩⟩
    · rw [hr]; exact Nat.le_succ_of_le (h.old j s hj hs)
    · exact counts_same (by rw [hc2]) (hr 1) (hr 2)
  · rw [if_neg hk]
    by_cases hk2 : ({ D with left := (k : Int) }.wrote tb p.bytes).left = 0
    · rw [if_pos hk2]
      have hr : ∀ j, (({ D with left := (k : Int) }.wrote tb p.bytes).crashed f cap pad).read j = if j = tb then mixB (f 0) p.bytes (D.read tb) else D.read j := crash_one (D := { D with left := (k : Int) }) h.queue h.b ht5 hbl f cap pad
      have h64 : All64 5 (({ D with left := (k : Int) }.wrote tb p.bytes).crashed f cap pad).sure := by
        refine crashN_64 (n := 5) ⟨h.len, h.b⟩ (fun x hx => ?_) _ (Nat.le_refl _)
        have hx' : x ∈ D.queue ++ [(tb, p.bytes)] := hx
        rw [h.queue] at hx'
        simp only [List.nil_append, List.mem_singleton] at hx'
        subst hx'
        exact ⟨hbl, by omega⟩
      have hold : ∀ j s, j = 1 ∨ j = 2 → s < 4 → secE ((({ D with left := (k : Int) }.wrote tb p.bytes).crashed f cap pad).read j) s ≤ i + 1 := by
        intro j s hj hs
        rw [hr]
        split
        · rename_i e
          subst e
          unfold secE
          rw [sec_mix hbl (h.rl (by omega)) hs]
          unfold mixS
          split
          · exact Nat.le_of_eq (hsec s hs)
          · exact Nat.le_succ_of_le (h.old j s hj hs)
        · exact Nat.le_succ_of_le (h.old j s hj hs)
      refine ⟨⟨rfl, rfl, h64.1, rfl, h64.2, hold⟩, ?_⟩
      have hput := cnt_put h hp he hto (D' := ({ D with left := (k : Int) }.wrote tb p.bytes).crashed f cap pad) h64.1 rfl (fun j hj => by rw [hr, if_neg hj])
      have hrt := hr tb
      rw [if_pos rfl] at hrt
      rw [hrt] at hput
      by_cases hall : ∀ s, s < 4 → f 0 s = true
      · left
        rw [mixB_all hbl hall, decP_bytes hp] at hput
        rw [hput.1 rfl]
        exact ⟨by show 0 < tb; omega, rfl⟩
      · right
        refine ⟨show (102 : Int) ≠ 0 by decide, ?_⟩
        by_cases hnone : ∀ s, s < 4 → f 0 s = false
        · rw [mixB_none (h.rl (by omega)) hnone] at hrt
          refine counts_same (by rw [h64.1, h.len]) ?_ ?_
          · rw [hr]; split
            · rename_i e; rw [e, mixB_none (h.rl (by omega)) hnone]
            · rfl
          · rw [hr]; split
            · rename_i e; rw [e, mixB_none (h.rl (by omega)) hnone]
            · rfl
        · have ⟨t, ht, hft⟩ : ∃ t, t < 4 ∧ f 0 t = false := by
            apply Classical.byContradiction
            intro hn
            exact hall (fun s hs => by
              cases hfs : f 0 s
              · exact absurd ⟨s, hs, hfs⟩ hn
              · rfl)
          have ⟨s, hs, hfs⟩ : ∃ t, t < 4 ∧ f 0 t = true := by
            apply Classical.byContradiction
            intro hn
            exact hnone (fun s hs => by
              cases hfs : f 0 s
              · rfl
              · exact absurd ⟨s, hs, hfs⟩ hn)
          refine hput.2 (mix_no hp (h.rl (by omega)) hs ht hfs hft (.inl ?_))
          have := h.old tb t ht12 ht
          omega
    · rw [if_neg hk2]
      have hr0 := wb_read (D := { D with left := (k : Int) }) h.queue ht5 p.bytes
      have hr := fun j => (crash_none (D := ({ D with left := (k : Int) }.wrote tb p.bytes).barred) rfl f cap pad j).trans (hr0 j)
      have hc2 : (({ D with left := (k : Int) }.wrote tb p.bytes).barred.crashed f cap pad).sure = D.sure.set tb p.bytes := by
        show putQ (D.queue ++ [(tb, p.bytes)]) D.sure = _
        rw [h.queue]; rfl
      have hlen : (({ D with left := (k : Int) }.wrote tb p.bytes).barred.crashed f cap pad).sure.length = 5 := by rw [hc2, List.length_set, h.len]
      refine ⟨⟨rfl, rfl, hlen, rfl, by
          rw [hc2]
          intro x hx
          rcases List.mem_or_eq_of_mem_set hx with hx | hx
          · exact h.b x hx
          · rw [hx]; exact hbl, fun j s hj hs => ?_⟩, .inl ?_⟩
      · rw [hr]
        split
        · exact Nat.le_of_eq (hsec s hs)
        · exact Nat.le_succ_of_le (h.old j s hj hs)
      · have hput := cnt_put h hp he hto (D' := ({ D with left := (k : Int) }.wrote tb p.bytes).barred.crashed f cap pad) hlen rfl (fun j hj => by rw [hr, if_neg hj]; rfl)
        have hrt := hr tb
        rw [if_pos rfl] at hrt
        rw [hrt, decP_bytes hp] at hput
        rw [hput.1 rfl]
        exact ⟨by show 0 < tb; omega, rfl⟩
end Go.Proofs.Ytfaingklglelnaa

/- What an argument's reading says of the cells: one law for every type of integers, bools, texts, structs, arrays and slices. -/
namespace Go.Proofs.Ytfaingklglelnaa
open Go.RowKit Go.WideShapes

/-- So the cells of a type read, to a depth. -/
def Rd (P : Program) (w : World) : Nat → TypeId → List Value → Prop
  | 0, _, _ => True
  | n + 1, t, cs =>
    match P.underlying t with
    | some (.struct fs) => cs.length = P.cellsOf t ∧ ∀ (j : Nat) (f : Field), fs[j]? = some f → Rd P w n f.type ((cs.drop f.offset).take (P.cellsOf f.type))
    | some (.array k e) => cs.length = P.cellsOf t ∧ ∀ i, i < k → Rd P w n e ((cs.drop (i * P.cellsOf e)).take (P.cellsOf e))
    | some (.int k) => ∃ m, cs = [.int k m] ∧ (Lit.int k m).wf = true
    | some .bool => ∃ b, cs = [.bool b]
    | some .string => ∃ s : ByteArray, cs = [.string s] ∧ s.size ≤ maxLen
    | some (.slice e) => cs = [.slice none 0 0] ∨ ∃ a len cap, cs = [.slice (some a) len cap] ∧ len ≤ cap ∧ cap ≤ maxLen ∧
        ∀ i, i < len → ∃ cs', cs'.length = P.cellsOf e ∧ (∀ j, j < P.cellsOf e → w.cell? (a.add (i * P.cellsOf e + j)) = cs'[j]?) ∧ Rd P w n e cs'
    | _ => True

section
variable {H : Type} {enc : TypeId × Value → H} {P : Program} {w : World} {base : Nat} {held : Bool}
theorem rd_of_trod (n : Nat) : ∀ {fuel : Nat} {t : TypeId} {cs : List Value} {x : DataW H × List MemPlace}, DataW.trod enc P w base (fun _ => true) held fuel t cs = some x → Rd P w n t cs := by
  induction n with
  | zero => intros; trivial
  | succ n ih =>
    intro fuel t cs x h
    unfold Rd
    split
    · rename_i fs ht
      obtain ⟨xs, m, _, _, hl, hxl, hf⟩ := DataW.trod_struct ht h
      refine ⟨hl, fun j f hj => ?_⟩
      have h1 := hf j f hj
      have hjl : j < xs.length := by rw [hxl]; exact (Array.getElem?_eq_some_iff.1 hj).1
      rw [List.getElem?_eq_getElem hjl] at h1
      exact ih h1
    · rename_i k e ht
      obtain ⟨xs, m, _, _, hl, hxl, hf⟩ := DataW.trod_array ht h
      refine ⟨hl, fun i hi => ?_⟩
      have h1 := hf i hi
      rw [List.getElem?_eq_getElem (show i < xs.length by omega)] at h1
      exact ih h1
    · rename_i k ht
      obtain ⟨m, hcs, _, hw⟩ := DataW.trod_int ht h
      exact ⟨m, hcs, hw⟩
    · rename_i ht
      obtain ⟨b, hcs, _⟩ := DataW.trod_bool ht h
      exact ⟨b, hcs⟩
    · rename_i ht
      obtain ⟨s, hcs, _, hs⟩ := DataW.trod_string ht h
      exact ⟨s, hcs, hs⟩
    · rename_i e ht
      rcases Go.Deep.open_slice ht h with ⟨h0, _⟩ | ⟨a, len, cap, m, n', D, Pl, hcs, _, hl, hm, hmm, _, hi⟩
      · exact .inl h0
      · refine .inr ⟨a, len, cap, hcs, hl, hm, fun i hil => ?_⟩
        simp only [if_true] at hmm
        obtain ⟨cs', hc, ht'⟩ := hi i (by omega)
        obtain ⟨_, hcl, hat⟩ := World.cells?_some hc
        exact ⟨cs', hcl, fun j hj => by rw [← hat j hj, addr_add2], ih ht'⟩
    · trivial

section
variable {P : Program} {w : World} {n : Nat} {t : TypeId} {cs : List Value}
theorem rd_int {k : IntKind} (ht : P.underlying t = some (.int k)) (h : Rd P w (n + 1) t cs) : ∃ m, cs = [.int k m] ∧ (Lit.int k m).wf = true := by
  unfold Rd at h; rw [ht] at h; exact h
theorem rd_bool (ht : P.underlying t = some .bool) (h : Rd P w (n + 1) t cs) : ∃ b, cs = [.bool b] := by
  unfold Rd at h; rw [ht] at h; exact h
theorem rd_array {k : Nat} {e : TypeId} (ht : P.underlying t = some (.array k e)) (h : Rd P w (n + 1) t cs) :
    cs.length = P.cellsOf t ∧ ∀ i, i < k → Rd P w n e ((cs.drop (i * P.cellsOf e)).take (P.cellsOf e)) := by
  unfold Rd at h; rw [ht] at h; exact h
theorem rd_len {fs : Array Field} (ht : P.underlying t = some (.struct fs)) (h : Rd P w (n + 1) t cs) : cs.length = P.cellsOf t := by
  unfold Rd at h; rw [ht] at h; exact h.1
theorem rd_field {fs : Array Field} (ht : P.underlying t = some (.struct fs)) (h : Rd P w (n + 1) t cs) (j : Nat) {u o : Nat} (hj : (fs[j]?).map (fun f => (f.type, f.offset)) = some (u, o)) {c : Nat} (hc : P.cellsOf u = c) :
    Rd P w n u ((cs.drop o).take c) := by
  unfold Rd at h; rw [ht] at h
  cases hf : fs[j]? with
  | none => rw [hf] at hj; cases hj
  | some f =>
    rw [hf] at hj
    simp only [Option.map_some, Option.some.injEq, Prod.mk.injEq] at hj
    have := h.2 j f hf
    rw [hj.1, hj.2, hc] at this
    exact this
theorem rd_slice {e : TypeId} (ht : P.underlying t = some (.slice e)) (h : Rd P w (n + 1) t cs) :
    cs = [.slice none 0 0] ∨ ∃ a len cap, cs = [.slice (some a) len cap] ∧ len ≤ cap ∧ cap ≤ maxLen ∧
        ∀ i, i < len → ∃ cs', cs'.length = P.cellsOf e ∧ (∀ j, j < P.cellsOf e → w.cell? (a.add (i * P.cellsOf e + j)) = cs'[j]?) ∧ Rd P w n e cs' := by
  unfold Rd at h; rw [ht] at h; exact h
theorem take_one {cs : List Value} {o : Nat} {c : Value} (h : cs[o]? = some c) : (cs.drop o).take 1 = [c] := by
  have hl : o < cs.length := (List.getElem?_eq_some_iff.1 h).1
  rw [List.drop_eq_getElem_cons hl]
  rw [List.getElem?_eq_getElem hl] at h
  injection h with h
  rw [h]; rfl
theorem rd_fld_int {fs : Array Field} {k : IntKind} (ht : P.underlying t = some (.struct fs)) (h : Rd P w (n + 2) t cs) (j : Nat) {u o : Nat} (hj : (fs[j]?).map (fun f => (f.type, f.offset)) = some (u, o)) (hc : P.cellsOf u = 1) (hu : P.underlying u = some (.int k))
    {c : Value} (hcs : cs[o]? = some c) : ∃ m, c = .int k m ∧ (Lit.int k m).wf = true := by
  have h1 := rd_field ht h j hj hc
  rw [take_one hcs] at h1
  obtain ⟨m, hm, hw⟩ := rd_int hu h1
  simp at hm
  exact ⟨m, hm, hw⟩
theorem rd_arr_int {k : Nat} {e : TypeId} {kd : IntKind} (ht : P.underlying t = some (.array k e)) (h : Rd P w (n + 2) t cs) (hc : P.cellsOf e = 1) (he : P.underlying e = some (.int kd)) (i : Nat) (hi : i < k)
    {c : Value} (hcs : cs[i]? = some c) : ∃ m, c = .int kd m ∧ (Lit.int kd m).wf = true := by
  have h1 := (rd_array ht h).2 i hi
  rw [hc, Nat.mul_one, take_one hcs] at h1
  obtain ⟨m, hm, hw⟩ := rd_int he h1
  simp at hm
  exact ⟨m, hm, hw⟩
end

/-- So an argument reads. -/
def Arg (P : Program) (w : World) (t : TypeId) (v : Value) : Prop :=
  match P.underlying t with
  | some (.struct _) | some (.array _ _) => ∃ cs, v = .agg cs ∧ Rd P w 10 t cs.toList
  | _ => Rd P w 10 t [v]
theorem arg_of {r : Reach} {b : Nat} {t : TypeId} {v : Value} {d : DataW H} {p : List MemPlace} (hv : Value.okWide P w r b t v) (h : DataW.Trod enc P w base (fun _ => true) held t v d p) : Arg P w t v := by
  obtain ⟨fuel, hf⟩ := h
  unfold Arg
  split
  · rename_i fs ht
    obtain ⟨cs, rfl, _⟩ := okWide_struct ht hv
    exact ⟨cs, rfl, rd_of_trod 10 hf⟩
  · rename_i k e ht
    simp only [Value.okWide, ht] at hv
    obtain ⟨cs, rfl, _⟩ := hv
    exact ⟨cs, rfl, rd_of_trod 10 hf⟩
  · rename_i h1 h2
    have hc : v.cells.toList = [v] := by
      cases v with
      | agg cs =>
        exfalso
        unfold Value.okWide at hv
        split at hv
        · rename_i fs hs; exact h1 _ hs
        · rename_i k e hs; exact h2 _ _ hs
        · unfold Cell.okWide at hv
          split at hv <;> first | (simp_all; done) | skip
          unfold Cell.ok at hv
          split at hv <;> simp_all
      | _ => rfl
    rw [hc] at hf
    exact rd_of_trod 10 hf
end

theorem arg_one {P : Program} {w : World} {t : TypeId} {v : Value} (h : Arg P w t v) {d : TypeDesc} (ht : P.underlying t = some d) (hs : ∀ fs, d ≠ .struct fs) (ha : ∀ k e, d ≠ .array k e) : Rd P w 10 t [v] := by
  unfold Arg at h
  split at h
  · rename_i fs hf; rw [ht] at hf; exact absurd (Option.some.inj hf) (hs _)
  · rename_i k e hf; rw [ht] at hf; exact absurd (Option.some.inj hf) (ha _ _)
  · exact h
theorem arg_agg {P : Program} {w : World} {t : TypeId} {v : Value} (h : Arg P w t v) (ht : (∃ fs, P.underlying t = some (.struct fs)) ∨ ∃ k e, P.underlying t = some (.array k e)) : ∃ cs : Array Value, v = .agg cs ∧ Rd P w 10 t cs.toList := by
  unfold Arg at h
  rcases ht with ⟨fs, ht⟩ | ⟨k, e, ht⟩ <;> rw [ht] at h <;> exact h
theorem list_of {α : Type} {Q : Nat → α → Prop} (n : Nat) (h : ∀ i, i < n → ∃ r, Q i r) : ∃ rs : List α, rs.length = n ∧ ∀ i (hi : i < rs.length), Q i rs[i] := by
  induction n with
  | zero => exact ⟨[], rfl, fun i hi => absurd hi (by simp)⟩
  | succ n ih =>
    obtain ⟨rs, hl, hq⟩ := ih (fun i hi => h i (by omega))
    obtain ⟨r, hr⟩ := h n (by omega)
    refine ⟨rs ++ [r], by simp [hl], fun i hi => ?_⟩
    by_cases hin : i < rs.length
    · rw [List.getElem_append_left hin]; exact hq i hin
    · have : i = n := by simp at hi; omega
      subst this
      rw [List.getElem_append_right (by omega)]
      simpa [hl] using hr
theorem cell_lt {w : World} {a : Addr} {v : Value} (h : w.cell? a = some v) : a.block < w.heap.size := by
  rcases Nat.lt_or_ge a.block w.heap.size with hh | hh
  · exact hh
  · exfalso
    unfold World.cell? at h
    rw [Array.getElem?_eq_none hh] at h
    cases h

/-- A slice of bytes that came in. -/
theorem by_of_rd {P : Program} {w : World} {n : Nat} {t e : TypeId} {v : Value} (ht : P.underlying t = some (.slice e)) (he : P.underlying e = some (.int .u8)) (hc : P.cellsOf e = 1) (h : Rd P w (n + 2) t [v]) :
    ∃ A len cap l, v = .slice A len cap ∧ len ≤ cap ∧ cap ≤ 9223372036854775807 ∧ By w w.heap.size A len l := by
  unfold Rd at h
  rw [ht] at h
  rcases h with h | ⟨a, len, cap, h, hl, hm, hi⟩
  · simp only [List.cons.injEq, and_true] at h
    exact ⟨none, 0, 0, [], h, Nat.le_refl _, by omega, Sl.nil_⟩
  · simp only [List.cons.injEq, and_true] at h
    rw [hc] at hi
    have hcell : ∀ i, i < len → ∃ m : Int, 0 ≤ m ∧ m < 256 ∧ w.cell? (a.add i) = some (.int .u8 m) := by
      intro i hil
      obtain ⟨cs', hcl, hat, hr⟩ := hi i hil
      unfold Rd at hr
      rw [he] at hr
      obtain ⟨m, rfl, hwf⟩ := hr
      have := hat 0 (by omega)
      simp [Lit.wf, IntKind.min, IntKind.max, IntKind.signed, IntKind.bits] at hwf
      exact ⟨m, by omega, by omega, by simpa using this⟩
    refine ⟨some a, len, cap, (List.range len).map fun i => match w.cell? (a.add i) with | some (.int .u8 m) => UInt8.ofNat m.toNat | _ => 0, h, hl, by simpa [maxLen] using hm, by simp [u8s], fun j u hu => ?_⟩
    rw [u8s_get, List.getElem?_map] at hu
    by_cases hj : j < len
    · rw [List.getElem?_range hj] at hu
      obtain ⟨m, h0, h1, h2⟩ := hcell j hj
      simp only [Option.map_some, h2, Option.some.injEq] at hu
      have hlt : a.block < w.heap.size := by
        rcases Nat.lt_or_ge a.block w.heap.size with hh | hh
        · exact hh
        · exfalso
          unfold World.cell? at h2
          rw [addr_block, Array.getElem?_eq_none hh] at h2
          cases h2
      refine ⟨a, rfl, hlt, ?_⟩
      rw [h2, ← hu, UInt8.toNat_ofNat']
      congr 2
      omega
    · rw [List.getElem?_eq_none (by simp; omega)] at hu
      cases hu
/-- The bounds of an integer that fits its kind. -/
theorem wf_bd_i64 {n : Int} (h : (Lit.int .i64 n).wf = true) : -9223372036854775808 ≤ n ∧ n ≤ 9223372036854775807 := by
  simp [Lit.wf, IntKind.min, IntKind.max, IntKind.signed, IntKind.bits] at h; omega
theorem wf_bd_u32 {n : Int} (h : (Lit.int .u32 n).wf = true) : ∃ k : Nat, n = (k : Int) ∧ k < 4294967296 := by
  simp [Lit.wf, IntKind.min, IntKind.max, IntKind.signed, IntKind.bits] at h
  exact ⟨n.toNat, by omega, by omega⟩
theorem wf_bd_u8 {n : Int} (h : (Lit.int .u8 n).wf = true) : ∃ k : Nat, n = (k : Int) ∧ k < 256 := by
  simp [Lit.wf, IntKind.min, IntKind.max, IntKind.signed, IntKind.bits] at h
  exact ⟨n.toNat, by omega, by omega⟩
end Go.Proofs.Ytfaingklglelnaa

/- Slices that came in: of one cell each, and of several. -/
namespace Go.Proofs.Ytfaingklglelnaa
open Go.RowKit Go.WideShapes

/-- A slice of elements of one cell each. -/
theorem sl_of_rd {P : Program} {w : World} {n : Nat} {t e : TypeId} {v : Value} {Q : Value → Prop} (ht : P.underlying t = some (.slice e)) (hc : P.cellsOf e = 1) (hQ : ∀ cs, Rd P w n e cs → ∃ u, cs = [u] ∧ Q u) (h : Rd P w (n + 1) t [v]) :
    ∃ A len cap xs, v = .slice A len cap ∧ len ≤ cap ∧ cap ≤ 9223372036854775807 ∧ Sl w w.heap.size A len xs ∧ ∀ x ∈ xs, Q x := by
  rcases rd_slice ht h with h | ⟨a, len, cap, h, hl, hm, hi⟩
  · simp only [List.cons.injEq, and_true] at h
    exact ⟨none, 0, 0, [], h, Nat.le_refl _, by omega, Sl.nil_, by simp⟩
  · simp only [List.cons.injEq, and_true] at h
    rw [hc] at hi
    obtain ⟨rs, hrl, hr⟩ := list_of (Q := fun i (u : Value) => w.cell? (a.add i) = some u ∧ Q u) len (fun i hil => by
      obtain ⟨cs', hcl, hat, hrd⟩ := hi i hil
      obtain ⟨u, rfl, hq⟩ := hQ cs' hrd
      have := hat 0 (by omega)
      exact ⟨u, by simpa using this, hq⟩)
    refine ⟨some a, len, cap, rs, h, hl, by simpa [maxLen] using hm, ⟨hrl, fun j u hu => ?_⟩, fun x hx => ?_⟩
    · obtain ⟨hj, rfl⟩ := List.getElem?_eq_some_iff.1 hu
      exact ⟨a, rfl, by have := cell_lt (hr j hj).1; rwa [addr_block] at this, (hr j hj).1⟩
    · obtain ⟨j, hj, rfl⟩ := List.getElem_of_mem hx
      exact (hr j hj).2
theorem ints_of_rd {P : Program} {w : World} {n : Nat} {t e : TypeId} {k : IntKind} {v : Value} (ht : P.underlying t = some (.slice e)) (he : P.underlying e = some (.int k)) (hc : P.cellsOf e = 1) (h : Rd P w (n + 2) t [v]) :
    ∃ (A : Option Addr) (len cap : Nat) (l : List Int), v = .slice A len cap ∧ len ≤ cap ∧ cap ≤ 9223372036854775807 ∧ Sl w w.heap.size A len (l.map (Value.int k)) ∧ ∀ x ∈ l, (Lit.int k x).wf = true := by
  obtain ⟨A, len, cap, xs, h1, h2, h3, h4, h5⟩ := sl_of_rd (Q := fun u => ∃ m, u = .int k m ∧ (Lit.int k m).wf = true) ht hc (fun cs h => by
    obtain ⟨m, rfl, hw⟩ := rd_int he h
    exact ⟨_, rfl, m, rfl, hw⟩) h
  obtain ⟨l, hl⟩ : ∃ l : List Int, xs = l.map (Value.int k) ∧ ∀ x ∈ l, (Lit.int k x).wf = true := by
    clear h4
    induction xs with
    | nil => exact ⟨[], rfl, by simp⟩
    | cons x xs ih =>
      obtain ⟨m, rfl, hm⟩ := h5 x (by simp)
      obtain ⟨l, rfl, hw⟩ := ih (fun y hy => h5 y (by simp [hy]))
      exact ⟨m :: l, rfl, by simpa [hm] using hw⟩
  obtain ⟨rfl, hw⟩ := hl
  exact ⟨A, len, cap, l, h1, h2, h3, h4, hw⟩
theorem bools_of_rd {P : Program} {w : World} {n : Nat} {t e : TypeId} {v : Value} (ht : P.underlying t = some (.slice e)) (he : P.underlying e = some .bool) (hc : P.cellsOf e = 1) (h : Rd P w (n + 2) t [v]) :
    ∃ (A : Option Addr) (len cap : Nat) (l : List Bool), v = .slice A len cap ∧ len ≤ cap ∧ cap ≤ 9223372036854775807 ∧ Sl w w.heap.size A len (l.map Value.bool) := by
  obtain ⟨A, len, cap, xs, h1, h2, h3, h4, h5⟩ := sl_of_rd (Q := fun u => ∃ b, u = .bool b) ht hc (fun cs h => by
    obtain ⟨b, rfl⟩ := rd_bool he h
    exact ⟨_, rfl, b, rfl⟩) h
  obtain ⟨l, rfl⟩ : ∃ l : List Bool, xs = l.map Value.bool := by
    clear h4
    induction xs with
    | nil => exact ⟨[], rfl⟩
    | cons x xs ih =>
      obtain ⟨b, rfl⟩ := h5 x (by simp)
      obtain ⟨l, rfl⟩ := ih (fun y hy => h5 y (by simp [hy]))
      exact ⟨b :: l, rfl⟩
  exact ⟨A, len, cap, l, h1, h2, h3, h4⟩
/-- A slice of elements of k cells each, row by row. -/
structure SlK (w : World) (A : Option Addr) (k n : Nat) (rows : List (List Value)) : Prop where
  len : rows.length = n
  row : ∀ i (hi : i < rows.length), rows[i].length = k
  cells : ∀ i j u, i < rows.length → (rows[i]?.bind (·[j]?)) = some u → ∃ a, A = some a ∧ w.cell? (a.add (i * k + j)) = some u
theorem slk_of_rd {P : Program} {w : World} {n k : Nat} {t e : TypeId} {v : Value} (ht : P.underlying t = some (.slice e)) (hc : P.cellsOf e = k) (h : Rd P w (n + 1) t [v]) :
    ∃ A len cap rows, v = .slice A len cap ∧ len ≤ cap ∧ cap ≤ 9223372036854775807 ∧ SlK w A k len rows ∧ ∀ r ∈ rows, Rd P w n e r := by
  rcases rd_slice ht h with h | ⟨a, len, cap, h, hl, hm, hi⟩
  · simp only [List.cons.injEq, and_true] at h
    exact ⟨none, 0, 0, [], h, Nat.le_refl _, by omega, ⟨rfl, by simp, by simp⟩, by simp⟩
  · simp only [List.cons.injEq, and_true] at h
    rw [hc] at hi
    obtain ⟨rs, hrl, hr⟩ := list_of (Q := fun i (cs' : List Value) => cs'.length = k ∧ (∀ j, j < k → w.cell? (a.add (i * k + j)) = cs'[j]?) ∧ Rd P w n e cs') len hi
    refine ⟨some a, len, cap, rs, h, hl, by simpa [maxLen] using hm, ⟨hrl, fun i hi => (hr i hi).1, fun i j u hi hu => ?_⟩, fun x hx => ?_⟩
    · rw [List.getElem?_eq_getElem hi, Option.bind_some] at hu
      have hj : j < k := by have := (List.getElem?_eq_some_iff.1 hu).1; rwa [(hr i hi).1] at this
      exact ⟨a, rfl, by rw [(hr i hi).2.1 j hj, hu]⟩
    · obtain ⟨j, hj, rfl⟩ := List.getElem_of_mem hx
      exact (hr j hj).2.2
theorem SlK.keep {w w' : World} {A : Option Addr} {k n : Nat} {rows : List (List Value)} (h : SlK w A k n rows) (hb : Below w.heap.size w w') : SlK w' A k n rows :=
  ⟨h.len, h.row, fun i j u hi hu => by
    obtain ⟨a, e, hc⟩ := h.cells i j u hi hu
    exact ⟨a, e, (hb.cell (cell_lt hc)).trans hc⟩⟩
theorem SlK.at {w : World} {A : Option Addr} {k n : Nat} {rows : List (List Value)} (h : SlK w A k n rows) (hn : 0 < n) (hk : 0 < k) :
    ∃ b off, A = some ⟨b, off, none⟩ ∧ b < w.heap.size ∧ ∀ i (hi : i < rows.length) j u, (rows[i])[j]? = some u → w.cell? ⟨b, off + i * k + j, none⟩ = some u := by
  have h0 : 0 < rows.length := by rw [h.len]; exact hn
  have hr := h.row 0 h0
  obtain ⟨⟨b, off, spot⟩, rfl, hc⟩ := h.cells 0 0 (rows[0][0]'(by omega)) h0 (by rw [List.getElem?_eq_getElem h0, Option.bind_some, List.getElem?_eq_getElem])
  have hsp : spot = none := by
    have := World.cell?_spot hc
    simpa [Addr.add] using this
  subst hsp
  refine ⟨b, off, rfl, by have := cell_lt hc; rwa [addr_block] at this, fun i hi j u hu => ?_⟩
  obtain ⟨_, e, hc'⟩ := h.cells i j u hi (by rw [List.getElem?_eq_getElem hi]; exact hu)
  cases e
  rw [show (Addr.mk b off none).add (i * k + j) = ⟨b, off + i * k + j, none⟩ by unfold Addr.add; split <;> simp_all [Nat.add_assoc]] at hc'
  exact hc'
theorem int_arg {P : Program} {w : World} {t : TypeId} {v : Value} (ht : P.underlying t = some (.int .i64)) (h : Arg P w t v) : ∃ n, v = .int .i64 n ∧ -9223372036854775808 ≤ n ∧ n ≤ 9223372036854775807 := by
  obtain ⟨n, hn, hw⟩ := rd_int ht (arg_one h ht (fun _ => by simp) (fun _ _ => by simp))
  simp at hn
  have := wf_bd_i64 hw
  exact ⟨n, hn, this.1, this.2⟩
end Go.Proofs.Ytfaingklglelnaa
