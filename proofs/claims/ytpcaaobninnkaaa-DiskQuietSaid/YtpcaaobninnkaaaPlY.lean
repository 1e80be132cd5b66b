/- The walk over Play: what a call of the script does to both disks. Kinds 2, 3 and others. -/
import Derived.Test.YtpcaaobninnkaaaPlJ
import Derived.Test.YtpcaaobninnkaaaRz
import Derived.Test.YtpcaaobninnkaaaEty8
namespace Go.Proofs.Ytpcaaobninnkaaa
open Go.RowKit
attribute [local go_sem ↓] Go.wp_at_zero Go.wp_at_succ

/-- An operation of the script, and where its lists lie. -/
structure OpL where
  kind : Int
  n : Int
  sectors : Int
  bA : Option Addr
  bn : Nat
  bc : Nat
  b : List UInt8
  raw : Bool
  kA : Option Addr
  kn : Nat
  kc : Nat
  keep : List Bool
def opV (o : OpL) : Array Value := #[.int .i64 o.kind, .int .i64 o.n, .int .i64 o.sectors, .slice o.bA o.bn o.bc, .bool o.raw, .slice o.kA o.kn o.kc]
structure OpAt (w : World) (B : Nat) (o : OpL) : Prop where
  b : By w B o.bA o.bn o.b
  keep : Sl w B o.kA o.kn (o.keep.map Value.bool)
  bc : o.bn ≤ o.bc ∧ o.bc ≤ 140737488351232
  kc : o.kn ≤ o.kc ∧ o.kc ≤ 140737488351232
  n : -9223372036854775808 ≤ o.n ∧ o.n ≤ 9223372036854775807
theorem OpAt.below {w w' : World} {B : Nat} {o : OpL} (h : OpAt w B o) (hb : Below B w w') : OpAt w' B o := { h with b := h.b.below hb, keep := h.keep.below hb }

theorem refV_eq (As : Option Addr) (cs : Nat) (Aq : Option Addr) (cq : Nat) (D : Dsk) : refV As cs Aq cq D = #[.slice As D.sure.length cs, .slice Aq D.queue.length cq, .int .i64 (D.steps : Int), .int .i64 D.left] := rfl

section
variable {w0 w w' : World} {d : Nat} {D E : Dsk} {As Aq : Option Addr} {cs cq : Nat}
/-- A store into one of the boxes. -/
theorem PJ.box (h : PJ w0 w d D As cs Aq cq E) {g : Nat} (ho : Out w0 w d D g) (ns : ∀ k, (Value.slice As 0 0).ownBlock = some k → k ≠ g) (nq : ∀ k, (Value.slice Aq 0 0).ownBlock = some k → k ≠ g) (hg : w0.heap.size ≤ g) (i : Nat) (v : Value) : PJ w0 (w.setCell ⟨g, i, none⟩ v) d D As cs Aq cq E := by
  obtain ⟨hl, s, u, hD, n1, n2, n3⟩ := ho
  have hK : Kp [g] w (w.setCell ⟨g, i, none⟩ v) := (Kp.refl [g] w).set (p := ⟨g, i, none⟩) (.inl (by simp)) v
  have hD' : DskA (w.setCell ⟨g, i, none⟩ v) w0.heap.size d s u D := dsk_kp hD hK (by simpa using n1.symm) (by simpa using n2.symm) (fun k hk => by
    simp only [List.mem_singleton]; rintro rfl; exact n3 hk)
  have hO : ∀ k, Out w0 w d D k → Out w0 (w.setCell ⟨g, i, none⟩ v) d D k := by
    rintro k ⟨kl, s2, u2, hD2, m1, m2, m3⟩
    obtain ⟨rfl, rfl⟩ := dsk_same hD hD2
    exact ⟨by simpa [World.setCell] using kl, s, u, hD', m1, m2, m3⟩
  exact ⟨⟨⟨s, u, hD'⟩, h.ld.bel.setCell (p := ⟨g, i, none⟩) hg v⟩, h.rm.kp hK (fun k hk => by simpa using ns k hk) (fun k hk => by simpa using nq k hk), fun k hk => hO k (h.os k hk), fun k hk => hO k (h.oq k hk)⟩
theorem Out.box {k g : Nat} (h : Out w0 w d D k) (ho : Out w0 w d D g) (i : Nat) (v : Value) : Out w0 (w.setCell ⟨g, i, none⟩ v) d D k := by
  obtain ⟨hl, s, u, hD, n1, n2, n3⟩ := ho
  have hK : Kp [g] w (w.setCell ⟨g, i, none⟩ v) := (Kp.refl [g] w).set (p := ⟨g, i, none⟩) (.inl (by simp)) v
  have hD' : DskA (w.setCell ⟨g, i, none⟩ v) w0.heap.size d s u D := dsk_kp hD hK (by simpa using n1.symm) (by simpa using n2.symm) (fun k hk => by
    simp only [List.mem_singleton]; rintro rfl; exact n3 hk)
  obtain ⟨kl, s2, u2, hD2, m1, m2, m3⟩ := h
  obtain ⟨rfl, rfl⟩ := dsk_same hD hD2
  exact ⟨by simpa [World.setCell] using kl, s, u, hD', m1, m2, m3⟩
end
/-- One block more, of the call's own. -/
structure PX (w0 w : World) (d : Nat) (D : Dsk) (As Aq : Option Addr) (g : Nat) : Prop where
  o : Out w0 w d D g
  ns : ∀ k, (Value.slice As 0 0).ownBlock = some k → k ≠ g
  nq : ∀ k, (Value.slice Aq 0 0).ownBlock = some k → k ≠ g
section
variable {w0 w w' : World} {b d g : Nat} {D D' E E' : Dsk} {r ov : Array Value} {As Aq As' Aq' : Option Addr} {cs cq cs' cq' : Nat}
theorem PX.lt (h : PX w0 w d D As Aq g) : g < w.heap.size := h.o.1
theorem PX.below (h : PX w0 w d D As Aq g) (hb : Below w.heap.size w w') : PX w0 w' d D As Aq g := ⟨h.o.below hb, h.ns, h.nq⟩
theorem PX.prog (h : PX w0 w d D As Aq g) {gs : List Nat} (hf : ∀ k, Out w0 w d D k → k ∉ gs ∧ Out w0 w' d D' k) : PX w0 w' d D' As Aq g := ⟨(hf g h.o).2, h.ns, h.nq⟩
theorem PX.ref (h : PX w0 w d D As Aq g) (hb : Below w.heap.size w w') (hs : ∀ k, (Value.slice As' 0 0).ownBlock = some k → w.heap.size ≤ k ∨ (Value.slice As 0 0).ownBlock = some k)
    (hq : ∀ k, (Value.slice Aq' 0 0).ownBlock = some k → w.heap.size ≤ k ∨ (Value.slice Aq 0 0).ownBlock = some k) : PX w0 w' d D As' Aq' g :=
  ⟨h.o.below hb, fun k hk => (hs k hk).elim (fun e => by have := h.lt; omega) (h.ns k), fun k hk => (hq k hk).elim (fun e => by have := h.lt; omega) (h.nq k)⟩
theorem PX.mk' (h : PJ w0 w d D As cs Aq cq E) (hb : Below w.heap.size w w') (hg : w.heap.size ≤ g) (hl : g < w'.heap.size) : PX w0 w' d D As Aq g :=
  ⟨h.ld.out hb hg hl, fun k hk => by have := (h.rm.sLt k hk).2; omega, fun k hk => by have := (h.rm.qLt k hk).2; omega⟩
theorem PX.box (h : PX w0 w d D As Aq g) {k : Nat} (ho : Out w0 w d D k) (i : Nat) (v : Value) : PX w0 (w.setCell ⟨k, i, none⟩ v) d D As Aq g := ⟨h.o.box ho i v, h.ns, h.nq⟩
end
/-- What is kept for the caller. -/
def FrQ (w0 w : World) (d : Nat) (D : Dsk) (As Aq : Option Addr) (g : Nat) (t : TypeId) (c : Array Value) : Prop := PX w0 w d D As Aq g ∧ Blk w g t c
/-- Both disks, and the three boxes of Play. -/
structure PY (w0 w : World) (Q : Nat → TypeId → Array Value → Prop) (b d : Nat) (D : Dsk) (r ov : Array Value) (As : Option Addr) (cs : Nat) (Aq : Option Addr) (cq : Nat) (E : Dsk) : Prop where
  pj : PJ w0 w d D As cs Aq cq E
  k0 : Blk w b 51 r
  k1 : Blk w (b + 1) 57 ov
  k2 : ∃ z0 z1 z2 z3, Blk w (b + 1 + 1) 51 #[z0, z1, z2, z3]
  ob : ∀ i, i < 3 → Out w0 w d D (b + i)
  ns : ∀ g, (Value.slice As 0 0).ownBlock = some g → g < b ∨ b + 3 ≤ g
  nq : ∀ g, (Value.slice Aq 0 0).ownBlock = some g → g < b ∨ b + 3 ≤ g
  fr : ∀ g t c, Q g t c → g < b ∧ Blk w g t c ∧ PX w0 w d D As Aq g
section
variable {w0 w w' : World} {Q : Nat → TypeId → Array Value → Prop} {b d : Nat} {D D' E E' : Dsk} {r r' ov : Array Value} {As Aq As' Aq' : Option Addr} {cs cq cs' cq' : Nat}
theorem PY.sz (h : PY w0 w Q b d D r ov As cs Aq cq E) : b + 3 ≤ w.heap.size := by
  obtain ⟨_, _, _, _, h2⟩ := h.k2
  have := h2.lt
  omega
theorem PY.below (h : PY w0 w Q b d D r ov As cs Aq cq E) (hb : Below w.heap.size w w') : PY w0 w' Q b d D r ov As cs Aq cq E := by
  obtain ⟨z0, z1, z2, z3, h2⟩ := h.k2
  exact ⟨h.pj.below hb, h.k0.below hb, h.k1.below hb, ⟨z0, z1, z2, z3, h2.below hb⟩, fun i hi => (h.ob i hi).below hb, h.ns, h.nq, fun g t c hg => ⟨(h.fr g t c hg).1, (h.fr g t c hg).2.1.below hb, (h.fr g t c hg).2.2.below hb⟩⟩
theorem PY.drew (h : PY w0 w Q b d D r ov As cs Aq cq E) : PY w0 w.drew Q b d D r ov As cs Aq cq E := h.below (Below.refl _ _).drew
theorem PY.alloc (h : PY w0 w Q b d D r ov As cs Aq cq E) (o : Obj) : PY w0 (w.alloc o) Q b d D r ov As cs Aq cq E := h.below ((Below.refl _ _).alloc (Nat.le_refl _) o)
theorem PY.prog (h : PY w0 w Q b d D r ov As cs Aq cq E) (hl : LD w0 w' d D') {gs : List Nat} (hK : Kp gs w w') (hf : ∀ k, Out w0 w d D k → k ∉ gs ∧ Out w0 w' d D' k) : PY w0 w' Q b d D' r ov As cs Aq cq E := by
  obtain ⟨z0, z1, z2, z3, h2⟩ := h.k2
  exact ⟨h.pj.prog hl hK hf, h.k0.kp hK (hf _ (h.ob 0 (by omega))).1, h.k1.kp hK (hf _ (h.ob 1 (by omega))).1, ⟨z0, z1, z2, z3, h2.kp hK (hf _ (h.ob 2 (by omega))).1⟩, fun i hi => (hf _ (h.ob i hi)).2, h.ns, h.nq, fun g t c hg => ⟨(h.fr g t c hg).1, (h.fr g t c hg).2.1.kp hK (hf _ (h.fr g t c hg).2.2.o).1, (h.fr g t c hg).2.2.prog hf⟩⟩
theorem PY.ref (h : PY w0 w Q b d D r ov As cs Aq cq E) (hb : Below w.heap.size w w') (hr : RefM w' w0.heap.size As' cs' Aq' cq' E')
    (hs : ∀ g, (Value.slice As' 0 0).ownBlock = some g → w.heap.size ≤ g ∨ (Value.slice As 0 0).ownBlock = some g)
    (hq : ∀ g, (Value.slice Aq' 0 0).ownBlock = some g → w.heap.size ≤ g ∨ (Value.slice Aq 0 0).ownBlock = some g) : PY w0 w' Q b d D r ov As' cs' Aq' cq' E' := by
  obtain ⟨z0, z1, z2, z3, h2⟩ := h.k2
  have hz := h.sz
  exact ⟨h.pj.ref hb hr hs hq, h.k0.below hb, h.k1.below hb, ⟨z0, z1, z2, z3, h2.below hb⟩, fun i hi => (h.ob i hi).below hb,
    fun g hg => (hs g hg).elim (fun hk => .inr (by omega)) (h.ns g), fun g hg => (hq g hg).elim (fun hk => .inr (by omega)) (h.nq g), fun g t c hg => ⟨(h.fr g t c hg).1, (h.fr g t c hg).2.1.below hb, (h.fr g t c hg).2.2.ref hb hs hq⟩⟩
theorem PY.set0 (h : PY w0 w Q b d D r ov As cs Aq cq E) (hb : w0.heap.size ≤ b) (i : Nat) (v : Value) : PY w0 (w.setCell ⟨b, i, none⟩ v) Q b d D (r.setIfInBounds i v) ov As cs Aq cq E := by
  obtain ⟨z0, z1, z2, z3, h2⟩ := h.k2
  have ho := h.ob 0 (by omega)
  exact ⟨h.pj.box ho (fun k hk => by have := h.ns k hk; omega) (fun k hk => by have := h.nq k hk; omega) hb i v, h.k0.set i v, h.k1.far (p := ⟨b, i, none⟩) (by show b + 1 ≠ b; omega) v, ⟨z0, z1, z2, z3, h2.far (p := ⟨b, i, none⟩) (by show b + 1 + 1 ≠ b; omega) v⟩,
    fun j hj => (h.ob j hj).box ho i v, h.ns, h.nq, fun g t c hg => ⟨(h.fr g t c hg).1, (h.fr g t c hg).2.1.far (p := ⟨b, i, none⟩) (by have := (h.fr g t c hg).1; show g ≠ b; omega) v, (h.fr g t c hg).2.2.box ho i v⟩⟩
theorem PY.set4 {x0 x1 x2 x3 : Value} (h : PY w0 w Q b d D #[x0, x1, x2, x3] ov As cs Aq cq E) (hb : w0.heap.size ≤ b) (y0 y1 y2 y3 : Value) : PY w0 ((((w.setCell ⟨b, 0, none⟩ y0).setCell ⟨b, 1, none⟩ y1).setCell ⟨b, 2, none⟩ y2).setCell ⟨b, 3, none⟩ y3) Q b d D #[y0, y1, y2, y3] ov As cs Aq cq E :=
  (((h.set0 hb 0 y0).set0 hb 1 y1).set0 hb 2 y2).set0 hb 3 y3
theorem PY.set2 (h : PY w0 w Q b d D r ov As cs Aq cq E) (hb : w0.heap.size ≤ b) (i : Nat) (v : Value) : PY w0 (w.setCell ⟨b + 1 + 1, i, none⟩ v) Q b d D r ov As cs Aq cq E := by
  obtain ⟨z0, z1, z2, z3, h2⟩ := h.k2
  have ho := h.ob 2 (by omega)
  refine ⟨h.pj.box ho (fun k hk => by have := h.ns k hk; omega) (fun k hk => by have := h.nq k hk; omega) (by omega) i v, h.k0.far (p := ⟨b + 1 + 1, i, none⟩) (by show b ≠ b + 1 + 1; omega) v, h.k1.far (p := ⟨b + 1 + 1, i, none⟩) (by show b + 1 ≠ b + 1 + 1; omega) v, ?_,
    fun j hj => (h.ob j hj).box ho i v, h.ns, h.nq, fun g t c hg => ⟨(h.fr g t c hg).1, (h.fr g t c hg).2.1.far (p := ⟨b + 1 + 1, i, none⟩) (by have := (h.fr g t c hg).1; show g ≠ b + 1 + 1; omega) v, (h.fr g t c hg).2.2.box ho i v⟩⟩
  have := h2.set i v
  match i with
  | 0 => exact ⟨_, _, _, _, this⟩
  | 1 => exact ⟨_, _, _, _, this⟩
  | 2 => exact ⟨_, _, _, _, this⟩
  | 3 => exact ⟨_, _, _, _, this⟩
  | _ + 4 => exact ⟨_, _, _, _, this⟩
theorem PY.res (h : PY w0 w Q b d D r ov As cs Aq cq E) (hb : w0.heap.size ≤ b) (y0 y1 y2 y3 : Value) : PY w0 ((((w.setCell ⟨b + 1 + 1, 0, none⟩ y0).setCell ⟨b + 1 + 1, 1, none⟩ y1).setCell ⟨b + 1 + 1, 2, none⟩ y2).setCell ⟨b + 1 + 1, 3, none⟩ y3) Q b d D r ov As cs Aq cq E ∧
    Blk ((((w.setCell ⟨b + 1 + 1, 0, none⟩ y0).setCell ⟨b + 1 + 1, 1, none⟩ y1).setCell ⟨b + 1 + 1, 2, none⟩ y2).setCell ⟨b + 1 + 1, 3, none⟩ y3) (b + 1 + 1) 51 #[y0, y1, y2, y3] := by
  obtain ⟨z0, z1, z2, z3, h2⟩ := h.k2
  exact ⟨(((h.set2 hb 0 y0).set2 hb 1 y1).set2 hb 2 y2).set2 hb 3 y3, _root_.Go.Proofs.Ytpcaaobninnkaaa.set4 h2 y0 y1 y2 y3⟩
theorem PY.start (h : PJ w0 w d D As cs Aq cq E) (r ov : Array Value) (z0 z1 z2 z3 : Value) : PY w0 (((w.alloc (.cells r 51)).alloc (.cells ov 57)).alloc (.cells #[z0, z1, z2, z3] 51)) (FrQ w0 w d D As Aq) w.heap.size d D r ov As cs Aq cq E := by
  have hb : Below w.heap.size w (((w.alloc (.cells r 51)).alloc (.cells ov 57)).alloc (.cells #[z0, z1, z2, z3] 51)) := (((Below.refl _ _).alloc (Nat.le_refl _) _).alloc (by simp) _).alloc (by simp; omega) _
  refine ⟨h.below hb, ((Blk.new w _ _).alloc _).alloc _, ?_, ⟨z0, z1, z2, z3, ?_⟩, fun i hi => h.ld.out hb (by omega) (by simp; omega), fun g hg => .inl (h.rm.sLt g hg).2, fun g hg => .inl (h.rm.qLt g hg).2, fun g t c hg => ⟨hg.1.lt, hg.2.below hb, hg.1.below hb⟩⟩
  · have := (Blk.new (w.alloc (.cells r 51)) 57 ov).alloc (.cells #[z0, z1, z2, z3] 51)
    rwa [World.size_alloc] at this
  · have := Blk.new ((w.alloc (.cells r 51)).alloc (.cells ov 57)) 51 #[z0, z1, z2, z3]
    rwa [World.size_alloc, World.size_alloc] at this
end

section
variable {w0 w w' : World} {b d g : Nat} {D D' E E' : Dsk} {r ov : Array Value} {As Aq As' Aq' : Option Addr} {cs cq cs' cq' : Nat} {Q : Nat → TypeId → Array Value → Prop}
/-- A store into it. -/
theorem PY.put (h : PY w0 w Q b d D r ov As cs Aq cq E) (hx : PX w0 w d D As Aq g) (hb : w0.heap.size ≤ b) (hg : b + 3 ≤ g) (i : Nat) (v : Value) : PY w0 (w.setCell ⟨g, i, none⟩ v) Q b d D r ov As cs Aq cq E := by
  obtain ⟨z0, z1, z2, z3, h2⟩ := h.k2
  exact ⟨h.pj.box hx.o hx.ns hx.nq (by omega) i v, h.k0.far (p := ⟨g, i, none⟩) (by show b ≠ g; omega) v, h.k1.far (p := ⟨g, i, none⟩) (by show b + 1 ≠ g; omega) v, ⟨z0, z1, z2, z3, h2.far (p := ⟨g, i, none⟩) (by show b + 1 + 1 ≠ g; omega) v⟩,
    fun j hj => (h.ob j hj).box hx.o i v, h.ns, h.nq, fun k t c hk => ⟨(h.fr k t c hk).1, (h.fr k t c hk).2.1.far (p := ⟨g, i, none⟩) (by have := (h.fr k t c hk).1; show k ≠ g; omega) v, (h.fr k t c hk).2.2.box hx.o i v⟩⟩
end
/-- A row of bytes of the call's own, whose first n are L. -/
structure InR (w : World) (g n : Nat) (L : List UInt8) : Prop where
  len : L.length = n
  row : ∃ cur, Blk w g 5 cur ∧ ∀ (j : Nat) (u : Value), (u8s L)[j]? = some u → cur[j]? = some u
theorem InR.cell {w : World} {g n : Nat} {L : List UInt8} (h : InR w g n L) (j : Nat) (x : UInt8) (hx : L[j]? = some x) : w.cell? ⟨g, j, none⟩ = some (.int .u8 (x.toNat : Int)) ∧ w.frozen? ⟨g, j, none⟩ = false := by
  obtain ⟨cur, hb, hc⟩ := h.row
  exact ⟨by rw [hb.cell]; exact hc j _ (by rw [u8s_get, hx]; rfl), hb.frozen j⟩
theorem InR.set {w : World} {g n : Nat} {L : List UInt8} (h : InR w g n L) (j : Nat) (x : UInt8) : InR (w.setCell ⟨g, j, none⟩ (.int .u8 (x.toNat : Int))) g n (L.set j x) := by
  obtain ⟨cur, hb, hc⟩ := h.row
  refine ⟨by rw [List.length_set]; exact h.len, _, hb.set j _, fun k u hu => ?_⟩
  rw [u8s_get, List.getElem?_set] at hu
  rw [Array.getElem?_setIfInBounds]
  split at hu
  · rename_i e
    subst e
    split at hu
    · rename_i hl
      rw [if_pos rfl, if_pos]
      · simpa using hu
      · have := hc j _ (by rw [u8s_get, List.getElem?_eq_getElem hl]; rfl)
        exact (Array.getElem?_eq_some_iff.1 this).1
    · cases hu
  · rename_i e
    rw [if_neg e]
    exact hc k u (by rw [u8s_get]; exact hu)
theorem InR.kp {w w' : World} {g n : Nat} {L : List UInt8} (h : InR w g n L) {gs : List Nat} (hk : Kp gs w w') (hg : g ∉ gs) : InR w' g n L := by
  obtain ⟨cur, hb, hc⟩ := h.row
  exact ⟨h.len, cur, hb.kp hk hg, hc⟩
theorem InR.far {w : World} {g n : Nat} {L : List UInt8} (h : InR w g n L) {p : Addr} (hp : g ≠ p.block) (v : Value) : InR (w.setCell p v) g n L := by
  obtain ⟨cur, hb, hc⟩ := h.row
  exact ⟨h.len, cur, hb.far hp v, hc⟩
theorem InR.below {w w' : World} {g n : Nat} {L : List UInt8} (h : InR w g n L) (hb : Below w.heap.size w w') : InR w' g n L := h.kp (Kp.of_below (gs := []) hb) (by simp)
theorem InR.lt {w : World} {g n : Nat} {L : List UInt8} (h : InR w g n L) : g < w.heap.size := by obtain ⟨_, hb, _⟩ := h.row; exact hb.lt
theorem inR_of_own {w : World} {base n c : Nat} {A : Option Addr} {L : List UInt8} (h : w.ownsRow base 5 1 (.slice A n c) n (u8s L)) (hA : (Value.slice A n c).ownBlock ≠ none) : ∃ g, A = some ⟨g, 0, none⟩ ∧ base ≤ g ∧ n ≤ c ∧ InR w g n L := by
  have hn := h.1
  rcases h.2 with ⟨h1, _⟩ | ⟨g, cap, cur, h1, h2, h3, h4, h5, h6, h7⟩
  · injection h1 with h1
    subst h1
    exact absurd rfl hA
  · injection h1 with h1 _ h1c
    subst h1 h1c
    refine ⟨g, rfl, h2, h4, by rw [u8s_length] at hn; omega, cur, h3, fun j u hu => ?_⟩
    rw [← h7, List.getElem?_take] at hu
    split at hu
    · simpa using hu
    · cases hu

/-- The old disk is let go: the boxes stay. -/
theorem PC.swap {w0 w : World} {Q : Nat → TypeId → Array Value → Prop} {B b d c : Nat} {D C E : Dsk} {r ov : Array Value} {As Aq : Option Addr} {cs cq : Nat} (hp : PC w0 w B d D c C As cs Aq cq E) (hy : PY w0 w Q b d D r ov As cs Aq cq E) (hB : b + 3 ≤ B) : PY w0 w Q b c C r ov As cs Aq cq E := by
  obtain ⟨s, v, hC, -⟩ := hp.new
  have hC' := dsk_base hC hp.hB
  have ho : ∀ g, g < B → g < w.heap.size → Out w0 w c C g := fun g hg hl => ⟨hl, s, v, hC', (by have := hC.db; omega), (by have := hC.sb; omega), (by intro e; have := (dsk_own hC e).1; omega)⟩
  exact ⟨hp.fin, hy.k0, hy.k1, hy.k2, fun i hi => ho _ (by omega) (hy.ob i hi).1, hy.ns, hy.nq, fun g t c hg => ⟨(hy.fr g t c hg).1, (hy.fr g t c hg).2.1, ho g (by have := (hy.fr g t c hg).1; omega) (hy.fr g t c hg).2.2.lt, (hy.fr g t c hg).2.2.ns, (hy.fr g t c hg).2.2.nq⟩⟩

theorem crashed_len2 {D : Dsk} (h : D.Ok) (f : Nat → Nat → Bool) (cap : Nat) (pad : Array Value) : (D.crashed f cap pad).sure.length = D.sure.length :=
  (crashN_64 (f := f) (n := D.sure.length) ⟨rfl, h.b⟩ (fun x hx => h.q x hx) _ (Nat.le_refl _)).1

/-- What Play leaves: both disks, at one and the same state. -/
def Played (w0 w : World) (d : Nat) (D : Dsk) (As Aq : Option Addr) (e : Ending) (w' : World) : Prop :=
  ∃ d' D' As' cs' Aq' cq', e = .returned (.tuple #[.pointer (some ⟨d', 0, none⟩), .agg (refV As' cs' Aq' cq' D'), .bool true]) ∧ PJ w0 w' d' D' As' cs' Aq' cq' D' ∧
    (∀ g t c, FrQ w0 w d D As Aq g t c → FrQ w0 w' d' D' As' Aq' g t c) ∧ D'.sure.length = D.sure.length ∧ D'.steps ≤ D.steps + 1 ∧ D'.queue.length ≤ D.queue.length + 1
end Go.Proofs.Ytpcaaobninnkaaa
