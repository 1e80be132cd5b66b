/- Play's write: both disks, the boxes, the row that is handed in, and the bytes that it was made of. -/
import Derived.Test.YtpcaaobninnkaaaPlY
namespace Go.Proofs.Ytpcaaobninnkaaa
open Go.RowKit

/-- The bytes lie in memory that was there, or in a block of the call's own. -/
def Src (w0 w : World) (d : Nat) (D : Dsk) (As Aq : Option Addr) (b gi n : Nat) (bA : Option Addr) (l : List UInt8) : Prop :=
  By w w0.heap.size bA n l ∨ ∃ gb t, bA = some ⟨gb, 0, none⟩ ∧ PX w0 w d D As Aq gb ∧ gb ≠ gi ∧ b + 3 ≤ gb ∧ Blk w gb t (u8s l).toArray ∧ l.length = n
structure PW (w0 w : World) (Q : Nat → TypeId → Array Value → Prop) (b d : Nat) (D : Dsk) (r ov : Array Value) (As : Option Addr) (cs : Nat) (Aq : Option Addr) (cq : Nat) (E : Dsk) (gi n : Nat) (L : List UInt8) (bA : Option Addr) (l : List UInt8) : Prop where
  py : PY w0 w Q b d D r ov As cs Aq cq E
  hb : w0.heap.size ≤ b
  xi : PX w0 w d D As Aq gi
  hg : b + 3 ≤ gi
  inr : InR w gi n L
  src : Src w0 w d D As Aq b gi n bA l
section
variable {w0 w w' : World} {Q : Nat → TypeId → Array Value → Prop} {b d gi n : Nat} {D D' E E' : Dsk} {r ov : Array Value} {As Aq As' Aq' bA : Option Addr} {cs cq cs' cq' : Nat} {L l : List UInt8}
theorem PW.by' (h : PW w0 w Q b d D r ov As cs Aq cq E gi n L bA l) : By w w.heap.size bA n l := by
  rcases h.src with h1 | ⟨gb, t, rfl, _, _, _, h2, h3⟩
  · exact h1.more h.py.pj.ld.sz
  · exact by_blk h2 h3
theorem PW.len (h : PW w0 w Q b d D r ov As cs Aq cq E gi n L bA l) : l.length = n := h.by'.length
theorem PW.below (h : PW w0 w Q b d D r ov As cs Aq cq E gi n L bA l) (hb : Below w.heap.size w w') : PW w0 w' Q b d D r ov As cs Aq cq E gi n L bA l := by
  refine ⟨h.py.below hb, h.hb, h.xi.below hb, h.hg, h.inr.below hb, ?_⟩
  rcases h.src with h1 | ⟨gb, t, e, h2, h3, h4, h5, h6⟩
  · exact .inl (h1.keep fun p hp => hb.cell (by have := h.py.pj.ld.sz; omega))
  · exact .inr ⟨gb, t, e, h2.below hb, h3, h4, h5.below hb, h6⟩
theorem PW.drew (h : PW w0 w Q b d D r ov As cs Aq cq E gi n L bA l) : PW w0 w.drew Q b d D r ov As cs Aq cq E gi n L bA l := h.below (Below.refl _ _).drew
theorem PW.prog (h : PW w0 w Q b d D r ov As cs Aq cq E gi n L bA l) (hl : LD w0 w' d D') {gs : List Nat} (hK : Kp gs w w') (hf : ∀ k, Out w0 w d D k → k ∉ gs ∧ Out w0 w' d D' k) : PW w0 w' Q b d D' r ov As cs Aq cq E gi n L bA l := by
  refine ⟨h.py.prog hl hK hf, h.hb, h.xi.prog hf, h.hg, h.inr.kp hK (hf _ h.xi.o).1, ?_⟩
  rcases h.src with h1 | ⟨gb, t, e, h2, h3, h4, h5, h6⟩
  · exact .inl (h1.keep fun p hp => (hl.bel.cell hp).trans (h.py.pj.ld.bel.cell hp).symm)
  · exact .inr ⟨gb, t, e, h2.prog hf, h3, h4, h5.kp hK (hf _ h2.o).1, h6⟩
theorem PW.ref (h : PW w0 w Q b d D r ov As cs Aq cq E gi n L bA l) (hb : Below w.heap.size w w') (hr : RefM w' w0.heap.size As' cs' Aq' cq' E')
    (hs : ∀ g, (Value.slice As' 0 0).ownBlock = some g → w.heap.size ≤ g ∨ (Value.slice As 0 0).ownBlock = some g)
    (hq : ∀ g, (Value.slice Aq' 0 0).ownBlock = some g → w.heap.size ≤ g ∨ (Value.slice Aq 0 0).ownBlock = some g) : PW w0 w' Q b d D r ov As' cs' Aq' cq' E' gi n L bA l := by
  refine ⟨h.py.ref hb hr hs hq, h.hb, h.xi.ref hb hs hq, h.hg, h.inr.below hb, ?_⟩
  rcases h.src with h1 | ⟨gb, t, e, h2, h3, h4, h5, h6⟩
  · exact .inl (h1.keep fun p hp => hb.cell (by have := h.py.pj.ld.sz; omega))
  · exact .inr ⟨gb, t, e, h2.ref hb hs hq, h3, h4, h5.below hb, h6⟩
theorem PW.set0 (h : PW w0 w Q b d D r ov As cs Aq cq E gi n L bA l) (i : Nat) (v : Value) : PW w0 (w.setCell ⟨b, i, none⟩ v) Q b d D (r.setIfInBounds i v) ov As cs Aq cq E gi n L bA l := by
  have hb := h.hb
  have hg := h.hg
  have ho := h.py.ob 0 (by omega)
  refine ⟨h.py.set0 hb i v, hb, h.xi.box ho i v, hg, h.inr.far (by show gi ≠ b; omega) v, ?_⟩
  rcases h.src with h1 | ⟨gb, t, e, h2, h3, h4, h5, h6⟩
  · exact .inl (h1.setCell (p := ⟨b, i, none⟩) hb v)
  · exact .inr ⟨gb, t, e, h2.box ho i v, h3, h4, h5.far (p := ⟨b, i, none⟩) (by show gb ≠ b; omega) v, h6⟩
theorem PW.set4 {x0 x1 x2 x3 : Value} (h : PW w0 w Q b d D #[x0, x1, x2, x3] ov As cs Aq cq E gi n L bA l) (y0 y1 y2 y3 : Value) : PW w0 ((((w.setCell ⟨b, 0, none⟩ y0).setCell ⟨b, 1, none⟩ y1).setCell ⟨b, 2, none⟩ y2).setCell ⟨b, 3, none⟩ y3) Q b d D #[y0, y1, y2, y3] ov As cs Aq cq E gi n L bA l :=
  (((h.set0 0 y0).set0 1 y1).set0 2 y2).set0 3 y3
theorem PW.put (h : PW w0 w Q b d D r ov As cs Aq cq E gi n L bA l) (j : Nat) (x : UInt8) : PW w0 (w.setCell ⟨gi, j, none⟩ (.int .u8 (x.toNat : Int))) Q b d D r ov As cs Aq cq E gi n (L.set j x) bA l := by
  have hb := h.hb
  have hg := h.hg
  refine ⟨h.py.put h.xi hb hg j _, hb, h.xi.box h.xi.o j _, hg, h.inr.set j x, ?_⟩
  rcases h.src with h1 | ⟨gb, t, e, h2, h3, h4, h5, h6⟩
  · exact .inl (h1.setCell (p := ⟨gi, j, none⟩) (by show w0.heap.size ≤ gi; omega) _)
  · exact .inr ⟨gb, t, e, h2.box h.xi.o j _, h3, h4, h5.far (p := ⟨gi, j, none⟩) h3 _, h6⟩
/-- The row that is handed in was just made. -/
theorem PW.mk' (h : PY w0 w Q b d D r ov As cs Aq cq E) (hb0 : w0.heap.size ≤ b) (hbw : b + 3 ≤ w.heap.size) {base c : Nat} {A : Option Addr} (hs : w.heap.size ≤ base) (hb : Below w.heap.size w w') (hown : w'.ownsRow base 5 1 (.slice A n c) n (u8s l)) (hA : (Value.slice A n c).ownBlock ≠ none)
    (hsrc : By w w0.heap.size bA n l ∨ ∃ gb t, bA = some ⟨gb, 0, none⟩ ∧ PX w0 w d D As Aq gb ∧ b + 3 ≤ gb ∧ Blk w gb t (u8s l).toArray ∧ l.length = n) :
    ∃ gi, A = some ⟨gi, 0, none⟩ ∧ n ≤ c ∧ PW w0 w' Q b d D r ov As cs Aq cq E gi n l bA l := by
  obtain ⟨gi, hA3, hgi, hnc, hin⟩ := inR_of_own hown hA
  refine ⟨gi, hA3, hnc, h.below hb, hb0, PX.mk' h.pj hb (by omega) hin.lt, by omega, hin, ?_⟩
  rcases hsrc with h1 | ⟨gb, t, e, h2, h4, h5, h6⟩
  · exact .inl (h1.keep fun p hp => hb.cell (by have := h.pj.ld.sz; omega))
  · exact .inr ⟨gb, t, e, h2.below hb, (by have := h2.lt; omega), h4, h5.below hb, h6⟩
/-- What a round of the loop reads. -/
theorem PW.at (h : PW w0 w Q b d D r ov As cs Aq cq E gi n L bA l) {j : Nat} (hj : j < n) (hL : ∀ k, j ≤ k → L[k]? = l[k]?) :
    ∃ (ad : Addr) (x : UInt8), bA = some ad ∧ w.cell? (ad.add j) = some (.int .u8 (x.toNat : Int)) ∧ w.cell? ⟨gi, j, none⟩ = some (.int .u8 (x.toNat : Int)) ∧ w.frozen? ⟨gi, j, none⟩ = false := by
  obtain ⟨hl, ad, hA, hc⟩ := h.by'.get hj
  have hx : L[j]? = some l[j] := by rw [hL j (Nat.le_refl _), List.getElem?_eq_getElem hl]
  exact ⟨ad, l[j], hA, hc, (h.inr.cell j _ hx).1, (h.inr.cell j _ hx).2⟩
theorem set_tail {L l : List UInt8} {j : Nat} (x : UInt8) (h : ∀ k, j ≤ k → L[k]? = l[k]?) : ∀ k, j + 1 ≤ k → (L.set j x)[k]? = l[k]? := fun k hk => by
  rw [List.getElem?_set_ne (by omega)]
  exact h k (by omega)
end
end Go.Proofs.Ytpcaaobninnkaaa
