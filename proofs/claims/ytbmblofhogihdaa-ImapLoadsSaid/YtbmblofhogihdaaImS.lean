/- What an inode map is, in plain lists. No program in sight. -/
import Derived.Test.YtbmblofhogihdaaFlat
namespace Go.Proofs.Ytbmblofhogihdaa
open Go.RowKit

/-- An inode's entry, and whether it is busy. -/
structure Ent where
  addr : Nat
  ver : Nat
  busy : Bool
/-- Can it be given? -/
def Ent.gives (e : Ent) : Bool := !e.busy && decide (e.ver < 65535)
theorem gives_yes {e : Ent} (h : e.gives = true) : e.busy = false ∧ e.ver < 65535 := by
  unfold Ent.gives at h; simpa using h
theorem gives_mk {e : Ent} (h : e.busy = false) (h2 : e.ver < 65535) : e.gives = true := by
  unfold Ent.gives; simp [h, h2]
theorem gives_busy {e : Ent} (h : e.busy = true) : e.gives = false := by
  unfold Ent.gives; simp [h]
theorem gives_last {e : Ent} (h : 65535 ≤ e.ver) : e.gives = false := by
  unfold Ent.gives; simp; omega
def entC (e : Ent) : List Value := [.int .i64 (e.addr : Int), .int .i64 (e.ver : Int)]
theorem entC_len (e : Ent) : (entC e).length = 2 := rfl
def noEnt : Ent := ⟨0, 0, false⟩
theorem entC_ver (L : List Ent) (i : Nat) (hi : i < L.length) : (fl entC L)[i * 2 + 1]? = some (.int .i64 (L[i].ver : Int)) := by
  rw [fl_get entC_len L i 1 (by omega), List.getElem?_eq_getElem hi]; rfl
theorem entC_addr (L : List Ent) (i : Nat) (hi : i < L.length) : (fl entC L)[i * 2]? = some (.int .i64 (L[i].addr : Int)) := by
  have := fl_get entC_len L i 0 (by omega)
  rw [List.getElem?_eq_getElem hi] at this
  exact this
/-- The cells of the busy ones. -/
def bsy (L : List Ent) : Array Value := bools (L.map Ent.busy)
theorem bsy_get (L : List Ent) (i : Nat) (hi : i < L.length) : (bsy L)[i]? = some (.bool L[i].busy) := by
  unfold bsy; rw [bools_get]; simp [hi]
theorem bsy_set (L : List Ent) (i : Nat) (b : Bool) (e : Ent) (he : e.busy = b) : (bsy L).setIfInBounds i (.bool b) = bsy (L.set i e) := by
  unfold bsy; rw [bools_set, List.map_set, he]
/-- Setting but the busy mark keeps the entries' cells. -/
theorem entC_busy (L : List Ent) (i : Nat) (hi : i < L.length) (b : Bool) : fl entC (L.set i { L[i] with busy := b }) = fl entC L := by
  have h := fl_set entC_len L i 0 (by omega) (.int .i64 (L[i].addr : Int)) { L[i] with busy := b } (by
    intro x hx
    rw [List.getElem?_eq_getElem hi] at hx
    injection hx with hx
    subst hx
    rfl)
  rw [← h]
  apply Array.ext_getElem?
  intro j
  rw [Array.getElem?_setIfInBounds]
  split
  · rename_i h1
    split
    · rw [← h1]; exact (entC_addr L i hi).symm
    · rename_i h2
      rw [← h1]
      rw [Array.getElem?_eq_none (by omega)]
  · rfl
theorem entC_set (L : List Ent) (i : Nat) (e : Ent) : ((fl entC L).setIfInBounds (i * 2) (.int .i64 (e.addr : Int))).setIfInBounds (i * 2 + 1) (.int .i64 (e.ver : Int)) = fl entC (L.set i e) := by
  by_cases hi : i < L.length
  · have h1 := fl_set entC_len L i 0 (by omega) (.int .i64 (e.addr : Int)) { L[i] with addr := e.addr } (by
      intro x hx
      rw [List.getElem?_eq_getElem hi] at hx
      injection hx with hx
      subst hx
      rfl)
    have h2 := fl_set entC_len (L.set i { L[i] with addr := e.addr }) i 1 (by omega) (.int .i64 (e.ver : Int)) e (by
      intro x hx
      rw [List.getElem?_set_self hi] at hx
      injection hx with hx
      subst hx
      rfl)
    rw [Nat.add_zero] at h1
    rw [h1, h2, List.set_set]
  · rw [Array.setIfInBounds_eq_of_size_le (by rw [Array.size_setIfInBounds, fl_size entC_len]; omega), Array.setIfInBounds_eq_of_size_le (by rw [fl_size entC_len]; omega), List.set_eq_of_length_le (by omega)]

/-- An inode map in memory: block m its struct; l, b, d its three rows. -/
structure Imp (tm te tb : TypeId) (w : World) (m l b d : Nat) (L : List Ent) (D : List Bool) : Prop where
  hm : Blk w m tm #[.slice (some ⟨l, 0, none⟩) L.length L.length, .slice (some ⟨b, 0, none⟩) L.length L.length, .slice (some ⟨d, 0, none⟩) D.length D.length]
  hl : Blk w l te (fl entC L)
  hb : Blk w b tb (bsy L)
  hd : Blk w d tb (bools D)
  n : L.length ≤ 200
  k : D.length = (L.length + 7) / 8
  ml : m ≠ l
  mb : m ≠ b
  md : m ≠ d
  lb : l ≠ b
  ld : l ≠ d
  bd : b ≠ d
section
variable {tm te tb : TypeId} {w w' : World} {m l b d : Nat} {L : List Ent} {D : List Bool}
theorem Imp.kp (h : Imp tm te tb w m l b d L D) (hb : Below w.heap.size w w') : Imp tm te tb w' m l b d L D :=
  { h with hm := h.hm.below hb, hl := h.hl.below hb, hb := h.hb.below hb, hd := h.hd.below hb }
theorem Imp.drewN (h : Imp tm te tb w m l b d L D) (n : Nat) : Imp tm te tb (w.drewN n) m l b d L D :=
  { h with hm := h.hm.drewN n, hl := h.hl.drewN n, hb := h.hb.drewN n, hd := h.hd.drewN n }
theorem Imp.drew (h : Imp tm te tb w m l b d L D) : Imp tm te tb w.drew m l b d L D :=
  { h with hm := h.hm.drew, hl := h.hl.drew, hb := h.hb.drew, hd := h.hd.drew }
theorem Imp.alloc (h : Imp tm te tb w m l b d L D) (o : Obj) : Imp tm te tb (w.alloc o) m l b d L D :=
  { h with hm := h.hm.alloc o, hl := h.hl.alloc o, hb := h.hb.alloc o, hd := h.hd.alloc o }
theorem Imp.set_busy (h : Imp tm te tb w m l b d L D) (i : Nat) (hi : i < L.length) (x : Bool) : Imp tm te tb (w.setCell ⟨b, i, none⟩ (.bool x)) m l b d (L.set i { L[i] with busy := x }) D :=
  { h with
    hm := by have := h.hm.far (p := ⟨b, i, none⟩) h.mb (.bool x); simpa using this
    hl := by rw [entC_busy L i hi]; exact h.hl.far (p := ⟨b, i, none⟩) h.lb _
    hb := by rw [← bsy_set L i x]; exact h.hb.set i _; rfl
    hd := h.hd.far (p := ⟨b, i, none⟩) h.bd.symm _
    n := by simpa using h.n
    k := by simpa using h.k }
end
end Go.Proofs.Ytbmblofhogihdaa
