/- The walks over inode.Pointers and marlref05.Block (printed by gen_inoptr.py). -/
import Derived.Test.YtbceejcmjklklaaInoPtrS
import Derived.Test.YtbceejcmjklklaaInoBlkW
import Derived.Test.YtbceejcmjklklaaInoRencW
namespace Go.Proofs.Ytbceejcmjklklaa
open Go.RowKit
attribute [local go_sem ↓] Go.wp_at_zero Go.wp_at_succ

/-- A boxed aggregate and a temporary given back. -/
theorem results_ct {P : Program} {fn : Func} {p q : Tmp} {ty : TypeId} (h : fn.results = #[.cell p ty, .tmp q]) (tmps : Array Value) (w : World) (g : Nat) (t : TypeId) (cs : Array Value) (fr : Nat × Nat) (d : TypeDesc)
    (hp : tmps.getD p undef = .pointer (some ⟨g, 0, none⟩)) (hg : w.heap[g]? = some (.cells cs t fr))
    (hu : P.underlying ty = some d) (hd : (match d with | .struct _ | .array _ _ => true | _ => false) = true) (hi : (P.info? ty).map (·.size) = some cs.size) :
    (results fn tmps).run P w = .ok (.tuple #[.agg cs, tmps.getD q undef]) w := by
  have hp' : tmps[p]?.getD undef = .pointer (some ⟨g, 0, none⟩) := by simpa using hp
  simp [results, h, hp', asAddr, run_loadVar_row w g t ty cs fr d hg hu hd hi]
theorem ret_ptrs {K : Ending → World → Prop} {tmps : Array Value} {w : World} {g : Nat} {x0 x1 x2 x3 x4 x5 x6 x7 x8 x9 x10 x11 x12 x13 x14 x15 v : Value} (hp : tmps.getD 2 undef = .pointer (some ⟨g, 0, none⟩)) (hq : tmps.getD 3 undef = v) (hB : Blk w g 34 #[x0, x1, x2, x3, x4, x5, x6, x7, x8, x9, x10, x11, x12, x13, x14, x15])
    (hK : K (.returned (.tuple #[.agg #[x0, x1, x2, x3, x4, x5, x6, x7, x8, x9, x10, x11, x12, x13, x14, x15], v])) w) : bodyPost Try.prog Try.f15 K .ret ⟨tmps, []⟩ w :=
  bodyPost_ret (results_ct rfl tmps w g _ _ (0, 0) _ hp hB Try.underlying34 rfl (by kernel_rfl)) rfl (by rw [hq]; exact hK)
theorem blk16 {w : World} {g : Nat} {t : TypeId} {x0 x1 x2 x3 x4 x5 x6 x7 x8 x9 x10 x11 x12 x13 x14 x15 : Value} (h : Blk w g t #[x0, x1, x2, x3, x4, x5, x6, x7, x8, x9, x10, x11, x12, x13, x14, x15]) : w.cell? ⟨g, 0, none⟩ = some x0 ∧ w.cell? ⟨g, 1, none⟩ = some x1 ∧ w.cell? ⟨g, 2, none⟩ = some x2 ∧ w.cell? ⟨g, 3, none⟩ = some x3 ∧ w.cell? ⟨g, 4, none⟩ = some x4 ∧ w.cell? ⟨g, 5, none⟩ = some x5 ∧ w.cell? ⟨g, 6, none⟩ = some x6 ∧ w.cell? ⟨g, 7, none⟩ = some x7 ∧ w.cell? ⟨g, 8, none⟩ = some x8 ∧ w.cell? ⟨g, 9, none⟩ = some x9 ∧ w.cell? ⟨g, 10, none⟩ = some x10 ∧ w.cell? ⟨g, 11, none⟩ = some x11 ∧ w.cell? ⟨g, 12, none⟩ = some x12 ∧ w.cell? ⟨g, 13, none⟩ = some x13 ∧ w.cell? ⟨g, 14, none⟩ = some x14 ∧ w.cell? ⟨g, 15, none⟩ = some x15 :=
  ⟨h.cell 0, h.cell 1, h.cell 2, h.cell 3, h.cell 4, h.cell 5, h.cell 6, h.cell 7, h.cell 8, h.cell 9, h.cell 10, h.cell 11, h.cell 12, h.cell 13, h.cell 14, h.cell 15⟩
section
variable {w w0 : World} {g B : Nat} {t : TypeId} {x0 x1 x2 x3 x4 x5 x6 x7 x8 x9 x10 x11 x12 x13 x14 x15 y0 y1 y2 y3 y4 y5 y6 y7 y8 y9 y10 y11 y12 y13 y14 y15 : Value}
/-- Sixteen cells written. -/
abbrev put16 (w : World) (g : Nat) (y0 y1 y2 y3 y4 y5 y6 y7 y8 y9 y10 y11 y12 y13 y14 y15 : Value) : World := ((((((((((((((((w.setCell ⟨g, 0, none⟩ y0).setCell ⟨g, 1, none⟩ y1).setCell ⟨g, 2, none⟩ y2).setCell ⟨g, 3, none⟩ y3).setCell ⟨g, 4, none⟩ y4).setCell ⟨g, 5, none⟩ y5).setCell ⟨g, 6, none⟩ y6).setCell ⟨g, 7, none⟩ y7).setCell ⟨g, 8, none⟩ y8).setCell ⟨g, 9, none⟩ y9).setCell ⟨g, 10, none⟩ y10).setCell ⟨g, 11, none⟩ y11).setCell ⟨g, 12, none⟩ y12).setCell ⟨g, 13, none⟩ y13).setCell ⟨g, 14, none⟩ y14).setCell ⟨g, 15, none⟩ y15)
theorem put16_blk (h : Blk w g t #[x0, x1, x2, x3, x4, x5, x6, x7, x8, x9, x10, x11, x12, x13, x14, x15]) : Blk (put16 w g y0 y1 y2 y3 y4 y5 y6 y7 y8 y9 y10 y11 y12 y13 y14 y15) g t #[y0, y1, y2, y3, y4, y5, y6, y7, y8, y9, y10, y11, y12, y13, y14, y15] := by
  have := ((((((((((((((((h).set 0 y0).set 1 y1).set 2 y2).set 3 y3).set 4 y4).set 5 y5).set 6 y6).set 7 y7).set 8 y8).set 9 y9).set 10 y10).set 11 y11).set 12 y12).set 13 y13).set 14 y14).set 15 y15
  simpa using this
theorem put16_bel (h : Below B w0 w) (hB : B ≤ g) : Below B w0 (put16 w g y0 y1 y2 y3 y4 y5 y6 y7 y8 y9 y10 y11 y12 y13 y14 y15) := ((((((((((((((((h).setCell (p := ⟨g, 0, none⟩) hB y0).setCell (p := ⟨g, 1, none⟩) hB y1).setCell (p := ⟨g, 2, none⟩) hB y2).setCell (p := ⟨g, 3, none⟩) hB y3).setCell (p := ⟨g, 4, none⟩) hB y4).setCell (p := ⟨g, 5, none⟩) hB y5).setCell (p := ⟨g, 6, none⟩) hB y6).setCell (p := ⟨g, 7, none⟩) hB y7).setCell (p := ⟨g, 8, none⟩) hB y8).setCell (p := ⟨g, 9, none⟩) hB y9).setCell (p := ⟨g, 10, none⟩) hB y10).setCell (p := ⟨g, 11, none⟩) hB y11).setCell (p := ⟨g, 12, none⟩) hB y12).setCell (p := ⟨g, 13, none⟩) hB y13).setCell (p := ⟨g, 14, none⟩) hB y14).setCell (p := ⟨g, 15, none⟩) hB y15
end
def pre16 (l : List UInt8) (j : Nat) : List Nat := (quads 16 l).take j ++ List.replicate (16 - j) 0
theorem pre16_len (l : List UInt8) {j : Nat} (hj : j ≤ 16) : (pre16 l j).length = 16 := by
  unfold pre16
  rw [List.length_append, List.length_take, quads_len, List.length_replicate]
  omega
theorem pre16_set (l : List UInt8) {j x : Nat} (hj : j < 16) (hx : (quads 16 l)[j]? = some x) : (u32s (pre16 l j)).toArray.setIfInBounds j (.int .u32 (x : Int)) = (u32s (pre16 l (j + 1))).toArray := by
  rw [List.setIfInBounds_toArray]
  congr 1
  apply List.ext_getElem?
  intro i
  rw [List.getElem?_set, u32s_length, pre16_len l (by omega)]
  have hl := quads_len 16 l
  by_cases e : j = i
  · subst e
    rw [if_pos rfl, if_pos hj, u32s_get]
    unfold pre16
    rw [List.getElem?_append_left (by rw [List.length_take]; omega), List.getElem?_take, if_pos (by omega), hx]
    rfl
  · rw [if_neg e, u32s_get, u32s_get]
    congr 1
    unfold pre16
    rcases Nat.lt_or_ge i j with h | h
    · rw [List.getElem?_append_left (by rw [List.length_take]; omega), List.getElem?_append_left (by rw [List.length_take]; omega), List.getElem?_take, List.getElem?_take, if_pos h, if_pos (by omega)]
    · rw [List.getElem?_append_right (by rw [List.length_take]; omega), List.getElem?_append_right (by rw [List.length_take]; omega), List.getElem?_replicate, List.getElem?_replicate, List.length_take, List.length_take, hl]
      by_cases h16 : i < 16
      · rw [if_pos (by omega), if_pos (by omega)]
      · rw [if_neg (by omega), if_neg (by omega)]
theorem pre16_end (l : List UInt8) : pre16 l 16 = quads 16 l := by
  unfold pre16
  rw [List.take_of_length_le (by rw [quads_len]; exact Nat.le_refl _)]
  simp
theorem pre16_zero (l : List UInt8) : (#[.int .u32 0, .int .u32 0, .int .u32 0, .int .u32 0, .int .u32 0, .int .u32 0, .int .u32 0, .int .u32 0, .int .u32 0, .int .u32 0, .int .u32 0, .int .u32 0, .int .u32 0, .int .u32 0, .int .u32 0, .int .u32 0] : Array Value) = (u32s (pre16 l 0)).toArray := rfl
set_option maxRecDepth 100000 in
set_option maxHeartbeats 2000000 in
theorem ptrs_no (A : Option Addr) (n c : Nat) (w : World) (hn : n ≠ 64) : Calls Try.prog 15 #[.slice A n c] w fun e w' => e = .returned (.tuple #[.agg #[.int .u32 0, .int .u32 0, .int .u32 0, .int .u32 0, .int .u32 0, .int .u32 0, .int .u32 0, .int .u32 0, .int .u32 0, .int .u32 0, .int .u32 0, .int .u32 0, .int .u32 0, .int .u32 0, .int .u32 0, .int .u32 0], .int .i64 100]) ∧ Below w.heap.size w w' := by
  have hn' : ((n : Int) == 64) = false := by simp; omega
  clear hn
  go_enter Try.func15, Try.ntmps15
  go_upto_region 3 with fail
  have H0 := hide ((Blk.new w 34 #[.int .u32 0, .int .u32 0, .int .u32 0, .int .u32 0, .int .u32 0, .int .u32 0, .int .u32 0, .int .u32 0, .int .u32 0, .int .u32 0, .int .u32 0, .int .u32 0, .int .u32 0, .int .u32 0, .int .u32 0, .int .u32 0]).alloc (.cells #[.int .u32 0, .int .u32 0, .int .u32 0, .int .u32 0, .int .u32 0, .int .u32 0, .int .u32 0, .int .u32 0, .int .u32 0, .int .u32 0, .int .u32 0, .int .u32 0, .int .u32 0, .int .u32 0, .int .u32 0, .int .u32 0] 34))
  have K : Hid (Blk ((w.alloc (.cells #[.int .u32 0, .int .u32 0, .int .u32 0, .int .u32 0, .int .u32 0, .int .u32 0, .int .u32 0, .int .u32 0, .int .u32 0, .int .u32 0, .int .u32 0, .int .u32 0, .int .u32 0, .int .u32 0, .int .u32 0, .int .u32 0] 34)).alloc (.cells #[.int .u32 0, .int .u32 0, .int .u32 0, .int .u32 0, .int .u32 0, .int .u32 0, .int .u32 0, .int .u32 0, .int .u32 0, .int .u32 0, .int .u32 0, .int .u32 0, .int .u32 0, .int .u32 0, .int .u32 0, .int .u32 0] 34)) (w.heap.size + 1) 34 #[.int .u32 0, .int .u32 0, .int .u32 0, .int .u32 0, .int .u32 0, .int .u32 0, .int .u32 0, .int .u32 0, .int .u32 0, .int .u32 0, .int .u32 0, .int .u32 0, .int .u32 0, .int .u32 0, .int .u32 0, .int .u32 0]) := hide (by
    have h := Blk.new (w.alloc (.cells #[.int .u32 0, .int .u32 0, .int .u32 0, .int .u32 0, .int .u32 0, .int .u32 0, .int .u32 0, .int .u32 0, .int .u32 0, .int .u32 0, .int .u32 0, .int .u32 0, .int .u32 0, .int .u32 0, .int .u32 0, .int .u32 0] 34)) 34 #[.int .u32 0, .int .u32 0, .int .u32 0, .int .u32 0, .int .u32 0, .int .u32 0, .int .u32 0, .int .u32 0, .int .u32 0, .int .u32 0, .int .u32 0, .int .u32 0, .int .u32 0, .int .u32 0, .int .u32 0, .int .u32 0]
    rw [World.size_alloc] at h
    exact h)
  have HB := hide (((Below.refl w.heap.size w).alloc (Nat.le_refl _) (.cells #[.int .u32 0, .int .u32 0, .int .u32 0, .int .u32 0, .int .u32 0, .int .u32 0, .int .u32 0, .int .u32 0, .int .u32 0, .int .u32 0, .int .u32 0, .int .u32 0, .int .u32 0, .int .u32 0, .int .u32 0, .int .u32 0] 34)).alloc (by simp) (.cells #[.int .u32 0, .int .u32 0, .int .u32 0, .int .u32 0, .int .u32 0, .int .u32 0, .int .u32 0, .int .u32 0, .int .u32 0, .int .u32 0, .int .u32 0, .int .u32 0, .int .u32 0, .int .u32 0, .int .u32 0, .int .u32 0] 34))
  generalize (w.alloc (.cells #[.int .u32 0, .int .u32 0, .int .u32 0, .int .u32 0, .int .u32 0, .int .u32 0, .int .u32 0, .int .u32 0, .int .u32 0, .int .u32 0, .int .u32 0, .int .u32 0, .int .u32 0, .int .u32 0, .int .u32 0, .int .u32 0] 34)).alloc (.cells #[.int .u32 0, .int .u32 0, .int .u32 0, .int .u32 0, .int .u32 0, .int .u32 0, .int .u32 0, .int .u32 0, .int .u32 0, .int .u32 0, .int .u32 0, .int .u32 0, .int .u32 0, .int .u32 0, .int .u32 0, .int .u32 0] 34) = w1 at *
  obtain ⟨c0, c1, c2, c3, c4, c5, c6, c7, c8, c9, c10, c11, c12, c13, c14, c15⟩ := blk16 K.out
  obtain ⟨z0, z1, z2, z3, z4, z5, z6, z7, z8, z9, z10, z11, z12, z13, z14, z15⟩ := blk16 H0.out
  have f0 := H0.out.frozen 0
  have f1 := H0.out.frozen 1
  have f2 := H0.out.frozen 2
  have f3 := H0.out.frozen 3
  have f4 := H0.out.frozen 4
  have f5 := H0.out.frozen 5
  have f6 := H0.out.frozen 6
  have f7 := H0.out.frozen 7
  have f8 := H0.out.frozen 8
  have f9 := H0.out.frozen 9
  have f10 := H0.out.frozen 10
  have f11 := H0.out.frozen 11
  have f12 := H0.out.frozen 12
  have f13 := H0.out.frozen 13
  have f14 := H0.out.frozen 14
  have f15 := H0.out.frozen 15
  go_wp2_with fail
  exact ret_ptrs rfl rfl (put16_blk H0.out) ⟨rfl, put16_bel HB.out (Nat.le_refl _)⟩
set_option maxRecDepth 100000 in
set_option maxHeartbeats 4000000 in
theorem ptrs_yes (A : Option Addr) (c B : Nat) (l : List UInt8) (w : World) (h : By w B A 64 l) (hB : B ≤ w.heap.size) (hc : 64 ≤ c) : Calls Try.prog 15 #[.slice A 64 c] w fun e w' => e = .returned (.tuple #[.agg (u32s (quads 16 l)).toArray, .int .i64 0]) ∧ Below w.heap.size w w' := by
  have H := hide h
  have FG := hide (show ∀ j, j < 16 → ∀ w B, By w B A 64 l → Calls Try.prog 25 #[.slice (cutA A c (4 * j)) 4 (c - 4 * j)] w fun e w' => e = .returned (.int .i64 (numL ((l.drop (4 * j)).take 4) : Nat)) ∧ w = w' from fun j hj w B h => by
    have hs := h.cut (i := 4 * j) (j := 4 * j + 4) (cap := c) (by omega) (by omega) (by omega)
    rw [u8s_drop, u8s_take, show 4 * j + 4 - 4 * j = 4 by omega] at hs
    exact get_any (cutA A c (4 * j)) 4 (c - 4 * j) B _ w hs (by omega))
  clear h
  go_enter Try.func15, Try.ntmps15
  go_wp2_with fail
  have hz := pre16_zero l
  have K0 := hide ((Blk.new w 34 #[.int .u32 0, .int .u32 0, .int .u32 0, .int .u32 0, .int .u32 0, .int .u32 0, .int .u32 0, .int .u32 0, .int .u32 0, .int .u32 0, .int .u32 0, .int .u32 0, .int .u32 0, .int .u32 0, .int .u32 0, .int .u32 0]).alloc (.cells #[.int .u32 0, .int .u32 0, .int .u32 0, .int .u32 0, .int .u32 0, .int .u32 0, .int .u32 0, .int .u32 0, .int .u32 0, .int .u32 0, .int .u32 0, .int .u32 0, .int .u32 0, .int .u32 0, .int .u32 0, .int .u32 0] 34))
  have K1 : Hid (Blk ((w.alloc (.cells #[.int .u32 0, .int .u32 0, .int .u32 0, .int .u32 0, .int .u32 0, .int .u32 0, .int .u32 0, .int .u32 0, .int .u32 0, .int .u32 0, .int .u32 0, .int .u32 0, .int .u32 0, .int .u32 0, .int .u32 0, .int .u32 0] 34)).alloc (.cells #[.int .u32 0, .int .u32 0, .int .u32 0, .int .u32 0, .int .u32 0, .int .u32 0, .int .u32 0, .int .u32 0, .int .u32 0, .int .u32 0, .int .u32 0, .int .u32 0, .int .u32 0, .int .u32 0, .int .u32 0, .int .u32 0] 34)) (w.heap.size + 1) 34 (u32s (pre16 l 0)).toArray) := hide (by
    have h := Blk.new (w.alloc (.cells #[.int .u32 0, .int .u32 0, .int .u32 0, .int .u32 0, .int .u32 0, .int .u32 0, .int .u32 0, .int .u32 0, .int .u32 0, .int .u32 0, .int .u32 0, .int .u32 0, .int .u32 0, .int .u32 0, .int .u32 0, .int .u32 0] 34)) 34 #[.int .u32 0, .int .u32 0, .int .u32 0, .int .u32 0, .int .u32 0, .int .u32 0, .int .u32 0, .int .u32 0, .int .u32 0, .int .u32 0, .int .u32 0, .int .u32 0, .int .u32 0, .int .u32 0, .int .u32 0, .int .u32 0]
    rw [World.size_alloc] at h
    exact h)
  have B1 := hide (((Below.refl w.heap.size w).alloc (Nat.le_refl _) (.cells #[.int .u32 0, .int .u32 0, .int .u32 0, .int .u32 0, .int .u32 0, .int .u32 0, .int .u32 0, .int .u32 0, .int .u32 0, .int .u32 0, .int .u32 0, .int .u32 0, .int .u32 0, .int .u32 0, .int .u32 0, .int .u32 0] 34)).alloc (by simp) (.cells #[.int .u32 0, .int .u32 0, .int .u32 0, .int .u32 0, .int .u32 0, .int .u32 0, .int .u32 0, .int .u32 0, .int .u32 0, .int .u32 0, .int .u32 0, .int .u32 0, .int .u32 0, .int .u32 0, .int .u32 0, .int .u32 0] 34))
  clear hz
  generalize (w.alloc (.cells #[.int .u32 0, .int .u32 0, .int .u32 0, .int .u32 0, .int .u32 0, .int .u32 0, .int .u32 0, .int .u32 0, .int .u32 0, .int .u32 0, .int .u32 0, .int .u32 0, .int .u32 0, .int .u32 0, .int .u32 0, .int .u32 0] 34)).alloc (.cells #[.int .u32 0, .int .u32 0, .int .u32 0, .int .u32 0, .int .u32 0, .int .u32 0, .int .u32 0, .int .u32 0, .int .u32 0, .int .u32 0, .int .u32 0, .int .u32 0, .int .u32 0, .int .u32 0, .int .u32 0, .int .u32 0] 34) = w1 at *
  obtain ⟨g0, hg0⟩ : ∃ g0, g0 = w.heap.size := ⟨_, rfl⟩
  have HG := hide hg0
  rw [← hg0] at K0 K1 ⊢
  clear hg0
  obtain ⟨g1, hg1⟩ : ∃ g1, g1 = g0 + 1 := ⟨_, rfl⟩
  have hne : g0 ≠ g1 := by omega
  have HG1 := hide (show g0 ≤ g1 by omega)
  rw [← hg1] at K1 ⊢
  clear hg1
  go_loopw [10] (fun i wr => ∃ j : Nat, j ≤ 16 ∧ i = .int .i64 (j : Int) ∧ Blk wr g0 34 #[.int .u32 0, .int .u32 0, .int .u32 0, .int .u32 0, .int .u32 0, .int .u32 0, .int .u32 0, .int .u32 0, .int .u32 0, .int .u32 0, .int .u32 0, .int .u32 0, .int .u32 0, .int .u32 0, .int .u32 0, .int .u32 0] ∧ Blk wr g1 34 (u32s (pre16 l j)).toArray ∧ Below w.heap.size w wr) (fun i _ => 16 - (intOf i).toNat)
  case atStart => exact ⟨0, by omega, rfl, K0.out, K1.out, B1.out⟩
  case round =>
    obtain ⟨j, hj, rfl, h0, h1, hb⟩ := hrel
    have H0 := hide h0
    have H1 := hide h1
    have HB := hide hb
    clear h0 h1 hb K0 K1 B1
    by_cases hlt : j < 16
    · have C := hide (FG.out j hlt wr B (H.out.below (HB.out.mono hB)))
      have hq := quads_at 16 l j hlt
      have hx := quads_lt 16 l _ (List.mem_of_getElem? hq)
      have HS := hide (pre16_set l hlt hq)
      obtain ⟨u, hu⟩ : ∃ u, wr.cell? ⟨g1, j, none⟩ = some u := by
        rw [H1.out.cell]
        exact ⟨_, Array.getElem?_eq_getElem (by simp only [List.size_toArray, u32s_length, pre16_len l hj]; exact hlt)⟩
      have hfz := H1.out.frozen j
      have hcs : ∀ w, (Instr.slice 29 (.slice A 64 c) (some (.int .i64 (4 * (j : Int)))) (some (.int .i64 (4 * (j : Int) + 4))) none).run Try.prog w = .ok (.slice (cutA A c (4 * j)) 4 (c - 4 * j)) w := fun w => by
        have := run_cut_lh (P := Try.prog) ety8 A 64 c w (4 * j) (4 * j + 4) .i64 .i64 (by omega) (by omega)
        rw [show ((4 * j : Nat) : Int) = 4 * (j : Int) by omega, show ((4 * j + 4 : Nat) : Int) = 4 * (j : Int) + 4 by omega, show 4 * j + 4 - 4 * j = 4 by omega] at this
        exact this
      generalize numL ((l.drop (4 * j)).take 4) = x at *
      have hwx : IntKind.u32.wrap (x : Int) = (x : Int) := by simp [IntKind.wrap, IntKind.bits, IntKind.signed]; omega
      clear hq
      go_wp2_with fail
      refine C.out.mono ?_
      rintro e w' ⟨rfl, rfl⟩
      clear C
      go_wp2_with fail
      have H1b := H1.out.set j (.int .u32 (x : Int))
      rw [HS.out] at H1b
      have H1c := hide H1b
      have H0c := hide (H0.out.far (p := ⟨g1, j, none⟩) hne (.int .u32 (x : Int)))
      have HBc := hide (HB.out.setCell (p := ⟨g1, j, none⟩) (by rw [← HG.out]; exact HG1.out) (.int .u32 (x : Int)))
      clear H1b H0 H1 HB hu hfz
      go_roundw
      case rel => exact ⟨j + 1, by omega, by go_num, H0c.out, H1c.out, HBc.out⟩
      case measure => simp [intOf]; omega
    · have hj16 : j = 16 := by omega
      have hps := quads_len 16 l
      have H1e := H1.out
      rw [hj16, pre16_end] at H1e
      clear H1 FG H
      obtain ⟨ps, hpe⟩ : ∃ ps, ps = quads 16 l := ⟨_, rfl⟩
      rw [← hpe] at H1e hps
      have HQ := hide hpe
      clear hpe
      match ps, hps, HQ, H1e with
      | [p0, p1, p2, p3, p4, p5, p6, p7, p8, p9, p10, p11, p12, p13, p14, p15], _, HQ, H1e =>
        have K := hide (show Blk wr g1 34 #[.int .u32 (p0 : Int), .int .u32 (p1 : Int), .int .u32 (p2 : Int), .int .u32 (p3 : Int), .int .u32 (p4 : Int), .int .u32 (p5 : Int), .int .u32 (p6 : Int), .int .u32 (p7 : Int), .int .u32 (p8 : Int), .int .u32 (p9 : Int), .int .u32 (p10 : Int), .int .u32 (p11 : Int), .int .u32 (p12 : Int), .int .u32 (p13 : Int), .int .u32 (p14 : Int), .int .u32 (p15 : Int)] from H1e)
        clear H1e
        obtain ⟨c0, c1, c2, c3, c4, c5, c6, c7, c8, c9, c10, c11, c12, c13, c14, c15⟩ := blk16 K.out
        obtain ⟨z0, z1, z2, z3, z4, z5, z6, z7, z8, z9, z10, z11, z12, z13, z14, z15⟩ := blk16 H0.out
        have f0 := H0.out.frozen 0
        have f1 := H0.out.frozen 1
        have f2 := H0.out.frozen 2
        have f3 := H0.out.frozen 3
        have f4 := H0.out.frozen 4
        have f5 := H0.out.frozen 5
        have f6 := H0.out.frozen 6
        have f7 := H0.out.frozen 7
        have f8 := H0.out.frozen 8
        have f9 := H0.out.frozen 9
        have f10 := H0.out.frozen 10
        have f11 := H0.out.frozen 11
        have f12 := H0.out.frozen 12
        have f13 := H0.out.frozen 13
        have f14 := H0.out.frozen 14
        have f15 := H0.out.frozen 15
        clear hj16
        go_wp2_with fail
        exact ret_ptrs rfl rfl (put16_blk H0.out) ⟨by rw [← HQ.out]; rfl, put16_bel HB.out (by rw [HG.out]; exact Nat.le_refl _)⟩
/-- Sizes and zero values, kept whole in a walk. -/
def szK_rblk_any : Sem Nat := sizeOf 34
theorem szK_rblk_any_keep : sizeOf 34 = szK_rblk_any := rfl
def zvK_rblk_any : Sem Value := zeroValue 34
theorem zvK_rblk_any_keep : zeroValue 34 = zvK_rblk_any := rfl
attribute [local go_sem ↓] szK_rblk_any_keep zvK_rblk_any_keep in
set_option maxHeartbeats 1000000 in
theorem rblk_any (ps : List Nat) (h16 : ps.length = 16) (hb : ∀ p ∈ ps, p < 4294967296) (w : World) :
    Calls Try.prog 16 #[.agg (u32s ps).toArray] w fun e w' => ∃ A c, e = .returned (.slice A 64 c) ∧ OwnBy w' w.heap.size A 64 c (ps.flatMap four) ∧ Below w.heap.size w w' := by
  have H16 := hide h16
  have HP := hide hb
  clear h16 hb
  go_enter Try.func16, Try.ntmps16
  go_wp2_with fail
  have K0 := hide (Blk.new w 34 (u32s ps).toArray)
  have B0 := hide ((Below.refl w.heap.size w).alloc (Nat.le_refl _) (.cells (u32s ps).toArray 34))
  have L0 : w.heap.size < (w.alloc (.cells (u32s ps).toArray 34)).heap.size := by simp
  generalize w.alloc (.cells (u32s ps).toArray 34) = w1 at *
  go_loopw [3, 4] (fun v i wr => ∃ (j : Nat) (A : Option Addr) (c : Nat), j ≤ 16 ∧ v = .slice A (4 * j) c ∧ i = .int .i64 (j : Int) ∧ OwnBy wr w1.heap.size A (4 * j) c ((ps.take j).flatMap four) ∧ Below w1.heap.size w1 wr) (fun _ i _ => 16 - (intOf i).toNat)
  case atStart => exact ⟨0, none, 0, Nat.zero_le _, rfl, rfl, World.ownsRow_nil _ _ _ _, Below.refl _ _⟩
  case round =>
    obtain ⟨j, A, c, hj, rfl, rfl, h1, h2⟩ := hrel
    have H1 := hide h1
    have H2 := hide h2
    clear h1 h2
    by_cases hlt : j < 16
    · obtain ⟨p, hp⟩ : ∃ p, ps[j]? = some p := ⟨_, List.getElem?_eq_getElem (by rw [H16.out]; exact hlt)⟩
      have hpb := HP.out p (List.mem_of_getElem? hp)
      have hcell : wr.cell? ⟨w.heap.size, j, none⟩ = some (.int .u32 (p : Int)) := by
        rw [(K0.out.below H2.out).cell]
        simp [u32s, hp]
      have hst : Hid ((ps.take (j + 1)).flatMap four = (ps.take j).flatMap four ++ four p) := hide (by rw [List.take_add_one, hp]; simp)
      have hwx : IntKind.i64.wrap (p : Int) = (p : Int) := by rw [IntKind.wrap_i64]; omega
      clear hp
      go_wp2_with fail
      refine (rfour_any p _ (by omega)).mono ?_
      rintro e w2 ⟨A2, c2, rfl, hown, hb2⟩
      have N2 := hide hown
      have O2 := hide (own_keep H1.out hb2)
      have B2 := hide (H2.out.trans (hb2.mono H2.out.size))
      clear hown hb2
      go_wp2_with (
        at_builtin
        refine wpList_app _ rfl (.tmp 9) (.tmp 14) _ rfl ety8 w1.heap.size (.slice A (4 * j) c) (4 * j) (u8s ((ps.take j).flatMap four)) rfl O2.out w2.heap.size A2 4 c2 (u8s (four p)) rfl
          N2.out.by (u8s_one _) (by omega) B2.out.size ?_
        intro A3 c3 w3 hown3 hg3 _
        rw [← u8s_append, ← hst.out] at hown3
        have O3 := hide hown3
        have B3 := hide (B2.out.grown hg3 B2.out.size (fun k hk => (O2.out.lt k hk).1))
        clear hown3 hg3)
      go_roundw
      case rel => exact ⟨j + 1, A3, c3, by omega, by rw [show 4 * (j + 1) = 4 * j + 4 by omega], by go_num, by rw [show 4 * (j + 1) = 4 * j + 4 by omega]; exact O3.out, B3.out⟩
      case measure => simp [intOf]; omega
    · have hj16 : j = 16 := by omega
      have H1e := H1.out
      rw [hj16, List.take_of_length_le (by rw [H16.out]; exact Nat.le_refl _)] at H1e
      have HE := hide H1e
      have hv : 4 * j = 64 := by omega
      rw [hv]
      clear H1e hj16 hv H1
      go_wp2_with fail
      go_ret
      exact ⟨A, c, rfl, own_by_base HE.out (Nat.le_of_lt L0), B0.out.trans (H2.out.mono B0.out.size)⟩
end Go.Proofs.Ytbceejcmjklklaa
