/- The walk of marlref07.MapBlock. -/
import Derived.Test.YtbmblofhogihdaaMmS
import Derived.Test.YtbmblofhogihdaaMrW
namespace Go.Proofs.Ytbmblofhogihdaa
open Go.RowKit
set_option maxRecDepth 100000
attribute [local go_sem ↓] Go.wp_at_zero Go.wp_at_succ

theorem mk_64M (w : World) : (Instr.makeSlice 44 (.int .i64 64) (.int .i64 64)).run Try.prog w = .ok (.slice (some ⟨w.heap.size, 0, none⟩) 64 64) (w.alloc (.cells (u8s (List.replicate 64 0)).toArray 5)) := by
  have := run_mks (P := Try.prog) (t := 44) (k := 1) (bytes := 1) (z := .int .u8 0) Try.underlying44 (by kernel_rfl) .i64 .i64 64 (by omega) (by omega) w
  rw [show madeCells (Value.int .u8 0).cells (64 * 1) = (u8s (List.replicate 64 0)).toArray by kernel_rfl] at this
  exact this
theorem u8s_setM (l : List UInt8) (j : Nat) (x : UInt8) : (u8s l).toArray.setIfInBounds j (.int .u8 (x.toNat : Int)) = (u8s (l.set j x)).toArray := by simp [u8s, List.map_set]
theorem by_blkM {w : World} {g : Nat} {t : TypeId} {l : List UInt8} {n : Nat} (h : Blk w g t (u8s l).toArray) (hn : l.length = n) : By w w.heap.size (some ⟨g, 0, none⟩) n l :=
  ⟨by simp [u8s, hn], fun i u hu => ⟨_, rfl, h.lt, by rw [Addr.add_mid, Nat.zero_add, h.cell]; simpa using hu⟩⟩
theorem cell64 {w : World} {g : Nat} {t : TypeId} {l : List UInt8} {x : Nat} (h : Blk w g t (u8s l).toArray) (hl : l.length = 64) (hx : x < 64) : ∃ u, w.cell? ⟨g, x, none⟩ = some u := by
  rw [h.cell, Array.getElem?_eq_getElem (by simp [u8s, hl]; exact hx)]
  exact ⟨_, rfl⟩
def MmAns (l : List (Nat × Nat)) (r : Ending) : Prop :=
  r = .returned (.tuple #[.string (if l.all gdE = true then txt (mbS l) else txt []), .int .i64 (if l.all gdE = true then 0 else 22)])
set_option maxHeartbeats 4000000 in
theorem mapblockR_any (w : World) (l : List (Nat × Nat)) (hl : l.length = 8) (hbd : ∀ e ∈ l, e.1 < 4294967296 ∧ e.2 < 65536) :
    Calls Try.prog 36 #[.agg (fl meC l)] w fun r w' => MmAns l r ∧ Below w.heap.size w w' := by
  have HL := hide hl
  have HBD := hide hbd
  clear hl hbd
  obtain ⟨cs, hcs⟩ : ∃ cs, cs = fl meC l := ⟨_, rfl⟩
  rw [← hcs]
  have HCS := hide hcs
  clear hcs
  go_enter Try.func36, Try.ntmps36
  go_upto_region 1 with fail
  obtain ⟨w1, hw⟩ : ∃ W, W = w.alloc (.cells cs 68) := ⟨_, rfl⟩
  have X1 := hide (show Blk w1 w.heap.size 68 (fl meC l) by rw [hw, ← HCS.out]; exact Blk.new _ _ _)
  have BW : Hid (Below w.heap.size w w1) := hide (by rw [hw]; exact (Below.refl _ _).alloc (Nat.le_refl _) _)
  have hne : w1.heap.size ≠ w.heap.size := by rw [hw]; simp
  rw [← hw]
  obtain ⟨g1, hg1⟩ : ∃ g, g = w.heap.size := ⟨_, rfl⟩
  rw [← hg1] at X1 hne ⊢
  clear hw HCS
  have hm := mk_64M w1
  obtain ⟨z, hz⟩ : ∃ z, z = (u8s (List.replicate 64 0)).toArray := ⟨_, rfl⟩
  rw [← hz] at hm
  replace hz := hide hz
  go_upto_region 2 with fail
  clear hm
  obtain ⟨w2, hw⟩ : ∃ W, W = w1.alloc (.cells z 5) := ⟨_, rfl⟩
  have X2 := hide (show Blk w2 w1.heap.size 5 (u8s (mbF l 0)).toArray by rw [hw, mbF_0, ← hz.out]; exact Blk.new _ _ _)
  replace X1 := hide (show Blk w2 g1 68 (fl meC l) by rw [hw]; exact X1.out.alloc _)
  have G := hide (And.intro BW.out.size hne)
  replace BW := hide (show Below w.heap.size w w2 by rw [hw]; exact BW.out.alloc BW.out.size _)
  rw [← hw]
  generalize w1.heap.size = g2 at X2 G ⊢
  clear hw hg1 hne hz
  clear z
  go_wp2_with fail
  go_loopw [5] (fun y wr => ∃ j : Nat, y = .int .i64 (j : Int) ∧ j ≤ 8 ∧ (l.take j).all gdE = true ∧ Blk wr g1 68 (fl meC l) ∧ Blk wr g2 5 (u8s (mbF l j)).toArray ∧ Below w.heap.size w wr) (fun y _ => 8 - (intOf y).toNat)
  case atStart => exact ⟨0, rfl, Nat.zero_le _, rfl, X1.out, X2.out, BW.out⟩
  case round =>
    obtain ⟨j, rfl, hj, hall, hx1, hx2, hb⟩ := hrel
    clear X1 X2 BW
    have HALL := hide hall
    have X1 := hide hx1
    have X2 := hide hx2
    have BW := hide hb
    clear hall hx1 hx2 hb
    by_cases hlt : j < 8
    rotate_left
    · have hjs : ¬ (j : Int) < 8 := by omega
      obtain rfl : j = 8 := by omega
      have HB := hide (by_blkM X2.out (mbF_len HL.out (Nat.le_refl _)))
      rw [mbF_8 HL.out] at HB
      have hc := run_conv_txt (P := Try.prog) (w := wr) Try.underlying44 Try.underlying5 Try.underlying9 64 HB.out
      go_wp2_with fail
      go_ret2
      have ha : l.all gdE = true := by
        have := HALL.out
        rwa [List.take_of_length_le (by rw [HL.out]; exact Nat.le_refl _)] at this
      refine ⟨?_, BW.out⟩
      unfold MmAns
      rw [if_pos ha, if_pos ha]
      rfl
    have hjs : (j : Int) < 8 := by omega
    obtain ⟨e, he⟩ : ∃ e, l[j]? = some e := ⟨_, List.getElem?_eq_getElem (by rw [HL.out]; exact hlt)⟩
    obtain ⟨y0, y1⟩ := me_cells X1.out he
    obtain ⟨a, v⟩ := e
    have hav := HBD.out _ (List.mem_of_getElem? he)
    have HE := hide he
    clear he
    dsimp only at hav y0 y1
    have hv : ¬ (65535 : Int) < (v : Int) := by omega
    have hv0 : ¬ (v : Int) < 0 := by omega
    have ha0 : ¬ (a : Int) < 0 := by omega
    have HAV := hide hav
    clear hav
    have hs8 : 8 * j ≤ 56 := by omega
    obtain ⟨s, hs⟩ : ∃ s, s = 8 * j := ⟨_, rfl⟩
    have hs56 : s ≤ 56 := by omega
    have hw8 : IntKind.i64.wrap (8 * (j : Int)) = (s : Int) := by rw [IntKind.wrap_i64]; omega
    have k0 : IntKind.u8.wrap ((a : Int) % 256) = ((UInt8.ofNat a).toNat : Int) := by
      rw [← w8_nat]; simp [IntKind.wrap, IntKind.bits, IntKind.signed]
    have k1 : IntKind.u8.wrap ((a : Int) / 256) = ((UInt8.ofNat (a / 256)).toNat : Int) := w8_quo a 256
    have k2 : IntKind.u8.wrap ((v : Int) % 256) = ((UInt8.ofNat v).toNat : Int) := by
      rw [← w8_nat]; simp [IntKind.wrap, IntKind.bits, IntKind.signed]
    have k3 : IntKind.u8.wrap ((v : Int) / 256) = ((UInt8.ofNat (v / 256)).toNat : Int) := w8_quo v 256
    go_upto_region 6 with fail
    obtain ⟨w4, hw⟩ : ∃ W, W = wr.alloc (.cells #[.int .i64 (a : Int), .int .i64 (v : Int)] 67) := ⟨_, rfl⟩
    have X5 := hide (show Blk w4 wr.heap.size 67 #[.int .i64 (a : Int), .int .i64 (v : Int)] by rw [hw]; exact Blk.new _ _ _)
    replace X1 := hide (show Blk w4 g1 68 (fl meC l) by rw [hw]; exact X1.out.alloc _)
    have hlt2 := X2.out.lt
    have hne2 : wr.heap.size ≠ g2 := by omega
    replace X2 := hide (show Blk w4 g2 5 (u8s (mbF l j)).toArray by rw [hw]; exact X2.out.alloc _)
    replace BW := hide (show Below w.heap.size w w4 by rw [hw]; exact BW.out.alloc BW.out.size _)
    rw [← hw]
    clear hlt2 hw y0 y1
    generalize wr.heap.size = g5 at X5 hne2 ⊢
    have hne1 := G.out.2
    have HNE := hide (And.intro hne2 hne1)
    clear hne2 hne1
    obtain ⟨z0, z1⟩ := op2E X5.out
    by_cases h4 : (4095 : Int) < (a : Int)
    · have HN := hide (all_no HE.out (show gdE (a, v) = false by unfold gdE; exact decide_eq_false (by dsimp only; omega)))
      clear hs k0 k1 k2 k3 hw8 hs8 hs56
      go_wp2_with fail
      go_ret2
      refine ⟨?_, BW.out⟩
      unfold MmAns
      rw [if_neg HN.out, if_neg HN.out]
      rfl
    have h4k : a < 4096 := by omega
    have HMB := hide (mbF_set HL.out HE.out h4k)
    have HNX := hide (show (l.take (j + 1)).all gdE = true by
      rw [List.take_succ_eq_append_getElem (by rw [HL.out]; exact hlt), List.all_append, HALL.out, (List.getElem?_eq_some_iff.1 HE.out).2]
      simp [gdE, h4k])
    clear h4k
    obtain ⟨L, hL⟩ : ∃ L, L = mbF l j := ⟨_, rfl⟩
    rw [← hL, ← hs] at HMB
    rw [← hL] at X2
    have hLl : L.length = 64 := by rw [hL]; exact mbF_len HL.out hj
    have HLL := hide hLl
    clear hL hLl hs8
    dsimp only at HMB
    obtain ⟨b0, hb0⟩ : ∃ b, b = UInt8.ofNat a := ⟨_, rfl⟩
    obtain ⟨b1, hb1⟩ : ∃ b, b = UInt8.ofNat (a / 256) := ⟨_, rfl⟩
    obtain ⟨b2, hb2⟩ : ∃ b, b = UInt8.ofNat v := ⟨_, rfl⟩
    obtain ⟨b3, hb3⟩ : ∃ b, b = UInt8.ofNat (v / 256) := ⟨_, rfl⟩
    rw [← hb0] at k0 HMB
    rw [← hb1] at k1 HMB
    rw [← hb2] at k2 HMB
    rw [← hb3] at k3 HMB
    clear hb0 hb1 hb2 hb3
    have HS := hide hs
    clear hs
    have hs0 : (s : Int) < 64 := by omega
    go_upto_region 8 with fail
    obtain ⟨u, hu⟩ := cell64 X2.out HLL.out (show s < 64 by omega)
    have hf := X2.out.frozen s
    go_upto_region 9 with fail
    have XA := X2.out.set s (.int .u8 ((b0).toNat : Int))
    rw [u8s_setM] at XA
    have XB := X5.out.far (p := ⟨g2, s, none⟩) HNE.out.1 (.int .u8 ((b0).toNat : Int))
    have XC := X1.out.far (p := ⟨g2, s, none⟩) (Ne.symm HNE.out.2) (.int .u8 ((b0).toNat : Int))
    have XD := BW.out.setCell (p := ⟨g2, s, none⟩) G.out.1 (.int .u8 ((b0).toNat : Int))
    clear X1 X2 X5 BW hu hf z0 z1 hs0
    obtain ⟨w5, hw⟩ : ∃ W, W = w4.setCell ⟨g2, s, none⟩ (.int .u8 ((b0).toNat : Int)) := ⟨_, rfl⟩
    rw [← hw] at XA XB XC XD ⊢
    obtain ⟨L1, hL⟩ : ∃ L', L' = L.set s (b0) := ⟨_, rfl⟩
    rw [← hL] at XA
    rw [← hL] at HMB
    have X2 := hide XA
    have X5 := hide XB
    have X1 := hide XC
    have BW := hide XD
    replace HLL := hide (show L1.length = 64 by rw [hL, List.length_set]; exact HLL.out)
    clear XA XB XC XD hw hL k0
    obtain ⟨z0, z1⟩ := op2E X5.out
    obtain ⟨x1, hx⟩ : ∃ x, x = s + 1 := ⟨_, rfl⟩
    have hwx : IntKind.i64.wrap ((s : Int) + 1) = (x1 : Int) := by rw [IntKind.wrap_i64]; omega
    have hxi : (x1 : Int) < 64 := by omega
    obtain ⟨u, hu⟩ := cell64 X2.out HLL.out (show x1 < 64 by omega)
    have hf := X2.out.frozen x1
    have HX := hide hx
    clear hx
    go_upto_region 10 with fail
    have XA := X2.out.set x1 (.int .u8 ((b1).toNat : Int))
    rw [u8s_setM] at XA
    have XB := X5.out.far (p := ⟨g2, x1, none⟩) HNE.out.1 (.int .u8 ((b1).toNat : Int))
    have XC := X1.out.far (p := ⟨g2, x1, none⟩) (Ne.symm HNE.out.2) (.int .u8 ((b1).toNat : Int))
    have XD := BW.out.setCell (p := ⟨g2, x1, none⟩) G.out.1 (.int .u8 ((b1).toNat : Int))
    clear X1 X2 X5 BW hu hf z0 z1 hwx hxi
    obtain ⟨w6, hw⟩ : ∃ W, W = w5.setCell ⟨g2, x1, none⟩ (.int .u8 ((b1).toNat : Int)) := ⟨_, rfl⟩
    rw [← hw] at XA XB XC XD ⊢
    obtain ⟨L2, hL⟩ : ∃ L', L' = L1.set x1 (b1) := ⟨_, rfl⟩
    rw [← hL] at XA
    rw [HX.out] at hL
    rw [← hL] at HMB
    have X2 := hide XA
    have X5 := hide XB
    have X1 := hide XC
    have BW := hide XD
    replace HLL := hide (show L2.length = 64 by rw [hL, List.length_set]; exact HLL.out)
    clear XA XB XC XD hw hL k1
    obtain ⟨z0, z1⟩ := op2E X5.out
    obtain ⟨x2, hx⟩ : ∃ x, x = s + 4 := ⟨_, rfl⟩
    have hwx : IntKind.i64.wrap ((s : Int) + 4) = (x2 : Int) := by rw [IntKind.wrap_i64]; omega
    have hxi : (x2 : Int) < 64 := by omega
    obtain ⟨u, hu⟩ := cell64 X2.out HLL.out (show x2 < 64 by omega)
    have hf := X2.out.frozen x2
    have HX := hide hx
    clear hx
    go_upto_region 11 with fail
    have XA := X2.out.set x2 (.int .u8 ((b2).toNat : Int))
    rw [u8s_setM] at XA
    have XB := X5.out.far (p := ⟨g2, x2, none⟩) HNE.out.1 (.int .u8 ((b2).toNat : Int))
    have XC := X1.out.far (p := ⟨g2, x2, none⟩) (Ne.symm HNE.out.2) (.int .u8 ((b2).toNat : Int))
    have XD := BW.out.setCell (p := ⟨g2, x2, none⟩) G.out.1 (.int .u8 ((b2).toNat : Int))
    clear X1 X2 X5 BW hu hf z0 z1 hwx hxi
    obtain ⟨w7, hw⟩ : ∃ W, W = w6.setCell ⟨g2, x2, none⟩ (.int .u8 ((b2).toNat : Int)) := ⟨_, rfl⟩
    rw [← hw] at XA XB XC XD ⊢
    obtain ⟨L3, hL⟩ : ∃ L', L' = L2.set x2 (b2) := ⟨_, rfl⟩
    rw [← hL] at XA
    rw [HX.out] at hL
    rw [← hL] at HMB
    have X2 := hide XA
    have X5 := hide XB
    have X1 := hide XC
    have BW := hide XD
    replace HLL := hide (show L3.length = 64 by rw [hL, List.length_set]; exact HLL.out)
    clear XA XB XC XD hw hL k2
    obtain ⟨z0, z1⟩ := op2E X5.out
    obtain ⟨x3, hx⟩ : ∃ x, x = s + 5 := ⟨_, rfl⟩
    have hwx : IntKind.i64.wrap ((s : Int) + 5) = (x3 : Int) := by rw [IntKind.wrap_i64]; omega
    have hxi : (x3 : Int) < 64 := by omega
    obtain ⟨u, hu⟩ := cell64 X2.out HLL.out (show x3 < 64 by omega)
    have hf := X2.out.frozen x3
    have HX := hide hx
    clear hx
    go_upto_region 4 with fail
    have XA := X2.out.set x3 (.int .u8 ((b3).toNat : Int))
    rw [u8s_setM] at XA
    have XB := X5.out.far (p := ⟨g2, x3, none⟩) HNE.out.1 (.int .u8 ((b3).toNat : Int))
    have XC := X1.out.far (p := ⟨g2, x3, none⟩) (Ne.symm HNE.out.2) (.int .u8 ((b3).toNat : Int))
    have XD := BW.out.setCell (p := ⟨g2, x3, none⟩) G.out.1 (.int .u8 ((b3).toNat : Int))
    clear X1 X2 X5 BW hu hf z0 z1 hwx hxi
    obtain ⟨w8, hw⟩ : ∃ W, W = w7.setCell ⟨g2, x3, none⟩ (.int .u8 ((b3).toNat : Int)) := ⟨_, rfl⟩
    rw [← hw] at XA XB XC XD ⊢
    obtain ⟨L4, hL⟩ : ∃ L', L' = L3.set x3 (b3) := ⟨_, rfl⟩
    rw [← hL] at XA
    rw [HX.out] at hL
    rw [← hL] at HMB
    have X2 := hide XA
    have X5 := hide XB
    have X1 := hide XC
    have BW := hide XD
    replace HLL := hide (show L4.length = 64 by rw [hL, List.length_set]; exact HLL.out)
    clear XA XB XC XD hw hL k3 hw8
    obtain ⟨z0, z1⟩ := op2E X5.out
    rw [HMB.out] at X2
    have HF := hide (And.intro X1.out (And.intro X2.out BW.out))
    clear z0 z1 X1 X2 X5 BW
    go_wp2_with fail
    go_roundw
    case rel => exact ⟨j + 1, by go_num, hlt, HNX.out, HF.out.1, HF.out.2.1, HF.out.2.2⟩
    case measure => simp [intOf]; omega
end Go.Proofs.Ytbmblofhogihdaa
