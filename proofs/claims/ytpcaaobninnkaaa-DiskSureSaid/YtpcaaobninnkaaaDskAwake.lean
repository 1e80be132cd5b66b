/- The walk over awake: a fixed fact. -/
import Derived.Test.YtpcaaobninnkaaaDskLd
namespace Go.Proofs.Ytpcaaobninnkaaa
open Go.RowKit

theorem by_new (w : World) (x : UInt8) : By (w.alloc (.cells #[.int .u8 (x.toNat : Int)] 5)) (w.heap.size + 1) (some ⟨w.heap.size, 0, none⟩) 1 [x] := by
  refine ⟨rfl, fun j u hu => ⟨_, rfl, by simp, ?_⟩⟩
  rw [Addr.add_mid, Nat.zero_add, (Blk.new w _ _).cell]
  simpa [u8s] using hu
theorem bools_new (w : World) (x : Bool) : Sl (w.alloc (.cells #[.bool x] 4)) (w.heap.size + 1) (some ⟨w.heap.size, 0, none⟩) 1 ([x].map Value.bool) := by
  refine ⟨rfl, fun j u hu => ⟨_, rfl, by simp, ?_⟩⟩
  rw [Addr.add_mid, Nat.zero_add, (Blk.new w _ _).cell]
  simpa using hu
theorem wake_len (l : List UInt8) : (round64 l).length = 64 := round64_len l
def wakeD (cap : Nat) (pad : Array Value) : Dsk := (((freshD 2).wrote 1 (round64 [1])).wrote 1 (round64 [2])).crashed (crashF [true] 1 2) cap pad
theorem wake_read (cap : Nat) (pad : Array Value) : (wakeD cap pad).read 1 = List.replicate 16 1 ++ List.replicate 16 2 ++ List.replicate 32 1 := by kernel_rfl
theorem wakeC : (u8s (List.replicate 16 1 ++ List.replicate 16 2 ++ List.replicate 32 1)).toArray[15]? = some (.int .u8 1) ∧ (u8s (List.replicate 16 1 ++ List.replicate 16 2 ++ List.replicate 32 1)).toArray[16]? = some (.int .u8 2) ∧
    (u8s (List.replicate 16 1 ++ List.replicate 16 2 ++ List.replicate 32 1)).toArray[31]? = some (.int .u8 2) ∧ (u8s (List.replicate 16 1 ++ List.replicate 16 2 ++ List.replicate 32 1)).toArray[32]? = some (.int .u8 1) := by
  refine ⟨?_, ?_, ?_, ?_⟩ <;> rfl

theorem awake_any (w : World) : Calls Try.prog 10 #[] w fun e w' => e = .returned (.bool true) ∧ Below w.heap.size w w' := by
  go_enter Try.func10, Try.ntmps10
  go_wp2_with fail
  refine (ld_new w 2 (by decide) (by decide)).mono ?_
  rintro e w1 ⟨d, rfl, h1⟩
  have H1 := hide h1
  clear h1
  go_wp2_with fail
  refine (ld_bytes _ (w1.heap.size + 1) _ 1 1 [1] (by_new w1 1) (by simp) (by decide)).mono ?_
  rintro e w2 ⟨g2, rfl, hg2, hb2, hbl2⟩
  have hne : g2 ≠ d := by have := H1.out.lt; simp at hg2; omega
  have H2 := hide ((H1.out.alloc _).below hbl2)
  have B2 := hide hb2
  clear hb2 hbl2 H1
  go_wp2_with fail
  refine (ld_write H2.out 1 g2 _ (round64 [1]) _ (by decide) (by decide) (by decide) (by decide) (round64_len _) B2.out u8s_at hne).mono ?_
  rintro e w3 ⟨rfl, h3, -⟩
  have H3 := hide h3
  clear h3 hne B2 H2
  go_wp2_with fail
  refine (ld_bytes _ (w3.heap.size + 1) _ 1 1 [2] (by_new w3 2) (by simp) (by decide)).mono ?_
  rintro e w4 ⟨g4, rfl, hg4, hb4, hbl4⟩
  have hne : g4 ≠ d := by have := H3.out.lt; simp at hg4; omega
  have H4 := hide ((H3.out.alloc _).below hbl4)
  have B4 := hide hb4
  clear hb4 hbl4 H3
  go_wp2_with fail
  refine (ld_write H4.out 1 g4 _ (round64 [2]) _ (by decide) (by decide) (by decide) (by decide) (round64_len _) B4.out u8s_at hne).mono ?_
  rintro e w5 ⟨rfl, h5, -⟩
  have H5 := hide h5
  clear h5 hne B4 H4
  go_wp2_with fail
  refine (ld_crash (H5.out.alloc _) (by decide) (w5.heap.size + 1) _ 1 1 [true] (bools_new w5 true) (by simp) (by decide) 1 2).mono ?_
  rintro e w6 ⟨c, cap, pad, rfl, h6⟩
  have H6 := hide (h6.base (H5.out.alloc (.cells #[.bool true] 4)).bel)
  clear h6
  go_wp2_with fail
  refine (ld_read H6.out 1 (Nat.le_of_ble_eq_true (by kernel_rfl))).mono ?_
  rintro e w7 ⟨g7, rfl, hg7, hb7, hbl7⟩
  have e7 : (Dsk.crashed (((freshD 2).wrote 1 (round64 [1])).wrote 1 (round64 [2])) (crashF [true] 1 2) cap pad).read 1 = List.replicate 16 1 ++ List.replicate 16 2 ++ List.replicate 32 1 := wake_read cap pad
  rw [e7] at hb7
  have c1 : w7.cell? ⟨g7, 15, none⟩ = some (.int .u8 1) := (hb7.cell 15).trans wakeC.1
  have c2 : w7.cell? ⟨g7, 16, none⟩ = some (.int .u8 2) := (hb7.cell 16).trans wakeC.2.1
  have c3 : w7.cell? ⟨g7, 31, none⟩ = some (.int .u8 2) := (hb7.cell 31).trans wakeC.2.2.1
  have c4 : w7.cell? ⟨g7, 32, none⟩ = some (.int .u8 1) := (hb7.cell 32).trans wakeC.2.2.2
  have hb := hide (H6.out.bel.trans (hbl7.mono H6.out.bel.size))
  clear hb7 hbl7 e7
  go_wp2_with fail
  go_ret
  exact ⟨rfl, hb.out⟩
end Go.Proofs.Ytpcaaobninnkaaa
