/- The walks over inode.Decode of other lengths and marlref05.Decode (printed by gen_inordec.py). -/
import Derived.Test.YtbceejcmjklklaaInoFldS
import Derived.Test.YtbceejcmjklklaaInoRencW
import Derived.Test.YtbceejcmjklklaaInoGood
import Derived.Test.YtbceejcmjklklaaRefOpen2W
import Derived.Test.YtbceejcmjklklaaInoPtrW
import Derived.Test.YtbceejcmjklklaaCO5
namespace Go.Proofs.Ytbceejcmjklklaa
open Go.RowKit
attribute [local go_sem ↓] Go.wp_at_zero Go.wp_at_succ

theorem ret_ino {K : Ending → World → Prop} {tmps : Array Value} {w : World} {g : Nat} {x0 x1 x2 x3 x4 x5 x6 x7 x8 x9 x10 x11 x12 x13 v : Value} (hp : tmps.getD 2 undef = .pointer (some ⟨g, 0, none⟩)) (hq : tmps.getD 3 undef = v) (hB : Blk w g 28 #[x0, x1, x2, x3, x4, x5, x6, x7, x8, x9, x10, x11, x12, x13])
    (hK : K (.returned (.tuple #[.agg #[x0, x1, x2, x3, x4, x5, x6, x7, x8, x9, x10, x11, x12, x13], v])) w) : bodyPost Try.prog Try.f21 K .ret ⟨tmps, []⟩ w :=
  bodyPost_ret (results_ct rfl tmps w g _ _ (0, 0) _ hp hB Try.underlying28 rfl (by kernel_rfl)) rfl (by rw [hq]; exact hK)
theorem rd_by {w : World} {base : Nat} {l : List UInt8} {v : Value} (h : RdF 5 base (u8s l) v w) : ∃ A n c, v = .slice A n c ∧ By w w.heap.size A n l := by
  obtain ⟨A, n, c, c', hv, ho⟩ := h
  exact ⟨A, n, c, hv, OwnBy.by (show OwnBy w base A n c' l from ho)⟩
section
variable {w w0 : World} {g B : Nat} {t : TypeId} {x0 x1 x2 x3 x4 x5 x6 x7 x8 x9 x10 x11 x12 x13 y0 y1 y2 y3 y4 y5 y6 y7 y8 y9 y10 y11 y12 y13 : Value}
/-- Fourteen cells written. -/
abbrev put14 (w : World) (g : Nat) (y0 y1 y2 y3 y4 y5 y6 y7 y8 y9 y10 y11 y12 y13 : Value) : World := ((((((((((((((w.setCell ⟨g, 0, none⟩ y0).setCell ⟨g, 1, none⟩ y1).setCell ⟨g, 2, none⟩ y2).setCell ⟨g, 3, none⟩ y3).setCell ⟨g, 4, none⟩ y4).setCell ⟨g, 5, none⟩ y5).setCell ⟨g, 6, none⟩ y6).setCell ⟨g, 7, none⟩ y7).setCell ⟨g, 8, none⟩ y8).setCell ⟨g, 9, none⟩ y9).setCell ⟨g, 10, none⟩ y10).setCell ⟨g, 11, none⟩ y11).setCell ⟨g, 12, none⟩ y12).setCell ⟨g, 13, none⟩ y13)
theorem put14_blk (h : Blk w g t #[x0, x1, x2, x3, x4, x5, x6, x7, x8, x9, x10, x11, x12, x13]) : Blk (put14 w g y0 y1 y2 y3 y4 y5 y6 y7 y8 y9 y10 y11 y12 y13) g t #[y0, y1, y2, y3, y4, y5, y6, y7, y8, y9, y10, y11, y12, y13] := by
  have := ((((((((((((((h).set 0 y0).set 1 y1).set 2 y2).set 3 y3).set 4 y4).set 5 y5).set 6 y6).set 7 y7).set 8 y8).set 9 y9).set 10 y10).set 11 y11).set 12 y12).set 13 y13
  simpa using this
theorem put14_bel (h : Below B w0 w) (hB : B ≤ g) : Below B w0 (put14 w g y0 y1 y2 y3 y4 y5 y6 y7 y8 y9 y10 y11 y12 y13) := ((((((((((((((h).setCell (p := ⟨g, 0, none⟩) hB y0).setCell (p := ⟨g, 1, none⟩) hB y1).setCell (p := ⟨g, 2, none⟩) hB y2).setCell (p := ⟨g, 3, none⟩) hB y3).setCell (p := ⟨g, 4, none⟩) hB y4).setCell (p := ⟨g, 5, none⟩) hB y5).setCell (p := ⟨g, 6, none⟩) hB y6).setCell (p := ⟨g, 7, none⟩) hB y7).setCell (p := ⟨g, 8, none⟩) hB y8).setCell (p := ⟨g, 9, none⟩) hB y9).setCell (p := ⟨g, 10, none⟩) hB y10).setCell (p := ⟨g, 11, none⟩) hB y11).setCell (p := ⟨g, 12, none⟩) hB y12).setCell (p := ⟨g, 13, none⟩) hB y13
end
set_option maxRecDepth 100000 in
set_option maxHeartbeats 1000000 in
theorem dec_len (A : Option Addr) (n c : Nat) (w : World) (hn : n ≠ 64) :
    Calls Try.prog 19 #[.slice A n c] w fun e w' => e = .returned (.tuple #[zeroI, .int .i64 100]) ∧ Below w.heap.size w w' := by
  have hn' : ((n : Int) == 64) = false := by simp; omega
  clear hn
  go_enter Try.func19, Try.ntmps19
  go_wp2_with fail
  exact bodyPost_ret (v := .tuple #[zeroI, .int .i64 100]) (by simp [results, Try.results19, go_sem, zeroI]) rfl ⟨rfl, (Below.refl _ _).alloc (Nat.le_refl _) _⟩
set_option maxRecDepth 100000 in
set_option maxHeartbeats 1000000 in
theorem rdec_len (A : Option Addr) (n c : Nat) (w : World) (hn : n ≠ 64) :
    Calls Try.prog 21 #[.slice A n c] w fun e w' => e = .returned (.tuple #[zeroI, .int .i64 100]) ∧ Below w.heap.size w w' := by
  have hn' : ((n : Int) == 64) = false := by simp; omega
  clear hn
  go_enter Try.func21, Try.ntmps21
  go_wp2_with fail
  exact ret_ino rfl rfl (Blk.new w _ _) ⟨rfl, (Below.refl _ _).alloc (Nat.le_refl _) _⟩
set_option maxRecDepth 100000 in
set_option maxHeartbeats 1000000 in
theorem rdec_sum (A : Option Addr) (c B : Nat) (l : List UInt8) (w : World) (h : By w B A 64 l) (hB : B ≤ w.heap.size) (hc : 64 ≤ c) (hbad : sealed (l.take 60) ≠ l) :
    Calls Try.prog 21 #[.slice A 64 c] w fun e w' => e = .returned (.tuple #[zeroI, .int .i64 101]) ∧ Below w.heap.size w w' := by
  have H := hide h
  have Hbad := hide hbad
  clear h hbad
  go_enter Try.func21, Try.ntmps21
  go_wp2_with fail
  have K0 := hide (Blk.new w 28 #[.int .i64 0, .int .i64 0, .int .i64 0, .int .i64 0, .int .i64 0, .int .u32 0, .int .u32 0, .int .u32 0, .int .u32 0, .int .u32 0, .int .u32 0, .int .u32 0, .int .u32 0, .int .u32 0])
  have B0 := hide ((Below.refl w.heap.size w).alloc (Nat.le_refl _) (.cells #[.int .i64 0, .int .i64 0, .int .i64 0, .int .i64 0, .int .i64 0, .int .u32 0, .int .u32 0, .int .u32 0, .int .u32 0, .int .u32 0, .int .u32 0, .int .u32 0, .int .u32 0, .int .u32 0] 28))
  have H0 := hide (H.out.alloc hB (.cells #[.int .i64 0, .int .i64 0, .int .i64 0, .int .i64 0, .int .i64 0, .int .u32 0, .int .u32 0, .int .u32 0, .int .u32 0, .int .u32 0, .int .u32 0, .int .u32 0, .int .u32 0, .int .u32 0] 28))
  obtain ⟨g0, hg0⟩ : ∃ g0, g0 = w.heap.size := ⟨_, rfl⟩
  have HG := hide hg0
  rw [← hg0] at K0 ⊢
  clear hg0
  generalize w.alloc (.cells #[.int .i64 0, .int .i64 0, .int .i64 0, .int .i64 0, .int .i64 0, .int .u32 0, .int .u32 0, .int .u32 0, .int .u32 0, .int .u32 0, .int .u32 0, .int .u32 0, .int .u32 0, .int .u32 0] 28) = w0 at *
  refine (ropen_bad A 60 c B l _ H0.out (Nat.le_trans hB B0.out.size) hc (by omega) Hbad.out).mono ?_
  rintro e w1 ⟨rfl, hb1⟩
  have K1 := hide (K0.out.below hb1)
  have B1 := hide (B0.out.trans (hb1.mono B0.out.size))
  clear hb1 K0 B0 H0
  have f0 := K1.out.frozen 0
  have f1 := K1.out.frozen 1
  have f2 := K1.out.frozen 2
  have f3 := K1.out.frozen 3
  have f4 := K1.out.frozen 4
  have f5 := K1.out.frozen 5
  have f6 := K1.out.frozen 6
  have f7 := K1.out.frozen 7
  have f8 := K1.out.frozen 8
  have f9 := K1.out.frozen 9
  have f10 := K1.out.frozen 10
  have f11 := K1.out.frozen 11
  have f12 := K1.out.frozen 12
  have f13 := K1.out.frozen 13
  obtain ⟨c0, c1, c2, c3, c4, c5, c6, c7, c8, c9, c10, c11, c12, c13⟩ := blk14 K1.out
  go_wp2_with fail
  exact ret_ino rfl rfl (put14_blk K1.out) ⟨rfl, put14_bel B1.out (by rw [HG.out]; exact Nat.le_refl _)⟩
set_option maxRecDepth 100000 in
set_option maxHeartbeats 8000000 in
theorem rdec_open (A : Option Addr) (c B : Nat) (lst : List UInt8) (w : World) (h : By w B A 64 lst) (hB : B ≤ w.heap.size) (hc : 64 ≤ c) (hgood : sealed (lst.take 60) = lst) :
    Calls Try.prog 21 #[.slice A 64 c] w fun e w' => ∃ x, e = .returned x ∧ DecV lst x ∧ Below w.heap.size w w' := by
  unfold DecV IsIno
  have H := hide h
  have hll := h.length
  have Hgood := hide hgood
  have FB := hide (⟨fld_lt _ _ 4, fld_lt _ _ 4, fld_lt _ _ 4, fld_lt _ _ 4, fld_lt _ _ 4, fld_lt _ _ 4, fld_lt _ _ 4, fld_lt _ _ 4, fld_lt _ _ 4⟩ : fld lst 10 4 < 4294967296 ∧ fld lst 14 4 < 4294967296 ∧ fld lst 18 4 < 4294967296 ∧ fld lst 22 4 < 4294967296 ∧ fld lst 26 4 < 4294967296 ∧ fld lst 30 4 < 4294967296 ∧ fld lst 34 4 < 4294967296 ∧ fld lst 38 4 < 4294967296 ∧ fld lst 42 4 < 4294967296)
  have q0 : fld lst 0 2 = (lst[0]'(by omega)).toNat + 256 * (lst[1]'(by omega)).toNat := fld2_eq (by omega)
  have q2 : fld lst 2 2 = (lst[2]'(by omega)).toNat + 256 * (lst[3]'(by omega)).toNat := fld2_eq (by omega)
  have q4 : fld lst 4 1 = (lst[4]'(by omega)).toNat := fld1_eq (by omega)
  have q5 : fld lst 5 1 = (lst[5]'(by omega)).toNat := fld1_eq (by omega)
  have PT0 := hide (ptF_zero lst)
  have TS0 := hide (topF_zero lst 6)
  clear hgood
  generalize E_a : fld lst 0 2 = a at *
  replace E_a := hide E_a
  generalize E_v : fld lst 2 2 = v at *
  replace E_v := hide E_v
  generalize E_k : fld lst 4 1 = k at *
  replace E_k := hide E_k
  generalize E_n : fld lst 5 1 = n at *
  replace E_n := hide E_n
  generalize E_s : fld lst 6 4 = s at *
  replace E_s := hide E_s
  generalize E_p0 : fld lst 10 4 = p0 at *
  replace E_p0 := hide E_p0
  generalize E_p1 : fld lst 14 4 = p1 at *
  replace E_p1 := hide E_p1
  generalize E_p2 : fld lst 18 4 = p2 at *
  replace E_p2 := hide E_p2
  generalize E_p3 : fld lst 22 4 = p3 at *
  replace E_p3 := hide E_p3
  generalize E_p4 : fld lst 26 4 = p4 at *
  replace E_p4 := hide E_p4
  generalize E_p5 : fld lst 30 4 = p5 at *
  replace E_p5 := hide E_p5
  generalize E_p6 : fld lst 34 4 = p6 at *
  replace E_p6 := hide E_p6
  generalize E_p7 : fld lst 38 4 = p7 at *
  replace E_p7 := hide E_p7
  generalize E_p8 : fld lst 42 4 = p8 at *
  replace E_p8 := hide E_p8

  have HLL := hide hll
  have BF := hide (show ∀ i (hi : i < 64) (hl : i < lst.length), ∃ ad', A = some ad' ∧ ∀ W, By W B A 64 lst → W.cell? (ad'.add i) = some (.int .u8 ((lst[i]'hl).toNat : Int)) from fun i hi hl => by
    obtain ⟨_, ad', hA, -⟩ := By.get h (k := i) hi
    refine ⟨ad', hA, fun W hW => ?_⟩
    obtain ⟨_, ad2, hA2, hc2⟩ := By.get hW (k := i) hi
    rw [hA] at hA2
    injection hA2 with hA2
    subst hA2
    exact hc2)
  obtain ⟨ad, hA⟩ : ∃ ad, A = some ad := by
    obtain ⟨ad', hA, -⟩ := BF.out 0 (by omega) (by omega)
    exact ⟨ad', hA⟩
  subst hA
  have BY := hide (show ∀ i (hi : i < 64) (hl : i < lst.length), ∀ W, By W B (some ad) 64 lst → W.cell? (ad.add i) = some (.int .u8 ((lst[i]'hl).toNat : Int)) from fun i hi hl W hW => by
    obtain ⟨ad', hA', hf⟩ := BF.out i hi hl
    injection hA' with hA'
    subst hA'
    exact hf W hW)
  clear BF h
  obtain ⟨y0, hy0⟩ : ∃ y, y = (lst[0]'(by omega)).toNat := ⟨_, rfl⟩
  obtain ⟨y1, hy1⟩ : ∃ y, y = (lst[1]'(by omega)).toNat := ⟨_, rfl⟩
  obtain ⟨y2, hy2⟩ : ∃ y, y = (lst[2]'(by omega)).toNat := ⟨_, rfl⟩
  obtain ⟨y3, hy3⟩ : ∃ y, y = (lst[3]'(by omega)).toNat := ⟨_, rfl⟩
  have BY6 := hide (show ∀ W, By W B (some ad) 64 lst → W.cell? ad = some (.int .u8 (y0 : Int)) ∧ W.cell? ⟨ad.block, ad.off + 1, none⟩ = some (.int .u8 (y1 : Int)) ∧ W.cell? ⟨ad.block, ad.off + 2, none⟩ = some (.int .u8 (y2 : Int)) ∧ W.cell? ⟨ad.block, ad.off + 3, none⟩ = some (.int .u8 (y3 : Int)) ∧ W.cell? ⟨ad.block, ad.off + 4, none⟩ = some (.int .u8 (k : Int)) ∧ W.cell? ⟨ad.block, ad.off + 5, none⟩ = some (.int .u8 (n : Int)) from fun W hW => by
    rw [hy0, hy1, hy2, hy3, q4, q5]
    have h0 := BY.out 0 (by omega) (by omega) W hW
    rw [Addr.add_zero'] at h0
    exact ⟨h0, BY.out 1 (by omega) (by omega) W hW, BY.out 2 (by omega) (by omega) W hW, BY.out 3 (by omega) (by omega) W hW, BY.out 4 (by omega) (by omega) W hW, BY.out 5 (by omega) (by omega) W hW⟩)
  have l0 : y0 < 256 := by rw [hy0]; exact UInt8.toNat_lt _
  have l1 : y1 < 256 := by rw [hy1]; exact UInt8.toNat_lt _
  have l2 : y2 < 256 := by rw [hy2]; exact UInt8.toNat_lt _
  have l3 : y3 < 256 := by rw [hy3]; exact UInt8.toNat_lt _
  have lk : k < 256 := by rw [q4]; exact UInt8.toNat_lt _
  have ln : n < 256 := by rw [q5]; exact UInt8.toNat_lt _
  rw [← hy0, ← hy1] at q0
  rw [← hy2, ← hy3] at q2
  have v0 : IntKind.i64.wrap (y0 : Int) = (y0 : Int) := by rw [IntKind.wrap_i64]; omega
  have v1 : IntKind.i64.wrap (y1 : Int) = (y1 : Int) := by rw [IntKind.wrap_i64]; omega
  have v2 : IntKind.i64.wrap (y2 : Int) = (y2 : Int) := by rw [IntKind.wrap_i64]; omega
  have v3 : IntKind.i64.wrap (y3 : Int) = (y3 : Int) := by rw [IntKind.wrap_i64]; omega
  have v4 : IntKind.i64.wrap (k : Int) = (k : Int) := by rw [IntKind.wrap_i64]; omega
  have v5 : IntKind.i64.wrap (n : Int) = (n : Int) := by rw [IntKind.wrap_i64]; omega
  have m1 : IntKind.i64.wrap (256 * (y1 : Int)) = 256 * (y1 : Int) := by rw [IntKind.wrap_i64]; omega
  have m3 : IntKind.i64.wrap (256 * (y3 : Int)) = 256 * (y3 : Int) := by rw [IntKind.wrap_i64]; omega
  have a1 : IntKind.i64.wrap ((y0 : Int) + 256 * (y1 : Int)) = (a : Int) := by rw [IntKind.wrap_i64]; omega
  have a3 : IntKind.i64.wrap ((y2 : Int) + 256 * (y3 : Int)) = (v : Int) := by rw [IntKind.wrap_i64]; omega
  have hla : a < 65536 ∧ v < 65536 := by omega
  have HLA := hide hla
  clear hy0 hy1 hy2 hy3 q0 q2 q4 q5 hla hll
  go_enter Try.func21, Try.ntmps21
  go_wp2_with fail
  have K0 := hide (Blk.new w 28 #[.int .i64 0, .int .i64 0, .int .i64 0, .int .i64 0, .int .i64 0, .int .u32 0, .int .u32 0, .int .u32 0, .int .u32 0, .int .u32 0, .int .u32 0, .int .u32 0, .int .u32 0, .int .u32 0])
  have B0 := hide ((Below.refl w.heap.size w).alloc (Nat.le_refl _) (.cells #[.int .i64 0, .int .i64 0, .int .i64 0, .int .i64 0, .int .i64 0, .int .u32 0, .int .u32 0, .int .u32 0, .int .u32 0, .int .u32 0, .int .u32 0, .int .u32 0, .int .u32 0, .int .u32 0] 28))
  have H0 := hide (H.out.alloc hB (.cells #[.int .i64 0, .int .i64 0, .int .i64 0, .int .i64 0, .int .i64 0, .int .u32 0, .int .u32 0, .int .u32 0, .int .u32 0, .int .u32 0, .int .u32 0, .int .u32 0, .int .u32 0, .int .u32 0] 28))
  obtain ⟨g0, hg0⟩ : ∃ g0, g0 = w.heap.size := ⟨_, rfl⟩
  have HG := hide hg0
  rw [← hg0] at K0 ⊢
  clear hg0
  generalize w.alloc (.cells #[.int .i64 0, .int .i64 0, .int .i64 0, .int .i64 0, .int .i64 0, .int .u32 0, .int .u32 0, .int .u32 0, .int .u32 0, .int .u32 0, .int .u32 0, .int .u32 0, .int .u32 0, .int .u32 0] 28) = w0 at *
  refine (ropen_good (some ad) 60 c B lst _ H0.out (Nat.le_trans hB B0.out.size) hc (by omega) Hgood.out).mono ?_
  rintro e w1 ⟨rfl, hb1⟩
  have K1 := hide (K0.out.below hb1)
  have B1 := hide (B0.out.trans (hb1.mono B0.out.size))
  clear hb1 K0 B0 H0
  go_wp2_with fail
  have cC : ∀ w' : World, Below w1.heap.size w1 w' → w'.cell? ad = some (.int .u8 (y0 : Int)) ∧ w'.cell? ⟨ad.block, ad.off + 1, none⟩ = some (.int .u8 (y1 : Int)) ∧ w'.cell? ⟨ad.block, ad.off + 2, none⟩ = some (.int .u8 (y2 : Int)) ∧ w'.cell? ⟨ad.block, ad.off + 3, none⟩ = some (.int .u8 (y3 : Int)) ∧ w'.cell? ⟨ad.block, ad.off + 4, none⟩ = some (.int .u8 (k : Int)) ∧ w'.cell? ⟨ad.block, ad.off + 5, none⟩ = some (.int .u8 (n : Int)) := fun w' hb => BY6.out w' (H.out.below ((B1.out.trans (hb.mono B1.out.size)).mono hB))
  have s0 := cC _ (Below.refl _ _).drew
  have CC := hide cC
  clear cC
  refine wp_region_noPanic ?_
  refine wp_region_held_drew (S := (fun w' => w'.cell? ad = some (.int .u8 (y0 : Int)) ∧ w'.cell? ⟨ad.block, ad.off + 1, none⟩ = some (.int .u8 (y1 : Int)) ∧ w'.cell? ⟨ad.block, ad.off + 2, none⟩ = some (.int .u8 (y2 : Int)) ∧ w'.cell? ⟨ad.block, ad.off + 3, none⟩ = some (.int .u8 (y3 : Int)) ∧ w'.cell? ⟨ad.block, ad.off + 4, none⟩ = some (.int .u8 (k : Int)) ∧ w'.cell? ⟨ad.block, ad.off + 5, none⟩ = some (.int .u8 (n : Int)))) (by kernel_rfl) ?_ (fun hHeld => ?_)
  · ((try dsimp only) <;> (first | trivial | assumption | go_keep))
  refine wpAnyH_take (i := 0) (v := ?_) (by simp only [List.getElem?_toArray, List.getElem?_cons_succ, List.getElem?_cons_zero]; rfl) (by kernel_rfl) (by kernel_rfl) (by kernel_rfl) (fun _ _ _ h => h) (Or.inl ⟨by rfl, ?_⟩) (by assumption) ?_
  rotate_left 1
  · (intro w hSw; (try dsimp only at hSw); go_simp; try with_reducible rfl)
  try simp only [Act.put, List.setIfInBounds_toArray, List.set_cons_zero, List.set_cons_succ]
  refine wpAnyH_take (i := 1) (v := ?_) (by simp only [List.getElem?_toArray, List.getElem?_cons_succ, List.getElem?_cons_zero]; rfl) (by kernel_rfl) (by kernel_rfl) (by kernel_rfl) (fun _ _ _ h => h) (Or.inl ⟨by rfl, ?_⟩) (by assumption) ?_
  rotate_left 1
  · (intro w hSw; (try dsimp only at hSw); go_simp; try with_reducible rfl)
  try simp only [Act.put, List.setIfInBounds_toArray, List.set_cons_zero, List.set_cons_succ]
  refine wpAnyH_take (i := 2) (v := ?_) (by simp only [List.getElem?_toArray, List.getElem?_cons_succ, List.getElem?_cons_zero]; rfl) (by kernel_rfl) (by kernel_rfl) (by kernel_rfl) (fun _ _ _ h => h) (Or.inl ⟨by rfl, ?_⟩) (by assumption) ?_
  rotate_left 1
  · (intro w hSw; (try dsimp only at hSw); go_simp; try with_reducible rfl)
  try simp only [Act.put, List.setIfInBounds_toArray, List.set_cons_zero, List.set_cons_succ]
  refine wpAnyH_take (i := 3) (v := ?_) (by simp only [List.getElem?_toArray, List.getElem?_cons_succ, List.getElem?_cons_zero]; rfl) (by kernel_rfl) (by kernel_rfl) (by kernel_rfl) (fun _ _ _ h => h) (Or.inl ⟨by rfl, ?_⟩) (by assumption) ?_
  rotate_left 1
  · (intro w hSw; (try dsimp only at hSw); go_simp; try with_reducible rfl)
  try simp only [Act.put, List.setIfInBounds_toArray, List.set_cons_zero, List.set_cons_succ]
  refine wpAnyH_take (i := 4) (v := ?_) (by simp only [List.getElem?_toArray, List.getElem?_cons_succ, List.getElem?_cons_zero]; rfl) (by kernel_rfl) (by kernel_rfl) (by kernel_rfl) (fun _ _ _ h => h) (Or.inl ⟨by rfl, ?_⟩) (by assumption) ?_
  rotate_left 1
  · (intro w hSw; (try dsimp only at hSw); go_simp; try with_reducible rfl)
  try simp only [Act.put, List.setIfInBounds_toArray, List.set_cons_zero, List.set_cons_succ]
  refine wpAnyH_take (i := 5) (v := ?_) (by simp only [List.getElem?_toArray, List.getElem?_cons_succ, List.getElem?_cons_zero]; rfl) (by kernel_rfl) (by kernel_rfl) (by kernel_rfl) (fun _ _ _ h => h) (Or.inl ⟨by rfl, ?_⟩) (by assumption) ?_
  rotate_left 1
  · (intro w hSw; (try dsimp only at hSw); go_simp; try with_reducible rfl)
  try simp only [Act.put, List.setIfInBounds_toArray, List.set_cons_zero, List.set_cons_succ]
  refine wpAnyH_take (i := 6) (v := ?_) (by simp only [List.getElem?_toArray, List.getElem?_cons_succ, List.getElem?_cons_zero]; rfl) (by kernel_rfl) (by kernel_rfl) (by kernel_rfl) (fun _ _ _ h => h) (Or.inl ⟨by rfl, ?_⟩) (by assumption) ?_
  rotate_left 1
  · (intro w hSw; (try dsimp only at hSw); go_simp; try with_reducible rfl)
  try simp only [Act.put, List.setIfInBounds_toArray, List.set_cons_zero, List.set_cons_succ]
  refine wpAnyH_take (i := 7) (v := ?_) (by simp only [List.getElem?_toArray, List.getElem?_cons_succ, List.getElem?_cons_zero]; rfl) (by kernel_rfl) (by kernel_rfl) (by kernel_rfl) (fun _ _ _ h => h) (Or.inl ⟨by rfl, ?_⟩) (by assumption) ?_
  rotate_left 1
  · (intro w hSw; (try dsimp only at hSw); go_simp; try with_reducible rfl)
  try simp only [Act.put, List.setIfInBounds_toArray, List.set_cons_zero, List.set_cons_succ]
  refine wpAnyH_take (i := 8) (v := ?_) (by simp only [List.getElem?_toArray, List.getElem?_cons_succ, List.getElem?_cons_zero]; rfl) (by kernel_rfl) (by kernel_rfl) (by kernel_rfl) (fun _ _ _ h => h) (Or.inl ⟨by rfl, ?_⟩) (by assumption) ?_
  rotate_left 1
  · (intro w hSw; (try dsimp only at hSw); go_simp; try with_reducible rfl)
  try simp only [Act.put, List.setIfInBounds_toArray, List.set_cons_zero, List.set_cons_succ]
  refine wpAnyH_take (i := 9) (v := ?_) (by simp only [List.getElem?_toArray, List.getElem?_cons_succ, List.getElem?_cons_zero]; rfl) (by kernel_rfl) (by kernel_rfl) (by kernel_rfl) (fun _ _ _ h => h) (Or.inl ⟨by rfl, ?_⟩) (by assumption) ?_
  rotate_left 1
  · (intro w hSw; (try dsimp only at hSw); go_simp; try with_reducible rfl)
  try simp only [Act.put, List.setIfInBounds_toArray, List.set_cons_zero, List.set_cons_succ]
  refine wpAnyH_take (i := 10) (v := ?_) (by simp only [List.getElem?_toArray, List.getElem?_cons_succ, List.getElem?_cons_zero]; rfl) (by kernel_rfl) (by kernel_rfl) (by kernel_rfl) (fun _ _ _ h => h) (Or.inl ⟨by rfl, ?_⟩) (by assumption) ?_
  rotate_left 1
  · (intro w hSw; (try dsimp only at hSw); go_simp; try with_reducible rfl)
  try simp only [Act.put, List.setIfInBounds_toArray, List.set_cons_zero, List.set_cons_succ]
  refine wpAnyH_take (i := 11) (v := ?_) (by simp only [List.getElem?_toArray, List.getElem?_cons_succ, List.getElem?_cons_zero]; rfl) (by kernel_rfl) (by kernel_rfl) (by kernel_rfl) (fun _ _ _ h => h) (Or.inl ⟨by rfl, ?_⟩) (by assumption) ?_
  rotate_left 1
  · (intro w hSw; (try dsimp only at hSw); go_simp; try with_reducible rfl)
  try simp only [Act.put, List.setIfInBounds_toArray, List.set_cons_zero, List.set_cons_succ]
  refine wpAnyH_take (i := 12) (v := ?_) (by simp only [List.getElem?_toArray, List.getElem?_cons_succ, List.getElem?_cons_zero]; rfl) (by kernel_rfl) (by kernel_rfl) (by kernel_rfl) (fun _ _ _ h => h) (Or.inl ⟨by rfl, ?_⟩) (by assumption) ?_
  rotate_left 1
  · (intro w hSw; (try dsimp only at hSw); go_simp; try with_reducible rfl)
  try simp only [Act.put, List.setIfInBounds_toArray, List.set_cons_zero, List.set_cons_succ]
  refine wpAnyH_take (i := 13) (v := ?_) (by simp only [List.getElem?_toArray, List.getElem?_cons_succ, List.getElem?_cons_zero]; rfl) (by kernel_rfl) (by kernel_rfl) (by kernel_rfl) (fun _ _ _ h => h) (Or.inl ⟨by rfl, ?_⟩) (by assumption) ?_
  rotate_left 1
  · (intro w hSw; (try dsimp only at hSw); go_simp; try with_reducible rfl)
  try simp only [Act.put, List.setIfInBounds_toArray, List.set_cons_zero, List.set_cons_succ]
  refine wpAnyH_take (i := 14) (v := ?_) (by simp only [List.getElem?_toArray, List.getElem?_cons_succ, List.getElem?_cons_zero]; rfl) (by kernel_rfl) (by kernel_rfl) (by kernel_rfl) (fun _ _ _ h => h) (Or.inl ⟨by rfl, ?_⟩) (by assumption) ?_
  rotate_left 1
  · (intro w hSw; (try dsimp only at hSw); go_simp; try with_reducible rfl)
  try simp only [Act.put, List.setIfInBounds_toArray, List.set_cons_zero, List.set_cons_succ]
  refine wpAnyH_take (i := 15) (v := ?_) (by simp only [List.getElem?_toArray, List.getElem?_cons_succ, List.getElem?_cons_zero]; rfl) (by kernel_rfl) (by kernel_rfl) (by kernel_rfl) (fun _ _ _ h => h) (Or.inl ⟨by rfl, ?_⟩) (by assumption) ?_
  rotate_left 1
  · (intro w hSw; (try dsimp only at hSw); go_simp; try with_reducible rfl)
  try simp only [Act.put, List.setIfInBounds_toArray, List.set_cons_zero, List.set_cons_succ]
  refine wpAnyH_take (i := 16) (v := ?_) (by simp only [List.getElem?_toArray, List.getElem?_cons_succ, List.getElem?_cons_zero]; rfl) (by kernel_rfl) (by kernel_rfl) (by kernel_rfl) (fun _ _ _ h => h) (Or.inl ⟨by rfl, ?_⟩) (by assumption) ?_
  rotate_left 1
  · (intro w hSw; (try dsimp only at hSw); go_simp; try with_reducible rfl)
  try simp only [Act.put, List.setIfInBounds_toArray, List.set_cons_zero, List.set_cons_succ]
  refine wpAnyH_take (i := 17) (v := ?_) (by simp only [List.getElem?_toArray, List.getElem?_cons_succ, List.getElem?_cons_zero]; rfl) (by kernel_rfl) (by kernel_rfl) (by kernel_rfl) (fun _ _ _ h => h) (Or.inl ⟨by rfl, ?_⟩) (by assumption) ?_
  rotate_left 1
  · (intro w hSw; (try dsimp only at hSw); go_simp; try with_reducible rfl)
  try simp only [Act.put, List.setIfInBounds_toArray, List.set_cons_zero, List.set_cons_succ]
  refine wpAnyH_take (i := 18) (v := ?_) (by simp only [List.getElem?_toArray, List.getElem?_cons_succ, List.getElem?_cons_zero]; rfl) (by kernel_rfl) (by kernel_rfl) (by kernel_rfl) (fun _ _ _ h => h) (Or.inl ⟨by rfl, ?_⟩) (by assumption) ?_
  rotate_left 1
  · (intro w hSw; (try dsimp only at hSw); go_simp; try with_reducible rfl)
  try simp only [Act.put, List.setIfInBounds_toArray, List.set_cons_zero, List.set_cons_succ]
  refine wpAnyH_take (i := 19) (v := ?_) (by simp only [List.getElem?_toArray, List.getElem?_cons_succ, List.getElem?_cons_zero]; rfl) (by kernel_rfl) (by kernel_rfl) (by kernel_rfl) (fun _ _ _ h => h) (Or.inl ⟨by rfl, ?_⟩) (by assumption) ?_
  rotate_left 1
  · (intro w hSw; (try dsimp only at hSw); go_simp; try with_reducible rfl)
  try simp only [Act.put, List.setIfInBounds_toArray, List.set_cons_zero, List.set_cons_succ]
  refine wpAnyH_take (i := 20) (v := ?_) (by simp only [List.getElem?_toArray, List.getElem?_cons_succ, List.getElem?_cons_zero]; rfl) (by kernel_rfl) (by kernel_rfl) (by kernel_rfl) (fun _ _ _ h => h) (Or.inl ⟨by rfl, ?_⟩) (by assumption) ?_
  rotate_left 1
  · (intro w hSw; (try dsimp only at hSw); go_simp; try with_reducible rfl)
  try simp only [Act.put, List.setIfInBounds_toArray, List.set_cons_zero, List.set_cons_succ]
  refine wpAnyH_take (i := 21) (v := ?_) (by simp only [List.getElem?_toArray, List.getElem?_cons_succ, List.getElem?_cons_zero]; rfl) (by kernel_rfl) (by kernel_rfl) (by kernel_rfl) (fun _ _ _ h => h) (Or.inl ⟨by rfl, ?_⟩) (by assumption) ?_
  rotate_left 1
  · (intro w hSw; (try dsimp only at hSw); go_simp; try with_reducible rfl)
  try simp only [Act.put, List.setIfInBounds_toArray, List.set_cons_zero, List.set_cons_succ]
  refine wpAnyH_take (i := 22) (v := ?_) (by simp only [List.getElem?_toArray, List.getElem?_cons_succ, List.getElem?_cons_zero]; rfl) (by kernel_rfl) (by kernel_rfl) (by kernel_rfl) (fun _ _ _ h => h) (Or.inl ⟨by rfl, ?_⟩) (by assumption) ?_
  rotate_left 1
  · (intro w hSw; (try dsimp only at hSw); go_simp; try with_reducible rfl)
  try simp only [Act.put, List.setIfInBounds_toArray, List.set_cons_zero, List.set_cons_succ]
  refine wpAnyH_take (i := 23) (v := ?_) (by simp only [List.getElem?_toArray, List.getElem?_cons_succ, List.getElem?_cons_zero]; rfl) (by kernel_rfl) (by kernel_rfl) (by kernel_rfl) (fun _ _ _ h => h) (Or.inl ⟨by rfl, ?_⟩) (by assumption) ?_
  rotate_left 1
  · (intro w hSw; (try dsimp only at hSw); go_simp; try with_reducible rfl)
  try simp only [Act.put, List.setIfInBounds_toArray, List.set_cons_zero, List.set_cons_succ]
  refine wpAnyH_take (i := 24) (v := ?_) (by simp only [List.getElem?_toArray, List.getElem?_cons_succ, List.getElem?_cons_zero]; rfl) (by kernel_rfl) (by kernel_rfl) (by kernel_rfl) (fun _ _ _ h => h) (Or.inl ⟨by rfl, ?_⟩) (by assumption) ?_
  rotate_left 1
  · (intro w hSw; (try dsimp only at hSw); go_simp; try with_reducible rfl)
  try simp only [Act.put, List.setIfInBounds_toArray, List.set_cons_zero, List.set_cons_succ]
  refine wpAnyH_take (i := 25) (v := ?_) (by simp only [List.getElem?_toArray, List.getElem?_cons_succ, List.getElem?_cons_zero]; rfl) (by kernel_rfl) (by kernel_rfl) (by kernel_rfl) (fun _ _ _ h => h) (Or.inl ⟨by rfl, ?_⟩) (by assumption) ?_
  rotate_left 1
  · (intro w hSw; (try dsimp only at hSw); go_simp; try with_reducible rfl)
  try simp only [Act.put, List.setIfInBounds_toArray, List.set_cons_zero, List.set_cons_succ]
  refine wpAnyH_take (i := 26) (v := ?_) (by simp only [List.getElem?_toArray, List.getElem?_cons_succ, List.getElem?_cons_zero]; rfl) (by kernel_rfl) (by kernel_rfl) (by kernel_rfl) (fun _ _ _ h => h) (Or.inl ⟨by rfl, ?_⟩) (by assumption) ?_
  rotate_left 1
  · (intro w hSw; (try dsimp only at hSw); go_simp; try with_reducible rfl)
  try simp only [Act.put, List.setIfInBounds_toArray, List.set_cons_zero, List.set_cons_succ]
  refine wpAnyH_take (i := 27) (v := ?_) (by simp only [List.getElem?_toArray, List.getElem?_cons_succ, List.getElem?_cons_zero]; rfl) (by kernel_rfl) (by kernel_rfl) (by kernel_rfl) (fun _ _ _ h => h) (Or.inl ⟨by rfl, ?_⟩) (by assumption) ?_
  rotate_left 1
  · (intro w hSw; (try dsimp only at hSw); go_simp; try with_reducible rfl)
  try simp only [Act.put, List.setIfInBounds_toArray, List.set_cons_zero, List.set_cons_succ]
  refine wpAnyH_take (i := 28) (v := ?_) (by simp only [List.getElem?_toArray, List.getElem?_cons_succ, List.getElem?_cons_zero]; rfl) (by kernel_rfl) (by kernel_rfl) (by kernel_rfl) (fun _ _ _ h => h) (Or.inl ⟨by rfl, ?_⟩) (by assumption) ?_
  rotate_left 1
  · (intro w hSw; (try dsimp only at hSw); go_simp; try with_reducible rfl)
  try simp only [Act.put, List.setIfInBounds_toArray, List.set_cons_zero, List.set_cons_succ]
  refine wpAnyH_ready (rs := [29]) (by kernel_rfl) (by simp) ?_
  refine AllReadyH.cons (by simp only [List.getElem?_toArray, List.getElem?_cons_succ, List.getElem?_cons_zero]; rfl) (fun K hK => ?_) ?_
  rotate_left 1
  · exact AllReadyH.nil
  go_simp
  refine hK.out _ _ ?_ (fun hHeld2 => ?_)
  · ((try dsimp only) <;> (exact CC.out _ ((Below.refl _ _).drew.alloc (Nat.le_refl _) _)))
  clear hHeld
  have hHeld := hHeld2
  clear hHeld2 hK K
  try simp only [Act.put, List.setIfInBounds_toArray, List.set_cons_zero, List.set_cons_succ]
  refine wpAnyH_ready (rs := [30]) (by kernel_rfl) (by simp) ?_
  refine AllReadyH.cons (by simp only [List.getElem?_toArray, List.getElem?_cons_succ, List.getElem?_cons_zero]; rfl) (fun K hK => ?_) ?_
  rotate_left 1
  · exact AllReadyH.nil
  go_simp
  refine hK.out _ _ ?_ (fun hHeld2 => ?_)
  · ((try dsimp only) <;> (exact CC.out _ ((Below.refl _ _).alloc (Nat.le_refl _) _).drew))
  clear hHeld
  have hHeld := hHeld2
  clear hHeld2 hK K
  try simp only [Act.put, List.setIfInBounds_toArray, List.set_cons_zero, List.set_cons_succ]
  refine wpAnyH_done (by kernel_rfl) ?_ _
  refine NoPanic.normal ?_
  clear hHeld s0 CC
  have K6 := (Blk.new w1 28 #[.int .i64 (a : Int), .int .i64 (v : Int), .int .i64 (k : Int), .int .i64 (n : Int), .int .i64 0, .int .u32 0, .int .u32 0, .int .u32 0, .int .u32 0, .int .u32 0, .int .u32 0, .int .u32 0, .int .u32 0, .int .u32 0]).drew
  have K7 := hide ((K1.out.alloc (.cells #[.int .i64 (a : Int), .int .i64 (v : Int), .int .i64 (k : Int), .int .i64 (n : Int), .int .i64 0, .int .u32 0, .int .u32 0, .int .u32 0, .int .u32 0, .int .u32 0, .int .u32 0, .int .u32 0, .int .u32 0, .int .u32 0] 28)).drew)
  have B7 := hide ((B1.out.alloc B1.out.size (.cells #[.int .i64 (a : Int), .int .i64 (v : Int), .int .i64 (k : Int), .int .i64 (n : Int), .int .i64 0, .int .u32 0, .int .u32 0, .int .u32 0, .int .u32 0, .int .u32 0, .int .u32 0, .int .u32 0, .int .u32 0, .int .u32 0] 28)).drew)
  have hne : g0 ≠ w1.heap.size := Nat.ne_of_lt K1.out.lt
  have hge : Hid (w.heap.size ≤ w1.heap.size) := hide B1.out.size
  generalize (w1.alloc (.cells #[.int .i64 (a : Int), .int .i64 (v : Int), .int .i64 (k : Int), .int .i64 (n : Int), .int .i64 0, .int .u32 0, .int .u32 0, .int .u32 0, .int .u32 0, .int .u32 0, .int .u32 0, .int .u32 0, .int .u32 0, .int .u32 0] 28)).drew = w2 at *
  generalize w1.heap.size = g6 at *
  have K6 := hide (show Blk w2 g6 28 (cellsI a v k n (topF lst 6 4) (ptF lst 4)) from by rw [topF_four, ptF_four]; exact K6)
  clear K1 B1 v0 v1 v2 v3 v4 v5 m1 m3 a1 a3 l0 l1 l2 l3 BY6
  go_wp2_with fail
  go_loopw [7] (fun x wr => ∃ q : Nat, q ≤ 4 ∧ x = .int .i64 ((q : Int) - 1) ∧ Blk wr g6 28 (cellsI a v k n (topF lst 6 q) (ptF lst q)) ∧ Blk wr g0 28 #[.int .i64 0, .int .i64 0, .int .i64 0, .int .i64 0, .int .i64 0, .int .u32 0, .int .u32 0, .int .u32 0, .int .u32 0, .int .u32 0, .int .u32 0, .int .u32 0, .int .u32 0, .int .u32 0] ∧ Below w.heap.size w wr) (fun x _ => (intOf x + 1).toNat)
  case atStart => exact ⟨4, Nat.le_refl _, rfl, K6.out, K7.out, B7.out⟩
  case round =>
    obtain ⟨q, hq, rfl, h1, h2, h3⟩ := hrel
    have H1 := hide h1
    have H2 := hide h2
    have H3 := hide h3
    clear h1 h2 h3 K7 B7
    rcases Nat.eq_zero_or_pos q with rfl | hpos
    · have KE : Hid (Blk wr g6 28 #[.int .i64 (a : Int), .int .i64 (v : Int), .int .i64 (k : Int), .int .i64 (n : Int), .int .i64 (s : Int), .int .u32 (p0 : Int), .int .u32 (p1 : Int), .int .u32 (p2 : Int), .int .u32 (p3 : Int), .int .u32 (p4 : Int), .int .u32 (p5 : Int), .int .u32 (p6 : Int), .int .u32 (p7 : Int), .int .u32 (p8 : Int)]) := hide (by have h := H1.out; rw [TS0.out, PT0.out] at h; exact h)
      simp only [show (((0 : Nat) : Int) - 1) = -1 from rfl]
      have HY := hide (H.out.below (H3.out.mono hB))
      have hBr : Hid (B ≤ wr.heap.size) := hide (Nat.le_trans hB H3.out.size)
      have cC : ∀ w' : World, Below wr.heap.size wr w' → w'.cell? ⟨g6, 0, none⟩ = some (.int .i64 (a : Int)) ∧ w'.cell? ⟨g6, 1, none⟩ = some (.int .i64 (v : Int)) ∧ w'.cell? ⟨g6, 2, none⟩ = some (.int .i64 (k : Int)) ∧ w'.cell? ⟨g6, 3, none⟩ = some (.int .i64 (n : Int)) ∧ w'.cell? ⟨g6, 4, none⟩ = some (.int .i64 (s : Int)) ∧ w'.cell? ⟨g6, 5, none⟩ = some (.int .u32 (p0 : Int)) ∧ w'.cell? ⟨g6, 6, none⟩ = some (.int .u32 (p1 : Int)) ∧ w'.cell? ⟨g6, 7, none⟩ = some (.int .u32 (p2 : Int)) ∧ w'.cell? ⟨g6, 8, none⟩ = some (.int .u32 (p3 : Int)) ∧ w'.cell? ⟨g6, 9, none⟩ = some (.int .u32 (p4 : Int)) ∧ w'.cell? ⟨g6, 10, none⟩ = some (.int .u32 (p5 : Int)) ∧ w'.cell? ⟨g6, 11, none⟩ = some (.int .u32 (p6 : Int)) ∧ w'.cell? ⟨g6, 12, none⟩ = some (.int .u32 (p7 : Int)) ∧ w'.cell? ⟨g6, 13, none⟩ = some (.int .u32 (p8 : Int)) := fun w' hb => blk14 (KE.out.below hb)
      have s0 := cC _ (Below.refl _ _).drew
      have CC := hide cC
      have FB' := FB.out
      obtain ⟨b0, b1, b2, b3, b4, b5, b6, b7, b8⟩ := FB'
      clear cC H1 hq
      go_wp2_with fail
      refine wp_region_noPanic ?_
      refine wp_region_held_drew (S := (fun w' => w'.cell? ⟨g6, 0, none⟩ = some (.int .i64 (a : Int)) ∧ w'.cell? ⟨g6, 1, none⟩ = some (.int .i64 (v : Int)) ∧ w'.cell? ⟨g6, 2, none⟩ = some (.int .i64 (k : Int)) ∧ w'.cell? ⟨g6, 3, none⟩ = some (.int .i64 (n : Int)) ∧ w'.cell? ⟨g6, 4, none⟩ = some (.int .i64 (s : Int)) ∧ w'.cell? ⟨g6, 5, none⟩ = some (.int .u32 (p0 : Int)) ∧ w'.cell? ⟨g6, 6, none⟩ = some (.int .u32 (p1 : Int)) ∧ w'.cell? ⟨g6, 7, none⟩ = some (.int .u32 (p2 : Int)) ∧ w'.cell? ⟨g6, 8, none⟩ = some (.int .u32 (p3 : Int)) ∧ w'.cell? ⟨g6, 9, none⟩ = some (.int .u32 (p4 : Int)) ∧ w'.cell? ⟨g6, 10, none⟩ = some (.int .u32 (p5 : Int)) ∧ w'.cell? ⟨g6, 11, none⟩ = some (.int .u32 (p6 : Int)) ∧ w'.cell? ⟨g6, 12, none⟩ = some (.int .u32 (p7 : Int)) ∧ w'.cell? ⟨g6, 13, none⟩ = some (.int .u32 (p8 : Int)))) (by kernel_rfl) ?_ (fun hHeld => ?_)
      · ((try dsimp only) <;> (first | trivial | assumption | go_keep))
      clear s0
      refine wpAnyH_take (i := 0) (v := ?_) (by simp only [List.getElem?_toArray, List.getElem?_cons_succ, List.getElem?_cons_zero]; rfl) (by kernel_rfl) (by kernel_rfl) (by kernel_rfl) (fun _ _ _ h => h) (Or.inl ⟨by rfl, ?_⟩) (by assumption) ?_
      rotate_left 1
      · (intro w hSw; (try dsimp only at hSw); go_simp; try with_reducible rfl)
      try simp only [Act.put, List.setIfInBounds_toArray, List.set_cons_zero, List.set_cons_succ]
      by_cases hg : InoP a v k n s
      · have G1 := hide (fun w => good_yes a v k n s p0 p1 p2 p3 p4 p5 p6 p7 p8 w hg)
        have E1 := hide (fun w => renc_any a v k n s p0 p1 p2 p3 p4 p5 p6 p7 p8 w hg b0 b1 b2 b3 b4 b5 b6 b7 b8)
        have Hg := hide hg
        clear hg b0 b1 b2 b3 b4 b5 b6 b7 b8
        refine wpAnyH_ready (rs := [1]) (by kernel_rfl) (by simp) ?_
        refine AllReadyH.cons (by simp only [List.getElem?_toArray, List.getElem?_cons_succ, List.getElem?_cons_zero]; rfl) (fun K hK => ?_) ?_
        rotate_left 1
        · exact AllReadyH.nil
        go_simp
        refine (G1.out _).mono ?_; rintro e w5 ⟨rfl, hb5⟩; have B5 := hide ((Below.refl wr.heap.size wr).drew.trans (hb5.mono (Nat.le_refl _))); have s5 := CC.out _ B5.out; clear hb5; go_wp2_with fail
        refine hK.out _ _ ?_ (fun hHeld2 => ?_)
        · ((try dsimp only) <;> (first | trivial | assumption | go_keep))
        clear hHeld
        have hHeld := hHeld2
        clear hHeld2 hK K
        try simp only [Act.put, List.setIfInBounds_toArray, List.set_cons_zero, List.set_cons_succ]
        refine wpAnyH_take (i := 2) (v := ?_) (by simp only [List.getElem?_toArray, List.getElem?_cons_succ, List.getElem?_cons_zero]; rfl) (by kernel_rfl) (by kernel_rfl) (by kernel_rfl) (fun _ _ _ h => h) (Or.inl ⟨by rfl, ?_⟩) (by assumption) ?_
        rotate_left 1
        · (intro w hSw; (try dsimp only at hSw); go_simp; try with_reducible rfl)
        try simp only [Act.put, List.setIfInBounds_toArray, List.set_cons_zero, List.set_cons_succ]
        refine wpAnyH_take (i := 3) (v := ?_) (by simp only [List.getElem?_toArray, List.getElem?_cons_succ, List.getElem?_cons_zero]; rfl) (by kernel_rfl) (by kernel_rfl) (by kernel_rfl) (fun _ _ _ h => h) (Or.inl ⟨by rfl, ?_⟩) (by assumption) ?_
        rotate_left 1
        · (intro w hSw; (try dsimp only at hSw); go_simp; try with_reducible rfl)
        try simp only [Act.put, List.setIfInBounds_toArray, List.set_cons_zero, List.set_cons_succ]
        refine wpAnyH_take (i := 4) (v := ?_) (by simp only [List.getElem?_toArray, List.getElem?_cons_succ, List.getElem?_cons_zero]; rfl) (by kernel_rfl) (by kernel_rfl) (by kernel_rfl) (fun _ _ _ h => h) (Or.inl ⟨by rfl, ?_⟩) (by assumption) ?_
        rotate_left 1
        · (intro w hSw; (try dsimp only at hSw); go_simp; try with_reducible rfl)
        try simp only [Act.put, List.setIfInBounds_toArray, List.set_cons_zero, List.set_cons_succ]
        refine wpAnyH_take (i := 7) (v := ?_) (by simp only [List.getElem?_toArray, List.getElem?_cons_succ, List.getElem?_cons_zero]; rfl) (by kernel_rfl) (by kernel_rfl) (by kernel_rfl) (fun _ _ _ h => h) (Or.inl ⟨by rfl, ?_⟩) (by assumption) ?_
        rotate_left 1
        · (intro w hSw; (try dsimp only at hSw); go_simp; try with_reducible rfl)
        try simp only [Act.put, List.setIfInBounds_toArray, List.set_cons_zero, List.set_cons_succ]
        obtain ⟨en, hen⟩ : ∃ en, en = sealed (inoBytes a v k n s [p0, p1, p2, p3, p4, p5, p6, p7, p8]) := ⟨_, rfl⟩
        rw [← hen] at E1
        have HEN := hide hen
        have HY5 := hide (HY.out.below (B5.out.mono hBr.out))
        have hB5 : Hid (B ≤ w5.heap.size) := hide (Nat.le_trans hBr.out B5.out.size)
        clear hen
        refine region_rows (fuel := 2) (w0 := w5) (base := w5.heap.size) (stop := 9) (C := [⟨5, 93, [], [], RdF 5 w5.heap.size (u8s en)⟩, ⟨6, 94, [], [5], StrF en⟩, ⟨8, 96, [], [], StrF lst⟩])
          (ok_of_cd (by kernel_rfl)) ?hok ?hst ?hS (Below.refl _ _) (Nat.le_refl _) ?hend
        case hok =>
          intro y hy
          simp only [List.mem_cons, List.not_mem_nil, or_false] at hy
          rcases hy with rfl | rfl | rfl
          · exact rdF_ok _ _ _ _ _ _ _
          · exact strF_ok _ _ _ _ _ _
          · exact strF_ok _ _ _ _ _ _
        case hS =>
          intro w' hb _
          exact CC.out w' (B5.out.trans (hb.mono B5.out.size))
        case hst =>
          intro y hy
          simp only [List.mem_cons, List.not_mem_nil, or_false] at hy
          rcases hy with rfl | rfl | rfl
          · exact CO.step_call (by simp only [List.getElem?_toArray, List.getElem?_cons_succ, List.getElem?_cons_zero]; rfl) (want_of (by rfl) (by rfl) (by rfl) (by intro z hz; simp only [List.mem_cons, List.not_mem_nil, or_false] at hz; rcases hz with rfl | rfl | rfl <;> simp) (by rfl)) (by rfl) Try.func20 (by kernel_rfl) (by rfl) #[.tmp 92] _ (by rfl) (fun a' w' e1 e2 e3 e4 => by
              have hv : a'.tmps.getD 92 undef = inoV a v k n s p0 p1 p2 p3 p4 p5 p6 p7 p8 := (e3 92 (by intro z hz; simp only [List.mem_cons, List.not_mem_nil, or_false] at hz; rcases hz with rfl | rfl | rfl <;> simp)).trans (by rfl)
              have := E1.out w'
              simp only [List.map_toArray, List.map_cons, List.map_nil, Act.eval, hv]
              refine this.mono ?_
              rintro e w2' ⟨A', c', rfl, ho, hb⟩
              exact ⟨_, rfl, ⟨A', 64, c', c', rfl, own_bq ho e2⟩, hb, fun g hg => (World.ownsRow.lt ho g (ownBlock_vbs.2 (vbs_cap.1 hg))).1⟩)
          · exact CO.step_conv (by simp only [List.getElem?_toArray, List.getElem?_cons_succ, List.getElem?_cons_zero]; rfl) (want_of (by rfl) (by rfl) (by rfl) (by intro z hz; simp only [List.mem_cons, List.not_mem_nil, or_false] at hz; rcases hz with rfl | rfl | rfl <;> simp) (by rfl)) (by rfl) 93 (by rfl) Try.underlying29 Try.underlying5 Try.underlying9 en (fun a' w' e1 e2 e3 e4 => by
              obtain ⟨A', n', c', hv, hb⟩ := rd_by (e4 ⟨5, 93, [], [], RdF 5 w5.heap.size (u8s en)⟩ (by simp) (by simp))
              exact ⟨_, A', n', c', hv, hb⟩) rfl
          · exact CO.step_conv (by simp only [List.getElem?_toArray, List.getElem?_cons_succ, List.getElem?_cons_zero]; rfl) (want_of (by rfl) (by rfl) (by rfl) (by intro z hz; simp only [List.mem_cons, List.not_mem_nil, or_false] at hz; rcases hz with rfl | rfl | rfl <;> simp) (by rfl)) (by rfl) 95 (by rfl) Try.underlying29 Try.underlying5 Try.underlying9 lst (fun a' w' e1 e2 e3 e4 => ⟨_, some ad, 64, c, (e3 95 (by intro z hz; simp only [List.mem_cons, List.not_mem_nil, or_false] at hz; rcases hz with rfl | rfl | rfl <;> simp)).trans (by rfl), HY5.out.below (e1.mono hB5.out)⟩) rfl
        case hend =>
          intro vals w6 hb6 hs6 hF hap
          have f6 := hF ⟨6, 94, [], [5], StrF en⟩ (by simp) (by simp)
          have f8 := hF ⟨8, 96, [], [], StrF lst⟩ (by simp) (by simp)
          clear hF hap
          simp only [StrF] at f6 f8
          simp only [List.foldl_cons, List.foldl_nil, f6, f8]
          generalize vals 5 = x5
          clear f6 f8
          simp only [Act.put, List.setIfInBounds_toArray, List.set_cons_zero, List.set_cons_succ]
          have B6 := hide (B5.out.trans (hb6.mono B5.out.size))
          replace hHeld := CC.out w6 B6.out
          have K6 := hide (KE.out.below B6.out)
          have K0 := hide (H2.out.below B6.out)
          have B7 := hide (H3.out.trans (B6.out.mono H3.out.size))
          clear hb6 hs6
          by_cases he : en = lst
          · have he2 : ((txt en).toList == (txt lst).toList) = true := by rw [he]; exact txt_eq _
            have HE := hide he
            clear he
            refine wpAnyH_take (i := 9) (v := ?_) (by simp only [List.getElem?_toArray, List.getElem?_cons_succ, List.getElem?_cons_zero]; rfl) (by kernel_rfl) (by kernel_rfl) (by kernel_rfl) (fun _ _ _ h => h) (Or.inl ⟨by rfl, ?_⟩) (by assumption) ?_
            rotate_left 1
            · (intro w hSw; (try dsimp only at hSw); go_simp; try with_reducible rfl)
            try simp only [Act.put, List.setIfInBounds_toArray, List.set_cons_zero, List.set_cons_succ]
            refine wpAnyH_take (i := 10) (v := ?_) (by simp only [List.getElem?_toArray, List.getElem?_cons_succ, List.getElem?_cons_zero]; rfl) (by kernel_rfl) (by kernel_rfl) (by kernel_rfl) (fun _ _ _ h => h) (Or.inl ⟨by rfl, ?_⟩) (by assumption) ?_
            rotate_left 1
            · (intro w hSw; (try dsimp only at hSw); go_simp; try with_reducible rfl)
            try simp only [Act.put, List.setIfInBounds_toArray, List.set_cons_zero, List.set_cons_succ]
            refine wpAnyH_done (by kernel_rfl) ?_ _
            refine NoPanic.normal ?_
            clear hHeld
            obtain ⟨c0, c1, c2, c3, c4, c5, c6, c7, c8, c9, c10, c11, c12, c13⟩ := blk14 K6.out
            obtain ⟨z0, z1, z2, z3, z4, z5, z6, z7, z8, z9, z10, z11, z12, z13⟩ := blk14 K0.out
            have f0 := K0.out.frozen 0
            have f1 := K0.out.frozen 1
            have f2 := K0.out.frozen 2
            have f3 := K0.out.frozen 3
            have f4 := K0.out.frozen 4
            have f5 := K0.out.frozen 5
            have f6 := K0.out.frozen 6
            have f7 := K0.out.frozen 7
            have f8 := K0.out.frozen 8
            have f9 := K0.out.frozen 9
            have f10 := K0.out.frozen 10
            have f11 := K0.out.frozen 11
            have f12 := K0.out.frozen 12
            have f13 := K0.out.frozen 13
            go_wp2_with fail
            exact ret_ino rfl rfl (put14_blk K0.out) ⟨_, rfl, .inl ⟨⟨Hg.out, by rw [← HEN.out, HE.out]⟩, rfl⟩, put14_bel B7.out (by rw [HG.out]; exact Nat.le_refl _)⟩
          · have he2 := txt_ne he
            have HE := hide he
            clear he
            refine wpAnyH_take (i := 9) (v := ?_) (by simp only [List.getElem?_toArray, List.getElem?_cons_succ, List.getElem?_cons_zero]; rfl) (by kernel_rfl) (by kernel_rfl) (by kernel_rfl) (fun _ _ _ h => h) (Or.inl ⟨by rfl, ?_⟩) (by assumption) ?_
            rotate_left 1
            · (intro w hSw; (try dsimp only at hSw); go_simp; try with_reducible rfl)
            try simp only [Act.put, List.setIfInBounds_toArray, List.set_cons_zero, List.set_cons_succ]
            refine wpAnyH_take (i := 10) (v := ?_) (by simp only [List.getElem?_toArray, List.getElem?_cons_succ, List.getElem?_cons_zero]; rfl) (by kernel_rfl) (by kernel_rfl) (by kernel_rfl) (fun _ _ _ h => h) (Or.inl ⟨by rfl, ?_⟩) (by assumption) ?_
            rotate_left 1
            · (intro w hSw; (try dsimp only at hSw); go_simp; try with_reducible rfl)
            try simp only [Act.put, List.setIfInBounds_toArray, List.set_cons_zero, List.set_cons_succ]
            refine wpAnyH_done (by kernel_rfl) ?_ _
            refine NoPanic.normal ?_
            clear hHeld
            obtain ⟨z0, z1, z2, z3, z4, z5, z6, z7, z8, z9, z10, z11, z12, z13⟩ := blk14 K0.out
            have f0 := K0.out.frozen 0
            have f1 := K0.out.frozen 1
            have f2 := K0.out.frozen 2
            have f3 := K0.out.frozen 3
            have f4 := K0.out.frozen 4
            have f5 := K0.out.frozen 5
            have f6 := K0.out.frozen 6
            have f7 := K0.out.frozen 7
            have f8 := K0.out.frozen 8
            have f9 := K0.out.frozen 9
            have f10 := K0.out.frozen 10
            have f11 := K0.out.frozen 11
            have f12 := K0.out.frozen 12
            have f13 := K0.out.frozen 13
            go_wp2_with fail
            exact ret_ino rfl rfl (put14_blk K0.out) ⟨_, rfl, .inr ⟨fun h' => HE.out (by rw [HEN.out, h'.2]), rfl⟩, put14_bel B7.out (by rw [HG.out]; exact Nat.le_refl _)⟩
      · have G1 := hide (fun w => good_no a v k n s p0 p1 p2 p3 p4 p5 p6 p7 p8 w hg)
        have Hg := hide hg
        clear hg b0 b1 b2 b3 b4 b5 b6 b7 b8
        refine wpAnyH_ready (rs := [1]) (by kernel_rfl) (by simp) ?_
        refine AllReadyH.cons (by simp only [List.getElem?_toArray, List.getElem?_cons_succ, List.getElem?_cons_zero]; rfl) (fun K hK => ?_) ?_
        rotate_left 1
        · exact AllReadyH.nil
        go_simp
        refine (G1.out _).mono ?_; rintro e w5 ⟨rfl, hb5⟩; have B5 := hide ((Below.refl wr.heap.size wr).drew.trans (hb5.mono (Nat.le_refl _))); have s5 := CC.out _ B5.out; clear hb5; go_wp2_with fail
        refine hK.out _ _ ?_ (fun hHeld2 => ?_)
        · ((try dsimp only) <;> (first | trivial | assumption | go_keep))
        clear hHeld
        have hHeld := hHeld2
        clear hHeld2 hK K
        try simp only [Act.put, List.setIfInBounds_toArray, List.set_cons_zero, List.set_cons_succ]
        refine wpAnyH_take (i := 2) (v := ?_) (by simp only [List.getElem?_toArray, List.getElem?_cons_succ, List.getElem?_cons_zero]; rfl) (by kernel_rfl) (by kernel_rfl) (by kernel_rfl) (fun _ _ _ h => h) (Or.inl ⟨by rfl, ?_⟩) (by assumption) ?_
        rotate_left 1
        · (intro w hSw; (try dsimp only at hSw); go_simp; try with_reducible rfl)
        try simp only [Act.put, List.setIfInBounds_toArray, List.set_cons_zero, List.set_cons_succ]
        refine wpAnyH_take (i := 3) (v := ?_) (by simp only [List.getElem?_toArray, List.getElem?_cons_succ, List.getElem?_cons_zero]; rfl) (by kernel_rfl) (by kernel_rfl) (by kernel_rfl) (fun _ _ _ h => h) (Or.inl ⟨by rfl, ?_⟩) (by assumption) ?_
        rotate_left 1
        · (intro w hSw; (try dsimp only at hSw); go_simp; try with_reducible rfl)
        try simp only [Act.put, List.setIfInBounds_toArray, List.set_cons_zero, List.set_cons_succ]
        refine wpAnyH_take (i := 4) (v := undef) (by simp only [List.getElem?_toArray, List.getElem?_cons_succ, List.getElem?_cons_zero]; rfl) (by kernel_rfl) (by kernel_rfl) (by kernel_rfl) (fun _ _ _ h => h) (Or.inr ⟨by rfl, rfl⟩) (by assumption) ?_
        try simp only [Act.put, List.setIfInBounds_toArray, List.set_cons_zero, List.set_cons_succ]
        refine wpAnyH_take (i := 5) (v := undef) (by simp only [List.getElem?_toArray, List.getElem?_cons_succ, List.getElem?_cons_zero]; rfl) (by kernel_rfl) (by kernel_rfl) (by kernel_rfl) (fun _ _ _ h => h) (Or.inr ⟨by rfl, rfl⟩) (by assumption) ?_
        try simp only [Act.put, List.setIfInBounds_toArray, List.set_cons_zero, List.set_cons_succ]
        refine wpAnyH_take (i := 6) (v := undef) (by simp only [List.getElem?_toArray, List.getElem?_cons_succ, List.getElem?_cons_zero]; rfl) (by kernel_rfl) (by kernel_rfl) (by kernel_rfl) (fun _ _ _ h => h) (Or.inr ⟨by rfl, rfl⟩) (by assumption) ?_
        try simp only [Act.put, List.setIfInBounds_toArray, List.set_cons_zero, List.set_cons_succ]
        refine wpAnyH_take (i := 7) (v := undef) (by simp only [List.getElem?_toArray, List.getElem?_cons_succ, List.getElem?_cons_zero]; rfl) (by kernel_rfl) (by kernel_rfl) (by kernel_rfl) (fun _ _ _ h => h) (Or.inr ⟨by rfl, rfl⟩) (by assumption) ?_
        try simp only [Act.put, List.setIfInBounds_toArray, List.set_cons_zero, List.set_cons_succ]
        refine wpAnyH_take (i := 8) (v := undef) (by simp only [List.getElem?_toArray, List.getElem?_cons_succ, List.getElem?_cons_zero]; rfl) (by kernel_rfl) (by kernel_rfl) (by kernel_rfl) (fun _ _ _ h => h) (Or.inr ⟨by rfl, rfl⟩) (by assumption) ?_
        try simp only [Act.put, List.setIfInBounds_toArray, List.set_cons_zero, List.set_cons_succ]
        refine wpAnyH_take (i := 9) (v := undef) (by simp only [List.getElem?_toArray, List.getElem?_cons_succ, List.getElem?_cons_zero]; rfl) (by kernel_rfl) (by kernel_rfl) (by kernel_rfl) (fun _ _ _ h => h) (Or.inr ⟨by rfl, rfl⟩) (by assumption) ?_
        try simp only [Act.put, List.setIfInBounds_toArray, List.set_cons_zero, List.set_cons_succ]
        refine wpAnyH_take (i := 10) (v := ?_) (by simp only [List.getElem?_toArray, List.getElem?_cons_succ, List.getElem?_cons_zero]; rfl) (by kernel_rfl) (by kernel_rfl) (by kernel_rfl) (fun _ _ _ h => h) (Or.inl ⟨by rfl, ?_⟩) (by assumption) ?_
        rotate_left 1
        · (intro w hSw; (try dsimp only at hSw); go_simp; try with_reducible rfl)
        try simp only [Act.put, List.setIfInBounds_toArray, List.set_cons_zero, List.set_cons_succ]
        refine wpAnyH_done (by kernel_rfl) ?_ _
        refine NoPanic.normal ?_
        clear hHeld
        have K0 := hide (H2.out.below B5.out)
        have B7 := hide (H3.out.trans (B5.out.mono H3.out.size))
        obtain ⟨z0, z1, z2, z3, z4, z5, z6, z7, z8, z9, z10, z11, z12, z13⟩ := blk14 K0.out
        have f0 := K0.out.frozen 0
        have f1 := K0.out.frozen 1
        have f2 := K0.out.frozen 2
        have f3 := K0.out.frozen 3
        have f4 := K0.out.frozen 4
        have f5 := K0.out.frozen 5
        have f6 := K0.out.frozen 6
        have f7 := K0.out.frozen 7
        have f8 := K0.out.frozen 8
        have f9 := K0.out.frozen 9
        have f10 := K0.out.frozen 10
        have f11 := K0.out.frozen 11
        have f12 := K0.out.frozen 12
        have f13 := K0.out.frozen 13
        go_wp2_with fail
        exact ret_ino rfl rfl (put14_blk K0.out) ⟨_, rfl, .inr ⟨fun h' => Hg.out h'.1, rfl⟩, put14_bel B7.out (by rw [HG.out]; exact Nat.le_refl _)⟩
    · obtain ⟨r, rfl⟩ : ∃ r, q = r + 1 := ⟨q - 1, by omega⟩
      have hi := show (((r + 1 : Nat) : Int) - 1) = (r : Int) by omega
      simp only [hi]
      clear hi
      have hl64 := HLL.out
      have st6 := topF_step (l := lst) (i := 6) (r := r) (by omega) (by omega)
      have hi6 := topF_hi lst 6 r
      have lt6 := topF_lt lst 6 r
      obtain ⟨y, hy⟩ : ∃ y, y = (lst[6 + r]'(by omega)).toNat := ⟨_, rfl⟩
      have ly : y < 256 := by rw [hy]; exact UInt8.toNat_lt _
      rw [← hy] at st6
      have by6 := fun W hW => BY.out (6 + r) (by omega) (by omega) W hW
      rw [← hy] at by6
      have BY6 := hide by6
      clear by6 hy
      obtain ⟨m, hm⟩ : ∃ m, m = 6 + r := ⟨_, rfl⟩
      have hwm : IntKind.i64.wrap (6 + (r : Int)) = (m : Int) := by rw [IntKind.wrap_i64]; omega
      have hm64 : m < 64 := by omega
      have hm64' : (m : Int) < 64 := by omega
      rw [← hm] at BY6
      have c4 := H1.out.cell 4
      rw [show (cellsI a v k n (topF lst 6 (r + 1)) (ptF lst (r + 1)))[4]? = some (.int .i64 (topF lst 6 (r + 1) : Int)) from rfl] at c4
      have f4 := H1.out.frozen 4
      have H1s := H1.out.set 4 (.int .i64 (topF lst 6 r : Int))
      rw [cellsI_size] at H1s
      have HS := hide H1s
      clear H1s
      generalize topF lst 6 (r + 1) = z1 at *
      obtain ⟨z0, hz0⟩ : ∃ z0, z0 = topF lst 6 r := ⟨_, rfl⟩
      rw [← hz0] at st6 lt6 HS
      have HZ0 := hide hz0
      have u1 : IntKind.i64.wrap ((z1 : Int) * 256) = (z1 : Int) * 256 := by rw [IntKind.wrap_i64]; omega
      have u2 : IntKind.i64.wrap (y : Int) = (y : Int) := by rw [IntKind.wrap_i64]; omega
      have u3 : IntKind.i64.wrap ((z1 : Int) * 256 + (y : Int)) = (z0 : Int) := by rw [IntKind.wrap_i64]; omega
      have cb := BY6.out wr (H.out.below (H3.out.mono hB))
      clear hm hz0 st6
      go_wp2_with fail
      go_region
      have KS := hide (HS.out.drew)
      have K0 := hide ((H2.out.far (p := ⟨g6, 4, none⟩) hne (.int .i64 (z0 : Int))).drew)
      have KB := hide ((H3.out.setCell (p := ⟨g6, 4, none⟩) hge.out (.int .i64 (z0 : Int))).drew)
      generalize (wr.setCell ⟨g6, 4, none⟩ (.int .i64 (z0 : Int))).drew = w4 at *
      rw [← mixF_zero] at KS
      clear HS H1 H2 H3 c4 f4 cb
      go_wp2_with fail
      go_loopw [8] (fun x wr => ∃ j : Nat, j ≤ 9 ∧ x = .int .i64 (j : Int) ∧ Blk wr g6 28 (cellsI a v k n z0 (mixF lst j r)) ∧ Blk wr g0 28 #[.int .i64 0, .int .i64 0, .int .i64 0, .int .i64 0, .int .i64 0, .int .u32 0, .int .u32 0, .int .u32 0, .int .u32 0, .int .u32 0, .int .u32 0, .int .u32 0, .int .u32 0, .int .u32 0] ∧ Below w.heap.size w wr) (fun x _ => 9 - (intOf x).toNat)
      case atStart => exact ⟨0, Nat.zero_le _, rfl, KS.out, K0.out, KB.out⟩
      case round =>
        obtain ⟨j, hj, rfl, h1, h2, h3⟩ := hrel
        have H1 := hide h1
        have H2 := hide h2
        have H3 := hide h3
        clear h1 h2 h3 KS K0 KB
        by_cases hlt : j < 9
        · have st := topF_step (l := lst) (i := 10 + 4 * j) (r := r) (by omega) (by omega)
          have hij := topF_hi lst (10 + 4 * j) r
          have ltj := topF_lt lst (10 + 4 * j) r
          obtain ⟨yy, hyy⟩ : ∃ y, y = (lst[10 + 4 * j + r]'(by omega)).toNat := ⟨_, rfl⟩
          have lyy : yy < 256 := by rw [hyy]; exact UInt8.toNat_lt _
          rw [← hyy] at st
          have byj := fun W hW => BY.out (10 + 4 * j + r) (by omega) (by omega) W hW
          rw [← hyy] at byj
          have BYJ := hide byj
          clear byj hyy
          obtain ⟨m1, hm1⟩ : ∃ m1, m1 = 4 * j := ⟨_, rfl⟩
          obtain ⟨m2, hm2⟩ : ∃ m2, m2 = 10 + 4 * j + r := ⟨_, rfl⟩
          have w1' : IntKind.i64.wrap (4 * (j : Int)) = (m1 : Int) := by rw [IntKind.wrap_i64]; omega
          have w2' : IntKind.i64.wrap (10 + (m1 : Int)) = ((10 : Int) + (m1 : Int)) := by rw [IntKind.wrap_i64]; omega
          have w3' : IntKind.i64.wrap ((10 : Int) + (m1 : Int) + (r : Int)) = (m2 : Int) := by rw [IntKind.wrap_i64]; omega
          have hm2' : (m2 : Int) < 64 := by omega
          have hm2n : m2 < 64 := by omega
          rw [← hm2] at BYJ
          have cj : wr.cell? ⟨g6, 5 + j, none⟩ = some (.int .u32 (topF lst (10 + 4 * j) (r + 1) : Int)) := by
            rw [H1.out.cell, cellsI_at, mixF_at lst hlt]
            rfl
          have fj := H1.out.frozen (5 + j)
          have H1s := H1.out.set (5 + j) (.int .u32 (topF lst (10 + 4 * j) r : Int))
          rw [cellsI_set, mixF_set lst hlt] at H1s
          have HS := hide H1s
          clear H1s
          generalize topF lst (10 + 4 * j) (r + 1) = x1 at *
          generalize topF lst (10 + 4 * j) r = x0 at *
          have u1' : IntKind.u32.wrap ((x1 : Int) * 256) = (x1 : Int) * 256 := by simp [IntKind.wrap, IntKind.bits, IntKind.signed]; omega
          have u2' : IntKind.u32.wrap (yy : Int) = (yy : Int) := by simp [IntKind.wrap, IntKind.bits, IntKind.signed]; omega
          have u3' : IntKind.u32.wrap ((x1 : Int) * 256 + (yy : Int)) = (x0 : Int) := by simp [IntKind.wrap, IntKind.bits, IntKind.signed]; omega
          have cb := BYJ.out wr (H.out.below (H3.out.mono hB))
          clear hm1 hm2 st
          go_wp2_with fail
          go_region
          have KS := hide (HS.out.drew)
          have K0 := hide ((H2.out.far (p := ⟨g6, 5 + j, none⟩) hne (.int .u32 (x0 : Int))).drew)
          have KB := hide ((H3.out.setCell (p := ⟨g6, 5 + j, none⟩) hge.out (.int .u32 (x0 : Int))).drew)
          clear HS H1 H2 H3 cj fj cb
          go_wp2_with fail
          go_roundw
          case rel => exact ⟨j + 1, by omega, by go_num, KS.out, K0.out, KB.out⟩
          case measure => simp [intOf]; omega
        · have hj9 : j = 9 := by omega
          have KE := H1.out
          rw [hj9, mixF_nine, HZ0.out] at KE
          have KE := hide KE
          clear hj9 H1
          go_wp2_with fail
          go_roundw
          case rel => exact ⟨r, by omega, by go_num, KE.out, H2.out, H3.out⟩
          case measure => simp [intOf]
end Go.Proofs.Ytbceejcmjklklaa
