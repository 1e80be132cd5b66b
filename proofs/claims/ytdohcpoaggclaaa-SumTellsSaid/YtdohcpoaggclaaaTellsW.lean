/- The walk of marllaw01.SumTells. -/
import Derived.Test.YtdohcpoaggclaaaSumOpensW
import Derived.Test.YtdohcpoaggclaaaCrc
namespace Go.Proofs.Ytdohcpoaggclaaa
open Go.RowKit

set_option maxHeartbeats 400000 in
theorem turn_any (base : Nat) (A : Option Addr) (n c k : Nat) (l : List UInt8) (w : World) (hown : OwnBy w base A n c l) (hk : k < 8 * n) (hn : n ≤ 1000000) :
    Calls Try.prog 14 #[.slice A n c, .int .i64 k] w fun e w' => e = .returned (.tuple #[]) ∧ OwnBy w' base A n c (turn l k) ∧ Below base w w' := by
  have hk8 : k / 8 < n := by omega
  obtain ⟨ad, u, rfl, hb1, hb2, hu, hcell, hfz, hset⟩ := own_at hown hk8
  have hl := hown.by.length
  have hkl : k / 8 < l.length := by omega
  rw [u8s_get, List.getElem?_eq_getElem hkl] at hu
  simp only [Option.map_some, Option.some.injEq] at hu
  subst hu
  have Hset := hide hset
  have hx := l[k / 8].toNat_lt
  clear hset hown hl
  generalize hxe : l[k / 8].toNat = x at *
  have Hx := hide hxe
  clear hxe
  replace hx : x < 256 := hx
  go_enter Try.func14, Try.ntmps14
  go_wp2
  go_region
  go_end0
  have hv : bits BinOp.xor IntKind.u8 (x : Int) (2 ^ (k % 8) % 256) = (((l.getD (k / 8) 0 ^^^ UInt8.ofNat (2 ^ (k % 8))).toNat : Nat) : Int) := by
    have hp : 2 ^ (k % 8) < 256 := Nat.pow_lt_pow_right (n := 8) (a := 2) (by omega) (by omega)
    have h2 : ((2 ^ (k % 8) : Nat) : Int) = (2 : Int) ^ (k % 8) := by norm_cast
    have h3 : (2 : Int) ^ (k % 8) % 256 = ((2 ^ (k % 8) : Nat) : Int) := by
      rw [← h2]
      clear h2
      generalize 2 ^ (k % 8) = m at *
      omega
    rw [h3, u8_xor_nat x (2 ^ (k % 8)) hx hp, UInt8.toNat_xor, pow_small _ (by omega), List.getD_eq_getElem?_getD, List.getElem?_eq_getElem hkl, Option.getD_some, Hx.out]
  rw [hv]
  refine ⟨rfl, ?_, (bel_set (Below.refl _ _) hb1 _ _).drew⟩
  have h1 := Hset.out (.int .u8 ((l.getD (k / 8) 0 ^^^ UInt8.ofNat (2 ^ (k % 8))).toNat : Int))
  have h2 : (u8s l).set (k / 8) (.int .u8 ((l.getD (k / 8) 0 ^^^ UInt8.ofNat (2 ^ (k % 8))).toNat : Int)) = u8s (turn l k) := by
    unfold turn u8s; rw [List.map_set]
  rw [h2] at h1
  exact h1

set_option maxHeartbeats 400000 in
theorem sumTells_out (A : Option Addr) (n cap : Nat) (a b r : Int) (w : World) (hout : n = 0 ∨ 2000 < n) :
    Calls Try.prog 5 #[.slice A n cap, .agg #[.int .i64 a, .int .i64 b], .int .u32 r] w fun e w' => e = .returned (.bool true) ∧ Below w.heap.size w w' := by
  rcases hout with rfl | hbig
  · go_enter Try.func5, Try.ntmps5
    go_wp2_with fail
    refine (awake_any _).mono ?_
    rintro e w1 ⟨rfl, hb1⟩
    go_wp2_with fail
    refine (awake_any _).mono ?_
    rintro e w2 ⟨rfl, hb2⟩
    go_wp2_with fail
    go_ret
    simp only [World.size_alloc] at hb1
    have hb1' := ((Below.refl w.heap.size w).alloc (Nat.le_refl _) _).trans (hb1.mono (Nat.le_succ _))
    exact ⟨rfl, hb1'.trans (hb2.mono hb1'.size)⟩
  · have h0 : ((n : Int) == 0) = false := by rw [beq_eq_false_iff_ne]; omega
    go_enter Try.func5, Try.ntmps5
    go_wp2_with fail
    refine (awake_any _).mono ?_
    rintro e w1 ⟨rfl, hb1⟩
    go_wp2_with fail
    refine (awake_any _).mono ?_
    rintro e w2 ⟨rfl, hb2⟩
    go_wp2_with fail
    go_ret
    simp only [World.size_alloc] at hb1
    have hb1' := ((Below.refl w.heap.size w).alloc (Nat.le_refl _) _).trans (hb1.mono (Nat.le_succ _))
    exact ⟨rfl, hb1'.trans (hb2.mono hb1'.size)⟩

theorem rem8_place (c : Int) (n : Nat) (h0 : 0 < n) (hn : n ≤ 2000) : ∃ k : Nat, wrap64 ((IntKind.u64.wrap c).tmod (8 * (n : Int))) = (k : Int) ∧ k < 8 * n := by
  have h0' : 0 ≤ IntKind.u64.wrap c := by simp [IntKind.wrap, IntKind.bits, IntKind.signed]; omega
  generalize IntKind.u64.wrap c = u at *
  rw [Int.tmod_eq_emod_of_nonneg h0']
  have h1 := Int.emod_nonneg u (show 8 * (n : Int) ≠ 0 by omega)
  have h2 := Int.emod_lt_of_pos u (show (0 : Int) < 8 * (n : Int) by omega)
  refine ⟨(u % (8 * (n : Int))).toNat, ?_, by omega⟩
  rw [IntWalk.wrap64_in _ (by omega)]
  omega

theorem row_bit (r i : Nat) (hr : r < 4294967296) : bits BinOp.and IntKind.u32 ((r : Int) / 2 ^ i) 1 = ((r / 2 ^ i % 2 : Nat) : Int) := by
  have h1 : ((r : Int) / 2 ^ i) = ((r / 2 ^ i : Nat) : Int) := by norm_cast
  have h2 : r / 2 ^ i ≤ r := Nat.div_le_self _ _
  have := u32_and_nat (r / 2 ^ i) 1 (by omega) (by omega)
  rw [and1] at this
  rw [h1]; exact this

set_option maxHeartbeats 2000000 in
theorem sumTells_in (A : Option Addr) (n cap : Nat) (a b : Int) (r : Nat) (l : List UInt8) (w : World) (h : By w w.heap.size A n l) (hn0 : 0 < n) (hn : n ≤ 2000) (hr : r < 4294967296) :
    Calls Try.prog 5 #[.slice A n cap, .agg #[.int .i64 a, .int .i64 b], .int .u32 r] w fun e w' => e = .returned (.bool true) ∧ Below w.heap.size w w' := by
  have H := hide h
  have Hl := hide h.length
  clear h
  have h0 : ((n : Int) == 0) = false := by rw [beq_eq_false_iff_ne]; omega
  obtain ⟨x, hx, hxn⟩ := rem8_place a n hn0 hn
  obtain ⟨y, hy, hyn⟩ := rem8_place b n hn0 hn
  have Hx := hide hx
  have Hy := hide hy
  clear hx hy
  go_enter Try.func5, Try.ntmps5
  go_wp2_with fail
  refine (awake_any _).mono ?_
  rintro e w1 ⟨rfl, hb1⟩
  have hcell0 : w1.cell? ⟨w.heap.size, 0, none⟩ = some (.int .i64 a) := by rw [hb1.cell (by simp)]; simp
  have hcell1 : w1.cell? ⟨w.heap.size, 1, none⟩ = some (.int .i64 b) := by rw [hb1.cell (by simp)]; simp
  simp only [World.size_alloc] at hb1
  have hb1' := ((Below.refl w.heap.size w).alloc (Nat.le_refl _) _).trans (hb1.mono (Nat.le_succ _))
  go_wp2_with fail
  refine (sum_any _ _ _ _ l _ (H.out.below hb1') (by omega)).mono ?_
  rintro e w' ⟨rfl, rfl⟩
  go_wp2_with fail
  go_quiet (fail)
  rw [Hx.out, Hy.out]
  have hbq := bel_dN hb1' nq
  clear hcell0 hcell1 hb1
  generalize w1.drewN nq = wq at *
  clear hb1' w1
  have Hcrc0 := hide (show ((crc (turn l x) : Nat) : Int) ≠ (crc l : Nat) from fun e => crc_turn_ne l x (by rw [Hl.out]; exact hxn) (by omega))
  have hs1 : (((crc (turn l x) : Nat) : Int) == ((crc l : Nat) : Int)) = false := by rw [beq_eq_false_iff_ne]; exact Hcrc0.out
  obtain ⟨bb, hE, hS⟩ : ∃ bb : Bool, ((x : Int) == (y : Int)) = bb ∧ (((crc (turn (turn l x) y) : Nat) : Int) == ((crc l : Nat) : Int)) = bb := by
    refine ⟨_, rfl, ?_⟩
    have := crc_turn2 l x y (by rw [Hl.out]; exact hxn) (by rw [Hl.out]; exact hyn) (by rw [Hl.out]; exact hn)
    rw [Bool.eq_iff_iff, beq_iff_eq, beq_iff_eq]
    constructor
    · intro e; have := this.1 (by omega); omega
    · intro e; have := this.2 (by omega); omega
  have Hbq := hide hbq
  clear hbq
  go_wp2_with (
    at_builtin
    refine wpList_app _ rfl (.tmp 46) (.tmp 47) _ rfl ety8 w.heap.size (.slice (some ⟨wq.heap.size, 0, none⟩) 0 0) 0 [] rfl (empty_own Hbq.out.size) w.heap.size A n cap (u8s l) rfl
      ((H.out.below Hbq.out).alloc Hbq.out.size _) (u8s_one l) (by omega) (Nat.le_trans Hbq.out.size (by simp)) ?_
    intro A2 c2 w2 hown2 hg2 _
    simp only [Nat.zero_add, List.nil_append] at hown2
    have Hb2 := hide (bel_own Hbq.out Hbq.out.size _ hg2)
    have Hown2 := hide hown2
    clear hg2 hown2)
  refine (turn_any w.heap.size A2 n c2 x l _ Hown2.out hxn (by omega)).mono ?_
  rintro e w3 ⟨rfl, hown3, hb3⟩
  have Hown3 := hide hown3
  have Hb3 := hide (Hb2.out.trans hb3)
  clear hown3 hb3 Hown2 Hb2
  go_wp2_with fail
  refine (sum_any _ _ _ _ (turn l x) _ Hown3.out.by (by omega)).mono ?_
  rintro e w' ⟨rfl, rfl⟩
  go_wp2_with fail
  refine (turn_any w.heap.size A2 n c2 y (turn l x) _ Hown3.out hyn (by omega)).mono ?_
  rintro e w4 ⟨rfl, hown4, hb4⟩
  have Hown4 := hide hown4
  have Hb4 := hide (Hb3.out.trans hb4)
  clear hown4 hb4 Hown3 Hb3
  go_wp2_with fail
  refine (sum_any _ _ _ _ (turn (turn l x) y) _ Hown4.out.by (by omega)).mono ?_
  rintro e w' ⟨rfl, rfl⟩
  go_wp2_with (
    at_builtin
    refine wpList_app _ rfl (.tmp 69) (.tmp 70) _ rfl ety8 w.heap.size (.slice (some ⟨w4.heap.size, 0, none⟩) 0 0) 0 [] rfl (empty_own Hb4.out.size) w.heap.size A n cap (u8s l) rfl
      ((H.out.below Hb4.out).alloc Hb4.out.size _) (u8s_one l) (by omega) (Nat.le_trans Hb4.out.size (by simp)) ?_
    intro A5 c5 w5 hown5 hg5 _
    simp only [Nat.zero_add, List.nil_append] at hown5
    have Hb5 := hide (bel_own Hb4.out Hb4.out.size _ hg5)
    have Hown5 := hide hown5
    clear hg5 hown5)
  clear hs1 hE hS Hown4 Hb4 Hbq Hcrc0 Hx Hy h0
  go_loopw [14] (fun v wr => ∃ i : Nat, i ≤ 32 ∧ x + i ≤ 8 * n ∧ v = .int .i64 i ∧ OwnBy wr w.heap.size A5 n c5 (burst l x r i) ∧ Below w.heap.size w wr) (fun v _ => 32 - (intOf v).toNat)
  case atStart => exact ⟨0, by omega, by omega, rfl, Hown5.out, Hb5.out⟩
  case round =>
    obtain ⟨i, hi, hxi, rfl, hown6, hb6⟩ := hrel
    have Hown6 := hide hown6
    have Hb6 := hide hb6
    clear hown6 hb6
    by_cases h1 : i < 32
    · by_cases h2 : x + i < 8 * n
      · have hrb := hide (row_bit r i hr)
        by_cases hbit : r / 2 ^ i % 2 = 1
        · have hb : (bits BinOp.and IntKind.u32 ((r : Int) / 2 ^ i) 1 == 1) = true := by rw [hrb.out, beq_iff_eq]; omega
          have hsn := hide (show burst l x r (i + 1) = turn (burst l x r i) (x + i) by rw [burst, if_pos hbit])
          clear hbit
          go_wp2_with fail
          have C := turn_any w.heap.size A5 n c5 (x + i) (burst l x r i) wr Hown6.out h2 (by omega)
          rw [show (((x + i : Nat) : Int)) = (x : Int) + i by omega] at C
          refine C.mono ?_
          clear C
          rintro e w7 ⟨rfl, hown7, hb7⟩
          have Hown7 := hide hown7
          have Hb7 := hide (Hb6.out.trans hb7)
          clear hown7 hb7
          go_wp2_with fail
          go_roundw
          case rel => exact ⟨i + 1, by omega, by omega, by go_num, by rw [hsn.out]; exact Hown7.out, Hb7.out⟩
          case measure => simp [intOf]; omega
        · have hb : (bits BinOp.and IntKind.u32 ((r : Int) / 2 ^ i) 1 == 1) = false := by rw [hrb.out, beq_eq_false_iff_ne]; omega
          have hsn := hide (show burst l x r (i + 1) = burst l x r i by rw [burst, if_neg hbit])
          clear hbit
          go_wp2_with fail
          go_roundw
          case rel => exact ⟨i + 1, by omega, by omega, by go_num, by rw [hsn.out]; exact Hown6.out, Hb6.out⟩
          case measure => simp [intOf]; omega
      · have Hfin := hide (crc_burst_iff l x r i (by rw [Hl.out]; exact hxi) hi)
        have e1 := fun k => run_conv_txt (P := Try.prog) (wr.drewN k) Try.underlying22 Try.underlying5 Try.underlying9 c5 (Sl.drewN Hown6.out.by k)
        have e2 := fun k => run_conv_txt (P := Try.prog) (wr.drewN k) Try.underlying22 Try.underlying5 Try.underlying9 cap ((H.out.below Hb6.out).drewN k)
        obtain ⟨cc, hE, hS⟩ : ∃ cc : Bool, (((crc (burst l x r i) : Nat) : Int) == ((crc l : Nat) : Int)) = cc ∧ ((txt (burst l x r i)).toList == (txt l).toList) = cc := by
          refine ⟨_, rfl, ?_⟩
          have := Hfin.out
          rw [Bool.eq_iff_iff, beq_iff_eq, beq_iff_eq]
          simp only [txt, ByteArray.toList_mk]
          constructor
          · intro e; have := this.2 e; omega
          · intro e; exact this.1 (by omega)
        go_wp2_with fail
        go_quiet ((go_at_call 11; exact quiet_l (sum_any _ _ _ _ (burst l x r i) _ (Sl.drewN Hown6.out.by _) (by omega))))
        go_wp2_with fail
        go_ret
        exact ⟨by simp, bel_dN Hb6.out _⟩
    · have Hfin := hide (crc_burst_iff l x r i (by rw [Hl.out]; exact hxi) hi)
      have e1 := fun k => run_conv_txt (P := Try.prog) (wr.drewN k) Try.underlying22 Try.underlying5 Try.underlying9 c5 (Sl.drewN Hown6.out.by k)
      have e2 := fun k => run_conv_txt (P := Try.prog) (wr.drewN k) Try.underlying22 Try.underlying5 Try.underlying9 cap ((H.out.below Hb6.out).drewN k)
      obtain ⟨cc, hE, hS⟩ : ∃ cc : Bool, (((crc (burst l x r i) : Nat) : Int) == ((crc l : Nat) : Int)) = cc ∧ ((txt (burst l x r i)).toList == (txt l).toList) = cc := by
        refine ⟨_, rfl, ?_⟩
        have := Hfin.out
        rw [Bool.eq_iff_iff, beq_iff_eq, beq_iff_eq]
        simp only [txt, ByteArray.toList_mk]
        constructor
        · intro e; have := this.2 e; omega
        · intro e; exact this.1 (by omega)
      go_wp2_with fail
      go_quiet ((go_at_call 11; exact quiet_l (sum_any _ _ _ _ (burst l x r i) _ (Sl.drewN Hown6.out.by _) (by omega))))
      go_wp2_with fail
      go_ret
      exact ⟨by simp, bel_dN Hb6.out _⟩

theorem sumTells_all (A : Option Addr) (n cap : Nat) (a b : Int) (r : Nat) (l : List UInt8) (w : World) (h : By w w.heap.size A n l) (hr : r < 4294967296) :
    Calls Try.prog 5 #[.slice A n cap, .agg #[.int .i64 a, .int .i64 b], .int .u32 r] w fun e w' => e = .returned (.bool true) ∧ Below w.heap.size w w' := by
  by_cases h0 : n = 0 ∨ 2000 < n
  · exact sumTells_out A n cap a b r w h0
  · exact sumTells_in A n cap a b r l w h (by omega) (by omega) hr
end Go.Proofs.Ytdohcpoaggclaaa
