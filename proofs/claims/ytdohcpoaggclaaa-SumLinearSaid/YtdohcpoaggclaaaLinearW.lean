/- The walk of marllaw01.SumLinear. -/
import Derived.Test.YtdohcpoaggclaaaAwake
import Derived.Test.YtdohcpoaggclaaaSlicesW
import Derived.Test.YtdohcpoaggclaaaOwn
import Derived.Test.YtdohcpoaggclaaaCrc
import Derived.Deep.RegionWith
namespace Go.Proofs.Ytdohcpoaggclaaa
open Go.RowKit

/-- What has been turned so far, the rest zeros. -/
def mid (l m : List UInt8) (n k : Nat) : List UInt8 := List.zipWith (· ^^^ ·) (l.take k) (m.take k) ++ List.replicate (n - k) 0
theorem mid_zero (l m : List UInt8) (n : Nat) : u8s (mid l m n 0) = List.replicate n (.int .u8 0) := by simp [mid, u8s]
theorem mid_all (l m : List UInt8) (n : Nat) : mid l m n n = List.zipWith (· ^^^ ·) (l.take n) (m.take n) := by simp [mid]
theorem mid_length (l m : List UInt8) (n k : Nat) (h1 : n ≤ l.length) (h2 : n ≤ m.length) (hk : k ≤ n) : (mid l m n k).length = n := by simp [mid]; omega
theorem mid_step (l m : List UInt8) (n k : Nat) (h1 : k < l.length) (h2 : k < m.length) (hk : k < n) : (mid l m n k).set k (l[k] ^^^ m[k]) = mid l m n (k + 1) := by
  unfold mid
  rw [List.take_succ_eq_append_getElem h1, List.take_succ_eq_append_getElem h2, List.zipWith_append (by simp; omega), List.set_append_right _ _ (by simp; omega)]
  rw [show n - k = (n - (k + 1)) + 1 by omega, List.replicate_succ]
  rw [show k - (List.zipWith (· ^^^ ·) (l.take k) (m.take k)).length = 0 by simp; omega]
  simp
theorem crcs_xor (l m : List UInt8) (n : Nat) (h1 : n ≤ l.length) (h2 : n ≤ m.length) :
    bits BinOp.xor IntKind.u32 ((crc (mid l m n n) : Nat) : Int) ((crc (l.take n) : Nat) : Int) = ((crcRun 0 (m.take n) : Nat) : Int) := by
  rw [u32_xor_nat _ _ (crc_lt _) (crc_lt _), mid_all, crc_zip _ _ (by simp; omega)]

set_option maxHeartbeats 1000000 in
theorem turned_any (A X : Option Addr) (a c n x cx B : Nat) (l m : List UInt8) (g h : Nat) (w : World) (hA : By w B A a l) (hX : By w B X x m) (hB : B ≤ w.heap.size)
    (hn : w.cell? ⟨g, 0, none⟩ = some (.int .i64 n)) (hx : w.cell? ⟨h, 0, none⟩ = some (.slice X x cx)) (hg : g < B) (hh : h < B) (h1 : n ≤ a) (h2 : n ≤ x) (h3 : n ≤ 500) (hac : a ≤ c) :
    Calls Try.prog 15 #[.slice A a c, .pointer (some ⟨g, 0, none⟩), .pointer (some ⟨h, 0, none⟩)] w fun e w' => e = .returned (.int .u32 (crcRun 0 (m.take n) : Nat)) ∧ Below w.heap.size w w' := by
  have HA := hide hA
  have HX := hide hX
  have Hn := hide hn
  have Hx := hide hx
  have Hla := hide hA.length
  have Hlx := hide hX.length
  have HB := hide hB
  clear hA hX hx hB
  have hmk := fun W => run_mk (P := Try.prog) ety8 rfl .i64 .i64 n n (Nat.le_refl _) (by omega) W
  go_enter Try.func15, Try.ntmps15
  go_wp2_with fail
  have Hown := hide (own_mk (w := w) (base := w.heap.size) (n := n) (c := n) (e := 5) (z := .int .u8 0) (Nat.le_refl _) (Nat.le_refl _) (by omega))
  have Hb := hide ((Below.refl w.heap.size w).alloc (Nat.le_refl _) (.cells (zs (.int .u8 0) n) 5))
  clear hmk hn
  generalize w.alloc (.cells (zs (.int .u8 0) n) 5) = w1 at *
  generalize (⟨w.heap.size, 0, none⟩ : Addr) = ad0 at *
  go_loopw [11] (fun i wr => ∃ k : Nat, k ≤ n ∧ i = .int .i64 k ∧ OwnBy wr w.heap.size (some ad0) n n (mid l m n k) ∧ Below w.heap.size w wr) (fun i _ => n - (intOf i).toNat)
  case atStart => exact ⟨0, by omega, rfl, by rw [OwnBy, mid_zero]; exact Hown.out, Hb.out⟩
  case round =>
    obtain ⟨k, hk, rfl, hown2, hb2⟩ := hrel
    have Hown2 := hide hown2
    have Hb2 := hide hb2
    clear hown2 hb2
    have hx2 : wr.cell? ⟨h, 0, none⟩ = some (.slice X x cx) := by rw [Hb2.out.cell (Nat.lt_of_lt_of_le hh HB.out)]; exact Hx.out
    have hn2 : wr.cell? ⟨g, 0, none⟩ = some (.int .i64 n) := by rw [Hb2.out.cell (Nat.lt_of_lt_of_le hg HB.out)]; exact Hn.out
    by_cases hlt : k < n
    · have hka : k < a := by omega
      have hkx : k < x := by omega
      obtain ⟨hl1, ad1, rfl, hcell1⟩ := By.get (Sl.below HA.out (Hb2.out.mono HB.out)) hka
      obtain ⟨hl2, ad2, rfl, hcell2⟩ := By.get (Sl.below HX.out (Hb2.out.mono HB.out)) hkx
      obtain ⟨ad, u, had, hb3, _, hu, hcell, hfz, hset⟩ := own_at Hown2.out hlt
      injection had with had
      subst had
      have Hset := hide hset
      have hsn := hide (mid_step l m n k hl1 hl2 hlt)
      have hxy := hide (u8_xor_nat l[k].toNat m[k].toNat l[k].toNat_lt m[k].toNat_lt)
      have hxt := hide (UInt8.toNat_xor l[k] m[k])
      clear hset hu hn2
      go_wp2
      go_region
      rw [hxy.out]
      go_wp2
      go_roundw
      case rel =>
        refine ⟨k + 1, by omega, by go_num, ?_, (bel_set Hb2.out hb3 _ _).drew⟩
        have h9 := Hset.out (.int .u8 ((l[k].toNat ^^^ m[k].toNat : Nat) : Int))
        rw [← hxt.out] at h9 ⊢
        rw [OwnBy, ← hsn.out]
        unfold u8s at h9 ⊢
        rw [List.map_set]
        exact h9
      case measure => simp [intOf]; omega
    · have hkn : k = n := by omega
      subst hkn
      have hcut := fun W => run_cut_h (P := Try.prog) ety8 A a c W k .i64 (by omega)
      have Hh := hide (Sl.head (Sl.below HA.out (Hb2.out.mono HB.out)) h1)
      rw [u8s_take] at Hh
      have hfin := hide (crcs_xor l m k (by rw [Hla.out]; exact h1) (by rw [Hlx.out]; exact h2))
      go_wp2_with fail
      go_quiet ((first | (go_at_call_of 11 ad0; exact quiet_l (sum_any _ _ _ _ (mid l m k k) _ (Sl.drewN Hown2.out.by _) (by omega))) | (go_at_call 11; exact quiet_l (sum_any _ _ _ _ (l.take k) _ (Sl.drewN Hh.out _) (by omega)))))
      rw [hfin.out]
      go_wp2_with fail
      go_ret
      exact ⟨rfl, bel_dN Hb2.out _⟩

theorem min4 {P : Program} (a b x : Nat) : ∃ n : Nat, n ≤ a ∧ n ≤ b ∧ n ≤ x ∧ n ≤ 500 ∧ ∀ (ts : Array TypeId) (t : TypeId) (W : World),
    (Builtin.min_ ts t #[.int .i64 (a : Int), .int .i64 (b : Int), .int .i64 (x : Int), .int .i64 500]).run P W = .ok (.int .i64 (n : Int)) W := by
  refine ⟨min (min (min a b) x) 500, by omega, by omega, by omega, by omega, fun ts t W => ?_⟩
  simp [Builtin.min_, Builtin.min2]
  repeat' split
  all_goals omega

set_option maxHeartbeats 1000000 in
theorem sumLinear_all (A B X : Option Addr) (a b x ca cb cx : Nat) (l1 l2 m : List UInt8) (w : World) (hA : By w w.heap.size A a l1) (hB : By w w.heap.size B b l2) (hX : By w w.heap.size X x m)
    (h1 : a ≤ ca) (h2 : b ≤ cb) (ha : ca ≤ 9223372036854775807) (hb : cb ≤ 9223372036854775807) (hx : x ≤ 9223372036854775807) :
    Calls Try.prog 6 #[.slice A a ca, .slice B b cb, .slice X x cx] w fun e w' => e = .returned (.bool true) ∧ Below w.heap.size w w' := by
  have HA := hide hA
  have HB := hide hB
  have HX := hide hX
  clear hA hB hX
  obtain ⟨n, hn1, hn2, hn3, hn4, hmin⟩ := min4 (P := Try.prog) a b x
  go_enter Try.func6, Try.ntmps6
  go_wp2_with fail
  refine (awake_any _).mono ?_
  rintro e w1 ⟨rfl, hb1⟩
  have hcx : w1.cell? ⟨w.heap.size, 0, none⟩ = some (.slice X x cx) := by rw [hb1.cell (by simp; omega)]; simp
  have hcn : w1.cell? ⟨w.heap.size + 1, 0, none⟩ = some (.int .i64 n) := by rw [hb1.cell (by simp)]; simp
  have hsz : w.heap.size + 2 ≤ w1.heap.size := by have := hb1.size; simp at this; omega
  have hbw : Below w.heap.size w w1 := (((Below.refl w.heap.size w).alloc (Nat.le_refl _) _).alloc (by simp) _).trans (hb1.mono (by simp; omega))
  have Hbw := hide hbw
  have Hcx := hide hcx
  have Hcn := hide hcn
  clear hb1 hbw hcx hcn hmin
  go_wp2_with fail
  refine (turned_any A X a ca n x cx (w.heap.size + 2) l1 m _ _ w1 ((Sl.below HA.out Hbw.out).more (by omega)) ((Sl.below HX.out Hbw.out).more (by omega)) hsz Hcn.out Hcx.out (by omega) (by omega) hn1 hn3 hn4 h1).mono ?_
  rintro e w2 ⟨rfl, hb2⟩
  have Hb2 := hide hb2
  clear hb2
  go_wp2_with fail
  refine (turned_any B X b cb n x cx (w.heap.size + 2) l2 m _ _ w2 (((Sl.below HB.out Hbw.out).more (by omega)).below (Hb2.out.mono hsz)) (((Sl.below HX.out Hbw.out).more (by omega)).below (Hb2.out.mono hsz)) (Nat.le_trans hsz Hb2.out.size)
    (by rw [Hb2.out.cell (show w.heap.size + 1 < w1.heap.size by omega)]; exact Hcn.out) (by rw [Hb2.out.cell (show w.heap.size < w1.heap.size by omega)]; exact Hcx.out) (by omega) (by omega) hn2 hn3 hn4 h2).mono ?_
  rintro e w3 ⟨rfl, hb3⟩
  have Hb3 := hide hb3
  clear hb3
  go_wp2_with fail
  go_ret
  exact ⟨by simp, Hbw.out.trans ((Hb2.out.mono Hbw.out.size).trans (Hb3.out.mono (Nat.le_trans Hbw.out.size Hb2.out.size)))⟩
end Go.Proofs.Ytdohcpoaggclaaa
