/- The walk over sum.Open. -/
import Derived.Test.YtbceejcmjklklaaSealW
namespace Go.Proofs.Ytbceejcmjklklaa
open Go.RowKit

theorem open_short (A : Option Addr) (n c : Nat) (w : World) (hn : n < 4) :
    Calls Try.prog 28 #[.slice A n c] w fun e w' => e = .returned (.tuple #[.slice none 0 0, .int .i64 100]) ∧ w = w' := by
  go_enter Try.func28, Try.ntmps28
  go_wp2
  go_ret2
  exact ⟨rfl, rfl⟩

set_option maxHeartbeats 400000 in
theorem open_bad (A : Option Addr) (k c B : Nat) (l : List UInt8) (w : World) (h : By w B A (k + 4) l) (hB : B ≤ w.heap.size) (hc : k + 4 ≤ c) (hn : k ≤ 1073741824)
    (hbad : sealed (l.take k) ≠ l) :
    Calls Try.prog 28 #[.slice A ((k + 4 : Nat)) c] w fun e w' => e = .returned (.tuple #[.slice none 0 0, .int .i64 101]) ∧ Below w.heap.size w w' := by
  have H := hide h
  have Hl := hide h.length
  have Hc1 := hide (Sl.head h (k := k) (by omega))
  have Hc2 := hide (Sl.tail h (k := k) (by omega) hc)
  rw [u8s_take] at Hc1
  rw [u8s_drop, show k + 4 - k = 4 by omega] at Hc2
  have hs1 := fun W => run_cut_h (P := Try.prog) ety8 A (k + 4) c W k .i64 (by omega)
  have hs2 := fun W => run_cut_l (P := Try.prog) ety8 A (k + 4) c W k .i64 (by omega)
  have hcl := crc_lt (l.take k)
  have hne : eqB (four (crc (l.take k))) (l.drop k) = false := eqB_of_ne (fun e => hbad (by unfold sealed; rw [e, List.take_append_drop]))
  have Hne := hide hne
  clear h hbad hne
  go_enter Try.func28, Try.ntmps28
  go_wp2_with fail
  go_region_with (first | (go_at_call 34; refine (sum_any _ _ _ _ (l.take k) _ Hc1.out.drew (by omega)).mono ?_; rintro e w' ⟨rfl, rfl⟩) | (go_at_call 33; refine (four_any _ hcl _).mono ?_; rintro e w1 ⟨A1, c1, rfl, hown1, hb1⟩; have Hown1 := hide hown1; clear hown1) | (go_at_call 29; refine (equal_any _ _ _ _ _ _ _ _ (four (crc (l.take k))) (l.drop k) _ Hown1.out.by (Sl.below Hc2.out.drew (hb1.mono hB)) (by omega)).mono ?_; rintro e w' ⟨rfl, d, rfl⟩; rw [Hne.out]))
  go_wp2
  go_ret2
  exact ⟨rfl, bel_dN ((Below.refl _ _).drew.trans hb1) _⟩

set_option maxHeartbeats 400000 in
theorem open_good (ad : Addr) (k c B : Nat) (l : List UInt8) (w : World) (h : By w B (some ad) (k + 4) l) (hB : B ≤ w.heap.size) (hc : k + 4 ≤ c) (hn : k ≤ 1073741824)
    (hgood : sealed (l.take k) = l) :
    Calls Try.prog 28 #[.slice (some ad) ((k + 4 : Nat)) c] w fun e w' => ∃ A' c', e = .returned (.tuple #[.slice A' k c', .int .i64 0]) ∧ OwnBy w' w.heap.size A' k c' (l.take k) ∧ Below w.heap.size w w' := by
  have H := hide h
  have Hc1 := hide (Sl.head h (k := k) (by omega))
  have Hc2 := hide (Sl.tail h (k := k) (by omega) hc)
  rw [u8s_take] at Hc1
  rw [u8s_drop, show k + 4 - k = 4 by omega] at Hc2
  have hs1 := fun W => run_cut_h (P := Try.prog) ety8 (some ad) (k + 4) c W k .i64 (by omega)
  have hs2 := fun W => run_cut_l (P := Try.prog) ety8 (some ad) (k + 4) c W k .i64 (by omega)
  have hs3 := fun W => run_cut_hm (P := Try.prog) ety8 (some ad) (k + 4) c W k k .i64 .i64 (Nat.le_refl _) (by omega)
  have hcl := crc_lt (l.take k)
  have hne : eqB (four (crc (l.take k))) (l.drop k) = true := by
    have h2 : l.take k ++ four (crc (l.take k)) = l.take k ++ l.drop k := by rw [List.take_append_drop]; exact hgood
    rw [List.append_cancel_left h2, eqB_self]
  have Hne := hide hne
  have hB' := hB
  clear h hgood hne
  go_enter Try.func28, Try.ntmps28
  go_wp2_with fail
  go_region_with (first | (go_at_call 34; refine (sum_any _ _ _ _ (l.take k) _ Hc1.out.drew (by omega)).mono ?_; rintro e w' ⟨rfl, rfl⟩) | (go_at_call 33; refine (four_any _ hcl _).mono ?_; rintro e w1 ⟨A1, c1, rfl, hown1, hb1⟩; have Hown1 := hide hown1; clear hown1) | (go_at_call 29; refine (equal_any _ _ _ _ _ _ _ _ (four (crc (l.take k))) (l.drop k) _ Hown1.out.by (Sl.below Hc2.out.drew (hb1.mono hB)) (by omega)).mono ?_; rintro e w' ⟨rfl, d, rfl⟩; rw [Hne.out]))
  go_wp2_with fail
  have hb2 := bel_dN ((Below.refl w.heap.size w).drew.trans hb1) d
  refine (clone_some ad k k B (l.take k) _ (Hc1.out.below (hb2.mono hB')) (Nat.le_trans hB' hb2.size) (by omega)).mono ?_
  rintro e w3 ⟨A3, c3, rfl, hown3, hb3⟩
  have Hown3 := hide hown3
  clear hown3
  go_wp2_with fail
  go_ret2
  exact ⟨A3, c3, rfl, own_by_base Hown3.out hb2.size, hb2.trans (hb3.mono hb2.size)⟩
end Go.Proofs.Ytbceejcmjklklaa
