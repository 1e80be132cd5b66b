/- The walk of marllaw01.SumMore. -/
import Derived.Test.YtdohcpoaggclaaaSumBitsW
import Derived.Deep.QuietTactic
import Derived.BigQuiet
namespace Go.Proofs.Ytdohcpoaggclaaa
open Go.RowKit

set_option maxHeartbeats 400000 in
theorem sumMore_big (A : Option Addr) (n cap : Nat) (c : Int) (w : World) (hbig : 5000 < n) :
    Calls Try.prog 4 #[.slice A n cap, .int .i64 c] w fun e w' => e = .returned (.bool true) ∧ Below w.heap.size w w' := by
  go_enter Try.func4, Try.ntmps4
  go_wp2_with fail
  refine (awake_any _).mono ?_
  rintro e w1 ⟨rfl, hb1⟩
  go_wp2_with fail
  refine (awake_any _).mono ?_
  rintro e w2 ⟨rfl, hb2⟩
  go_wp2_with fail
  go_ret
  exact ⟨rfl, hb1.trans (hb2.mono hb1.size)⟩

/-- A contract that leaves the world alone, as a region in an open order wants it. -/
theorem quiet_l {P : Program} {f : FuncId} {args : Array Value} {w : World} {n : Nat} {v : Value}
    (h : Calls P f args (w.drewN n) fun e w' => e = .returned v ∧ w.drewN n = w') : Calls P f args (w.drewN n) fun e w' => e = .returned v ∧ ∃ m, w' = w.drewN m :=
  h.mono fun _ _ ⟨he, hm⟩ => ⟨he, n, hm.symm⟩
theorem rem_place (c : Int) (n : Nat) (hn : n ≤ 5000) : ∃ k : Nat, wrap64 ((IntKind.u64.wrap c).tmod ((n : Int) + 1)) = (k : Int) ∧ k ≤ n := by
  have h0 : 0 ≤ IntKind.u64.wrap c := by simp [IntKind.wrap, IntKind.bits, IntKind.signed]; omega
  generalize IntKind.u64.wrap c = u at *
  rw [Int.tmod_eq_emod_of_nonneg h0]
  have h1 := Int.emod_nonneg u (show (n : Int) + 1 ≠ 0 by omega)
  have h2 := Int.emod_lt_of_pos u (show (0 : Int) < (n : Int) + 1 by omega)
  refine ⟨(u % ((n : Int) + 1)).toNat, ?_, by omega⟩
  rw [IntWalk.wrap64_in _ (by omega)]
  omega

set_option maxHeartbeats 400000 in
theorem sumMore_small (A : Option Addr) (n cap : Nat) (c : Int) (l : List UInt8) (w : World) (h : By w w.heap.size A n l) (hs : n ≤ 5000) (hcap : n ≤ cap) :
    Calls Try.prog 4 #[.slice A n cap, .int .i64 c] w fun e w' => e = .returned (.bool true) ∧ Below w.heap.size w w' := by
  have H := hide h
  clear h
  go_enter Try.func4, Try.ntmps4
  go_wp2_with fail
  refine (awake_any _).mono ?_
  rintro e w1 ⟨rfl, hb1⟩
  have H1 := hide (Sl.below H.out hb1)
  obtain ⟨k, hk, hkn⟩ := rem_place c n hs
  have Hk := hide hk
  have Hkn := hide hkn
  have Hc1 := hide (Sl.head H1.out hkn)
  have Hc2 := hide (Sl.tail H1.out hkn hcap)
  have hs1 := fun W => run_cut_h (P := Try.prog) ety8 A n cap W k .i64 (Nat.le_trans hkn hcap)
  have hs2 := fun W => run_cut_l (P := Try.prog) ety8 A n cap W k .i64 hkn
  have hcl := crc_lt (l.take k)
  have hfin := hide (show crcMore (crc (l.take k)) (l.drop k) = crc l by rw [← crc_append, List.take_append_drop])
  clear hk hkn
  go_wp2_with fail
  rw [Hk.out]
  rw [u8s_take] at Hc1
  rw [u8s_drop] at Hc2
  go_quiet ((first | (go_at_call 11; exact quiet_l (sum_any _ _ _ _ (l.take k) _ (Hc1.out.drewN _) (by have := Hkn.out; omega))) | (go_at_call 13; exact quiet_l (more_any _ hcl _ _ _ _ (l.drop k) _ (Hc2.out.drewN _) (by omega))) | (go_at_call 12; exact quiet_l (rsum_any _ _ _ _ l _ (H1.out.drewN _) (by omega)))))
  go_wp2_with fail
  go_ret
  exact ⟨by show Ending.returned (Value.bool (_ == _)) = _; rw [hfin.out]; simp, bel_dN hb1 _⟩

theorem sumMore_all (A : Option Addr) (n cap : Nat) (c : Int) (l : List UInt8) (w : World) (h : By w w.heap.size A n l) (hcap : n ≤ cap) :
    Calls Try.prog 4 #[.slice A n cap, .int .i64 c] w fun e w' => e = .returned (.bool true) ∧ Below w.heap.size w w' := by
  by_cases hs : n ≤ 5000
  · exact sumMore_small A n cap c l w h hs hcap
  · exact sumMore_big A n cap c w (by omega)
end Go.Proofs.Ytdohcpoaggclaaa
