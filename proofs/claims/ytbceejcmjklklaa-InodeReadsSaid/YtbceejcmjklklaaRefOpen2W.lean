/- The walk over marlref01.Open. -/
import Derived.Test.YtbceejcmjklklaaRefOpenW
namespace Go.Proofs.Ytbceejcmjklklaa
open Go.RowKit

theorem ropen_short (A : Option Addr) (n c : Nat) (w : World) (hn : n < 4) :
    Calls Try.prog 31 #[.slice A n c] w fun e w' => e = .returned (.tuple #[.slice none 0 0, .int .i64 100]) ∧ w = w' := by
  go_enter Try.func31, Try.ntmps31
  go_wp2
  go_ret2
  exact ⟨rfl, rfl⟩

set_option maxHeartbeats 400000 in
theorem ropen_bad (A : Option Addr) (k c B : Nat) (l : List UInt8) (w : World) (h : By w B A (k + 4) l) (hB : B ≤ w.heap.size) (hc : k + 4 ≤ c) (hn : k ≤ 1073741824)
    (hbad : sealed (l.take k) ≠ l) :
    Calls Try.prog 31 #[.slice A ((k + 4 : Nat)) c] w fun e w' => e = .returned (.tuple #[.slice none 0 0, .int .i64 101]) ∧ Below w.heap.size w w' := by
  have H := hide h
  have Hc1 := hide (Sl.head h (k := k) (by omega))
  rw [u8s_take] at Hc1
  have hs1 := fun W => run_cut_h (P := Try.prog) ety8 A (k + 4) c W k .i64 (by omega)
  have hbad2 := txt_ne hbad
  have hB' := hB
  have e0 := run_conv_txt (P := Try.prog) w.drew Try.underlying29 Try.underlying5 Try.underlying9 c h.drew
  clear h hbad
  go_enter Try.func31, Try.ntmps31
  go_wp2_with fail
  go_region_with ((go_at_call 30; refine (rseal_any _ _ _ _ (l.take k) _ Hc1.out.drew hB hn).mono ?_; rintro e w1 ⟨A1, c1, rfl, hown1, hb1⟩; have Hown1 := hide hown1; clear hown1; have e1 := run_conv_txt (P := Try.prog) w1 Try.underlying29 Try.underlying5 Try.underlying9 c1 Hown1.out.by; have e2 := run_conv_txt (P := Try.prog) w1 Try.underlying29 Try.underlying5 Try.underlying9 c (Sl.below H.out.drew (hb1.mono hB'))))
  go_goals
  all_goals (go_wp2; go_ret2; exact ⟨rfl, (Below.refl _ _).drew.trans hb1⟩)

set_option maxHeartbeats 400000 in
theorem ropen_good (A : Option Addr) (k c B : Nat) (l : List UInt8) (w : World) (h : By w B A (k + 4) l) (hB : B ≤ w.heap.size) (hc : k + 4 ≤ c) (hn : k ≤ 1073741824)
    (hgood : sealed (l.take k) = l) :
    Calls Try.prog 31 #[.slice A ((k + 4 : Nat)) c] w fun e w' => e = .returned (.tuple #[.slice A k c, .int .i64 0]) ∧ Below w.heap.size w w' := by
  have H := hide h
  have Hc1 := hide (Sl.head h (k := k) (by omega))
  rw [u8s_take] at Hc1
  have hs1 := fun W => run_cut_h (P := Try.prog) ety8 A (k + 4) c W k .i64 (by omega)
  have Hgood := hide hgood
  have hB' := hB
  have e0 := run_conv_txt (P := Try.prog) w.drew Try.underlying29 Try.underlying5 Try.underlying9 c h.drew
  clear h hgood
  go_enter Try.func31, Try.ntmps31
  go_wp2_with fail
  go_region_with ((go_at_call 30; refine (rseal_any _ _ _ _ (l.take k) _ Hc1.out.drew hB hn).mono ?_; rintro e w1 ⟨A1, c1, rfl, hown1, hb1⟩; rw [Hgood.out] at hown1; have Hown1 := hide hown1; clear hown1; have e1 := run_conv_txt (P := Try.prog) w1 Try.underlying29 Try.underlying5 Try.underlying9 c1 Hown1.out.by; have e2 := run_conv_txt (P := Try.prog) w1 Try.underlying29 Try.underlying5 Try.underlying9 c (Sl.below H.out.drew (hb1.mono hB'))))
  all_goals (go_wp2; go_ret2; exact ⟨rfl, (Below.refl _ _).drew.trans hb1⟩)
end Go.Proofs.Ytbceejcmjklklaa
