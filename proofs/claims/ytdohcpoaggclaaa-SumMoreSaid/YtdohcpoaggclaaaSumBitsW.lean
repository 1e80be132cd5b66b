/- The walk of marllaw01.SumBits. -/
import Derived.Test.YtdohcpoaggclaaaAwake
import Derived.Test.YtdohcpoaggclaaaSlicesW
namespace Go.Proofs.Ytdohcpoaggclaaa
open Go.RowKit

set_option maxHeartbeats 400000 in
theorem sumBits_big (A : Option Addr) (n cap : Nat) (w : World) (hbig : 5000 < n) :
    Calls Try.prog 3 #[.slice A n cap] w fun e w' => e = .returned (.bool true) ∧ Below w.heap.size w w' := by
  go_enter Try.func3, Try.ntmps3
  go_wp2_with fail
  refine (awake_any _).mono ?_
  rintro e w1 ⟨rfl, hb1⟩
  go_wp2_with fail
  refine (awake_any _).mono ?_
  rintro e w2 ⟨rfl, hb2⟩
  go_wp2_with fail
  go_ret
  exact ⟨rfl, hb1.trans (hb2.mono hb1.size)⟩

set_option maxHeartbeats 400000 in
theorem sumBits_small (A : Option Addr) (n cap : Nat) (l : List UInt8) (w : World) (h : By w w.heap.size A n l) (hs : n ≤ 5000) :
    Calls Try.prog 3 #[.slice A n cap] w fun e w' => e = .returned (.bool true) ∧ Below w.heap.size w w' := by
  have H := hide h
  clear h
  go_enter Try.func3, Try.ntmps3
  go_wp2_with fail
  refine (awake_any _).mono ?_
  rintro e w1 ⟨rfl, hb1⟩
  have H1 := hide (Sl.below H.out hb1)
  go_wp2_with (
    at_builtin
    refine wpList_app _ rfl (.tmp 12) (.tmp 13) _ rfl ety8 w.heap.size (.slice (some ⟨w1.heap.size, 0, none⟩) 0 0) 0 [] rfl (World.ownsRow_made w1 _ 0 hb1.size (by simp [maxLen]) rfl) w.heap.size A n cap (u8s l) rfl
      (H1.out.alloc hb1.size _) (u8s_one l) (by omega) (Nat.le_trans hb1.size (by simp)) ?_
    intro A2 c2 w2 hown2 hg2 _)
  simp only [Nat.zero_add, List.nil_append] at hown2
  have hb2 : Below w.heap.size w w2 := (hb1.alloc hb1.size _).grown hg2 (Nat.le_trans hb1.size (by simp)) (fun k hk => by
    have hk' : w1.heap.size = k := by simpa [Value.ownBlock] using hk
    have := hb1.size; omega)
  have hs2 := hide (Sl.of_own hown2)
  have H2 := hide (Sl.below H.out hb2)
  clear hg2 hown2
  refine (sum_any _ _ _ _ l _ hs2.out (by omega)).mono ?_
  rintro e w' ⟨rfl, rfl⟩
  go_wp2_with fail
  refine (rsum_any _ _ _ _ l _ H2.out (by omega)).mono ?_
  rintro e w' ⟨rfl, rfl⟩
  have e1 := run_conv_txt (P := Try.prog) w2 Try.underlying22 Try.underlying5 Try.underlying9 c2 hs2.out
  have e2 := run_conv_txt (P := Try.prog) w2 Try.underlying22 Try.underlying5 Try.underlying9 cap H2.out
  go_wp2_with fail
  go_ret
  exact ⟨rfl, hb2⟩

theorem sumBits_all (A : Option Addr) (n cap : Nat) (l : List UInt8) (w : World) (h : By w w.heap.size A n l) :
    Calls Try.prog 3 #[.slice A n cap] w fun e w' => e = .returned (.bool true) ∧ Below w.heap.size w w' := by
  by_cases hs : n ≤ 5000
  · exact sumBits_small A n cap l w h hs
  · exact sumBits_big A n cap w (by omega)
end Go.Proofs.Ytdohcpoaggclaaa
