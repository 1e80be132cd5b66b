/- The walk of marllaw01.SumOpens. -/
import Derived.Test.YtdohcpoaggclaaaAwake
import Derived.Test.YtdohcpoaggclaaaOpenW
import Derived.Test.YtdohcpoaggclaaaRefOpen2W
namespace Go.Proofs.Ytdohcpoaggclaaa
open Go.RowKit

theorem bel_own {w w1 w2 : World} {base : Nat} {c : Nat} (hb1 : Below base w w1) (hB : base ≤ w1.heap.size) (o : Obj)
    (hg : (w1.alloc o).grownBy w2 ((Value.slice (some ⟨w1.heap.size, 0, none⟩) 0 c).ownBlock)) : Below base w w2 :=
  (hb1.alloc hB o).grown hg (Nat.le_trans hB (by simp)) (fun k hk => by
    have hk' : w1.heap.size = k := by simpa [Value.ownBlock] using hk
    omega)

set_option maxHeartbeats 400000 in
theorem sumOpens_big (A : Option Addr) (n cap : Nat) (w : World) (hbig : 5000 < n) :
    Calls Try.prog 8 #[.slice A n cap] w fun e w' => e = .returned (.bool true) ∧ Below w.heap.size w w' := by
  go_enter Try.func8, Try.ntmps8
  go_wp2_with fail
  refine (awake_any _).mono ?_
  rintro e w1 ⟨rfl, hb1⟩
  go_wp2_with fail
  refine (awake_any _).mono ?_
  rintro e w2 ⟨rfl, hb2⟩
  go_wp2_with fail
  go_ret
  exact ⟨rfl, hb1.trans (hb2.mono hb1.size)⟩

set_option maxHeartbeats 400000 in
theorem sumOpens_short (A : Option Addr) (n cap : Nat) (l : List UInt8) (w : World) (h : By w w.heap.size A n l) (hs : n < 4) :
    Calls Try.prog 8 #[.slice A n cap] w fun e w' => e = .returned (.bool true) ∧ Below w.heap.size w w' := by
  have H := hide h
  clear h
  go_enter Try.func8, Try.ntmps8
  go_wp2_with fail
  refine (awake_any _).mono ?_
  rintro e w1 ⟨rfl, hb1⟩
  have H1 := hide (Sl.below H.out hb1)
  go_wp2_with (
    at_builtin
    refine wpList_app _ rfl (.tmp 16) (.tmp 17) _ rfl ety8 w.heap.size (.slice (some ⟨w1.heap.size, 0, none⟩) 0 0) 0 [] rfl (empty_own hb1.size) w.heap.size A n cap (u8s l) rfl
      (H1.out.alloc hb1.size _) (u8s_one l) (by omega) (Nat.le_trans hb1.size (by simp)) ?_
    intro A2 c2 w2 hown2 hg2 _
    simp only [Nat.zero_add, List.nil_append] at hown2
    have Hb2 := hide (bel_own hb1 hb1.size _ hg2)
    have Hown2 := hide hown2
    clear hg2 hown2)
  refine (open_short _ _ _ _ hs).mono ?_
  rintro e w' ⟨rfl, rfl⟩
  go_wp2_with fail
  refine (ropen_short _ _ _ _ hs).mono ?_
  rintro e w' ⟨rfl, rfl⟩
  have e1 := run_conv_txt (P := Try.prog) (A := none) (n := 0) (l := []) (B := 0) w2 Try.underlying22 Try.underlying5 Try.underlying9 0 Sl.nil_
  go_wp2_with fail
  go_ret
  exact ⟨rfl, Hb2.out⟩

set_option maxHeartbeats 400000 in
theorem sumOpens_bad (A : Option Addr) (k cap : Nat) (l : List UInt8) (w : World) (n : Nat) (hk : n = k + 4) (h : By w w.heap.size A n l) (hs : n ≤ 5000) (hcap : n ≤ cap) (hbad : sealed (l.take k) ≠ l) :
    Calls Try.prog 8 #[.slice A n cap] w fun e w' => e = .returned (.bool true) ∧ Below w.heap.size w w' := by
  have H := hide h
  have Hk := hide hk
  clear h hk
  go_enter Try.func8, Try.ntmps8
  go_wp2_with fail
  refine (awake_any _).mono ?_
  rintro e w1 ⟨rfl, hb1⟩
  have H1 := hide (Sl.below H.out hb1)
  go_wp2_with (
    at_builtin
    refine wpList_app _ rfl (.tmp 16) (.tmp 17) _ rfl ety8 w.heap.size (.slice (some ⟨w1.heap.size, 0, none⟩) 0 0) 0 [] rfl (empty_own hb1.size) w.heap.size A n cap (u8s l) rfl
      (H1.out.alloc hb1.size _) (u8s_one l) (by omega) (Nat.le_trans hb1.size (by simp)) ?_
    intro A2 c2 w2 hown2 hg2 _
    simp only [Nat.zero_add, List.nil_append] at hown2
    have Hb2 := hide (bel_own hb1 hb1.size _ hg2)
    have Hown2 := hide hown2
    clear hg2 hown2)
  have hc2 : n ≤ c2 := by
    obtain ⟨A', c', e, h1, _⟩ := own_form Hown2.out
    injection e with e1 e2 e3
    omega
  have Hby2 := hide (Sl.of_own Hown2.out)
  have Hbad := hide hbad
  clear hbad
  have C := open_bad A2 k c2 _ l w2 (by rw [← Hk.out]; exact Hby2.out) (Nat.le_refl _) (by rw [← Hk.out]; exact hc2) (by have := Hk.out; omega) Hbad.out
  rw [← Hk.out] at C
  refine C.mono ?_
  clear C
  rintro e w3 ⟨rfl, hb3⟩
  have hb3' := Hb2.out.trans (hb3.mono Hb2.out.size)
  go_wp2_with fail
  have C := ropen_bad A k cap w.heap.size l w3 (by rw [← Hk.out]; exact Sl.below H.out hb3') hb3'.size (by rw [← Hk.out]; exact hcap) (by have := Hk.out; omega) Hbad.out
  rw [← Hk.out] at C
  refine C.mono ?_
  clear C
  rintro e w4 ⟨rfl, hb4⟩
  have e1 := run_conv_txt (P := Try.prog) (A := none) (n := 0) (l := []) (B := 0) w4 Try.underlying22 Try.underlying5 Try.underlying9 0 Sl.nil_
  go_wp2_with fail
  go_ret
  exact ⟨rfl, hb3'.trans (hb4.mono hb3'.size)⟩

set_option maxHeartbeats 400000 in
theorem sumOpens_good (A : Option Addr) (k cap : Nat) (l : List UInt8) (w : World) (n : Nat) (hk : n = k + 4) (h : By w w.heap.size A n l) (hs : n ≤ 5000) (hcap : n ≤ cap) (hgood : sealed (l.take k) = l) :
    Calls Try.prog 8 #[.slice A n cap] w fun e w' => e = .returned (.bool true) ∧ Below w.heap.size w w' := by
  have Hgood := hide hgood
  clear hgood
  have H := hide h
  have Hk := hide hk
  clear h hk
  go_enter Try.func8, Try.ntmps8
  go_wp2_with fail
  refine (awake_any _).mono ?_
  rintro e w1 ⟨rfl, hb1⟩
  have H1 := hide (Sl.below H.out hb1)
  go_wp2_with (
    at_builtin
    refine wpList_app _ rfl (.tmp 16) (.tmp 17) _ rfl ety8 w.heap.size (.slice (some ⟨w1.heap.size, 0, none⟩) 0 0) 0 [] rfl (empty_own hb1.size) w.heap.size A n cap (u8s l) rfl
      (H1.out.alloc hb1.size _) (u8s_one l) (by omega) (Nat.le_trans hb1.size (by simp)) ?_
    intro A2 c2 w2 hown2 hg2 _
    simp only [Nat.zero_add, List.nil_append] at hown2
    have Hb2 := hide (bel_own hb1 hb1.size _ hg2)
    have Hown2 := hide hown2
    clear hg2 hown2)
  have hc2 : n ≤ c2 := by
    obtain ⟨A', c', e, h1, _⟩ := own_form Hown2.out
    injection e with e1 e2 e3
    omega
  have Hby2 := hide (Sl.of_own Hown2.out)
  obtain ⟨_, ad, rfl, _⟩ := By.get Hby2.out (show 0 < n by have := Hk.out; omega)
  have C := open_good ad k c2 _ l w2 (by rw [← Hk.out]; exact Hby2.out) (Nat.le_refl _) (by rw [← Hk.out]; exact hc2) (by have := Hk.out; omega) Hgood.out
  rw [← Hk.out] at C
  refine C.mono ?_
  clear C
  rintro e w3 ⟨A3, c3, rfl, hown3, hb3⟩
  have Hown3 := hide hown3
  clear hown3
  have hb3' := Hb2.out.trans (hb3.mono Hb2.out.size)
  go_wp2_with fail
  have C := ropen_good A k cap w.heap.size l w3 (by rw [← Hk.out]; exact Sl.below H.out hb3') hb3'.size (by rw [← Hk.out]; exact hcap) (by have := Hk.out; omega) Hgood.out
  rw [← Hk.out] at C
  refine C.mono ?_
  clear C
  rintro e w4 ⟨rfl, hb4⟩
  have hb4' := hb3'.trans (hb4.mono hb3'.size)
  have hh := Sl.head (Sl.below H.out hb4') (k := k) (by have := Hk.out; omega)
  rw [u8s_take] at hh
  have e1 := run_conv_txt (P := Try.prog) w4 Try.underlying22 Try.underlying5 Try.underlying9 c3 (Sl.below Hown3.out.by hb4)
  have e2 := run_conv_txt (P := Try.prog) w4 Try.underlying22 Try.underlying5 Try.underlying9 cap hh
  clear hh
  go_wp2_with fail
  go_ret
  exact ⟨rfl, hb4'⟩

theorem sumOpens_all (A : Option Addr) (n cap : Nat) (l : List UInt8) (w : World) (h : By w w.heap.size A n l) (hcap : n ≤ cap) :
    Calls Try.prog 8 #[.slice A n cap] w fun e w' => e = .returned (.bool true) ∧ Below w.heap.size w w' := by
  by_cases hs : n ≤ 5000
  · by_cases h4 : n < 4
    · exact sumOpens_short A n cap l w h h4
    · obtain ⟨k, hk⟩ : ∃ k, n = k + 4 := ⟨n - 4, by omega⟩
      by_cases hg : sealed (l.take k) = l
      · exact sumOpens_good A k cap l w n hk h hs hcap hg
      · exact sumOpens_bad A k cap l w n hk h hs hcap hg
  · exact sumOpens_big A n cap w (by omega)
end Go.Proofs.Ytdohcpoaggclaaa
