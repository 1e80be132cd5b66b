/- The walks over marlref03.Four and marlref03.Encode. -/
import Derived.Test.YtdcojnmgipidmaaGeomEncW
namespace Go.Proofs.Ytdcojnmgipidmaa
open Go.RowKit

theorem rfour_any (n : Nat) (w : World) (hn : n ≤ 1099511627776) :
    Calls Try.prog 24 #[.int .i64 n] w fun e w' => ∃ A' c', e = .returned (.slice A' 4 c') ∧ OwnBy w' w.heap.size A' 4 c' (four n) ∧ Below w.heap.size w w' := by
  go_enter Try.func24, Try.ntmps24
  go_wp2
  go_ret
  refine ⟨_, _, rfl, own_bytes _ ?_ (Nat.le_refl _) (four_length n) (by omega), (Below.refl _ _).alloc (Nat.le_refl _) _⟩
  rw [u8s_four]
  simp

/-- The length in a slot. -/
def slLen : Value → Nat
  | .slice _ n _ => n
  | _ => 0

set_option maxHeartbeats 2000000 in
theorem renc_any (b s i : Nat) (w : World) (hb : b ≤ 100000) (hs : s ≤ 100000) (hi : i ≤ 100000) :
    Calls Try.prog 19 #[geoV b s i] w fun e w' => ∃ A c, e = .returned (.slice A 64 c) ∧ OwnBy w' w.heap.size A 64 c (sealed (geoBytes b s i)) ∧ Below w.heap.size w w' := by
  go_enter Try.func19, Try.ntmps19
  go_wp2_with fail
  have Hb0 := hide (Below.refl (w.heap.size + 1) (w.alloc (.cells #[.int .i64 b, .int .i64 s, .int .i64 i] 26)))
  have Hown0 := hide (own_bytes (w := w.alloc (.cells #[.int .i64 b, .int .i64 s, .int .i64 i] 26)) (base := w.heap.size + 1) (n := 4) (l := geoPre [b, s, i] 0) #[.int .u8 77, .int .u8 65, .int .u8 82, .int .u8 76] rfl (by simp) rfl (by omega))
  simp only [World.size_alloc] at Hown0
  have Hb1 := hide (Hb0.out.alloc (by simp) (.cells #[.int .u8 77, .int .u8 65, .int .u8 82, .int .u8 76] 5))
  generalize hw1 : (w.alloc (.cells #[.int .i64 b, .int .i64 s, .int .i64 i] 26)).alloc (.cells #[.int .u8 77, .int .u8 65, .int .u8 82, .int .u8 76] 5) = w1 at *
  clear hw1
  have hsz1 : w.heap.size + 1 ≤ w1.heap.size := by have := Hb1.out.size; simpa using this
  refine (rfour_any b _ (by omega)).mono ?_
  rintro e w2 ⟨A2, c2, rfl, hown2, hb2⟩
  have Hf2 := hide hown2
  have Ho2 := hide (own_keep Hown0.out hb2)
  have Hb2 := hide (Hb1.out.trans (hb2.mono hsz1))
  have hsz2 : w.heap.size + 1 ≤ w2.heap.size := Nat.le_trans hsz1 hb2.size
  clear hown2 hb2
  go_wp2_with (
    at_builtin
    refine wpList_app _ rfl (.tmp 5) (.tmp 8) _ rfl ety8 (w.heap.size + 1) (.slice (some ⟨w.heap.size + 1, 0, none⟩) 4 4) 4 (u8s (geoPre [b, s, i] 0)) rfl Ho2.out w2.heap.size A2 4 c2 (u8s (four b)) rfl
      Hf2.out.by (u8s_one _) (by omega) hsz2 ?_
    intro A3 c3 w3 hown3 hg3 _
    rw [← u8s_append] at hown3
    have Hown3 := hide (show OwnBy w3 (w.heap.size + 1) A3 8 c3 (geoPre [b, s, i] 1) from hown3)
    have Hb3 := hide (Hb2.out.grown hg3 hsz2 (fun k hk => (Ho2.out.lt k hk).1))
    have hsz3 : w.heap.size + 1 ≤ w3.heap.size := Nat.le_trans hsz2 hg3.size
    clear hown3 hg3
    obtain ⟨c0, c1, c2⟩ := box3 Hb3.out)
  clear c0 c1 c2
  refine (rfour_any s _ (by omega)).mono ?_
  rintro e w4 ⟨A4, c4, rfl, hown4, hb4⟩
  have Hf4 := hide hown4
  have Ho4 := hide (own_keep Hown3.out hb4)
  have Hb4 := hide (Hb3.out.trans (hb4.mono hsz3))
  have hsz4 : w.heap.size + 1 ≤ w4.heap.size := Nat.le_trans hsz3 hb4.size
  clear hown4 hb4
  go_wp2_with (
    at_builtin
    refine wpList_app _ rfl (.tmp 10) (.tmp 13) _ rfl ety8 (w.heap.size + 1) (.slice A3 8 c3) 8 (u8s (geoPre [b, s, i] 1)) rfl Ho4.out w4.heap.size A4 4 c4 (u8s (four s)) rfl
      Hf4.out.by (u8s_one _) (by omega) hsz4 ?_
    intro A5 c5 w5 hown5 hg5 _
    rw [← u8s_append] at hown5
    have Hown5 := hide (show OwnBy w5 (w.heap.size + 1) A5 12 c5 (geoPre [b, s, i] 2) from hown5)
    have Hb5 := hide (Hb4.out.grown hg5 hsz4 (fun k hk => (Ho4.out.lt k hk).1))
    have hsz5 : w.heap.size + 1 ≤ w5.heap.size := Nat.le_trans hsz4 hg5.size
    clear hown5 hg5
    obtain ⟨c0, c1, c2⟩ := box3 Hb5.out)
  clear c0 c1 c2
  refine (rfour_any i _ (by omega)).mono ?_
  rintro e w6 ⟨A6, c6, rfl, hown6, hb6⟩
  have Hf6 := hide hown6
  have Ho6 := hide (own_keep Hown5.out hb6)
  have Hb6 := hide (Hb5.out.trans (hb6.mono hsz5))
  have hsz6 : w.heap.size + 1 ≤ w6.heap.size := Nat.le_trans hsz5 hb6.size
  clear hown6 hb6
  go_wp2_with (
    at_builtin
    refine wpList_app _ rfl (.tmp 15) (.tmp 18) _ rfl ety8 (w.heap.size + 1) (.slice A5 12 c5) 12 (u8s (geoPre [b, s, i] 2)) rfl Ho6.out w6.heap.size A6 4 c6 (u8s (four i)) rfl
      Hf6.out.by (u8s_one _) (by omega) hsz6 ?_
    intro A7 c7 w7 hown7 hg7 _
    rw [← u8s_append] at hown7
    have Hown7 := hide (show OwnBy w7 (w.heap.size + 1) A7 16 c7 (geoPre [b, s, i] 3) from hown7)
    have Hb7 := hide (Hb6.out.grown hg7 hsz6 (fun k hk => (Ho6.out.lt k hk).1))
    have hsz7 : w.heap.size + 1 ≤ w7.heap.size := Nat.le_trans hsz6 hg7.size
    clear hown7 hg7
    obtain ⟨c0, c1, c2⟩ := box3 Hb7.out)
  clear c0 c1 c2
  go_loopw [3] (fun v wr => ∃ k : Nat, 16 ≤ k ∧ k ≤ 60 ∧ ∃ A c, v = .slice A k c ∧ OwnBy wr (w.heap.size + 1) A k c (geoPre [b, s, i] 3 ++ List.replicate (k - 16) 0) ∧ Below (w.heap.size + 1) (w.alloc (.cells #[.int .i64 b, .int .i64 s, .int .i64 i] 26)) wr) (fun v _ => 60 - slLen v)
  case atStart => exact ⟨16, by omega, by omega, A7, c7, rfl, by simpa using Hown7.out, Hb7.out⟩
  case round =>
    clear hsz1 hsz2 hsz3 hsz4 hsz5 hsz6 hsz7 hb hs hi
    obtain ⟨k, k0, k1, A, c, rfl, hown8, hb8⟩ := hrel
    have Hown8 := hide hown8
    have Hb8 := hide hb8
    have hsz8 : w.heap.size + 1 ≤ wr.heap.size := by have := hb8.size; simpa using this
    clear hown8 hb8
    by_cases hlt : k < 60
    · go_wp2_with (
        at_builtin
        refine wpList_app _ rfl (.tmp 23) (.tmp 24) _ rfl ety8 (w.heap.size + 1) (.slice A k c) k (u8s (geoPre [b, s, i] 3 ++ List.replicate (k - 16) 0)) rfl (Hown8.out.alloc _) (wr.heap.size + 1) (some ⟨wr.heap.size, 0, none⟩) 1 1 (u8s [0]) rfl
          ?_ (u8s_one _) (by omega) (by simp; omega) ?_
        · have := (own_bytes (w := wr) (base := 0) (n := 1) (l := [0]) #[.int .u8 0] rfl (Nat.zero_le _) rfl (by omega)).by
          simpa using this
        intro A9 c9 w9 hown9 hg9 _
        rw [← u8s_append] at hown9
        have Hown9 := hide hown9
        have Hb9 := hide ((Hb8.out.alloc hsz8 _).grown hg9 (by simp; omega) (fun k hk => (Hown8.out.lt k hk).1))
        clear hown9 hg9)
      go_roundw
      case rel =>
        refine ⟨k + 1, by omega, by omega, A9, c9, rfl, ?_, Hb9.out⟩
        have := Hown9.out
        rw [List.append_assoc, show [(0 : UInt8)] = List.replicate 1 0 from rfl, List.replicate_append_replicate, show k - 16 + 1 = k + 1 - 16 by omega] at this
        exact this
      case measure => simp [slLen]; omega
    · have hk : k = 60 := by omega
      subst hk
      go_wp2_with fail
      refine (rseal_any _ _ _ _ (geoBytes b s i) _ (show By wr wr.heap.size A 60 (geoBytes b s i) from Hown8.out.by) (Nat.le_refl _) (by omega)).mono ?_
      rintro e w9 ⟨A9, c9, rfl, hown9, hb9⟩
      have Hown9 := hide hown9
      clear hown9
      go_wp2
      go_ret
      exact ⟨A9, c9, rfl, own_by_base Hown9.out (by omega), (box_end Hb8.out).trans (hb9.mono (by omega))⟩
end Go.Proofs.Ytdcojnmgipidmaa
