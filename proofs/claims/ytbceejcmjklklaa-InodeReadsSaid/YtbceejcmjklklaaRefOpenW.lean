/- The walks over marlref01.Seal and marlref01.Open. -/
import Derived.Test.YtbceejcmjklklaaRefSumW
import Derived.Test.YtbceejcmjklklaaSealW
namespace Go.Proofs.Ytbceejcmjklklaa
open Go.RowKit

set_option maxHeartbeats 400000 in
theorem rseal_any (A : Option Addr) (n c B : Nat) (l : List UInt8) (w : World) (h : By w B A n l) (hB : B ≤ w.heap.size) (hn : n ≤ 1073741824) :
    Calls Try.prog 30 #[.slice A n c] w fun e w' => ∃ A' c', e = .returned (.slice A' (n + 4) c') ∧ OwnBy w' w.heap.size A' (n + 4) c' (sealed l) ∧ Below w.heap.size w w' := by
  have H := hide h
  clear h
  have hcl := crc_lt l
  have h256 := hide (show ((crc l : Nat) : Int) / 16777216 = ((crc l / 16777216 % 256 : Nat) : Int) by omega)
  go_enter Try.func30, Try.ntmps30
  go_wp2_with fail
  refine (rsum_any _ _ _ _ l _ H.out (by omega)).mono ?_
  rintro e w' ⟨rfl, rfl⟩
  have h4 := hide (u8s_four (crc l))
  have hsd := hide (show sealed l = l ++ four (crc l) from rfl)
  generalize hce : crc l = s at *
  clear hce
  go_wp2_with (first
    | (at_builtin
       refine wpList_app _ rfl (.tmp 6) (.tmp 7) _ rfl ety8 w.heap.size (.slice (some ⟨w.heap.size, 0, none⟩) 0 0) 0 [] rfl (empty_own (Nat.le_refl _)) B A n c (u8s l) rfl
         (H.out.alloc hB _) (u8s_one l) (by omega) (by simp) ?_
       intro A2 c2 w2 hown2 hg2 _
       simp only [Nat.zero_add, List.nil_append] at hown2
       have Hown2 := hide hown2
       have Hb2 := hide (((Below.refl w.heap.size w).alloc (Nat.le_refl _) _).grown hg2 (by simp) (fun k hk => by
         have hk' : w.heap.size = k := by simpa [Value.ownBlock] using hk
         omega))
       clear hown2 hg2)
    | (at_builtin
       refine wpList_app _ rfl (.tmp 8) (.tmp 23) _ rfl ety8 w.heap.size (.slice A2 n c2) n (u8s l) rfl (Hown2.out.alloc _) (w2.heap.size + 1) (some ⟨w2.heap.size, 0, none⟩) 4 4 (u8s (four s)) rfl
         ?_ (u8s_one _) (by omega) (by have := Hb2.out.size; simp; omega) ?_
       · have := (own_bytes (w := w2) (base := 0) (n := 4) (l := four s) #[.int .u8 ((s : Int) % 256), .int .u8 ((s : Int) / 256 % 256), .int .u8 ((s : Int) / 65536 % 256), .int .u8 ((s : Int) / 16777216)] (by rw [h4.out, ← h256.out]; simp) (Nat.zero_le _) rfl (by omega)).by
         simpa using this
       intro A3 c3 w3 hown3 hg3 _
       have Hown3 := hide hown3
       have Hb3 := hide ((Hb2.out.alloc Hb2.out.size _).grown hg3 (by have := Hb2.out.size; simp; omega) (fun k hk => (Hown2.out.lt k hk).1))
       clear hown3 hg3))
  go_ret
  refine ⟨A3, c3, rfl, ?_, Hb3.out⟩
  have := Hown3.out
  rw [OwnBy, hsd.out, u8s_append]
  exact this
end Go.Proofs.Ytbceejcmjklklaa
