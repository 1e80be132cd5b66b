/- The fixed fact 'awake' of marllaw01. -/
import Derived.Test.YtdohcpoaggclaaaRefW
import Derived.Lib.SlBytesConst
namespace Go.Proofs.Ytdohcpoaggclaaa
open Go.RowKit

def nine : List UInt8 := [49, 50, 51, 52, 53, 54, 55, 56, 57]
theorem crc_nine : crc nine = 3421780262 := by decide +kernel

theorem nine_by (w : World) (t : TypeId) (f : Nat × Nat) : By (w.alloc (.cells #[.int .u8 49, .int .u8 50, .int .u8 51, .int .u8 52, .int .u8 53, .int .u8 54, .int .u8 55, .int .u8 56, .int .u8 57] t f)) (w.heap.size + 1) (some ⟨w.heap.size, 0, none⟩) 9 nine := by
  refine ⟨rfl, fun j u hu => ⟨_, rfl, by simp, ?_⟩⟩
  rw [show (Addr.mk w.heap.size 0 none).add j = ⟨w.heap.size, j, none⟩ by unfold Addr.add; split <;> simp_all]
  rw [cell_of_row _ _ _ _ _ _ (heap_alloc_new w _)]
  simpa [nine, u8s] using hu

set_option maxHeartbeats 400000 in
theorem awake_any (w : World) :
    Calls Try.prog 10 #[] w fun e w' => e = .returned (.bool true) ∧ Below w.heap.size w w' := by
  have kc := fun (w : World) (C : Array Value) (n c : Nat) => Lib.run_convert_bytes_const (P := Try.prog) w 22 5 C n c Try.underlying22 Try.underlying5
  go_enter Try.func10, Try.ntmps10
  go_wp2_with fail
  refine (sum_any _ _ _ _ nine _ (nine_by _ _ _) (by omega)).mono ?_
  rintro e w' ⟨rfl, rfl⟩
  rw [crc_nine]
  go_wp2_with fail
  refine (sum_any _ _ _ 0 [] _ Sl.nil_ (by omega)).mono ?_
  rintro e w' ⟨rfl, rfl⟩
  rw [show crc [] = 0 from rfl]
  go_wp2_with fail
  go_ret
  exact ⟨rfl, (Below.refl _ _).alloc (Nat.le_refl _) _⟩
end Go.Proofs.Ytdohcpoaggclaaa
