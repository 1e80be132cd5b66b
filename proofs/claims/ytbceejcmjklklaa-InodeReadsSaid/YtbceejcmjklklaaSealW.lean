/- The walks over sum.four, sum.Seal, sum.Open. -/
import Derived.Test.YtbceejcmjklklaaConcatW
import Derived.Deep.RegionWith
namespace Go.Proofs.Ytbceejcmjklklaa
open Go.RowKit

/-- A sum's bytes. -/
def four (c : Nat) : List UInt8 := [UInt8.ofNat c, UInt8.ofNat (c / 256), UInt8.ofNat (c / 65536), UInt8.ofNat (c / 16777216)]
theorem four_length (c : Nat) : (four c).length = 4 := rfl
theorem u8s_four (c : Nat) : u8s (four c) = [.int .u8 ((c % 256 : Nat) : Int), .int .u8 ((c / 256 % 256 : Nat) : Int), .int .u8 ((c / 65536 % 256 : Nat) : Int), .int .u8 ((c / 16777216 % 256 : Nat) : Int)] := by
  simp [u8s, four, UInt8.toNat_ofNat']
/-- Bytes with their sum. -/
def sealed (l : List UInt8) : List UInt8 := l ++ four (crc l)

theorem own_bytes {w : World} {base n : Nat} {l : List UInt8} (cur : Array Value) (h : cur.toList = u8s l) (hb : base ≤ w.heap.size) (hn : l.length = n) (hm : n ≤ 9223372036854775807) :
    OwnBy (w.alloc (.cells cur 5)) base (some ⟨w.heap.size, 0, none⟩) n n l := by
  have hs : cur.size = n := by rw [← Array.length_toList, h, u8s_length, hn]
  have := own_built (w := w) (base := base) (n := n) (e := 5) cur hb hs hm
  rwa [h] at this
theorem own_by_base {w : World} {base base' n c : Nat} {A : Option Addr} {l : List UInt8} (h : OwnBy w base A n c l) (hb : base' ≤ base) : OwnBy w base' A n c l := own_base h hb

theorem four_any (c : Nat) (hc : c < 4294967296) (w : World) :
    Calls Try.prog 33 #[.int .u32 c] w fun e w' => ∃ A' c', e = .returned (.slice A' 4 c') ∧ OwnBy w' w.heap.size A' 4 c' (four c) ∧ Below w.heap.size w w' := by
  go_enter Try.func33, Try.ntmps33
  go_wp2
  go_ret
  refine ⟨_, _, rfl, own_bytes _ ?_ (Nat.le_refl _) (four_length c) (by omega), (Below.refl _ _).alloc (Nat.le_refl _) _⟩
  rw [u8s_four]
  simp
  omega

set_option maxHeartbeats 400000 in
theorem seal_any (A : Option Addr) (n c B : Nat) (l : List UInt8) (w : World) (h : By w B A n l) (hB : B ≤ w.heap.size) (hn : n ≤ 1073741824) :
    Calls Try.prog 23 #[.slice A n c] w fun e w' => ∃ A' c', e = .returned (.slice A' (n + 4) c') ∧ OwnBy w' w.heap.size A' (n + 4) c' (sealed l) ∧ Below w.heap.size w w' := by
  have H := hide h
  clear h
  have hcl := crc_lt l
  go_enter Try.func23, Try.ntmps23
  go_wp2_with fail
  refine (sum_any _ _ _ _ l _ H.out (by omega)).mono ?_
  rintro e w' ⟨rfl, rfl⟩
  go_wp2_with fail
  refine (four_any _ hcl _).mono ?_
  rintro e w1 ⟨A1, c1, rfl, hown1, hb1⟩
  have Hown1 := hide hown1
  clear hown1
  go_wp2_with fail
  have hcat := concat_any [⟨A, n, c, l⟩, ⟨A1, 4, c1, four (crc l)⟩] (some ⟨w1.heap.size, 0, none⟩) 2 2 (w1.heap.size + 1) (w1.alloc (.cells #[.slice A n c, .slice A1 4 c1] 29)) ?hsl ?hby (by simp) (by simp [rowsN]; omega) (by omega)
  case hsl =>
    have := Sl.of_own (own_built (w := w1) (base := 0) (n := 2) (e := 29) #[.slice A n c, .slice A1 4 c1] (Nat.zero_le _) rfl (by omega))
    simpa [Row.v] using this
  case hby =>
    intro r hr
    simp only [List.mem_cons, List.not_mem_nil, or_false] at hr
    rcases hr with rfl | rfl
    · exact ((H.out.below (hb1.mono hB)).alloc (Nat.le_trans hB hb1.size) _).more (Nat.le_trans hB (Nat.le_trans hb1.size (Nat.le_succ _)))
    · exact (Hown1.out.by.alloc (Nat.le_refl _) _).more (Nat.le_succ _)
  have hN : rowsN [⟨A, n, c, l⟩, ⟨A1, 4, c1, four (crc l)⟩] = n + 4 := by simp [rowsN]
  have hL : rowsL [⟨A, n, c, l⟩, ⟨A1, 4, c1, four (crc l)⟩] = sealed l := by simp [rowsL, sealed]
  rw [hN, hL] at hcat
  have Hcat := hide hcat
  clear hcat hN hL
  refine ((show Calls _ _ _ _ _ from Hcat.out)).mono ?_
  rintro e w3 ⟨A3, c3, rfl, hown3, hb3⟩
  have Hown3 := hide hown3
  clear hown3
  go_wp2
  go_ret
  simp only [World.size_alloc] at hb3
  refine ⟨A3, c3, rfl, own_by_base Hown3.out (by simp; have := hb1.size; omega), (hb1.alloc hb1.size _).trans (hb3.mono (by have := hb1.size; omega))⟩
end Go.Proofs.Ytbceejcmjklklaa
