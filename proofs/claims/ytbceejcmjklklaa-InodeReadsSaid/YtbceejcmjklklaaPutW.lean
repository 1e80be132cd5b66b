/- The walks over inode.put, inode.get. -/
import Derived.Test.YtbceejcmjklklaaSealW
import Derived.Test.YtbceejcmjklklaaBlk
namespace Go.Proofs.Ytbceejcmjklklaa
open Go.RowKit

/-- A number's lowest bytes. -/
def leN (n k : Nat) : List UInt8 := (List.range k).map fun i => UInt8.ofNat (n / 256 ^ i)
theorem leN_length (n k : Nat) : (leN n k).length = k := by simp [leN]
theorem leN_succ (n k : Nat) : leN n (k + 1) = leN n k ++ [UInt8.ofNat (n / 256 ^ k)] := by simp [leN, List.range_succ]
theorem leN_four (n : Nat) : leN n 4 = four n := by
  simp [leN, four, List.range_succ]
theorem byte_at (n j : Nat) : (n : Int) / 2 ^ (8 * j) % 256 = ((UInt8.ofNat (n / 256 ^ j)).toNat : Int) := by
  rw [UInt8.toNat_ofNat', show (256 : Nat) ^ j = 2 ^ (8 * j) by rw [show (256 : Nat) = 2 ^ 8 by decide, ← Nat.pow_mul]]
  rw [Int.natCast_emod, Int.natCast_ediv, Int.natCast_pow]
  rfl
theorem one_u8 (w : World) (x : Int) (b : UInt8) (hx : x = (b.toNat : Int)) : By (w.alloc (.cells #[.int .u8 x] 5)) (w.heap.size + 1) (some ⟨w.heap.size, 0, none⟩) 1 [b] := by
  subst hx
  have := (own_bytes (w := w) (base := 0) (n := 1) (l := [b]) #[.int .u8 (b.toNat : Int)] rfl (Nat.zero_le _) rfl (by omega)).by
  simpa using this

set_option maxHeartbeats 1000000 in
theorem put_any (A : Option Addr) (m c base : Nat) (l : List UInt8) (n k : Nat) (w : World) (h : OwnBy w base A m c l) (hb : base ≤ w.heap.size) (hm : m ≤ 1000000) (hn : n < 9223372036854775808) (hk : k ≤ 8) :
    Calls Try.prog 22 #[.slice A m c, .int .i64 (n : Int), .int .i64 (k : Int)] w fun e w' => ∃ A' c', e = .returned (.slice A' (m + k) c') ∧ OwnBy w' base A' (m + k) c' (l ++ leN n k) ∧ Below base w w' := by
  have H := hide h
  clear h
  go_enter Try.func22, Try.ntmps22
  go_wp2_with fail
  go_loopw [0, 9] (fun v i wr => ∃ (j : Nat) (A' : Option Addr) (c' : Nat), j ≤ k ∧ i = .int .i64 (j : Int) ∧ v = .slice A' (m + j) c' ∧ OwnBy wr base A' (m + j) c' (l ++ leN n j) ∧ Below base w wr) (fun _ i _ => k - (intOf i).toNat)
  case atStart => exact ⟨0, A, c, by omega, rfl, rfl, by simpa [leN] using H.out, Below.refl _ _⟩
  case round =>
    clear H
    obtain ⟨j, A1, c1, hj, rfl, rfl, hown, hb1⟩ := hrel
    have Hown := hide hown
    have Hb1 := hide hb1
    have hsz := hb1.size
    clear hown hb1
    by_cases hlt : j < k
    · go_wp2_with (
        at_builtin
        refine wpList_app _ rfl (.tmp 12) (.tmp 18) _ rfl ety8 base (.slice A1 (m + j) c1) (m + j) (u8s (l ++ leN n j)) rfl (Hown.out.alloc _) (wr.heap.size + 1) (some ⟨wr.heap.size, 0, none⟩) 1 1 (u8s [UInt8.ofNat (n / 256 ^ j)]) rfl
          ?_ (u8s_one _) (by omega) (by simp; omega) ?_
        · exact one_u8 _ _ _ (byte_at n j)
        intro A' c' w2 hown2 hg2 _
        rw [← u8s_append] at hown2
        have Hown2 := hide hown2
        have Hb2 := hide ((Hb1.out.alloc (by omega) _).grown hg2 (by simp; omega) (fun k hk => (Hown.out.lt k hk).1))
        clear hown2 hg2)
      go_roundw
      case rel =>
        refine ⟨j + 1, A', c', by omega, by go_num, rfl, ?_, Hb2.out⟩
        rw [leN_succ, ← List.append_assoc]
        exact Hown2.out
      case measure => simp [intOf]; omega
    · have hjk : j = k := by omega
      rw [hjk] at Hown
      have hjI : (j : Int) = k := by omega
      go_wp2_with fail
      go_ret
      exact ⟨A1, c1, by rw [hjk]; rfl, Hown.out, Hb1.out⟩

/-- The number that bytes are. -/
def numL : List UInt8 → Nat
  | [] => 0
  | b :: l => b.toNat + 256 * numL l
theorem numL_snoc (l : List UInt8) (b : UInt8) : numL (l ++ [b]) = numL l + b.toNat * 256 ^ l.length := by
  induction l with
  | nil => simp [numL]
  | cons x l ih => simp only [List.cons_append, numL, ih, List.length_cons, Nat.pow_succ]; rw [Nat.mul_add]; rw [show 256 * (b.toNat * 256 ^ l.length) = b.toNat * (256 ^ l.length * 256) by rw [Nat.mul_comm 256, Nat.mul_assoc]]; omega
theorem numL_lt (l : List UInt8) : numL l < 256 ^ l.length := by
  induction l with
  | nil => simp [numL]
  | cons x l ih =>
    have := x.toNat_lt
    simp only [numL, List.length_cons, Nat.pow_succ]
    omega
theorem ofInt_i64 (a : Nat) (ha : a < 9223372036854775808) : (BitVec.ofInt 64 (a : Int)).toNat = a := by
  rw [BitVec.ofInt_natCast, BitVec.toNat_ofNat]; exact Nat.mod_eq_of_lt (by omega)
theorem i64_or_nat (a b : Nat) (ha : a < 9223372036854775808) (hb : b < 9223372036854775808) : bits .or .i64 (a : Int) (b : Int) = ((a ||| b : Nat) : Int) := by
  have hx : a ||| b < 2 ^ 63 := Nat.or_lt_two_pow (by omega) (by omega)
  show IntKind.i64.wrap ((BitVec.ofInt 64 (a : Int) ||| BitVec.ofInt 64 (b : Int)).toNat : Int) = _
  rw [BitVec.toNat_or, ofInt_i64 a ha, ofInt_i64 b hb, IntKind.wrap_i64]
  omega
theorem or_num (a b k : Nat) (ha : a < 256 ^ k) (hb : b < 256) (hk : k ≤ 6) : bits .or .i64 (a : Int) ((b : Int) * 2 ^ (8 * k)) = ((a + b * 256 ^ k : Nat) : Int) := by
  have e : (256 : Nat) ^ k = 2 ^ (8 * k) := by rw [show (256 : Nat) = 2 ^ 8 by decide, ← Nat.pow_mul]
  have h1 : 2 ^ (8 * k) ≤ 2 ^ 48 := Nat.pow_le_pow_right (by omega) (by omega)
  have h2 : b * 2 ^ (8 * k) ≤ 256 * 2 ^ 48 := Nat.mul_le_mul (by omega) h1
  rw [e] at ha ⊢
  rw [show ((b : Int) * 2 ^ (8 * k)) = ((b * 2 ^ (8 * k) : Nat) : Int) by rw [Int.natCast_mul, Int.natCast_pow]; rfl]
  rw [i64_or_nat _ _ (by omega) (by omega), Nat.mul_comm b, Nat.or_comm, ← Nat.two_pow_add_eq_or_of_lt ha, Nat.add_comm]

set_option maxHeartbeats 1000000 in
theorem get_any (A : Option Addr) (m c B : Nat) (l : List UInt8) (w : World) (h : By w B A m l) (hm : m ≤ 4) :
    Calls Try.prog 25 #[.slice A m c] w fun e w' => e = .returned (.int .i64 (numL l : Nat)) ∧ w = w' := by
  have H := hide h
  have hl := h.length
  clear h
  go_enter Try.func25, Try.ntmps25
  go_wp2_with fail
  go_loop [3, 8] (fun v i => ∃ j : Nat, j ≤ m ∧ i = .int .i64 (j : Int) ∧ v = .int .i64 (numL (l.take j) : Nat)) (fun _ i => m - (intOf i).toNat)
  case atStart => exact ⟨0, by omega, rfl, rfl⟩
  case round =>
    obtain ⟨j, hj, rfl, rfl⟩ := hrel
    by_cases hlt : j < m
    · obtain ⟨hjl, ad, rfl, hc⟩ := By.get H.out hlt
      have hb := l[j].toNat_lt
      have hlen : (l.take j).length = j := by rw [List.length_take]; omega
      have hs := hide (show numL (l.take (j + 1)) = numL (l.take j) + l[j].toNat * 256 ^ j by
        rw [List.take_succ_eq_append_getElem hjl, numL_snoc, hlen])
      have hnl := numL_lt (l.take j)
      rw [hlen] at hnl
      have hor := or_num (numL (l.take j)) l[j].toNat j hnl hb (by omega)
      have Hnl := hide hnl
      clear hnl
      generalize l[j].toNat = b at *
      generalize numL (l.take j) = x at *
      clear hl hlen
      have hwr : RowKit.wrap64 ((b : Int) * 2 ^ (8 * j)) = (b : Int) * 2 ^ (8 * j) := by
        have h1 : (2 : Nat) ^ (8 * j) ≤ 2 ^ 24 := Nat.pow_le_pow_right (by omega) (by omega)
        have h2 : b * 2 ^ (8 * j) ≤ 256 * 2 ^ 24 := Nat.mul_le_mul (by omega) h1
        have e : ((b : Int) * 2 ^ (8 * j)) = ((b * 2 ^ (8 * j) : Nat) : Int) := by rw [Int.natCast_mul, Int.natCast_pow]; rfl
        rw [e]
        exact IntWalk.wrap64_in _ (by omega)
      have Hor := hide hor
      have Hwr := hide hwr
      clear hor hwr
      go_wp2_with fail
      go_round
      case rel => exact ⟨j + 1, by omega, by go_num, by rw [Hwr.out, Hor.out, hs.out]⟩
      case measure => simp [intOf]; omega
    · have hjm : j = m := by omega
      have ht : l.take j = l := List.take_of_length_le (by omega)
      rw [ht]
      clear hjm ht
      go_wp2_with fail
      go_ret
      exact ⟨rfl, rfl⟩
end Go.Proofs.Ytbceejcmjklklaa
