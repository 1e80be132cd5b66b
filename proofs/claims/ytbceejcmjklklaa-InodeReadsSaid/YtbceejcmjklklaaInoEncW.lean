/- The walk over inode.Encode, of an inode. -/
import Derived.Test.YtbceejcmjklklaaInoW
import Derived.Lib.AppendZerosOnto
namespace Go.Proofs.Ytbceejcmjklklaa
open Go.RowKit

theorem tL0 : 0 ≤ 1000000 := by omega
theorem tL1 : 2 ≤ 1000000 := by omega
theorem tL2 : 4 ≤ 1000000 := by omega
theorem tL3 : 5 ≤ 1000000 := by omega
theorem tL4 : 6 ≤ 1000000 := by omega
theorem tK1 : 1 ≤ 8 := by omega
theorem tZ1 : (1 : Int) = ((1 : Nat) : Int) := rfl
theorem tK2 : 2 ≤ 8 := by omega
theorem tZ2 : (2 : Int) = ((2 : Nat) : Int) := rfl
theorem tK4 : 4 ≤ 8 := by omega
theorem tZ4 : (4 : Int) = ((4 : Nat) : Int) := rfl
theorem tM0 : 2 = 0 + 2 := rfl
theorem tM1 : 4 = 2 + 2 := rfl
theorem tM2 : 5 = 4 + 1 := rfl
theorem tM3 : 6 = 5 + 1 := rfl
theorem tM4 : 10 = 6 + 4 := rfl
theorem ino_keep {w1 w' : World} {b : Nat} {x0 x1 x2 x3 x4 : Value} (hb : Below w1.heap.size w1 w') (hlt : b + 1 ≤ w1.heap.size) (c0 : w1.cell? ⟨b, 0, none⟩ = some x0) (c1 : w1.cell? ⟨b, 1, none⟩ = some x1) (c2 : w1.cell? ⟨b, 2, none⟩ = some x2) (c3 : w1.cell? ⟨b, 3, none⟩ = some x3) (c4 : w1.cell? ⟨b, 4, none⟩ = some x4) :
    w'.cell? ⟨b, 0, none⟩ = some x0 ∧ w'.cell? ⟨b, 1, none⟩ = some x1 ∧ w'.cell? ⟨b, 2, none⟩ = some x2 ∧ w'.cell? ⟨b, 3, none⟩ = some x3 ∧ w'.cell? ⟨b, 4, none⟩ = some x4 :=
  ⟨(hb.cell (p := ⟨b, 0, none⟩) hlt).trans c0, (hb.cell (p := ⟨b, 1, none⟩) hlt).trans c1, (hb.cell (p := ⟨b, 2, none⟩) hlt).trans c2, (hb.cell (p := ⟨b, 3, none⟩) hlt).trans c3, (hb.cell (p := ⟨b, 4, none⟩) hlt).trans c4⟩
theorem put_at (A : Option Addr) (m c base m' : Nat) (l : List UInt8) (n k : Nat) (x z : Int) (w : World) (h : OwnBy w base A m c l) (hb : base ≤ w.heap.size) (hm : m ≤ 1000000) (hn : n < 9223372036854775808) (hk : k ≤ 8) (hx : x = (n : Int)) (hz : z = (k : Int)) (hm' : m' = m + k) :
    Calls Try.prog 22 #[.slice A m c, .int .i64 x, .int .i64 z] w fun e w' => ∃ A' c', e = .returned (.slice A' m' c') ∧ OwnBy w' base A' m' c' (l ++ leN n k) ∧ Below base w w' := by
  subst hx hz hm'
  exact put_any A m c base l n k w h hb hm hn hk

set_option maxRecDepth 100000 in
set_option maxHeartbeats 4000000 in
theorem enc_yes (a v k l s : Nat) (p0 p1 p2 p3 p4 p5 p6 p7 p8 : Nat) (w : World) (h : InoP a v k l s) (q0 : p0 < 4294967296) (q1 : p1 < 4294967296) (q2 : p2 < 4294967296) (q3 : p3 < 4294967296) (q4 : p4 < 4294967296) (q5 : p5 < 4294967296) (q6 : p6 < 4294967296) (q7 : p7 < 4294967296) (q8 : p8 < 4294967296) :
    Calls Try.prog 13 #[inoV a v k l s p0 p1 p2 p3 p4 p5 p6 p7 p8] w fun e w' => ∃ A c, e = .returned (.tuple #[.slice A 64 c, .int .i64 0]) ∧ OwnBy w' w.heap.size A 64 c (sealed (inoBytes a v k l s [p0, p1, p2, p3, p4, p5, p6, p7, p8])) ∧ Below w.heap.size w w' := by
  have H := hide h
  unfold InoP at h
  have ha : a < 9223372036854775808 ∧ v < 9223372036854775808 ∧ k < 9223372036854775808 ∧ l < 9223372036854775808 ∧ s < 9223372036854775808 := by omega
  have HA := hide ha
  clear h ha
  have HQ := hide (show ∀ x ∈ [p0, p1, p2, p3, p4, p5, p6, p7, p8], x < 4294967296 by
    intro x hx
    simp at hx
    omega)
  clear q0 q1 q2 q3 q4 q5 q6 q7 q8
  go_enter Try.func13, Try.ntmps13
  go_wp2_with fail
  refine (check_yes a v k l s p0 p1 p2 p3 p4 p5 p6 p7 p8 _ H.out).mono ?_
  rintro e w1 ⟨rfl, hb1⟩
  have Hb1 := hide (show Below (w.heap.size + 1) _ w1 from by simpa using hb1)
  clear hb1
  have hlt1 : w.heap.size + 1 ≤ w1.heap.size := by have := Hb1.out.size; simpa using this
  go_wp2_with fail
  have B1 := boxed Hb1.out
  have c0 := B1.cell 0
  have c1 := B1.cell 1
  have c2 := B1.cell 2
  have c3 := B1.cell 3
  have c4 := B1.cell 4
  change _ = some (Value.int .i64 (a : Int)) at c0
  change _ = some (Value.int .i64 (v : Int)) at c1
  change _ = some (Value.int .i64 (k : Int)) at c2
  change _ = some (Value.int .i64 (l : Int)) at c3
  change _ = some (Value.int .i64 (s : Int)) at c4
  clear B1
  go_upto_region 4 with fail
  go_cut [5] (fun x wx => ∃ A c, x = .slice A 10 c ∧ OwnBy wx w1.heap.size A 10 c (inoPre a v k l s) ∧ Below w1.heap.size w1 wx)
  case first =>
    have D0 := hide (show w1.heap.size ≤ w1.drew.heap.size from Nat.le_refl _)
    go_region_held3 (fun w' => w'.cell? ⟨w.heap.size, 0, none⟩ = some (.int .i64 (a : Int)) ∧ w'.cell? ⟨w.heap.size, 1, none⟩ = some (.int .i64 (v : Int)) ∧ w'.cell? ⟨w.heap.size, 2, none⟩ = some (.int .i64 (k : Int)) ∧ w'.cell? ⟨w.heap.size, 3, none⟩ = some (.int .i64 (l : Int)) ∧ w'.cell? ⟨w.heap.size, 4, none⟩ = some (.int .i64 (s : Int)))
      (first | go_keep | assumption)
      (first
        | (go_at_call 22; (with_reducible refine (put_at none 0 0 w1.heap.size 2 [] a 2 _ _ _ (nil_own w1.drew _) D0.out tL0 HA.out.1 tK2 rfl tZ2 tM0).mono ?_); rintro e w2 ⟨A2, d2, rfl, hown, hb⟩; have Hown2 := hide hown; have Hb2 := hide ((Below.refl w1.heap.size w1).drew.trans hb); have hS := ino_keep Hb2.out hlt1 c0 c1 c2 c3 c4; clear hown hb)
        | (go_at_call 22; (with_reducible refine (put_at A2 2 d2 w1.heap.size 4 _ v 2 _ _ _ Hown2.out Hb2.out.size tL1 HA.out.2.1 tK2 rfl tZ2 tM1).mono ?_); rintro e w3 ⟨A3, d3, rfl, hown, hb⟩; have Hown3 := hide hown; have Hb3 := hide (Hb2.out.trans hb); have hS := ino_keep Hb3.out hlt1 c0 c1 c2 c3 c4; clear hown hb)
        | (go_at_call 22; (with_reducible refine (put_at A3 4 d3 w1.heap.size 5 _ k 1 _ _ _ Hown3.out Hb3.out.size tL2 HA.out.2.2.1 tK1 rfl tZ1 tM2).mono ?_); rintro e w4 ⟨A4, d4, rfl, hown, hb⟩; have Hown4 := hide hown; have Hb4 := hide (Hb3.out.trans hb); have hS := ino_keep Hb4.out hlt1 c0 c1 c2 c3 c4; clear hown hb)
        | (go_at_call 22; (with_reducible refine (put_at A4 5 d4 w1.heap.size 6 _ l 1 _ _ _ Hown4.out Hb4.out.size tL3 HA.out.2.2.2.1 tK1 rfl tZ1 tM3).mono ?_); rintro e w5 ⟨A5, d5, rfl, hown, hb⟩; have Hown5 := hide hown; have Hb5 := hide (Hb4.out.trans hb); have hS := ino_keep Hb5.out hlt1 c0 c1 c2 c3 c4; clear hown hb)
        | (go_at_call 22; (with_reducible refine (put_at A5 6 d5 w1.heap.size 10 _ s 4 _ _ _ Hown5.out Hb5.out.size tL4 HA.out.2.2.2.2 tK4 rfl tZ4 tM4).mono ?_); rintro e w6 ⟨A6, d6, rfl, hown, hb⟩; have Hown6 := hide hown; have Hb6 := hide (Hb5.out.trans hb); have hS := ino_keep Hb6.out hlt1 c0 c1 c2 c3 c4; clear hown hb))
    all_goals
      go_wp2_with fail
      go_meet
      exact ⟨A6, d6, rfl, Hown6.out, Hb6.out⟩
  case rest =>
    obtain ⟨A, c, rfl, hown, hb⟩ := hcut
    have Hown := hide hown
    have Hb := hide hb
    clear hown hb c0 c1 c2 c3 c4
    have hsz : w1.heap.size ≤ wc.heap.size := Hb.out.size
    have B1 := (boxed Hb1.out).below Hb.out
    have e5 := B1.cell 5
    have e6 := B1.cell 6
    have e7 := B1.cell 7
    have e8 := B1.cell 8
    have e9 := B1.cell 9
    have e10 := B1.cell 10
    have e11 := B1.cell 11
    have e12 := B1.cell 12
    have e13 := B1.cell 13
    go_wp2_with fail
    clear B1 e5 e6 e7 e8 e9 e10 e11 e12 e13
    go_loopw [5, 30] (fun x i wr => ∃ (j : Nat) (A : Option Addr) (c : Nat), j ≤ 9 ∧ i = .int .i64 (j : Int) ∧ x = .slice A (10 + 4 * j) c ∧ OwnBy wr w1.heap.size A (10 + 4 * j) c (inoPre a v k l s ++ ([p0, p1, p2, p3, p4, p5, p6, p7, p8].take j).flatMap four) ∧ Below w1.heap.size w1 wr) (fun _ i _ => 9 - (intOf i).toNat)
    case atStart => exact ⟨0, A, c, by omega, rfl, rfl, by simpa using Hown.out, Hb.out⟩
    case round =>
      clear Hown Hb hsz
      obtain ⟨j, A2, d2, hj, rfl, rfl, hown, hb⟩ := hrel
      have Hown := hide hown
      have Hb := hide hb
      have hsz : w1.heap.size ≤ wr.heap.size := hb.size
      clear hown hb
      by_cases hlt : j < 9
      · have hjl : j < [p0, p1, p2, p3, p4, p5, p6, p7, p8].length := by simpa using hlt
        have hidx := fun W => index9 p0 p1 p2 p3 p4 p5 p6 p7 p8 j hjl W
        have hsn := hide (show ([p0, p1, p2, p3, p4, p5, p6, p7, p8].take (j + 1)).flatMap four = ([p0, p1, p2, p3, p4, p5, p6, p7, p8].take j).flatMap four ++ four ([p0, p1, p2, p3, p4, p5, p6, p7, p8][j]) by
          rw [List.take_succ_eq_append_getElem hjl]; simp only [List.flatMap_append, List.flatMap_cons, List.flatMap_nil, List.append_nil])
        have hxl := HQ.out _ (List.getElem_mem hjl)
        generalize [p0, p1, p2, p3, p4, p5, p6, p7, p8][j] = x at *
        go_wp2_with fail
        refine (put_at A2 (10 + 4 * j) d2 w1.heap.size (10 + 4 * j + 4) _ x 4 _ _ _ Hown.out hsz (by omega) (by omega) (by omega) (by first | rfl | (rw [IntKind.wrap_i64]; omega)) rfl rfl).mono ?_
        rintro e w3 ⟨A3, d3, rfl, hown, hb⟩
        have Hown3 := hide hown
        have Hb3 := hide (Hb.out.trans hb)
        clear hown hb hidx
        go_wp2_with fail
        go_roundw
        case rel =>
          refine ⟨j + 1, A3, d3, by omega, by go_num, by rw [show 10 + 4 * (j + 1) = 10 + 4 * j + 4 by omega], ?_, Hb3.out⟩
          rw [hsn.out, ← leN_four, ← List.append_assoc, show 10 + 4 * (j + 1) = 10 + 4 * j + 4 by omega]
          exact Hown3.out
        case measure => simp [intOf]; omega
      · have hj9 : j = 9 := by omega
        subst hj9
        obtain ⟨A5, d5, w5, hr5, hown5, hg5, -⟩ := run_app_zeros (P := Try.prog) wr (tn := 3) (ty := 29) (kn := .i64) (kq := .i64) ety8 rfl rfl Try.underlying3 w1.heap.size (.slice A2 46 d2) 46 _ Hown.out 14 (by omega) hsz
        have hr6 : (Builtin.append_ #[29, 3] 29 #[.slice A2 46 d2, .int .i64 14]).run Try.prog wr = .ok (.slice A5 60 d5) w5 := hr5
        have Hr6 := hide hr6
        have Hown5 := hide (show OwnBy w5 w1.heap.size A5 60 d5 (inoBytes a v k l s [p0, p1, p2, p3, p4, p5, p6, p7, p8]) by
          rw [OwnBy, inoBytes, u8s_append, zeros_u8]; exact hown5)
        have Hb5 := hide (Hb.out.grown hg5 hsz (fun k hk => (Hown.out.lt k hk).1))
        clear hr5 hr6 hown5 hg5
        go_wp2_with (
          at_builtin
          refine Lib.wpList_append_run _ rfl (.tmp 38) (.tmp 41) _ _ rfl _ _ rfl rfl _ _ Hr6.out ?_)
        refine (seal_any _ _ _ _ (inoBytes a v k l s [p0, p1, p2, p3, p4, p5, p6, p7, p8]) _ Hown5.out.by (Nat.le_refl _) (by omega)).mono ?_
        rintro e w6 ⟨A6, d6, rfl, hown6, hb6⟩
        have Hown6 := hide hown6
        have Hb6 := hide (Hb5.out.trans (hb6.mono Hb5.out.size))
        clear hown6 hb6
        go_wp2_with fail
        go_ret2
        exact ⟨A6, d6, rfl, own_by_base Hown6.out (by have := Hb5.out.size; omega), box_end (Hb1.out.trans (Hb6.out.mono hlt1))⟩
end Go.Proofs.Ytbceejcmjklklaa
