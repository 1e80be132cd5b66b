/- The walks over marlref03.Four, marlref05.Encode, marlref05.Good. -/
import Derived.Test.YtbceejcmjklklaaInoDecW
import Derived.Test.YtbceejcmjklklaaRefOpenW
namespace Go.Proofs.Ytbceejcmjklklaa
open Go.RowKit

theorem rfour_any (n : Nat) (w : World) (hn : n ≤ 1099511627776) :
    Calls Try.prog 26 #[.int .i64 n] w fun e w' => ∃ A' c', e = .returned (.slice A' 4 c') ∧ OwnBy w' w.heap.size A' 4 c' (four n) ∧ Below w.heap.size w w' := by
  go_enter Try.func26, Try.ntmps26
  go_wp2
  go_ret
  refine ⟨_, _, rfl, own_bytes _ ?_ (Nat.le_refl _) (four_length n) (by omega), (Below.refl _ _).alloc (Nat.le_refl _) _⟩
  rw [u8s_four]
  simp
theorem four_take (n : Nat) : (four n).take 2 = leN n 2 := by simp [four, leN, List.range_succ]
theorem own_cap {w : World} {base n c : Nat} {A : Option Addr} {l : List UInt8} (h : OwnBy w base A n c l) : n ≤ c := by
  obtain ⟨_, _, e, h1, _⟩ := own_form h
  injection e with e1 e2 e3
  omega
theorem two_u8 (w : World) (x y : Int) (k l : Nat) (hk : k < 256) (hl : l < 256) (hx : x = (k : Int)) (hy : y = (l : Int)) : By (w.alloc (.cells #[.int .u8 x, .int .u8 y] 5)) (w.heap.size + 1) (some ⟨w.heap.size, 0, none⟩) 2 (leN k 1 ++ leN l 1) := by
  subst hx hy
  have := (own_bytes (w := w) (base := 0) (n := 2) (l := leN k 1 ++ leN l 1) #[.int .u8 (k : Int), .int .u8 (l : Int)] (by
    simp [leN, u8s, UInt8.toNat_ofNat', List.range_succ]; omega) (Nat.zero_le _) (by simp [leN_length]) (by omega)).by
  simpa using this
theorem boxed_c {w w1 w' : World} {t : TypeId} {x0 x1 x2 x3 x4 x5 x6 x7 x8 x9 x10 x11 x12 x13 : Value} (hb : Below (w.heap.size + 1) w1 w') (hw : w1 = w.alloc (.cells #[x0, x1, x2, x3, x4, x5, x6, x7, x8, x9, x10, x11, x12, x13] t)) :
    w'.cell? ⟨w.heap.size, 2, none⟩ = some x2 ∧ w'.cell? ⟨w.heap.size, 3, none⟩ = some x3 := by
  subst hw
  exact ⟨(boxed hb).cell 2, (boxed hb).cell 3⟩
/-- The length in a slot. -/
def slLen : Value → Nat
  | .slice _ n _ => n
  | _ => 0

set_option maxRecDepth 100000 in
set_option maxHeartbeats 8000000 in
theorem renc_any (a v k l s : Nat) (p0 p1 p2 p3 p4 p5 p6 p7 p8 : Nat) (w : World) (h : InoP a v k l s) (b0 : p0 < 4294967296) (b1 : p1 < 4294967296) (b2 : p2 < 4294967296) (b3 : p3 < 4294967296) (b4 : p4 < 4294967296) (b5 : p5 < 4294967296) (b6 : p6 < 4294967296) (b7 : p7 < 4294967296) (b8 : p8 < 4294967296) :
    Calls Try.prog 20 #[inoV a v k l s p0 p1 p2 p3 p4 p5 p6 p7 p8] w fun e w' => ∃ A c, e = .returned (.slice A 64 c) ∧ OwnBy w' w.heap.size A 64 c (sealed (inoBytes a v k l s [p0, p1, p2, p3, p4, p5, p6, p7, p8])) ∧ Below w.heap.size w w' := by
  unfold InoP at h
  have HQ := hide (show ∀ x ∈ [p0, p1, p2, p3, p4, p5, p6, p7, p8], x < 4294967296 by
    intro x hx
    simp at hx
    omega)
  have hbd : a ≤ 200 ∧ v ≤ 65535 ∧ k ≤ 2 ∧ l ≤ 100 ∧ s ≤ 38400 := by omega
  obtain ⟨h1, h2, h3, h4, h5⟩ := hbd
  clear h b0 b1 b2 b3 b4 b5 b6 b7 b8
  go_enter Try.func20, Try.ntmps20
  go_wp2_with fail
  have Hb0 := hide (Below.refl (w.heap.size + 1) (w.alloc (.cells #[.int .i64 (a : Int), .int .i64 (v : Int), .int .i64 (k : Int), .int .i64 (l : Int), .int .i64 (s : Int), .int .u32 (p0 : Int), .int .u32 (p1 : Int), .int .u32 (p2 : Int), .int .u32 (p3 : Int), .int .u32 (p4 : Int), .int .u32 (p5 : Int), .int .u32 (p6 : Int), .int .u32 (p7 : Int), .int .u32 (p8 : Int)] 28)))
  have hs0 : w.heap.size + 1 ≤ (w.alloc (.cells #[.int .i64 (a : Int), .int .i64 (v : Int), .int .i64 (k : Int), .int .i64 (l : Int), .int .i64 (s : Int), .int .u32 (p0 : Int), .int .u32 (p1 : Int), .int .u32 (p2 : Int), .int .u32 (p3 : Int), .int .u32 (p4 : Int), .int .u32 (p5 : Int), .int .u32 (p6 : Int), .int .u32 (p7 : Int), .int .u32 (p8 : Int)] 28)).heap.size := by simp
  have HW1 := hide hs0
  generalize hw1 : (w.alloc (.cells #[.int .i64 (a : Int), .int .i64 (v : Int), .int .i64 (k : Int), .int .i64 (l : Int), .int .i64 (s : Int), .int .u32 (p0 : Int), .int .u32 (p1 : Int), .int .u32 (p2 : Int), .int .u32 (p3 : Int), .int .u32 (p4 : Int), .int .u32 (p5 : Int), .int .u32 (p6 : Int), .int .u32 (p7 : Int), .int .u32 (p8 : Int)] 28)) = w1 at *
  refine (rfour_any a _ (by omega)).mono ?_
  rintro e w2 ⟨A0, c0', rfl, hf, hb⟩
  have Hf := hide (own_by_base hf hs0)
  have Hb1 := hide (Hb0.out.trans (hb.mono hs0))
  have hs1 : w.heap.size + 1 ≤ w2.heap.size := Nat.le_trans hs0 hb.size
  clear hf hb
  have hcut : (Instr.slice 29 (.slice A0 4 c0') none (some (.int .i64 2)) none).run Try.prog w2 = .ok (.slice A0 2 c0') w2 := run_cut_h (P := Try.prog) ety8 A0 4 c0' w2 2 .i64 (by have := own_cap Hf.out; omega)
  have Hown1 := hide (show OwnBy w2 (w.heap.size + 1) A0 2 c0' (leN a 2) from by
    have := own_head Hf.out (k := 2) (by omega)
    rw [u8s_take, four_take] at this
    exact this)
  obtain ⟨y0, y1, y2, y3, y4, y5, y6, y7, y8, y9, y10, y11, y12, y13⟩ := blk14 (show Blk w2 w.heap.size 28 #[.int .i64 (a : Int), .int .i64 (v : Int), .int .i64 (k : Int), .int .i64 (l : Int), .int .i64 (s : Int), .int .u32 (p0 : Int), .int .u32 (p1 : Int), .int .u32 (p2 : Int), .int .u32 (p3 : Int), .int .u32 (p4 : Int), .int .u32 (p5 : Int), .int .u32 (p6 : Int), .int .u32 (p7 : Int), .int .u32 (p8 : Int)] from boxed (by rw [hw1]; exact Hb1.out))
  go_wp2_with fail
  clear y0 y1 y2 y3 y4 y5 y6 y7 y8 y9 y10 y11 y12 y13 hcut Hf
  refine (rfour_any v _ (by omega)).mono ?_
  rintro e w4 ⟨F2, d2, rfl, hf, hb⟩
  have Hf := hide hf
  have Ho := hide (own_keep Hown1.out hb)
  have Hbx := hide (Hb1.out.trans (hb.mono hs1))
  have hsx : w.heap.size + 1 ≤ w4.heap.size := Nat.le_trans hs1 hb.size
  clear hf hb
  have hcut : (Instr.slice 29 (.slice F2 4 d2) none (some (.int .i64 2)) none).run Try.prog w4 = .ok (.slice F2 2 d2) w4 := run_cut_h (P := Try.prog) ety8 F2 4 d2 w4 2 .i64 (by have := own_cap Hf.out; omega)
  have Hfb := hide (show By w4 w4.heap.size F2 2 (leN v 2) from by
    have := (Hf.out.by).head (k := 2) (by omega)
    rw [u8s_take, four_take] at this
    exact this)
  go_upto_region 3 with (
    at_builtin
    refine wpList_app _ rfl (.tmp 9) (.tmp 13) _ rfl ety8 (w.heap.size + 1) (.slice A0 2 c0') 2 (u8s (leN a 2)) rfl Ho.out w4.heap.size F2 2 d2 (u8s (leN v 2)) rfl
      Hfb.out (u8s_one _) (by omega) hsx ?_
    intro A2 c2 w5 hown hg _
    rw [← u8s_append] at hown
    have Hown2 := hide (show OwnBy w5 (w.heap.size + 1) A2 4 c2 ((leN a 2) ++ (leN v 2)) from hown)
    have Hb2 := hide (Hbx.out.grown hg hsx (fun k hk => (Ho.out.lt k hk).1))
    have hs2 : w.heap.size + 1 ≤ w5.heap.size := Nat.le_trans hsx hg.size
    clear hown hg
    obtain ⟨y0, y1, y2, y3, y4, y5, y6, y7, y8, y9, y10, y11, y12, y13⟩ := blk14 (show Blk w5 w.heap.size 28 #[.int .i64 (a : Int), .int .i64 (v : Int), .int .i64 (k : Int), .int .i64 (l : Int), .int .i64 (s : Int), .int .u32 (p0 : Int), .int .u32 (p1 : Int), .int .u32 (p2 : Int), .int .u32 (p3 : Int), .int .u32 (p4 : Int), .int .u32 (p5 : Int), .int .u32 (p6 : Int), .int .u32 (p7 : Int), .int .u32 (p8 : Int)] from boxed (by rw [hw1]; exact Hb2.out)))
  clear y0 y1 y2 y3 y4 y5 y6 y7 y8 y9 y10 y11 y12 y13
  have y2' := (boxed_c Hb2.out hw1.symm).1
  have y3' := (boxed_c Hb2.out hw1.symm).2
  go_wp2_with (
    at_builtin
    refine wpList_app _ rfl (.tmp 15) (.tmp 22) _ rfl ety8 (w.heap.size + 1) (.slice A2 4 c2) 4 (u8s (leN a 2 ++ leN v 2)) rfl (Hown2.out.alloc _) (w5.heap.size + 1) (some ⟨w5.heap.size, 0, none⟩) 2 2 (u8s (leN k 1 ++ leN l 1)) rfl
      (two_u8 w5 _ _ k l (by omega) (by omega) (by first | omega | (simp [IntKind.wrap, IntKind.bits, IntKind.signed]; omega)) (by first | omega | (simp [IntKind.wrap, IntKind.bits, IntKind.signed]; omega))) (u8s_one _) (by omega) (by simp; omega) ?_
    intro A3 c3 w7 hown hg _
    rw [← u8s_append] at hown
    have Hown3 := hide (show OwnBy w7 (w.heap.size + 1) A3 6 c3 (leN a 2 ++ leN v 2 ++ (leN k 1 ++ leN l 1)) from hown)
    have Hb3 := hide ((Hb2.out.alloc hs2 _).grown hg (by simp; omega) (fun k hk => (Hown2.out.lt k hk).1))
    have hs3 : w.heap.size + 1 ≤ w7.heap.size := Nat.le_trans (by simp; omega) hg.size
    clear hown hg
    obtain ⟨y0, y1, y2, y3, y4, y5, y6, y7, y8, y9, y10, y11, y12, y13⟩ := blk14 (show Blk w7 w.heap.size 28 #[.int .i64 (a : Int), .int .i64 (v : Int), .int .i64 (k : Int), .int .i64 (l : Int), .int .i64 (s : Int), .int .u32 (p0 : Int), .int .u32 (p1 : Int), .int .u32 (p2 : Int), .int .u32 (p3 : Int), .int .u32 (p4 : Int), .int .u32 (p5 : Int), .int .u32 (p6 : Int), .int .u32 (p7 : Int), .int .u32 (p8 : Int)] from boxed (by rw [hw1]; exact Hb3.out)))
  clear y2' y3'
  clear y0 y1 y2 y3 y4 y5 y6 y7 y8 y9 y10 y11 y12 y13
  refine (rfour_any s _ (by omega)).mono ?_
  rintro e w8 ⟨F4, d4, rfl, hf, hb⟩
  have Hf := hide hf
  have Ho := hide (own_keep Hown3.out hb)
  have Hbx := hide (Hb3.out.trans (hb.mono hs3))
  have hsx : w.heap.size + 1 ≤ w8.heap.size := Nat.le_trans hs3 hb.size
  clear hf hb
  go_wp2_with (
    at_builtin
    refine wpList_app _ rfl (.tmp 24) (.tmp 27) _ rfl ety8 (w.heap.size + 1) (.slice A3 6 c3) 6 (u8s (leN a 2 ++ leN v 2 ++ (leN k 1 ++ leN l 1))) rfl Ho.out w8.heap.size F4 4 d4 (u8s (four s)) rfl
      Hf.out.by (u8s_one _) (by omega) hsx ?_
    intro A4 c4 w9 hown hg _
    rw [← u8s_append] at hown
    have Hown4 := hide (show OwnBy w9 (w.heap.size + 1) A4 10 c4 ((leN a 2 ++ leN v 2 ++ (leN k 1 ++ leN l 1)) ++ (four s)) from hown)
    have Hb4 := hide (Hbx.out.grown hg hsx (fun k hk => (Ho.out.lt k hk).1))
    have hs4 : w.heap.size + 1 ≤ w9.heap.size := Nat.le_trans hsx hg.size
    clear hown hg
    obtain ⟨y0, y1, y2, y3, y4, y5, y6, y7, y8, y9, y10, y11, y12, y13⟩ := blk14 (show Blk w9 w.heap.size 28 #[.int .i64 (a : Int), .int .i64 (v : Int), .int .i64 (k : Int), .int .i64 (l : Int), .int .i64 (s : Int), .int .u32 (p0 : Int), .int .u32 (p1 : Int), .int .u32 (p2 : Int), .int .u32 (p3 : Int), .int .u32 (p4 : Int), .int .u32 (p5 : Int), .int .u32 (p6 : Int), .int .u32 (p7 : Int), .int .u32 (p8 : Int)] from boxed (by rw [hw1]; exact Hb4.out)))
  clear y0 y1 y2 y3 y4 y5 y6 y7 y8 y9 y10 y11 y12 y13
  have Hown := hide (show OwnBy w9 (w.heap.size + 1) A4 10 c4 (inoPre a v k l s) from by
    have := Hown4.out
    rw [← leN_four] at this
    unfold inoPre
    simpa [List.append_assoc] using this)
  clear Hown1 Hown2 Hown3 Hown4 Hb0 Hb1 Hb2 Hb3 hs0 hs1 hs2 hs3
  go_loopw [3, 4] (fun x i wr => ∃ (j : Nat) (A : Option Addr) (c : Nat), j ≤ 9 ∧ i = .int .i64 (j : Int) ∧ x = .slice A (10 + 4 * j) c ∧ OwnBy wr (w.heap.size + 1) A (10 + 4 * j) c (inoPre a v k l s ++ ([p0, p1, p2, p3, p4, p5, p6, p7, p8].take j).flatMap four) ∧ Below (w.heap.size + 1) w1 wr) (fun _ i _ => 9 - (intOf i).toNat)
  case atStart => exact ⟨0, A4, c4, by omega, rfl, rfl, by simpa using Hown.out, Hb4.out⟩
  case round =>
    clear Hown Hb4 hs4
    obtain ⟨j, A5, d5, hj, rfl, rfl, hown, hb⟩ := hrel
    have Hown := hide hown
    have Hb := hide hb
    have hsz : w.heap.size + 1 ≤ wr.heap.size := Nat.le_trans HW1.out hb.size
    clear hown hb
    by_cases hlt : j < 9
    · have hjl : j < [p0, p1, p2, p3, p4, p5, p6, p7, p8].length := by simpa using hlt
      have hsn := hide (show ([p0, p1, p2, p3, p4, p5, p6, p7, p8].take (j + 1)).flatMap four = ([p0, p1, p2, p3, p4, p5, p6, p7, p8].take j).flatMap four ++ four ([p0, p1, p2, p3, p4, p5, p6, p7, p8][j]) by
        rw [List.take_succ_eq_append_getElem hjl]; simp only [List.flatMap_append, List.flatMap_cons, List.flatMap_nil, List.append_nil])
      have hxl := HQ.out _ (List.getElem_mem hjl)
      have B1 := boxed (show Below (w.heap.size + 1) (w.alloc (.cells #[.int .i64 (a : Int), .int .i64 (v : Int), .int .i64 (k : Int), .int .i64 (l : Int), .int .i64 (s : Int), .int .u32 (p0 : Int), .int .u32 (p1 : Int), .int .u32 (p2 : Int), .int .u32 (p3 : Int), .int .u32 (p4 : Int), .int .u32 (p5 : Int), .int .u32 (p6 : Int), .int .u32 (p7 : Int), .int .u32 (p8 : Int)] 28)) wr from by rw [hw1]; exact Hb.out)
      have hcj : wr.cell? ⟨w.heap.size, 5 + j, none⟩ = some (.int .u32 ([p0, p1, p2, p3, p4, p5, p6, p7, p8][j] : Nat)) := by
        rw [B1.cell]
        have : j = 0 ∨ j = 1 ∨ j = 2 ∨ j = 3 ∨ j = 4 ∨ j = 5 ∨ j = 6 ∨ j = 7 ∨ j = 8 := by omega
        rcases this with rfl | rfl | rfl | rfl | rfl | rfl | rfl | rfl | rfl <;> rfl
      clear B1
      generalize [p0, p1, p2, p3, p4, p5, p6, p7, p8][j] = x at *
      go_wp2_with fail
      clear hcj
      refine (rfour_any x _ (by omega)).mono ?_
      rintro e w3 ⟨F5, g5, rfl, hf, hb⟩
      have Hf := hide hf
      have Ho := hide (own_keep Hown.out hb)
      have Hbx := hide (Hb.out.trans (hb.mono (by rw [← hw1] at *; exact hsz)))
      have hsx : w.heap.size + 1 ≤ w3.heap.size := Nat.le_trans hsz hb.size
      clear hf hb
      go_wp2_with (
        at_builtin
        refine wpList_app _ rfl (.tmp 33) (.tmp 39) _ rfl ety8 (w.heap.size + 1) (.slice A5 (10 + 4 * j) d5) (10 + 4 * j) (u8s (inoPre a v k l s ++ ([p0, p1, p2, p3, p4, p5, p6, p7, p8].take j).flatMap four)) rfl Ho.out w3.heap.size F5 4 g5 (u8s (four x)) rfl
          Hf.out.by (u8s_one _) (by omega) hsx ?_
        intro A6 g6 w6 hown hg _
        rw [← u8s_append] at hown
        have Hown6 := hide hown
        have Hb6 := hide (Hbx.out.grown hg hsx (fun k hk => (Ho.out.lt k hk).1))
        clear hown hg)
      go_roundw
      case rel =>
        refine ⟨j + 1, A6, g6, by omega, by go_num, by rw [show 10 + 4 * (j + 1) = 10 + 4 * j + 4 by omega], ?_, Hb6.out⟩
        rw [hsn.out, ← List.append_assoc, show 10 + 4 * (j + 1) = 10 + 4 * j + 4 by omega]
        exact Hown6.out
      case measure => simp [intOf]; omega
    · have hj9 : j = 9 := by omega
      have hq9 : 10 + 4 * j = 46 := by omega
      have HQ9 := hide hq9
      rw [hj9] at Hown
      clear hj9 hq9
      have Hown9 := hide (show OwnBy wr (w.heap.size + 1) A5 46 d5 (inoPre a v k l s ++ [p0, p1, p2, p3, p4, p5, p6, p7, p8].flatMap four ++ List.replicate (46 - 46) 0) from by simpa using Hown.out)
      clear Hown
      go_wp2_with fail
      go_loopw [3] (fun x wz => ∃ q : Nat, 46 ≤ q ∧ q ≤ 60 ∧ ∃ A c, x = .slice A q c ∧ OwnBy wz (w.heap.size + 1) A q c (inoPre a v k l s ++ [p0, p1, p2, p3, p4, p5, p6, p7, p8].flatMap four ++ List.replicate (q - 46) 0) ∧ Below (w.heap.size + 1) w1 wz) (fun x _ => 60 - slLen x)
      case atStart => exact ⟨46, by omega, by omega, A5, d5, by rw [HQ9.out], Hown9.out, Hb.out⟩
      case round =>
        clear Hown9 Hb hsz
        rename_i wr0 wz
        obtain ⟨q, q1, q2, A8, d8, rfl, hown, hb⟩ := hrel
        have Hown := hide hown
        have Hb := hide hb
        have hsz := Nat.le_trans HW1.out hb.size
        clear hown hb
        by_cases hq : q < 60
        · go_wp2_with (
            at_builtin
            refine wpList_app _ rfl (.tmp 44) (.tmp 45) _ rfl ety8 (w.heap.size + 1) (.slice A8 q d8) q (u8s (inoPre a v k l s ++ [p0, p1, p2, p3, p4, p5, p6, p7, p8].flatMap four ++ List.replicate (q - 46) 0)) rfl (Hown.out.alloc _) _ (some ⟨_, 0, none⟩) 1 1 (u8s [0]) rfl
              (one_u8 _ 0 0 rfl) (u8s_one _) (by omega) (by simp; omega) ?_
            intro A9 g9 w9 hown hg _
            rw [← u8s_append] at hown
            have Hown9 := hide hown
            have Hb9 := hide ((Hb.out.alloc hsz _).grown hg (by simp; omega) (fun k hk => (Hown.out.lt k hk).1))
            clear hown hg)
          go_roundw
          case rel =>
            refine ⟨q + 1, by omega, by omega, A9, g9, rfl, ?_, Hb9.out⟩
            have := Hown9.out
            rw [List.append_assoc, show [(0 : UInt8)] = List.replicate 1 0 from rfl, List.replicate_append_replicate, show q - 46 + 1 = q + 1 - 46 by omega] at this
            exact this
          case measure => simp [slLen]; omega
        · obtain rfl : q = 60 := by omega
          have Hown60 := hide (show OwnBy _ (w.heap.size + 1) A8 60 d8 (inoBytes a v k l s [p0, p1, p2, p3, p4, p5, p6, p7, p8]) from Hown.out)
          clear Hown
          go_wp2_with fail
          refine (rseal_any _ _ _ _ (inoBytes a v k l s [p0, p1, p2, p3, p4, p5, p6, p7, p8]) _ Hown60.out.by (Nat.le_refl _) (by omega)).mono ?_
          rintro e w9 ⟨A9, g9, rfl, hown9, hb9⟩
          have Hown9 := hide hown9
          have Hb9 := hide (Hb.out.trans (hb9.mono (by have := Hb.out.size; omega)))
          clear hown9 hb9
          go_wp2_with fail
          go_ret
          exact ⟨A9, g9, rfl, own_by_base Hown9.out (by omega), box_end (show Below (w.heap.size + 1) (w.alloc (.cells #[.int .i64 (a : Int), .int .i64 (v : Int), .int .i64 (k : Int), .int .i64 (l : Int), .int .i64 (s : Int), .int .u32 (p0 : Int), .int .u32 (p1 : Int), .int .u32 (p2 : Int), .int .u32 (p3 : Int), .int .u32 (p4 : Int), .int .u32 (p5 : Int), .int .u32 (p6 : Int), .int .u32 (p7 : Int), .int .u32 (p8 : Int)] 28)) w9 from by rw [hw1]; exact Hb9.out)⟩
end Go.Proofs.Ytbceejcmjklklaa
