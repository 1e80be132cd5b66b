/- The walk of marllaw05.InodeWrites. -/
import Derived.Test.YtbceejcmjklklaaInoRencW
import Derived.Test.YtbceejcmjklklaaInoGood
import Derived.Test.YtbceejcmjklklaaConv
namespace Go.Proofs.Ytbceejcmjklklaa
open Go.RowKit

theorem fld_at {lst pre rest : List UInt8} {x n i : Nat} (h : lst = pre ++ (leN x n ++ rest)) (hi : pre.length = i) : fld lst i n = x % 256 ^ n := by
  subst h hi
  unfold fld
  rw [List.drop_left' rfl, List.take_left' (leN_length x n), numL_leN]
theorem fld_0 (a v k l s : Nat) (p0 p1 p2 p3 p4 p5 p6 p7 p8 : Nat) : fld (sealed (inoBytes a v k l s [p0, p1, p2, p3, p4, p5, p6, p7, p8])) 0 2 = a % 256 ^ 2 :=
  fld_at (pre := []) (by simp only [sealed, inoBytes, inoPre, List.flatMap_cons, List.flatMap_nil, ← leN_four, List.append_assoc, List.nil_append]; rfl) (by simp [leN_length])
theorem fld_1 (a v k l s : Nat) (p0 p1 p2 p3 p4 p5 p6 p7 p8 : Nat) : fld (sealed (inoBytes a v k l s [p0, p1, p2, p3, p4, p5, p6, p7, p8])) 2 2 = v % 256 ^ 2 :=
  fld_at (pre := leN a 2) (by simp only [sealed, inoBytes, inoPre, List.flatMap_cons, List.flatMap_nil, ← leN_four, List.append_assoc, List.nil_append]; rfl) (by simp [leN_length])
theorem fld_2 (a v k l s : Nat) (p0 p1 p2 p3 p4 p5 p6 p7 p8 : Nat) : fld (sealed (inoBytes a v k l s [p0, p1, p2, p3, p4, p5, p6, p7, p8])) 4 1 = k % 256 ^ 1 :=
  fld_at (pre := leN a 2 ++ (leN v 2)) (by simp only [sealed, inoBytes, inoPre, List.flatMap_cons, List.flatMap_nil, ← leN_four, List.append_assoc, List.nil_append]; rfl) (by simp [leN_length])
theorem fld_3 (a v k l s : Nat) (p0 p1 p2 p3 p4 p5 p6 p7 p8 : Nat) : fld (sealed (inoBytes a v k l s [p0, p1, p2, p3, p4, p5, p6, p7, p8])) 5 1 = l % 256 ^ 1 :=
  fld_at (pre := leN a 2 ++ (leN v 2 ++ (leN k 1))) (by simp only [sealed, inoBytes, inoPre, List.flatMap_cons, List.flatMap_nil, ← leN_four, List.append_assoc, List.nil_append]; rfl) (by simp [leN_length])
theorem fld_4 (a v k l s : Nat) (p0 p1 p2 p3 p4 p5 p6 p7 p8 : Nat) : fld (sealed (inoBytes a v k l s [p0, p1, p2, p3, p4, p5, p6, p7, p8])) 6 4 = s % 256 ^ 4 :=
  fld_at (pre := leN a 2 ++ (leN v 2 ++ (leN k 1 ++ (leN l 1)))) (by simp only [sealed, inoBytes, inoPre, List.flatMap_cons, List.flatMap_nil, ← leN_four, List.append_assoc, List.nil_append]; rfl) (by simp [leN_length])
theorem fld_5 (a v k l s : Nat) (p0 p1 p2 p3 p4 p5 p6 p7 p8 : Nat) : fld (sealed (inoBytes a v k l s [p0, p1, p2, p3, p4, p5, p6, p7, p8])) 10 4 = p0 % 256 ^ 4 :=
  fld_at (pre := leN a 2 ++ (leN v 2 ++ (leN k 1 ++ (leN l 1 ++ (leN s 4))))) (by simp only [sealed, inoBytes, inoPre, List.flatMap_cons, List.flatMap_nil, ← leN_four, List.append_assoc, List.nil_append]; rfl) (by simp [leN_length])
theorem fld_6 (a v k l s : Nat) (p0 p1 p2 p3 p4 p5 p6 p7 p8 : Nat) : fld (sealed (inoBytes a v k l s [p0, p1, p2, p3, p4, p5, p6, p7, p8])) 14 4 = p1 % 256 ^ 4 :=
  fld_at (pre := leN a 2 ++ (leN v 2 ++ (leN k 1 ++ (leN l 1 ++ (leN s 4 ++ (leN p0 4)))))) (by simp only [sealed, inoBytes, inoPre, List.flatMap_cons, List.flatMap_nil, ← leN_four, List.append_assoc, List.nil_append]; rfl) (by simp [leN_length])
theorem fld_7 (a v k l s : Nat) (p0 p1 p2 p3 p4 p5 p6 p7 p8 : Nat) : fld (sealed (inoBytes a v k l s [p0, p1, p2, p3, p4, p5, p6, p7, p8])) 18 4 = p2 % 256 ^ 4 :=
  fld_at (pre := leN a 2 ++ (leN v 2 ++ (leN k 1 ++ (leN l 1 ++ (leN s 4 ++ (leN p0 4 ++ (leN p1 4))))))) (by simp only [sealed, inoBytes, inoPre, List.flatMap_cons, List.flatMap_nil, ← leN_four, List.append_assoc, List.nil_append]; rfl) (by simp [leN_length])
theorem fld_8 (a v k l s : Nat) (p0 p1 p2 p3 p4 p5 p6 p7 p8 : Nat) : fld (sealed (inoBytes a v k l s [p0, p1, p2, p3, p4, p5, p6, p7, p8])) 22 4 = p3 % 256 ^ 4 :=
  fld_at (pre := leN a 2 ++ (leN v 2 ++ (leN k 1 ++ (leN l 1 ++ (leN s 4 ++ (leN p0 4 ++ (leN p1 4 ++ (leN p2 4)))))))) (by simp only [sealed, inoBytes, inoPre, List.flatMap_cons, List.flatMap_nil, ← leN_four, List.append_assoc, List.nil_append]; rfl) (by simp [leN_length])
theorem fld_9 (a v k l s : Nat) (p0 p1 p2 p3 p4 p5 p6 p7 p8 : Nat) : fld (sealed (inoBytes a v k l s [p0, p1, p2, p3, p4, p5, p6, p7, p8])) 26 4 = p4 % 256 ^ 4 :=
  fld_at (pre := leN a 2 ++ (leN v 2 ++ (leN k 1 ++ (leN l 1 ++ (leN s 4 ++ (leN p0 4 ++ (leN p1 4 ++ (leN p2 4 ++ (leN p3 4))))))))) (by simp only [sealed, inoBytes, inoPre, List.flatMap_cons, List.flatMap_nil, ← leN_four, List.append_assoc, List.nil_append]; rfl) (by simp [leN_length])
theorem fld_10 (a v k l s : Nat) (p0 p1 p2 p3 p4 p5 p6 p7 p8 : Nat) : fld (sealed (inoBytes a v k l s [p0, p1, p2, p3, p4, p5, p6, p7, p8])) 30 4 = p5 % 256 ^ 4 :=
  fld_at (pre := leN a 2 ++ (leN v 2 ++ (leN k 1 ++ (leN l 1 ++ (leN s 4 ++ (leN p0 4 ++ (leN p1 4 ++ (leN p2 4 ++ (leN p3 4 ++ (leN p4 4)))))))))) (by simp only [sealed, inoBytes, inoPre, List.flatMap_cons, List.flatMap_nil, ← leN_four, List.append_assoc, List.nil_append]; rfl) (by simp [leN_length])
theorem fld_11 (a v k l s : Nat) (p0 p1 p2 p3 p4 p5 p6 p7 p8 : Nat) : fld (sealed (inoBytes a v k l s [p0, p1, p2, p3, p4, p5, p6, p7, p8])) 34 4 = p6 % 256 ^ 4 :=
  fld_at (pre := leN a 2 ++ (leN v 2 ++ (leN k 1 ++ (leN l 1 ++ (leN s 4 ++ (leN p0 4 ++ (leN p1 4 ++ (leN p2 4 ++ (leN p3 4 ++ (leN p4 4 ++ (leN p5 4))))))))))) (by simp only [sealed, inoBytes, inoPre, List.flatMap_cons, List.flatMap_nil, ← leN_four, List.append_assoc, List.nil_append]; rfl) (by simp [leN_length])
theorem fld_12 (a v k l s : Nat) (p0 p1 p2 p3 p4 p5 p6 p7 p8 : Nat) : fld (sealed (inoBytes a v k l s [p0, p1, p2, p3, p4, p5, p6, p7, p8])) 38 4 = p7 % 256 ^ 4 :=
  fld_at (pre := leN a 2 ++ (leN v 2 ++ (leN k 1 ++ (leN l 1 ++ (leN s 4 ++ (leN p0 4 ++ (leN p1 4 ++ (leN p2 4 ++ (leN p3 4 ++ (leN p4 4 ++ (leN p5 4 ++ (leN p6 4)))))))))))) (by simp only [sealed, inoBytes, inoPre, List.flatMap_cons, List.flatMap_nil, ← leN_four, List.append_assoc, List.nil_append]; rfl) (by simp [leN_length])
theorem fld_13 (a v k l s : Nat) (p0 p1 p2 p3 p4 p5 p6 p7 p8 : Nat) : fld (sealed (inoBytes a v k l s [p0, p1, p2, p3, p4, p5, p6, p7, p8])) 42 4 = p8 % 256 ^ 4 :=
  fld_at (pre := leN a 2 ++ (leN v 2 ++ (leN k 1 ++ (leN l 1 ++ (leN s 4 ++ (leN p0 4 ++ (leN p1 4 ++ (leN p2 4 ++ (leN p3 4 ++ (leN p4 4 ++ (leN p5 4 ++ (leN p6 4 ++ (leN p7 4))))))))))))) (by simp only [sealed, inoBytes, inoPre, List.flatMap_cons, List.flatMap_nil, ← leN_four, List.append_assoc, List.nil_append]; rfl) (by simp [leN_length])
theorem geo_s (a v k l s : Nat) (ps : List Nat) (hp : ps.length = 9) : sealed ((sealed (inoBytes a v k l s ps)).take 60) = sealed (inoBytes a v k l s ps) := by
  have hl := inoBytes_length a v k l s ps hp
  have : (sealed (inoBytes a v k l s ps)).take 60 = inoBytes a v k l s ps := by unfold sealed; rw [List.take_left' hl]
  rw [this]
theorem decV_ino {a v k l s : Nat} {p0 p1 p2 p3 p4 p5 p6 p7 p8 : Nat} (h : InoP a v k l s) (b0 : p0 < 4294967296) (b1 : p1 < 4294967296) (b2 : p2 < 4294967296) (b3 : p3 < 4294967296) (b4 : p4 < 4294967296) (b5 : p5 < 4294967296) (b6 : p6 < 4294967296) (b7 : p7 < 4294967296) (b8 : p8 < 4294967296) {x : Value} (hd : DecV (sealed (inoBytes a v k l s [p0, p1, p2, p3, p4, p5, p6, p7, p8])) x) : x = .tuple #[inoV a v k l s p0 p1 p2 p3 p4 p5 p6 p7 p8, .int .i64 0] := by
  unfold DecV IsIno at hd
  rw [fld_0, fld_1, fld_2, fld_3, fld_4, fld_5, fld_6, fld_7, fld_8, fld_9, fld_10, fld_11, fld_12, fld_13] at hd
  have hh := h
  unfold InoP at hh
  rw [Nat.mod_eq_of_lt (show a < 256 ^ 2 by omega), Nat.mod_eq_of_lt (show v < 256 ^ 2 by omega), Nat.mod_eq_of_lt (show k < 256 ^ 1 by omega), Nat.mod_eq_of_lt (show l < 256 ^ 1 by omega), Nat.mod_eq_of_lt (show s < 256 ^ 4 by omega),
    Nat.mod_eq_of_lt (show p0 < 256 ^ 4 by omega), Nat.mod_eq_of_lt (show p1 < 256 ^ 4 by omega), Nat.mod_eq_of_lt (show p2 < 256 ^ 4 by omega), Nat.mod_eq_of_lt (show p3 < 256 ^ 4 by omega), Nat.mod_eq_of_lt (show p4 < 256 ^ 4 by omega), Nat.mod_eq_of_lt (show p5 < 256 ^ 4 by omega), Nat.mod_eq_of_lt (show p6 < 256 ^ 4 by omega), Nat.mod_eq_of_lt (show p7 < 256 ^ 4 by omega), Nat.mod_eq_of_lt (show p8 < 256 ^ 4 by omega)] at hd
  rcases hd with ⟨_, hd⟩ | ⟨hd, _⟩
  · exact hd
  · exact absurd ⟨h, rfl⟩ hd

set_option maxRecDepth 100000 in
set_option maxHeartbeats 2000000 in
theorem writes_no (a v k l s : Int) (p0 p1 p2 p3 p4 p5 p6 p7 p8 : Nat) (w : World) (h : ¬ InoP a v k l s) :
    Calls Try.prog 7 #[inoV a v k l s p0 p1 p2 p3 p4 p5 p6 p7 p8] w fun e w' => e = .returned (.bool true) ∧ Below w.heap.size w w' := by
  have H := hide h
  clear h
  go_enter Try.func7, Try.ntmps7
  go_wp2_with fail
  have Hb0 := hide (Below.refl (w.heap.size + 1) (w.alloc (.cells #[.int .i64 a, .int .i64 v, .int .i64 k, .int .i64 l, .int .i64 s, .int .u32 (p0 : Int), .int .u32 (p1 : Int), .int .u32 (p2 : Int), .int .u32 (p3 : Int), .int .u32 (p4 : Int), .int .u32 (p5 : Int), .int .u32 (p6 : Int), .int .u32 (p7 : Int), .int .u32 (p8 : Int)] 28)))
  refine (awake_any _).mono ?_
  rintro e w1 ⟨rfl, hb1⟩
  have Hb1 := hide (box_next Hb0.out hb1)
  obtain ⟨y0, y1, y2, y3, y4, y5, y6, y7, y8, y9, y10, y11, y12, y13⟩ := blk14 (boxed Hb1.out)
  clear hb1
  go_wp2_with fail
  clear y0 y1 y2 y3 y4 y5 y6 y7 y8 y9 y10 y11 y12 y13
  refine (enc_no a v k l s p0 p1 p2 p3 p4 p5 p6 p7 p8 _ H.out).mono ?_
  rintro e w2 ⟨rfl, hb2⟩
  have Hb2 := hide (box_next Hb1.out hb2)
  obtain ⟨y0, y1, y2, y3, y4, y5, y6, y7, y8, y9, y10, y11, y12, y13⟩ := blk14 (boxed Hb2.out)
  clear hb2
  go_wp2_with fail
  clear y0 y1 y2 y3 y4 y5 y6 y7 y8 y9 y10 y11 y12 y13
  refine (good_no a v k l s p0 p1 p2 p3 p4 p5 p6 p7 p8 _ H.out).mono ?_
  rintro e w3 ⟨rfl, hb3⟩
  have Hb3 := hide (box_next Hb2.out hb3)
  obtain ⟨y0, y1, y2, y3, y4, y5, y6, y7, y8, y9, y10, y11, y12, y13⟩ := blk14 (boxed Hb3.out)
  clear hb3
  go_wp2_with fail
  clear y0 y1 y2 y3 y4 y5 y6 y7 y8 y9 y10 y11 y12 y13
  refine (check_no a v k l s p0 p1 p2 p3 p4 p5 p6 p7 p8 _ H.out).mono ?_
  rintro e w4 ⟨rfl, hb4⟩
  have Hb4 := hide (box_next Hb3.out hb4)
  clear hb4
  go_wp2_with fail
  go_ret
  exact ⟨rfl, box_end Hb4.out⟩

set_option maxRecDepth 100000 in
set_option maxHeartbeats 8000000 in
theorem writes_yes (a v k l s : Nat) (p0 p1 p2 p3 p4 p5 p6 p7 p8 : Nat) (w : World) (h : InoP a v k l s) (b0 : p0 < 4294967296) (b1 : p1 < 4294967296) (b2 : p2 < 4294967296) (b3 : p3 < 4294967296) (b4 : p4 < 4294967296) (b5 : p5 < 4294967296) (b6 : p6 < 4294967296) (b7 : p7 < 4294967296) (b8 : p8 < 4294967296) :
    Calls Try.prog 7 #[inoV a v k l s p0 p1 p2 p3 p4 p5 p6 p7 p8] w fun e w' => e = .returned (.bool true) ∧ Below w.heap.size w w' := by
  have heq := ino_same a v k l s p0 p1 p2 p3 p4 p5 p6 p7 p8 h b0 b1 b2 b3 b4 b5 b6 b7 b8
  have C1 := hide (fun w => enc_yes a v k l s p0 p1 p2 p3 p4 p5 p6 p7 p8 w h b0 b1 b2 b3 b4 b5 b6 b7 b8)
  have C2 := hide (fun w => good_yes a v k l s p0 p1 p2 p3 p4 p5 p6 p7 p8 w h)
  have C3 := hide (fun x hd => decV_ino h b0 b1 b2 b3 b4 b5 b6 b7 b8 (x := x) hd)
  have C4 := hide (fun w => check_yes a v k l s p0 p1 p2 p3 p4 p5 p6 p7 p8 w h)
  have C5 := hide (fun w => renc_any a v k l s p0 p1 p2 p3 p4 p5 p6 p7 p8 w h b0 b1 b2 b3 b4 b5 b6 b7 b8)
  obtain ⟨cv, hcv⟩ := cv_ex Try.prog 29 9
  have Hs := hide (geo_s a v k l s [p0, p1, p2, p3, p4, p5, p6, p7, p8] rfl)
  clear h b0 b1 b2 b3 b4 b5 b6 b7 b8
  go_enter Try.func7, Try.ntmps7
  go_wp2_with fail
  have Hb0 := hide (Below.refl (w.heap.size + 1) (w.alloc (.cells #[.int .i64 (a : Int), .int .i64 (v : Int), .int .i64 (k : Int), .int .i64 (l : Int), .int .i64 (s : Int), .int .u32 (p0 : Int), .int .u32 (p1 : Int), .int .u32 (p2 : Int), .int .u32 (p3 : Int), .int .u32 (p4 : Int), .int .u32 (p5 : Int), .int .u32 (p6 : Int), .int .u32 (p7 : Int), .int .u32 (p8 : Int)] 28)))
  refine (awake_any _).mono ?_
  rintro e w1 ⟨rfl, hb1⟩
  have Hb1 := hide (box_next Hb0.out hb1)
  obtain ⟨y0, y1, y2, y3, y4, y5, y6, y7, y8, y9, y10, y11, y12, y13⟩ := blk14 (boxed Hb1.out)
  clear hb1
  go_wp2_with fail
  clear y0 y1 y2 y3 y4 y5 y6 y7 y8 y9 y10 y11 y12 y13
  refine (C1.out _).mono ?_
  rintro e w2 ⟨A, c, rfl, hown2, hb2⟩
  have Hown2 := hide hown2
  have Hb2 := hide (box_next Hb1.out hb2)
  obtain ⟨y0, y1, y2, y3, y4, y5, y6, y7, y8, y9, y10, y11, y12, y13⟩ := blk14 (boxed Hb2.out)
  clear hb2 hown2 Hb1
  go_wp2_with fail
  clear y0 y1 y2 y3 y4 y5 y6 y7 y8 y9 y10 y11 y12 y13
  refine (C2.out _).mono ?_
  rintro e w2' ⟨rfl, hb3⟩
  replace Hown2 := hide (own_keep Hown2.out hb3)
  have Hb3 := hide (box_next Hb2.out hb3)
  clear hb3 Hb2
  have hc64 := own_cap Hown2.out
  go_wp2_with fail
  refine (dec_open A c _ _ w2' (Sl.of_own Hown2.out) (Nat.le_refl _) hc64 Hs.out).mono ?_
  rintro e w3 ⟨x, rfl, hd, hb4⟩
  obtain rfl := C3.out x hd
  have HY := hide (Sl.below (Sl.of_own Hown2.out) hb4)
  have Hb4 := hide (box_next Hb3.out hb4)
  have hsz4 := hb4.size
  clear hd hb4 Hown2 Hb3 C1 C2 C3
  go_wp2_with fail
  have K1 := hide ((boxed Hb4.out).alloc (.cells #[.int .i64 (a : Int), .int .i64 (v : Int), .int .i64 (k : Int), .int .i64 (l : Int), .int .i64 (s : Int), .int .u32 (p0 : Int), .int .u32 (p1 : Int), .int .u32 (p2 : Int), .int .u32 (p3 : Int), .int .u32 (p4 : Int), .int .u32 (p5 : Int), .int .u32 (p6 : Int), .int .u32 (p7 : Int), .int .u32 (p8 : Int)] 28))
  have K2 := hide (Blk.new w3 28 #[.int .i64 (a : Int), .int .i64 (v : Int), .int .i64 (k : Int), .int .i64 (l : Int), .int .i64 (s : Int), .int .u32 (p0 : Int), .int .u32 (p1 : Int), .int .u32 (p2 : Int), .int .u32 (p3 : Int), .int .u32 (p4 : Int), .int .u32 (p5 : Int), .int .u32 (p6 : Int), .int .u32 (p7 : Int), .int .u32 (p8 : Int)])
  have HY5 := hide ((Sl.more HY.out hsz4).alloc (Nat.le_refl _) (.cells #[.int .i64 (a : Int), .int .i64 (v : Int), .int .i64 (k : Int), .int .i64 (l : Int), .int .i64 (s : Int), .int .u32 (p0 : Int), .int .u32 (p1 : Int), .int .u32 (p2 : Int), .int .u32 (p3 : Int), .int .u32 (p4 : Int), .int .u32 (p5 : Int), .int .u32 (p6 : Int), .int .u32 (p7 : Int), .int .u32 (p8 : Int)] 28))
  have Hb5 := hide ((box_end Hb4.out).alloc (box_end Hb4.out).size (.cells #[.int .i64 (a : Int), .int .i64 (v : Int), .int .i64 (k : Int), .int .i64 (l : Int), .int .i64 (s : Int), .int .u32 (p0 : Int), .int .u32 (p1 : Int), .int .u32 (p2 : Int), .int .u32 (p3 : Int), .int .u32 (p4 : Int), .int .u32 (p5 : Int), .int .u32 (p6 : Int), .int .u32 (p7 : Int), .int .u32 (p8 : Int)] 28))
  have hlt5 : w3.heap.size ≤ (w3.alloc (.cells #[.int .i64 (a : Int), .int .i64 (v : Int), .int .i64 (k : Int), .int .i64 (l : Int), .int .i64 (s : Int), .int .u32 (p0 : Int), .int .u32 (p1 : Int), .int .u32 (p2 : Int), .int .u32 (p3 : Int), .int .u32 (p4 : Int), .int .u32 (p5 : Int), .int .u32 (p6 : Int), .int .u32 (p7 : Int), .int .u32 (p8 : Int)] 28)).heap.size := by simp
  generalize w3.alloc (.cells #[.int .i64 (a : Int), .int .i64 (v : Int), .int .i64 (k : Int), .int .i64 (l : Int), .int .i64 (s : Int), .int .u32 (p0 : Int), .int .u32 (p1 : Int), .int .u32 (p2 : Int), .int .u32 (p3 : Int), .int .u32 (p4 : Int), .int .u32 (p5 : Int), .int .u32 (p6 : Int), .int .u32 (p7 : Int), .int .u32 (p8 : Int)] 28) = w4 at *
  have HSS := hide (show ∀ w5, Below w4.heap.size w4 w5 → (w5.cell? ⟨w.heap.size, 0, none⟩ = some (.int .i64 (a : Int)) ∧ w5.cell? ⟨w.heap.size, 1, none⟩ = some (.int .i64 (v : Int)) ∧ w5.cell? ⟨w.heap.size, 2, none⟩ = some (.int .i64 (k : Int)) ∧ w5.cell? ⟨w.heap.size, 3, none⟩ = some (.int .i64 (l : Int)) ∧ w5.cell? ⟨w.heap.size, 4, none⟩ = some (.int .i64 (s : Int)) ∧ w5.cell? ⟨w.heap.size, 5, none⟩ = some (.int .u32 (p0 : Int)) ∧ w5.cell? ⟨w.heap.size, 6, none⟩ = some (.int .u32 (p1 : Int)) ∧ w5.cell? ⟨w.heap.size, 7, none⟩ = some (.int .u32 (p2 : Int)) ∧ w5.cell? ⟨w.heap.size, 8, none⟩ = some (.int .u32 (p3 : Int)) ∧ w5.cell? ⟨w.heap.size, 9, none⟩ = some (.int .u32 (p4 : Int)) ∧ w5.cell? ⟨w.heap.size, 10, none⟩ = some (.int .u32 (p5 : Int)) ∧ w5.cell? ⟨w.heap.size, 11, none⟩ = some (.int .u32 (p6 : Int)) ∧ w5.cell? ⟨w.heap.size, 12, none⟩ = some (.int .u32 (p7 : Int)) ∧ w5.cell? ⟨w.heap.size, 13, none⟩ = some (.int .u32 (p8 : Int))) ∧ (w5.cell? ⟨w3.heap.size, 0, none⟩ = some (.int .i64 (a : Int)) ∧ w5.cell? ⟨w3.heap.size, 1, none⟩ = some (.int .i64 (v : Int)) ∧ w5.cell? ⟨w3.heap.size, 2, none⟩ = some (.int .i64 (k : Int)) ∧ w5.cell? ⟨w3.heap.size, 3, none⟩ = some (.int .i64 (l : Int)) ∧ w5.cell? ⟨w3.heap.size, 4, none⟩ = some (.int .i64 (s : Int)) ∧ w5.cell? ⟨w3.heap.size, 5, none⟩ = some (.int .u32 (p0 : Int)) ∧ w5.cell? ⟨w3.heap.size, 6, none⟩ = some (.int .u32 (p1 : Int)) ∧ w5.cell? ⟨w3.heap.size, 7, none⟩ = some (.int .u32 (p2 : Int)) ∧ w5.cell? ⟨w3.heap.size, 8, none⟩ = some (.int .u32 (p3 : Int)) ∧ w5.cell? ⟨w3.heap.size, 9, none⟩ = some (.int .u32 (p4 : Int)) ∧ w5.cell? ⟨w3.heap.size, 10, none⟩ = some (.int .u32 (p5 : Int)) ∧ w5.cell? ⟨w3.heap.size, 11, none⟩ = some (.int .u32 (p6 : Int)) ∧ w5.cell? ⟨w3.heap.size, 12, none⟩ = some (.int .u32 (p7 : Int)) ∧ w5.cell? ⟨w3.heap.size, 13, none⟩ = some (.int .u32 (p8 : Int))) ∧ cv (.slice A 64 c) w5 = .ok (.string (txt (sealed (inoBytes a v k l s [p0, p1, p2, p3, p4, p5, p6, p7, p8])))) w5 from fun w5 hb => ⟨blk14 (K1.out.below hb), blk14 (K2.out.below hb), cv_txt hcv Try.underlying29 Try.underlying5 Try.underlying9 c (HY5.out.below (hb.mono hlt5))⟩)
  obtain ⟨⟨y0, y1, y2, y3, y4, y5, y6, y7, y8, y9, y10, y11, y12, y13⟩, ⟨z0, z1, z2, z3, z4, z5, z6, z7, z8, z9, z10, z11, z12, z13⟩, ecv⟩ := HSS.out w4.drew (Below.refl _ _).drew
  clear HY HY5 Hb4 hlt5 K1 K2 hc64 hsz4
  go_region_with (first
      | (go_at_call 18; (with_reducible refine (C4.out _).mono ?_); rintro e w6 ⟨rfl, hb6⟩; have Hb6 := hide ((Below.refl w4.heap.size w4).drew.trans hb6); obtain ⟨⟨y0, y1, y2, y3, y4, y5, y6, y7, y8, y9, y10, y11, y12, y13⟩, ⟨z0, z1, z2, z3, z4, z5, z6, z7, z8, z9, z10, z11, z12, z13⟩, ecv⟩ := HSS.out w6 Hb6.out; clear hb6)
      | (go_at_call 20; (with_reducible refine (C5.out _).mono ?_); rintro e w7 ⟨A7, d7, rfl, hown7, hb7⟩; have Hb7 := hide (Hb6.out.trans (hb7.mono Hb6.out.size)); obtain ⟨⟨y0, y1, y2, y3, y4, y5, y6, y7, y8, y9, y10, y11, y12, y13⟩, ⟨z0, z1, z2, z3, z4, z5, z6, z7, z8, z9, z10, z11, z12, z13⟩, ecv⟩ := HSS.out w7 Hb7.out; have e7 := cv_txt hcv Try.underlying29 Try.underlying5 Try.underlying9 d7 hown7.by; clear hb7 hown7))
  all_goals
    go_wp2_with fail
    go_ret
    exact ⟨rfl, Hb5.out.trans (Hb7.out.mono Hb5.out.size)⟩

theorem writes_all (a v k l s : Int) (p0 p1 p2 p3 p4 p5 p6 p7 p8 : Nat) (w : World) (b0 : p0 < 4294967296) (b1 : p1 < 4294967296) (b2 : p2 < 4294967296) (b3 : p3 < 4294967296) (b4 : p4 < 4294967296) (b5 : p5 < 4294967296) (b6 : p6 < 4294967296) (b7 : p7 < 4294967296) (b8 : p8 < 4294967296) :
    Calls Try.prog 7 #[inoV a v k l s p0 p1 p2 p3 p4 p5 p6 p7 p8] w fun e w' => e = .returned (.bool true) ∧ Below w.heap.size w w' := by
  by_cases h : InoP a v k l s
  · obtain ⟨a, rfl⟩ := Int.eq_ofNat_of_zero_le (show 0 ≤ a by have := h.1; omega)
    obtain ⟨v, rfl⟩ := Int.eq_ofNat_of_zero_le (show 0 ≤ v by have := h.2.1; omega)
    obtain ⟨k, rfl⟩ := Int.eq_ofNat_of_zero_le (show 0 ≤ k by have := h.2.2.1; omega)
    obtain ⟨l, rfl⟩ := Int.eq_ofNat_of_zero_le (show 0 ≤ l by have := h.2.2.2.1; omega)
    obtain ⟨s, rfl⟩ := Int.eq_ofNat_of_zero_le (show 0 ≤ s by have := h.2.2.2.2; omega)
    exact writes_yes a v k l s p0 p1 p2 p3 p4 p5 p6 p7 p8 w h b0 b1 b2 b3 b4 b5 b6 b7 b8
  · exact writes_no a v k l s p0 p1 p2 p3 p4 p5 p6 p7 p8 w h
end Go.Proofs.Ytbceejcmjklklaa
