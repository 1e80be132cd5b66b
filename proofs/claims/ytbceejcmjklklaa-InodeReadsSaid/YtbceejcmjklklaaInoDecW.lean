/- The walk over inode.Decode, of a sealed block. -/
import Derived.Test.YtbceejcmjklklaaInoSealW
import Derived.StillTailTactics
namespace Go.Proofs.Ytbceejcmjklklaa
open Go.RowKit

/-- The number that stands at a place. -/
def fld (l : List UInt8) (i n : Nat) : Nat := numL ((l.drop i).take n)
theorem fld_lt (l : List UInt8) (i n : Nat) : fld l i n < 256 ^ n := by
  have h := numL_lt ((l.drop i).take n)
  have h2 : ((l.drop i).take n).length ≤ n := List.length_take_le _ _
  exact Nat.lt_of_lt_of_le h (Nat.pow_le_pow_right (by omega) h2)
/-- A pointer, once it is read. -/
def pa (i j p : Nat) : Nat := if j < i then p else 0
theorem pa_yes {i j p : Nat} (h : j < i) : pa i j p = p := if_pos h
theorem pa_no {i j p : Nat} (h : ¬ j < i) : pa i j p = 0 := if_neg h
/-- Bytes are the block of the inode that its numbers are. -/
def IsIno (l : List UInt8) : Prop := InoP (fld l 0 2) (fld l 2 2) (fld l 4 1) (fld l 5 1) (fld l 6 4) ∧ sealed (inoBytes (fld l 0 2) (fld l 2 2) (fld l 4 1) (fld l 5 1) (fld l 6 4) [fld l 10 4, fld l 14 4, fld l 18 4, fld l 22 4, fld l 26 4, fld l 30 4, fld l 34 4, fld l 38 4, fld l 42 4]) = l
/-- What is answered of a sealed block. -/
def DecV (l : List UInt8) (x : Value) : Prop := (IsIno l ∧ x = .tuple #[inoV (fld l 0 2) (fld l 2 2) (fld l 4 1) (fld l 5 1) (fld l 6 4) (fld l 10 4) (fld l 14 4) (fld l 18 4) (fld l 22 4) (fld l 26 4) (fld l 30 4) (fld l 34 4) (fld l 38 4) (fld l 42 4), .int .i64 0]) ∨ (¬ IsIno l ∧ x = .tuple #[zeroI, .int .i64 100])

theorem pa_set (a v k n s : Nat) (p0 p1 p2 p3 p4 p5 p6 p7 p8 : Nat) (i : Nat) (hi : i < [p0, p1, p2, p3, p4, p5, p6, p7, p8].length) : (#[.int .i64 (a : Int), .int .i64 (v : Int), .int .i64 (k : Int), .int .i64 (n : Int), .int .i64 (s : Int), .int .u32 (pa i 0 p0 : Int), .int .u32 (pa i 1 p1 : Int), .int .u32 (pa i 2 p2 : Int), .int .u32 (pa i 3 p3 : Int), .int .u32 (pa i 4 p4 : Int), .int .u32 (pa i 5 p5 : Int), .int .u32 (pa i 6 p6 : Int), .int .u32 (pa i 7 p7 : Int), .int .u32 (pa i 8 p8 : Int)] : Array Value).setIfInBounds (5 + i) (.int .u32 ([p0, p1, p2, p3, p4, p5, p6, p7, p8][i] : Nat)) = #[.int .i64 (a : Int), .int .i64 (v : Int), .int .i64 (k : Int), .int .i64 (n : Int), .int .i64 (s : Int), .int .u32 (pa (i + 1) 0 p0 : Int), .int .u32 (pa (i + 1) 1 p1 : Int), .int .u32 (pa (i + 1) 2 p2 : Int), .int .u32 (pa (i + 1) 3 p3 : Int), .int .u32 (pa (i + 1) 4 p4 : Int), .int .u32 (pa (i + 1) 5 p5 : Int), .int .u32 (pa (i + 1) 6 p6 : Int), .int .u32 (pa (i + 1) 7 p7 : Int), .int .u32 (pa (i + 1) 8 p8 : Int)] := by
  have : i = 0 ∨ i = 1 ∨ i = 2 ∨ i = 3 ∨ i = 4 ∨ i = 5 ∨ i = 6 ∨ i = 7 ∨ i = 8 := by simp at hi; omega
  rcases this with rfl | rfl | rfl | rfl | rfl | rfl | rfl | rfl | rfl <;> rfl

theorem blk14 {w : World} {g : Nat} {t : TypeId} {x0 x1 x2 x3 x4 x5 x6 x7 x8 x9 x10 x11 x12 x13 : Value} (h : Blk w g t #[x0, x1, x2, x3, x4, x5, x6, x7, x8, x9, x10, x11, x12, x13]) : w.cell? ⟨g, 0, none⟩ = some x0 ∧ w.cell? ⟨g, 1, none⟩ = some x1 ∧ w.cell? ⟨g, 2, none⟩ = some x2 ∧ w.cell? ⟨g, 3, none⟩ = some x3 ∧ w.cell? ⟨g, 4, none⟩ = some x4 ∧ w.cell? ⟨g, 5, none⟩ = some x5 ∧ w.cell? ⟨g, 6, none⟩ = some x6 ∧ w.cell? ⟨g, 7, none⟩ = some x7 ∧ w.cell? ⟨g, 8, none⟩ = some x8 ∧ w.cell? ⟨g, 9, none⟩ = some x9 ∧ w.cell? ⟨g, 10, none⟩ = some x10 ∧ w.cell? ⟨g, 11, none⟩ = some x11 ∧ w.cell? ⟨g, 12, none⟩ = some x12 ∧ w.cell? ⟨g, 13, none⟩ = some x13 :=
  ⟨h.cell 0, h.cell 1, h.cell 2, h.cell 3, h.cell 4, h.cell 5, h.cell 6, h.cell 7, h.cell 8, h.cell 9, h.cell 10, h.cell 11, h.cell 12, h.cell 13⟩
theorem getc {f : FuncId} {args : Array Value} {w : World} {v : Value} (h : Calls Try.prog f args w fun e w' => e = .returned v ∧ w = w') : Calls Try.prog f args w fun e w' => e = .returned v ∧ w' = w :=
  h.mono fun _ _ h => ⟨h.1, h.2.symm⟩

set_option maxRecDepth 100000 in
set_option maxHeartbeats 8000000 in
theorem dec_open (A : Option Addr) (c B : Nat) (lst : List UInt8) (w : World) (h : By w B A 64 lst) (hB : B ≤ w.heap.size) (hc : 64 ≤ c) (hgood : sealed (lst.take 60) = lst) :
    Calls Try.prog 19 #[.slice A 64 c] w fun e w' => ∃ x, e = .returned x ∧ DecV lst x ∧ Below w.heap.size w w' := by
  unfold DecV IsIno
  have H := hide h
  have Hgood := hide hgood
  have F0 := hide (show ∀ w B, By w B A 64 lst → Calls Try.prog 25 #[.slice A 2 c] w fun e w' => e = .returned (.int .i64 (fld lst 0 2 : Nat)) ∧ w = w' from fun w B h => by
    have hs := h.head (k := 2) (by omega)
    rw [u8s_take] at hs
    exact get_any A 2 c B _ w hs (by omega))
  have F1 := hide (show ∀ w B, By w B A 64 lst → Calls Try.prog 25 #[.slice (cutA A c 2) 2 (c - 2)] w fun e w' => e = .returned (.int .i64 (fld lst 2 2 : Nat)) ∧ w = w' from fun w B h => by
    have hs := h.cut (i := 2) (j := 4) (cap := c) (by omega) (by omega) (by omega)
    rw [u8s_drop, u8s_take] at hs
    exact get_any (cutA A c 2) 2 (c - 2) B _ w hs (by omega))
  have F2 := hide (show ∀ w B, By w B A 64 lst → Calls Try.prog 25 #[.slice (cutA A c 4) 1 (c - 4)] w fun e w' => e = .returned (.int .i64 (fld lst 4 1 : Nat)) ∧ w = w' from fun w B h => by
    have hs := h.cut (i := 4) (j := 5) (cap := c) (by omega) (by omega) (by omega)
    rw [u8s_drop, u8s_take] at hs
    exact get_any (cutA A c 4) 1 (c - 4) B _ w hs (by omega))
  have F3 := hide (show ∀ w B, By w B A 64 lst → Calls Try.prog 25 #[.slice (cutA A c 5) 1 (c - 5)] w fun e w' => e = .returned (.int .i64 (fld lst 5 1 : Nat)) ∧ w = w' from fun w B h => by
    have hs := h.cut (i := 5) (j := 6) (cap := c) (by omega) (by omega) (by omega)
    rw [u8s_drop, u8s_take] at hs
    exact get_any (cutA A c 5) 1 (c - 5) B _ w hs (by omega))
  have F4 := hide (show ∀ w B, By w B A 64 lst → Calls Try.prog 25 #[.slice (cutA A c 6) 4 (c - 6)] w fun e w' => e = .returned (.int .i64 (fld lst 6 4 : Nat)) ∧ w = w' from fun w B h => by
    have hs := h.cut (i := 6) (j := 10) (cap := c) (by omega) (by omega) (by omega)
    rw [u8s_drop, u8s_take] at hs
    exact get_any (cutA A c 6) 4 (c - 6) B _ w hs (by omega))
  have FB := hide (show (∀ i (hi : i < [fld lst 10 4, fld lst 14 4, fld lst 18 4, fld lst 22 4, fld lst 26 4, fld lst 30 4, fld lst 34 4, fld lst 38 4, fld lst 42 4].length), ([fld lst 10 4, fld lst 14 4, fld lst 18 4, fld lst 22 4, fld lst 26 4, fld lst 30 4, fld lst 34 4, fld lst 38 4, fld lst 42 4][i]) < 4294967296) from fun i hi => by
    have : i = 0 ∨ i = 1 ∨ i = 2 ∨ i = 3 ∨ i = 4 ∨ i = 5 ∨ i = 6 ∨ i = 7 ∨ i = 8 := by simp at hi; omega
    rcases this with rfl | rfl | rfl | rfl | rfl | rfl | rfl | rfl | rfl <;> exact fld_lt _ _ 4)
  have FG := hide (show ∀ i (hi : i < [fld lst 10 4, fld lst 14 4, fld lst 18 4, fld lst 22 4, fld lst 26 4, fld lst 30 4, fld lst 34 4, fld lst 38 4, fld lst 42 4].length) w B, By w B A 64 lst → Calls Try.prog 25 #[.slice (cutA A c (10 + 4 * i)) 4 (c - (10 + 4 * i))] w fun e w' => e = .returned (.int .i64 ([fld lst 10 4, fld lst 14 4, fld lst 18 4, fld lst 22 4, fld lst 26 4, fld lst 30 4, fld lst 34 4, fld lst 38 4, fld lst 42 4][i] : Nat)) ∧ w = w' from fun i hi w B h => by
    have hs := h.cut (i := 10 + 4 * i) (j := 14 + 4 * i) (cap := c) (by omega) (by simp at hi; omega) (by simp at hi; omega)
    rw [u8s_drop, u8s_take, show 14 + 4 * i - (10 + 4 * i) = 4 by omega] at hs
    have hg := get_any (cutA A c (10 + 4 * i)) 4 (c - (10 + 4 * i)) B _ w hs (by omega)
    have : i = 0 ∨ i = 1 ∨ i = 2 ∨ i = 3 ∨ i = 4 ∨ i = 5 ∨ i = 6 ∨ i = 7 ∨ i = 8 := by simp at hi; omega
    rcases this with rfl | rfl | rfl | rfl | rfl | rfl | rfl | rfl | rfl <;> exact hg)
  clear h hgood
  generalize fld lst 0 2 = a at *
  generalize fld lst 2 2 = v at *
  generalize fld lst 4 1 = k at *
  generalize fld lst 5 1 = n at *
  generalize fld lst 6 4 = s at *
  generalize fld lst 10 4 = p0 at *
  generalize fld lst 14 4 = p1 at *
  generalize fld lst 18 4 = p2 at *
  generalize fld lst 22 4 = p3 at *
  generalize fld lst 26 4 = p4 at *
  generalize fld lst 30 4 = p5 at *
  generalize fld lst 34 4 = p6 at *
  generalize fld lst 38 4 = p7 at *
  generalize fld lst 42 4 = p8 at *
  go_enter Try.func19, Try.ntmps19
  go_wp2_with fail
  obtain ⟨_, ad, rfl, -⟩ := By.get H.out (k := 0) (by omega)
  refine (open_good ad 60 c B lst _ (H.out.alloc hB _) (by simp; omega) hc (by omega) Hgood.out).mono ?_
  rintro e w1 ⟨A1, c1, rfl, hown1, hb1⟩
  have Hb1 := hide (show Below (w.heap.size + 1) _ w1 from by simpa using hb1)
  have HK := hide (boxed Hb1.out)
  have Hw1 := hide (box_end Hb1.out)
  clear hown1 hb1 Hb1
  go_wp2_with fail
  have s0 : ∀ w, (Instr.slice 29 (.slice (some ad) 64 c) none (some (.int .i64 2)) none).run Try.prog w = .ok (.slice (some ad) 2 c) w := fun w => run_cut_h (P := Try.prog) ety8 (some ad) 64 c w 2 .i64 (by omega)
  have s1 : ∀ w, (Instr.slice 29 (.slice (some ad) 64 c) (some (.int .i64 2)) (some (.int .i64 4)) none).run Try.prog w = .ok (.slice (cutA (some ad) c 2) 2 (c - 2)) w := fun w => run_cut_lh (P := Try.prog) ety8 (some ad) 64 c w 2 4 .i64 .i64 (by omega) (by omega)
  have s2 : ∀ w, (Instr.slice 29 (.slice (some ad) 64 c) (some (.int .i64 4)) (some (.int .i64 5)) none).run Try.prog w = .ok (.slice (cutA (some ad) c 4) 1 (c - 4)) w := fun w => run_cut_lh (P := Try.prog) ety8 (some ad) 64 c w 4 5 .i64 .i64 (by omega) (by omega)
  have s3 : ∀ w, (Instr.slice 29 (.slice (some ad) 64 c) (some (.int .i64 5)) (some (.int .i64 6)) none).run Try.prog w = .ok (.slice (cutA (some ad) c 5) 1 (c - 5)) w := fun w => run_cut_lh (P := Try.prog) ety8 (some ad) 64 c w 5 6 .i64 .i64 (by omega) (by omega)
  have s4 : ∀ w, (Instr.slice 29 (.slice (some ad) 64 c) (some (.int .i64 6)) (some (.int .i64 10)) none).run Try.prog w = .ok (.slice (cutA (some ad) c 6) 4 (c - 6)) w := fun w => run_cut_lh (P := Try.prog) ety8 (some ad) 64 c w 6 10 .i64 .i64 (by omega) (by omega)
  have HYa := hide (H.out.below (Hw1.out.mono hB)).drew
  have HYb := hide ((H.out.below (Hw1.out.mono hB)).alloc (Nat.le_trans hB Hw1.out.size) (.cells #[.int .i64 0, .int .i64 0, .int .i64 0, .int .i64 0, .int .i64 0, .int .u32 0, .int .u32 0, .int .u32 0, .int .u32 0, .int .u32 0, .int .u32 0, .int .u32 0, .int .u32 0, .int .u32 0] 28)).drew
  go_upto_region 6 with fail
  go_cut [6] (fun x wx => x = .pointer (some ⟨w1.heap.size, 0, none⟩) ∧ wx = (w1.alloc (.cells #[.int .i64 (a : Int), .int .i64 (v : Int), .int .i64 (k : Int), .int .i64 (n : Int), .int .i64 (s : Int), .int .u32 0, .int .u32 0, .int .u32 0, .int .u32 0, .int .u32 0, .int .u32 0, .int .u32 0, .int .u32 0, .int .u32 0] 28)).drew)
  case first =>
    go_region_with (first
      | (go_at_call 25; (with_reducible refine (F0.out _ _ (by first | exact HYa.out | exact HYb.out)).mono ?_); rintro e w' ⟨rfl, rfl⟩)
      | (go_at_call 25; (with_reducible refine (F1.out _ _ (by first | exact HYa.out | exact HYb.out)).mono ?_); rintro e w' ⟨rfl, rfl⟩)
      | (go_at_call 25; (with_reducible refine (F2.out _ _ (by first | exact HYa.out | exact HYb.out)).mono ?_); rintro e w' ⟨rfl, rfl⟩)
      | (go_at_call 25; (with_reducible refine (F3.out _ _ (by first | exact HYa.out | exact HYb.out)).mono ?_); rintro e w' ⟨rfl, rfl⟩)
      | (go_at_call 25; (with_reducible refine (F4.out _ _ (by first | exact HYa.out | exact HYb.out)).mono ?_); rintro e w' ⟨rfl, rfl⟩))
    all_goals
      go_wp2_with fail
      go_meet
      exact ⟨rfl, rfl⟩
  case rest =>
    obtain ⟨rfl, rfl⟩ := hcut
    have HX := hide (show Blk ((w1.alloc (.cells #[.int .i64 (a : Int), .int .i64 (v : Int), .int .i64 (k : Int), .int .i64 (n : Int), .int .i64 (s : Int), .int .u32 0, .int .u32 0, .int .u32 0, .int .u32 0, .int .u32 0, .int .u32 0, .int .u32 0, .int .u32 0, .int .u32 0] 28)).drew) w1.heap.size 28 #[.int .i64 (a : Int), .int .i64 (v : Int), .int .i64 (k : Int), .int .i64 (n : Int), .int .i64 (s : Int), .int .u32 (pa 0 0 p0 : Int), .int .u32 (pa 0 1 p1 : Int), .int .u32 (pa 0 2 p2 : Int), .int .u32 (pa 0 3 p3 : Int), .int .u32 (pa 0 4 p4 : Int), .int .u32 (pa 0 5 p5 : Int), .int .u32 (pa 0 6 p6 : Int), .int .u32 (pa 0 7 p7 : Int), .int .u32 (pa 0 8 p8 : Int)] from (Blk.new w1 28 #[.int .i64 (a : Int), .int .i64 (v : Int), .int .i64 (k : Int), .int .i64 (n : Int), .int .i64 (s : Int), .int .u32 0, .int .u32 0, .int .u32 0, .int .u32 0, .int .u32 0, .int .u32 0, .int .u32 0, .int .u32 0, .int .u32 0]).drew)
    have HKx := hide ((HK.out.alloc (.cells #[.int .i64 (a : Int), .int .i64 (v : Int), .int .i64 (k : Int), .int .i64 (n : Int), .int .i64 (s : Int), .int .u32 0, .int .u32 0, .int .u32 0, .int .u32 0, .int .u32 0, .int .u32 0, .int .u32 0, .int .u32 0, .int .u32 0] 28)).drew)
    have Hbx := hide ((Hw1.out.alloc Hw1.out.size (.cells #[.int .i64 (a : Int), .int .i64 (v : Int), .int .i64 (k : Int), .int .i64 (n : Int), .int .i64 (s : Int), .int .u32 0, .int .u32 0, .int .u32 0, .int .u32 0, .int .u32 0, .int .u32 0, .int .u32 0, .int .u32 0, .int .u32 0] 28)).drew)
    have hne : w.heap.size ≠ w1.heap.size := Nat.ne_of_lt HK.out.lt
    have hgB : B ≤ w1.heap.size := Nat.le_trans hB Hw1.out.size
    have hgw : w.heap.size ≤ w1.heap.size := Hw1.out.size
    clear HK Hw1 HYa HYb s0 s1 s2 s3 s4 F0 F1 F2 F3 F4
    generalize (w1.alloc (.cells #[.int .i64 (a : Int), .int .i64 (v : Int), .int .i64 (k : Int), .int .i64 (n : Int), .int .i64 (s : Int), .int .u32 0, .int .u32 0, .int .u32 0, .int .u32 0, .int .u32 0, .int .u32 0, .int .u32 0, .int .u32 0, .int .u32 0] 28)).drew = w2 at *
    generalize w1.heap.size = g at *
    go_wp2_with fail
    go_loopw [39] (fun i wr => ∃ j : Nat, j ≤ 9 ∧ i = .int .i64 (j : Int) ∧ Blk wr g 28 #[.int .i64 (a : Int), .int .i64 (v : Int), .int .i64 (k : Int), .int .i64 (n : Int), .int .i64 (s : Int), .int .u32 (pa j 0 p0 : Int), .int .u32 (pa j 1 p1 : Int), .int .u32 (pa j 2 p2 : Int), .int .u32 (pa j 3 p3 : Int), .int .u32 (pa j 4 p4 : Int), .int .u32 (pa j 5 p5 : Int), .int .u32 (pa j 6 p6 : Int), .int .u32 (pa j 7 p7 : Int), .int .u32 (pa j 8 p8 : Int)] ∧ Blk wr w.heap.size 28 #[.int .i64 0, .int .i64 0, .int .i64 0, .int .i64 0, .int .i64 0, .int .u32 0, .int .u32 0, .int .u32 0, .int .u32 0, .int .u32 0, .int .u32 0, .int .u32 0, .int .u32 0, .int .u32 0] ∧ Below w.heap.size w wr) (fun i _ => 9 - (intOf i).toNat)
    case atStart => exact ⟨0, by omega, rfl, HX.out, HKx.out, Hbx.out⟩
    case round =>
      clear HX HKx Hbx
      obtain ⟨j, hj, rfl, hX, hK, hb⟩ := hrel
      have HX := hide hX
      have HK := hide hK
      have Hb := hide hb
      clear hX hK hb
      by_cases hlt : j < 9
      · have hjl : j < [p0, p1, p2, p3, p4, p5, p6, p7, p8].length := by simpa using hlt
        have hby := H.out.below (Hb.out.mono hB)
        have C := hide (FG.out j hjl wr _ hby)
        have hx := FB.out j hjl
        have Hset := hide (pa_set a v k n s p0 p1 p2 p3 p4 p5 p6 p7 p8 j hjl)
        have hcs : ∀ w, (Instr.slice 29 (.slice (some ad) 64 c) (some (.int .i64 (10 + 4 * (j : Int)))) (some (.int .i64 (14 + 4 * (j : Int)))) none).run Try.prog w = .ok (.slice (cutA (some ad) c (10 + 4 * j)) 4 (c - (10 + 4 * j))) w := fun w => by
          have := run_cut_lh (P := Try.prog) ety8 (some ad) 64 c w (10 + 4 * j) (14 + 4 * j) .i64 .i64 (by omega) (by omega)
          rw [show ((10 + 4 * j : Nat) : Int) = 10 + 4 * (j : Int) by omega, show ((14 + 4 * j : Nat) : Int) = 14 + 4 * (j : Int) by omega, show 14 + 4 * j - (10 + 4 * j) = 4 by omega] at this
          exact this
        have hcell : ∃ u, wr.cell? ⟨g, 5 + j, none⟩ = some u := by
          rw [HX.out.cell]
          have hs : 5 + j < (#[.int .i64 (a : Int), .int .i64 (v : Int), .int .i64 (k : Int), .int .i64 (n : Int), .int .i64 (s : Int), .int .u32 (pa j 0 p0 : Int), .int .u32 (pa j 1 p1 : Int), .int .u32 (pa j 2 p2 : Int), .int .u32 (pa j 3 p3 : Int), .int .u32 (pa j 4 p4 : Int), .int .u32 (pa j 5 p5 : Int), .int .u32 (pa j 6 p6 : Int), .int .u32 (pa j 7 p7 : Int), .int .u32 (pa j 8 p8 : Int)] : Array Value).size := by show 5 + j < 14; omega
          exact ⟨_, Array.getElem?_eq_getElem hs⟩
        obtain ⟨u, hu⟩ := hcell
        have hfz := HX.out.frozen (5 + j)
        generalize [p0, p1, p2, p3, p4, p5, p6, p7, p8][j] = x at *
        have hwx : IntKind.u32.wrap (x : Int) = (x : Int) := by simp [IntKind.wrap, IntKind.bits, IntKind.signed]; omega
        clear hby
        go_wp2_with fail
        refine C.out.mono ?_
        rintro e w' ⟨rfl, rfl⟩
        clear C
        go_wp2_with fail
        have HX2 := hide (show Blk (wr.setCell ⟨g, 5 + j, none⟩ (.int .u32 (x : Int))) g 28 #[.int .i64 (a : Int), .int .i64 (v : Int), .int .i64 (k : Int), .int .i64 (n : Int), .int .i64 (s : Int), .int .u32 (pa (j + 1) 0 p0 : Int), .int .u32 (pa (j + 1) 1 p1 : Int), .int .u32 (pa (j + 1) 2 p2 : Int), .int .u32 (pa (j + 1) 3 p3 : Int), .int .u32 (pa (j + 1) 4 p4 : Int), .int .u32 (pa (j + 1) 5 p5 : Int), .int .u32 (pa (j + 1) 6 p6 : Int), .int .u32 (pa (j + 1) 7 p7 : Int), .int .u32 (pa (j + 1) 8 p8 : Int)] from by rw [← Hset.out]; exact HX.out.set (5 + j) _)
        have HK2 := hide (HK.out.far (p := ⟨g, 5 + j, none⟩) hne (.int .u32 (x : Int)))
        have Hb2 := hide (Hb.out.setCell (p := ⟨g, 5 + j, none⟩) hgw (.int .u32 (x : Int)))
        clear HX HK Hb hu hfz
        go_roundw
        case rel => exact ⟨j + 1, by omega, by go_num, HX2.out, HK2.out, Hb2.out⟩
        case measure => simp [intOf]; omega
      · obtain rfl : j = 9 := by omega
        have HX9 := hide (show Blk wr g 28 #[.int .i64 (a : Int), .int .i64 (v : Int), .int .i64 (k : Int), .int .i64 (n : Int), .int .i64 (s : Int), .int .u32 (p0 : Int), .int .u32 (p1 : Int), .int .u32 (p2 : Int), .int .u32 (p3 : Int), .int .u32 (p4 : Int), .int .u32 (p5 : Int), .int .u32 (p6 : Int), .int .u32 (p7 : Int), .int .u32 (p8 : Int)] from HX.out)
        obtain ⟨c0, c1', c2, c3, c4, c5, c6, c7, c8, c9, c10, c11, c12, c13⟩ := blk14 HX9.out
        have hbd : p0 < 4294967296 ∧ p1 < 4294967296 ∧ p2 < 4294967296 ∧ p3 < 4294967296 ∧ p4 < 4294967296 ∧ p5 < 4294967296 ∧ p6 < 4294967296 ∧ p7 < 4294967296 ∧ p8 < 4294967296 := ⟨FB.out 0 (by simp), FB.out 1 (by simp), FB.out 2 (by simp), FB.out 3 (by simp), FB.out 4 (by simp), FB.out 5 (by simp), FB.out 6 (by simp), FB.out 7 (by simp), FB.out 8 (by simp)⟩
        obtain ⟨b0, b1, b2, b3, b4, b5, b6, b7, b8⟩ := hbd
        clear HX FG FB
        go_wp2_with fail
        clear c0 c1' c2 c3 c4 c5 c6 c7 c8 c9 c10 c11 c12 c13
        by_cases hg : InoP a v k n s
        · by_cases he : sealed (inoBytes a v k n s [p0, p1, p2, p3, p4, p5, p6, p7, p8]) = lst
          · have C := enc_yes a v k n s p0 p1 p2 p3 p4 p5 p6 p7 p8 wr hg b0 b1 b2 b3 b4 b5 b6 b7 b8
            have Hg := hide hg
            have He := hide he
            clear hg he
            refine C.mono ?_
            clear C
            rintro e w4 ⟨A4, d4, rfl, hown4, hb4⟩
            rw [He.out] at hown4
            have Hown4 := hide hown4.by
            have HX4 := hide (HX9.out.below hb4)
            have HK4 := hide (HK.out.below hb4)
            have Hb4 := hide (Hb.out.trans (hb4.mono Hb.out.size))
            clear hown4 hb4 HX9 HK Hb
            have Heq := hide (eqB_self lst)
            go_wp2_with fail
            refine (equal_any _ _ _ _ _ _ _ _ lst lst _ Hown4.out (H.out.below (Hb4.out.mono hB)) (by omega)).mono ?_
            rintro e w5 ⟨rfl, d5, rfl⟩
            rw [Heq.out]
            obtain ⟨c0, c1', c2, c3, c4, c5, c6, c7, c8, c9, c10, c11, c12, c13⟩ := blk14 (HX4.out.drewN d5)
            obtain ⟨z0, z1, z2, z3, z4, z5, z6, z7, z8, z9, z10, z11, z12, z13⟩ := blk14 (HK4.out.drewN d5)
            have f0 := (HK4.out.drewN d5).frozen 0
            have f1 := (HK4.out.drewN d5).frozen 1
            have f2 := (HK4.out.drewN d5).frozen 2
            have f3 := (HK4.out.drewN d5).frozen 3
            have f4 := (HK4.out.drewN d5).frozen 4
            have f5 := (HK4.out.drewN d5).frozen 5
            have f6 := (HK4.out.drewN d5).frozen 6
            have f7 := (HK4.out.drewN d5).frozen 7
            have f8 := (HK4.out.drewN d5).frozen 8
            have f9 := (HK4.out.drewN d5).frozen 9
            have f10 := (HK4.out.drewN d5).frozen 10
            have f11 := (HK4.out.drewN d5).frozen 11
            have f12 := (HK4.out.drewN d5).frozen 12
            have f13 := (HK4.out.drewN d5).frozen 13
            go_wp2_with fail
            exact bodyPost_ret (v := .tuple #[inoV a v k n s p0 p1 p2 p3 p4 p5 p6 p7 p8, .int .i64 0]) (by simp [results, Try.results19, go_sem, inoV, z0, z1, z2, z3, z4, z5, z6, z7, z8, z9, z10, z11, z12, z13]) rfl
              ⟨_, rfl, .inl ⟨⟨Hg.out, He.out⟩, rfl⟩, (((((((((((((((bel_dN Hb4.out d5).setCell (Nat.le_refl _) _).setCell (Nat.le_refl _) _).setCell (Nat.le_refl _) _).setCell (Nat.le_refl _) _).setCell (Nat.le_refl _) _).setCell (Nat.le_refl _) _).setCell (Nat.le_refl _) _).setCell (Nat.le_refl _) _).setCell (Nat.le_refl _) _).setCell (Nat.le_refl _) _).setCell (Nat.le_refl _) _).setCell (Nat.le_refl _) _).setCell (Nat.le_refl _) _).setCell (Nat.le_refl _) _)⟩
          · have C := enc_yes a v k n s p0 p1 p2 p3 p4 p5 p6 p7 p8 wr hg b0 b1 b2 b3 b4 b5 b6 b7 b8
            have He := hide he
            clear hg he
            refine C.mono ?_
            clear C
            rintro e w4 ⟨A4, d4, rfl, hown4, hb4⟩
            have Hown4 := hide hown4.by
            have HK4 := hide (HK.out.below hb4)
            have Hb4 := hide (Hb.out.trans (hb4.mono Hb.out.size))
            clear hown4 hb4 HX9 HK Hb
            have Heq := hide (eqB_of_ne He.out)
            go_wp2_with fail
            refine (equal_any _ _ _ _ _ _ _ _ (sealed (inoBytes a v k n s [p0, p1, p2, p3, p4, p5, p6, p7, p8])) lst _ Hown4.out (H.out.below (Hb4.out.mono hB)) (by omega)).mono ?_
            rintro e w5 ⟨rfl, d5, rfl⟩
            rw [Heq.out]
            obtain ⟨z0, z1, z2, z3, z4, z5, z6, z7, z8, z9, z10, z11, z12, z13⟩ := blk14 (HK4.out.drewN d5)
            have f0 := (HK4.out.drewN d5).frozen 0
            have f1 := (HK4.out.drewN d5).frozen 1
            have f2 := (HK4.out.drewN d5).frozen 2
            have f3 := (HK4.out.drewN d5).frozen 3
            have f4 := (HK4.out.drewN d5).frozen 4
            have f5 := (HK4.out.drewN d5).frozen 5
            have f6 := (HK4.out.drewN d5).frozen 6
            have f7 := (HK4.out.drewN d5).frozen 7
            have f8 := (HK4.out.drewN d5).frozen 8
            have f9 := (HK4.out.drewN d5).frozen 9
            have f10 := (HK4.out.drewN d5).frozen 10
            have f11 := (HK4.out.drewN d5).frozen 11
            have f12 := (HK4.out.drewN d5).frozen 12
            have f13 := (HK4.out.drewN d5).frozen 13
            go_wp2_with fail
            exact bodyPost_ret (v := .tuple #[zeroI, .int .i64 100]) (by simp [results, Try.results19, go_sem, zeroI, z0, z1, z2, z3, z4, z5, z6, z7, z8, z9, z10, z11, z12, z13]) rfl
              ⟨_, rfl, .inr ⟨fun h' => He.out h'.2, rfl⟩, (((((((((((((((bel_dN Hb4.out d5).setCell (Nat.le_refl _) _).setCell (Nat.le_refl _) _).setCell (Nat.le_refl _) _).setCell (Nat.le_refl _) _).setCell (Nat.le_refl _) _).setCell (Nat.le_refl _) _).setCell (Nat.le_refl _) _).setCell (Nat.le_refl _) _).setCell (Nat.le_refl _) _).setCell (Nat.le_refl _) _).setCell (Nat.le_refl _) _).setCell (Nat.le_refl _) _).setCell (Nat.le_refl _) _).setCell (Nat.le_refl _) _)⟩
        · have Hg := hide hg
          clear hg
          refine (enc_no a v k n s p0 p1 p2 p3 p4 p5 p6 p7 p8 wr Hg.out).mono ?_
          rintro e w4 ⟨rfl, hb4⟩
          have HK4 := hide (HK.out.below hb4)
          have Hb4 := hide (Hb.out.trans (hb4.mono Hb.out.size))
          clear hb4 HX9 HK Hb
          obtain ⟨z0, z1, z2, z3, z4, z5, z6, z7, z8, z9, z10, z11, z12, z13⟩ := blk14 HK4.out
          have f0 := HK4.out.frozen 0
          have f1 := HK4.out.frozen 1
          have f2 := HK4.out.frozen 2
          have f3 := HK4.out.frozen 3
          have f4 := HK4.out.frozen 4
          have f5 := HK4.out.frozen 5
          have f6 := HK4.out.frozen 6
          have f7 := HK4.out.frozen 7
          have f8 := HK4.out.frozen 8
          have f9 := HK4.out.frozen 9
          have f10 := HK4.out.frozen 10
          have f11 := HK4.out.frozen 11
          have f12 := HK4.out.frozen 12
          have f13 := HK4.out.frozen 13
          go_wp2_with fail
          exact bodyPost_ret (v := .tuple #[zeroI, .int .i64 100]) (by simp [results, Try.results19, go_sem, zeroI, z0, z1, z2, z3, z4, z5, z6, z7, z8, z9, z10, z11, z12, z13]) rfl
            ⟨_, rfl, .inr ⟨fun h' => Hg.out h'.1, rfl⟩, ((((((((((((((Hb4.out.setCell (Nat.le_refl _) _).setCell (Nat.le_refl _) _).setCell (Nat.le_refl _) _).setCell (Nat.le_refl _) _).setCell (Nat.le_refl _) _).setCell (Nat.le_refl _) _).setCell (Nat.le_refl _) _).setCell (Nat.le_refl _) _).setCell (Nat.le_refl _) _).setCell (Nat.le_refl _) _).setCell (Nat.le_refl _) _).setCell (Nat.le_refl _) _).setCell (Nat.le_refl _) _).setCell (Nat.le_refl _) _)⟩
end Go.Proofs.Ytbceejcmjklklaa
