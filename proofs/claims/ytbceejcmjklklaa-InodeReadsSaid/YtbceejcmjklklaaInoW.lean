/- The walks over inode.within, Check, Encode. -/
import Derived.Test.YtbceejcmjklklaaProg
import Derived.Test.YtbceejcmjklklaaPutW
import Derived.Deep.RegionHeld3
import Derived.Deep.DeepCutAuto
namespace Go.Proofs.Ytbceejcmjklklaa
open Go.RowKit

/-- An inode's value. -/
abbrev inoV (a v k l s : Int) (p0 p1 p2 p3 p4 p5 p6 p7 p8 : Nat) : Value := .agg #[.int .i64 a, .int .i64 v, .int .i64 k, .int .i64 l, .int .i64 s, .int .u32 (p0 : Int), .int .u32 (p1 : Int), .int .u32 (p2 : Int), .int .u32 (p3 : Int), .int .u32 (p4 : Int), .int .u32 (p5 : Int), .int .u32 (p6 : Int), .int .u32 (p7 : Int), .int .u32 (p8 : Int)]
/-- Is a number from lo to hi? -/
def inB (n lo hi : Int) : Bool := decide (lo ≤ n ∧ n ≤ hi)
theorem inB_yes {n lo hi : Int} (h : lo ≤ n ∧ n ≤ hi) : inB n lo hi = true := decide_eq_true h
theorem inB_no {n lo hi : Int} (h : ¬ (lo ≤ n ∧ n ≤ hi)) : inB n lo hi = false := decide_eq_false h
/-- Are these numbers an inode's? -/
def InoP (a v k l s : Int) : Prop := (1 ≤ a ∧ a ≤ 200) ∧ (0 ≤ v ∧ v ≤ 65535) ∧ (0 ≤ k ∧ k ≤ 2) ∧ (0 ≤ l ∧ l ≤ 100) ∧ (0 ≤ s ∧ s ≤ 38400)
instance (a v k l s : Int) : Decidable (InoP a v k l s) := by unfold InoP; infer_instance
theorem ino_no {a v k l s : Int} (h : ¬ InoP a v k l s) : ¬ (1 ≤ a ∧ a ≤ 200) ∨ ((1 ≤ a ∧ a ≤ 200) ∧ ¬ (0 ≤ v ∧ v ≤ 65535)) ∨ ((1 ≤ a ∧ a ≤ 200) ∧ (0 ≤ v ∧ v ≤ 65535) ∧ ¬ (0 ≤ k ∧ k ≤ 2)) ∨
    ((1 ≤ a ∧ a ≤ 200) ∧ (0 ≤ v ∧ v ≤ 65535) ∧ (0 ≤ k ∧ k ≤ 2) ∧ ¬ (0 ≤ l ∧ l ≤ 100)) ∨ ((1 ≤ a ∧ a ≤ 200) ∧ (0 ≤ v ∧ v ≤ 65535) ∧ (0 ≤ k ∧ k ≤ 2) ∧ (0 ≤ l ∧ l ≤ 100) ∧ ¬ (0 ≤ s ∧ s ≤ 38400)) := by
  unfold InoP at h; omega

theorem within_any (n lo hi : Int) (w : World) :
    Calls Try.prog 27 #[.int .i64 n, .int .i64 lo, .int .i64 hi] w fun e w' => e = .returned (.bool (inB n lo hi)) ∧ w = w' := by
  by_cases h1 : lo ≤ n
  · by_cases h2 : n ≤ hi
    · have H := hide (inB_yes ⟨h1, h2⟩)
      go_enter Try.func27, Try.ntmps27
      go_wp2
      go_ret
      exact ⟨by rw [H.out]; simp [h2], rfl⟩
    · have H := hide (inB_no (n := n) (lo := lo) (hi := hi) (fun h => h2 h.2))
      go_enter Try.func27, Try.ntmps27
      go_wp2
      go_ret
      exact ⟨by rw [H.out]; simp [h2], rfl⟩
  · have H := hide (inB_no (n := n) (lo := lo) (hi := hi) (fun h => h1 h.1))
    have hd : decide (lo ≤ n) = false := decide_eq_false h1
    go_enter Try.func27, Try.ntmps27
    go_wp2
    go_ret
    exact ⟨by rw [H.out]; simp [h1], rfl⟩

set_option maxRecDepth 100000 in
set_option maxHeartbeats 1000000 in
theorem check_yes (a v k l s : Int) (p0 p1 p2 p3 p4 p5 p6 p7 p8 : Nat) (w : World) (h : InoP a v k l s) :
    Calls Try.prog 18 #[inoV a v k l s p0 p1 p2 p3 p4 p5 p6 p7 p8] w fun e w' => e = .returned (.int .i64 0) ∧ Below w.heap.size w w' := by
  have w1 := inB_yes h.1
  have w2 := inB_yes h.2.1
  have w3 := inB_yes h.2.2.1
  have w4 := inB_yes h.2.2.2.1
  have w5 := inB_yes h.2.2.2.2
  clear h
  go_enter Try.func18, Try.ntmps18
  go_wp2_with (go_at_call 27; refine (within_any _ _ _ _).mono ?_; rintro e w' ⟨rfl, rfl⟩)
  go_ret
  exact ⟨rfl, (Below.refl _ _).alloc (Nat.le_refl _) _⟩

set_option maxRecDepth 100000 in
set_option maxHeartbeats 4000000 in
theorem check_no (a v k l s : Int) (p0 p1 p2 p3 p4 p5 p6 p7 p8 : Nat) (w : World) (h : ¬ InoP a v k l s) :
    Calls Try.prog 18 #[inoV a v k l s p0 p1 p2 p3 p4 p5 p6 p7 p8] w fun e w' => e = .returned (.int .i64 22) ∧ Below w.heap.size w w' := by
  rcases ino_no h with h1 | ⟨h1, h2⟩ | ⟨h1, h2, h3⟩ | ⟨h1, h2, h3, h4⟩ | ⟨h1, h2, h3, h4, h5⟩
  · have w1 := inB_no h1
    clear h h1
    go_enter Try.func18, Try.ntmps18
    go_wp2_with (go_at_call 27; refine (within_any _ _ _ _).mono ?_; rintro e w' ⟨rfl, rfl⟩)
    go_ret
    exact ⟨rfl, (Below.refl _ _).alloc (Nat.le_refl _) _⟩
  · have w1 := inB_yes h1
    have w2 := inB_no h2
    clear h h1 h2
    go_enter Try.func18, Try.ntmps18
    go_wp2_with (go_at_call 27; refine (within_any _ _ _ _).mono ?_; rintro e w' ⟨rfl, rfl⟩)
    go_ret
    exact ⟨rfl, (Below.refl _ _).alloc (Nat.le_refl _) _⟩
  · have w1 := inB_yes h1
    have w2 := inB_yes h2
    have w3 := inB_no h3
    clear h h1 h2 h3
    go_enter Try.func18, Try.ntmps18
    go_wp2_with (go_at_call 27; refine (within_any _ _ _ _).mono ?_; rintro e w' ⟨rfl, rfl⟩)
    go_ret
    exact ⟨rfl, (Below.refl _ _).alloc (Nat.le_refl _) _⟩
  · have w1 := inB_yes h1
    have w2 := inB_yes h2
    have w3 := inB_yes h3
    have w4 := inB_no h4
    clear h h1 h2 h3 h4
    go_enter Try.func18, Try.ntmps18
    go_wp2_with (go_at_call 27; refine (within_any _ _ _ _).mono ?_; rintro e w' ⟨rfl, rfl⟩)
    go_ret
    exact ⟨rfl, (Below.refl _ _).alloc (Nat.le_refl _) _⟩
  · have w1 := inB_yes h1
    have w2 := inB_yes h2
    have w3 := inB_yes h3
    have w4 := inB_yes h4
    have w5 := inB_no h5
    clear h h1 h2 h3 h4 h5
    go_enter Try.func18, Try.ntmps18
    go_wp2_with (go_at_call 27; refine (within_any _ _ _ _).mono ?_; rintro e w' ⟨rfl, rfl⟩)
    go_ret
    exact ⟨rfl, (Below.refl _ _).alloc (Nat.le_refl _) _⟩

/-- A block known whole, while all that is new lies above it. -/
theorem bel_next {w w1 w2 : World} {B : Nat} {a : World} (h : Below B a w1) (hB : B ≤ w1.heap.size) (h2 : Below w1.heap.size w1 w2) : Below B a w2 := h.trans (h2.mono hB)
theorem boxed {w w' : World} {cs : Array Value} {t : TypeId} (hb : Below (w.heap.size + 1) (w.alloc (.cells cs t)) w') : Blk w' w.heap.size t cs := (hb.block _ (by simp)).trans (heap_alloc_new w _)
theorem box_end {w w1 : World} {o : Obj} (h : Below (w.heap.size + 1) (w.alloc o) w1) : Below w.heap.size w w1 :=
  ((Below.refl _ _).alloc (Nat.le_refl _) _).trans (h.mono (Nat.le_succ _))
theorem box_next {w w1 w2 : World} {o : Obj} (h : Below (w.heap.size + 1) (w.alloc o) w1) (h2 : Below w1.heap.size w1 w2) : Below (w.heap.size + 1) (w.alloc o) w2 :=
  h.trans (h2.mono (by have := h.size; simpa using this))

set_option maxRecDepth 100000 in
set_option maxHeartbeats 1000000 in
theorem enc_no (a v k l s : Int) (p0 p1 p2 p3 p4 p5 p6 p7 p8 : Nat) (w : World) (h : ¬ InoP a v k l s) :
    Calls Try.prog 13 #[inoV a v k l s p0 p1 p2 p3 p4 p5 p6 p7 p8] w fun e w' => e = .returned (.tuple #[.slice none 0 0, .int .i64 22]) ∧ Below w.heap.size w w' := by
  have H := hide h
  clear h
  go_enter Try.func13, Try.ntmps13
  go_wp2_with fail
  refine (check_no a v k l s p0 p1 p2 p3 p4 p5 p6 p7 p8 _ H.out).mono ?_
  rintro e w1 ⟨rfl, hb1⟩
  simp only [World.size_alloc] at hb1
  go_wp2
  go_ret2
  exact ⟨rfl, box_end hb1⟩

/-- An inode's bytes ahead of its pointers. -/
def inoPre (a v k l s : Nat) : List UInt8 := leN a 2 ++ leN v 2 ++ leN k 1 ++ leN l 1 ++ leN s 4
theorem inoPre_length (a v k l s : Nat) : (inoPre a v k l s).length = 10 := by simp [inoPre, leN_length]
/-- An inode's bytes, all but the sum. -/
def inoBytes (a v k l s : Nat) (ps : List Nat) : List UInt8 := inoPre a v k l s ++ ps.flatMap four ++ List.replicate 14 0
theorem four_all_length (ps : List Nat) : (ps.flatMap four).length = 4 * ps.length := by
  induction ps with
  | nil => rfl
  | cons p ps ih => rw [List.flatMap_cons, List.length_append, ih, four_length, List.length_cons]; omega
theorem inoBytes_length (a v k l s : Nat) (ps : List Nat) (h : ps.length = 9) : (inoBytes a v k l s ps).length = 60 := by
  simp only [inoBytes, List.length_append, inoPre_length, four_all_length, h, List.length_replicate]
theorem index9_0 (p0 p1 p2 p3 p4 p5 p6 p7 p8 : Nat) (W : World) : (Instr.index 26 (.agg #[.int .u32 (p0 : Int), .int .u32 (p1 : Int), .int .u32 (p2 : Int), .int .u32 (p3 : Int), .int .u32 (p4 : Int), .int .u32 (p5 : Int), .int .u32 (p6 : Int), .int .u32 (p7 : Int), .int .u32 (p8 : Int)]) (.int .i64 0)).run Try.prog W = .ok (.int .u32 (p0 : Int)) W := by kernel_rfl
theorem index9_1 (p0 p1 p2 p3 p4 p5 p6 p7 p8 : Nat) (W : World) : (Instr.index 26 (.agg #[.int .u32 (p0 : Int), .int .u32 (p1 : Int), .int .u32 (p2 : Int), .int .u32 (p3 : Int), .int .u32 (p4 : Int), .int .u32 (p5 : Int), .int .u32 (p6 : Int), .int .u32 (p7 : Int), .int .u32 (p8 : Int)]) (.int .i64 1)).run Try.prog W = .ok (.int .u32 (p1 : Int)) W := by kernel_rfl
theorem index9_2 (p0 p1 p2 p3 p4 p5 p6 p7 p8 : Nat) (W : World) : (Instr.index 26 (.agg #[.int .u32 (p0 : Int), .int .u32 (p1 : Int), .int .u32 (p2 : Int), .int .u32 (p3 : Int), .int .u32 (p4 : Int), .int .u32 (p5 : Int), .int .u32 (p6 : Int), .int .u32 (p7 : Int), .int .u32 (p8 : Int)]) (.int .i64 2)).run Try.prog W = .ok (.int .u32 (p2 : Int)) W := by kernel_rfl
theorem index9_3 (p0 p1 p2 p3 p4 p5 p6 p7 p8 : Nat) (W : World) : (Instr.index 26 (.agg #[.int .u32 (p0 : Int), .int .u32 (p1 : Int), .int .u32 (p2 : Int), .int .u32 (p3 : Int), .int .u32 (p4 : Int), .int .u32 (p5 : Int), .int .u32 (p6 : Int), .int .u32 (p7 : Int), .int .u32 (p8 : Int)]) (.int .i64 3)).run Try.prog W = .ok (.int .u32 (p3 : Int)) W := by kernel_rfl
theorem index9_4 (p0 p1 p2 p3 p4 p5 p6 p7 p8 : Nat) (W : World) : (Instr.index 26 (.agg #[.int .u32 (p0 : Int), .int .u32 (p1 : Int), .int .u32 (p2 : Int), .int .u32 (p3 : Int), .int .u32 (p4 : Int), .int .u32 (p5 : Int), .int .u32 (p6 : Int), .int .u32 (p7 : Int), .int .u32 (p8 : Int)]) (.int .i64 4)).run Try.prog W = .ok (.int .u32 (p4 : Int)) W := by kernel_rfl
theorem index9_5 (p0 p1 p2 p3 p4 p5 p6 p7 p8 : Nat) (W : World) : (Instr.index 26 (.agg #[.int .u32 (p0 : Int), .int .u32 (p1 : Int), .int .u32 (p2 : Int), .int .u32 (p3 : Int), .int .u32 (p4 : Int), .int .u32 (p5 : Int), .int .u32 (p6 : Int), .int .u32 (p7 : Int), .int .u32 (p8 : Int)]) (.int .i64 5)).run Try.prog W = .ok (.int .u32 (p5 : Int)) W := by kernel_rfl
theorem index9_6 (p0 p1 p2 p3 p4 p5 p6 p7 p8 : Nat) (W : World) : (Instr.index 26 (.agg #[.int .u32 (p0 : Int), .int .u32 (p1 : Int), .int .u32 (p2 : Int), .int .u32 (p3 : Int), .int .u32 (p4 : Int), .int .u32 (p5 : Int), .int .u32 (p6 : Int), .int .u32 (p7 : Int), .int .u32 (p8 : Int)]) (.int .i64 6)).run Try.prog W = .ok (.int .u32 (p6 : Int)) W := by kernel_rfl
theorem index9_7 (p0 p1 p2 p3 p4 p5 p6 p7 p8 : Nat) (W : World) : (Instr.index 26 (.agg #[.int .u32 (p0 : Int), .int .u32 (p1 : Int), .int .u32 (p2 : Int), .int .u32 (p3 : Int), .int .u32 (p4 : Int), .int .u32 (p5 : Int), .int .u32 (p6 : Int), .int .u32 (p7 : Int), .int .u32 (p8 : Int)]) (.int .i64 7)).run Try.prog W = .ok (.int .u32 (p7 : Int)) W := by kernel_rfl
theorem index9_8 (p0 p1 p2 p3 p4 p5 p6 p7 p8 : Nat) (W : World) : (Instr.index 26 (.agg #[.int .u32 (p0 : Int), .int .u32 (p1 : Int), .int .u32 (p2 : Int), .int .u32 (p3 : Int), .int .u32 (p4 : Int), .int .u32 (p5 : Int), .int .u32 (p6 : Int), .int .u32 (p7 : Int), .int .u32 (p8 : Int)]) (.int .i64 8)).run Try.prog W = .ok (.int .u32 (p8 : Int)) W := by kernel_rfl
theorem index9 (p0 p1 p2 p3 p4 p5 p6 p7 p8 : Nat) (j : Nat) (hj : j < [p0, p1, p2, p3, p4, p5, p6, p7, p8].length) (W : World) :
    (Instr.index 26 (.agg #[.int .u32 (p0 : Int), .int .u32 (p1 : Int), .int .u32 (p2 : Int), .int .u32 (p3 : Int), .int .u32 (p4 : Int), .int .u32 (p5 : Int), .int .u32 (p6 : Int), .int .u32 (p7 : Int), .int .u32 (p8 : Int)]) (.int .i64 (j : Int))).run Try.prog W = .ok (.int .u32 ([p0, p1, p2, p3, p4, p5, p6, p7, p8][j] : Nat)) W := by
  have : j = 0 ∨ j = 1 ∨ j = 2 ∨ j = 3 ∨ j = 4 ∨ j = 5 ∨ j = 6 ∨ j = 7 ∨ j = 8 := by simp at hj; omega
  rcases this with rfl | rfl | rfl | rfl | rfl | rfl | rfl | rfl | rfl
  · exact index9_0 p0 p1 p2 p3 p4 p5 p6 p7 p8 W
  · exact index9_1 p0 p1 p2 p3 p4 p5 p6 p7 p8 W
  · exact index9_2 p0 p1 p2 p3 p4 p5 p6 p7 p8 W
  · exact index9_3 p0 p1 p2 p3 p4 p5 p6 p7 p8 W
  · exact index9_4 p0 p1 p2 p3 p4 p5 p6 p7 p8 W
  · exact index9_5 p0 p1 p2 p3 p4 p5 p6 p7 p8 W
  · exact index9_6 p0 p1 p2 p3 p4 p5 p6 p7 p8 W
  · exact index9_7 p0 p1 p2 p3 p4 p5 p6 p7 p8 W
  · exact index9_8 p0 p1 p2 p3 p4 p5 p6 p7 p8 W
theorem zeros_u8 (n : Nat) : u8s (List.replicate n 0) = List.replicate n (.int .u8 0) := by simp [u8s]
theorem nil_own (w : World) (base : Nat) : OwnBy w base none 0 0 [] := ⟨rfl, .inl ⟨rfl, rfl⟩⟩
end Go.Proofs.Ytbceejcmjklklaa
