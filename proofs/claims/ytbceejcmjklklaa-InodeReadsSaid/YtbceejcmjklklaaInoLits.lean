/- What == says of inodes. -/
import Derived.Test.YtbceejcmjklklaaInoW
import Derived.Test.YtbceejcmjklklaaEqDeep
namespace Go.Proofs.Ytbceejcmjklklaa
open Go.RowKit

theorem keyLits_one_int {P : Program} {d : Nat} {t : TypeId} {q : IntKind} {m : Int} (hu : P.underlying t = some (.int q)) (hw : (Lit.int q m).wf = true) : P.keyLits (d + 1) t [.int q m] = some [.int q m] := by
  unfold Program.keyLits
  rw [hu]
  simp [hw]
set_option maxRecDepth 100000 in
theorem ptr_lits (p0 p1 p2 p3 p4 p5 p6 p7 p8 : Nat) (b0 : p0 < 4294967296) (b1 : p1 < 4294967296) (b2 : p2 < 4294967296) (b3 : p3 < 4294967296) (b4 : p4 < 4294967296) (b5 : p5 < 4294967296) (b6 : p6 < 4294967296) (b7 : p7 < 4294967296) (b8 : p8 < 4294967296) : Try.prog.keyLits 9 26 [.int .u32 (p0 : Int), .int .u32 (p1 : Int), .int .u32 (p2 : Int), .int .u32 (p3 : Int), .int .u32 (p4 : Int), .int .u32 (p5 : Int), .int .u32 (p6 : Int), .int .u32 (p7 : Int), .int .u32 (p8 : Int)] = some [.int .u32 (p0 : Int), .int .u32 (p1 : Int), .int .u32 (p2 : Int), .int .u32 (p3 : Int), .int .u32 (p4 : Int), .int .u32 (p5 : Int), .int .u32 (p6 : Int), .int .u32 (p7 : Int), .int .u32 (p8 : Int)] := by
  have x0 : (Lit.int .u32 (p0 : Int)).wf = true := by simp [Lit.wf, IntKind.min, IntKind.max, IntKind.signed, IntKind.bits]; omega
  have x1 : (Lit.int .u32 (p1 : Int)).wf = true := by simp [Lit.wf, IntKind.min, IntKind.max, IntKind.signed, IntKind.bits]; omega
  have x2 : (Lit.int .u32 (p2 : Int)).wf = true := by simp [Lit.wf, IntKind.min, IntKind.max, IntKind.signed, IntKind.bits]; omega
  have x3 : (Lit.int .u32 (p3 : Int)).wf = true := by simp [Lit.wf, IntKind.min, IntKind.max, IntKind.signed, IntKind.bits]; omega
  have x4 : (Lit.int .u32 (p4 : Int)).wf = true := by simp [Lit.wf, IntKind.min, IntKind.max, IntKind.signed, IntKind.bits]; omega
  have x5 : (Lit.int .u32 (p5 : Int)).wf = true := by simp [Lit.wf, IntKind.min, IntKind.max, IntKind.signed, IntKind.bits]; omega
  have x6 : (Lit.int .u32 (p6 : Int)).wf = true := by simp [Lit.wf, IntKind.min, IntKind.max, IntKind.signed, IntKind.bits]; omega
  have x7 : (Lit.int .u32 (p7 : Int)).wf = true := by simp [Lit.wf, IntKind.min, IntKind.max, IntKind.signed, IntKind.bits]; omega
  have x8 : (Lit.int .u32 (p8 : Int)).wf = true := by simp [Lit.wf, IntKind.min, IntKind.max, IntKind.signed, IntKind.bits]; omega
  have hc : Try.prog.cellsOf 25 = 1 := by kernel_rfl
  have hc9 : Try.prog.cellsOf 26 = 9 := by kernel_rfl
  unfold Program.keyLits
  rw [Try.underlying26]
  simp only [hc, hc9, List.length_cons, List.length_nil, List.range_succ, List.range_zero, List.nil_append, List.cons_append, List.mapM_cons, List.mapM_nil, Nat.mul_one, List.drop_succ_cons, List.drop_zero, List.take_succ_cons, List.take_zero]
  simp only [keyLits_one_int Try.underlying25, x0, x1, x2, x3, x4, x5, x6, x7, x8]
  simp

set_option maxRecDepth 100000 in
theorem ino_lits (a v k l s : Int) (p0 p1 p2 p3 p4 p5 p6 p7 p8 : Nat) (ha : (Lit.int .i64 a).wf = true) (hv : (Lit.int .i64 v).wf = true) (hk : (Lit.int .i64 k).wf = true) (hl : (Lit.int .i64 l).wf = true) (hs : (Lit.int .i64 s).wf = true) (b0 : p0 < 4294967296) (b1 : p1 < 4294967296) (b2 : p2 < 4294967296) (b3 : p3 < 4294967296) (b4 : p4 < 4294967296) (b5 : p5 < 4294967296) (b6 : p6 < 4294967296) (b7 : p7 < 4294967296) (b8 : p8 < 4294967296) :
    Try.prog.keyLits 10 28 [.int .i64 a, .int .i64 v, .int .i64 k, .int .i64 l, .int .i64 s, .int .u32 (p0 : Int), .int .u32 (p1 : Int), .int .u32 (p2 : Int), .int .u32 (p3 : Int), .int .u32 (p4 : Int), .int .u32 (p5 : Int), .int .u32 (p6 : Int), .int .u32 (p7 : Int), .int .u32 (p8 : Int)] = some [.int .i64 a, .int .i64 v, .int .i64 k, .int .i64 l, .int .i64 s, .int .u32 (p0 : Int), .int .u32 (p1 : Int), .int .u32 (p2 : Int), .int .u32 (p3 : Int), .int .u32 (p4 : Int), .int .u32 (p5 : Int), .int .u32 (p6 : Int), .int .u32 (p7 : Int), .int .u32 (p8 : Int)] := by
  have hc : Try.prog.cellsOf 3 = 1 := by kernel_rfl
  have hc9 : Try.prog.cellsOf 26 = 9 := by kernel_rfl
  have hc14 : Try.prog.cellsOf 28 = 14 := by kernel_rfl
  have hp := ptr_lits p0 p1 p2 p3 p4 p5 p6 p7 p8 b0 b1 b2 b3 b4 b5 b6 b7 b8
  unfold Program.keyLits
  rw [Try.underlying28]
  simp only [hc, hc9, hc14, List.length_cons, List.length_nil, List.mapM_cons, List.mapM_nil, List.drop_succ_cons, List.drop_zero, List.take_succ_cons, List.take_zero]
  simp only [keyLits_one_int Try.underlying3, ha, hv, hk, hl, hs, hp]
  simp
theorem ino_key : Try.prog.keyTypeAt 100 28 = true := by kernel_rfl
theorem ino_formed (a v k l s : Int) (p0 p1 p2 p3 p4 p5 p6 p7 p8 : Nat) : (inoV a v k l s p0 p1 p2 p3 p4 p5 p6 p7 p8).formed Try.prog 28 = true := by kernel_rfl
theorem wf_nat {n : Nat} (h : n < 9223372036854775808) : (Lit.int .i64 (n : Int)).wf = true := by
  simp [Lit.wf, IntKind.min, IntKind.max, IntKind.signed, IntKind.bits]; omega
/-- Two inodes that fit are told alike just if they are. -/
theorem ino_same (a v k l s : Nat) (p0 p1 p2 p3 p4 p5 p6 p7 p8 : Nat) (h : InoP a v k l s) (b0 : p0 < 4294967296) (b1 : p1 < 4294967296) (b2 : p2 < 4294967296) (b3 : p3 < 4294967296) (b4 : p4 < 4294967296) (b5 : p5 < 4294967296) (b6 : p6 < 4294967296) (b7 : p7 < 4294967296) (b8 : p8 < 4294967296) (w : World) : (Op.equalIn 10000 28 (inoV a v k l s p0 p1 p2 p3 p4 p5 p6 p7 p8) (inoV a v k l s p0 p1 p2 p3 p4 p5 p6 p7 p8)).run Try.prog w = .ok true w := by
  unfold InoP at h
  have e := ino_lits a v k l s p0 p1 p2 p3 p4 p5 p6 p7 p8 (wf_nat (by omega)) (wf_nat (by omega)) (wf_nat (by omega)) (wf_nat (by omega)) (wf_nat (by omega)) b0 b1 b2 b3 b4 b5 b6 b7 b8
  exact eql_yes ino_key (ino_formed _ _ _ _ _ _ _ _ _ _ _ _ _ _) (ino_formed _ _ _ _ _ _ _ _ _ _ _ _ _ _) e e w
theorem ino_other (a v k l s a' v' k' l' s' : Nat) (p0 p1 p2 p3 p4 p5 p6 p7 p8 q0 q1 q2 q3 q4 q5 q6 q7 q8 : Nat) (h : InoP a v k l s) (h' : InoP a' v' k' l' s') (b0 : p0 < 4294967296) (b1 : p1 < 4294967296) (b2 : p2 < 4294967296) (b3 : p3 < 4294967296) (b4 : p4 < 4294967296) (b5 : p5 < 4294967296) (b6 : p6 < 4294967296) (b7 : p7 < 4294967296) (b8 : p8 < 4294967296) (c0 : q0 < 4294967296) (c1 : q1 < 4294967296) (c2 : q2 < 4294967296) (c3 : q3 < 4294967296) (c4 : q4 < 4294967296) (c5 : q5 < 4294967296) (c6 : q6 < 4294967296) (c7 : q7 < 4294967296) (c8 : q8 < 4294967296) (hn : ¬ (a = a' ∧ v = v' ∧ k = k' ∧ l = l' ∧ s = s' ∧ [p0, p1, p2, p3, p4, p5, p6, p7, p8] = [q0, q1, q2, q3, q4, q5, q6, q7, q8])) (w : World) :
    (Op.equalIn 10000 28 (inoV a v k l s p0 p1 p2 p3 p4 p5 p6 p7 p8) (inoV a' v' k' l' s' q0 q1 q2 q3 q4 q5 q6 q7 q8)).run Try.prog w = .ok false w := by
  unfold InoP at h h'
  refine eql_no ino_key (ino_formed _ _ _ _ _ _ _ _ _ _ _ _ _ _) (ino_formed _ _ _ _ _ _ _ _ _ _ _ _ _ _) (ino_lits a v k l s p0 p1 p2 p3 p4 p5 p6 p7 p8 (wf_nat (by omega)) (wf_nat (by omega)) (wf_nat (by omega)) (wf_nat (by omega)) (wf_nat (by omega)) b0 b1 b2 b3 b4 b5 b6 b7 b8)
    (ino_lits a' v' k' l' s' q0 q1 q2 q3 q4 q5 q6 q7 q8 (wf_nat (by omega)) (wf_nat (by omega)) (wf_nat (by omega)) (wf_nat (by omega)) (wf_nat (by omega)) c0 c1 c2 c3 c4 c5 c6 c7 c8) (fun e => hn ?_) w
  simp only [List.cons.injEq, Lit.int.injEq, true_and, and_true] at e
  simp only [List.cons.injEq, and_true]
  omega
end Go.Proofs.Ytbceejcmjklklaa
