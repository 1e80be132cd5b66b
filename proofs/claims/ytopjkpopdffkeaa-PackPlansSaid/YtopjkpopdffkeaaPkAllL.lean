/- Rows of triples of numbers; what PackAll's loops share. -/
import Derived.Test.YtopjkpopdffkeaaPkAwW
import Derived.Test.YtopjkpopdffkeaaPkFewW
import Derived.Test.YtopjkpopdffkeaaPkBdS
import Derived.Test.YtopjkpopdffkeaaEqDeep
import Derived.Test.YtopjkpopdffkeaaInts
namespace Go.Proofs.Ytopjkpopdffkeaa
open Go.RowKit

theorem OutR.below {base n c : Nat} {w w' : World} {A : Option Addr} {ps : List PcP} (h : OutR base w A n c ps) (hb : Below w.heap.size w w') : OutR base w' A n c ps :=
  h.kt (Kt.of_below hb) (fun g hg => by
    obtain ⟨-, cs, hB⟩ := h.blk hg
    exact hb.block g hB.lt)
abbrev Tri := Int × Int × Int
def b3 (x : Tri) : List Value := [.int .i64 x.1, .int .i64 x.2.1, .int .i64 x.2.2]
def b3C (l : List Tri) : List Value := (l.map b3).flatten
theorem b3C_app (l m : List Tri) : b3C (l ++ m) = b3C l ++ b3C m := by simp [b3C]
theorem b3C_len : ∀ l : List Tri, (b3C l).length = l.length * 3
  | [] => rfl
  | x :: l => by
    have h : b3C (x :: l) = b3 x ++ b3C l := rfl
    rw [h, List.length_append, b3C_len l, List.length_cons]
    show 3 + _ = _
    omega
theorem b3C_get (l : List Tri) (i j : Nat) (hj : j < 3) : (b3C l)[i * 3 + j]? = (l[i]?).bind fun x => (b3 x)[j]? := by
  unfold b3C
  rw [flatten_getR (l.map b3) (fun x hx => by obtain ⟨y, -, rfl⟩ := List.mem_map.1 hx; rfl) i j hj, List.getElem?_map]
  cases l[i]? <;> rfl
theorem b3_one (x : Tri) : ∀ u ∈ b3 x, u.oneCell' = true := fun u hu => by
  simp only [b3, List.mem_cons, List.not_mem_nil, or_false] at hu
  rcases hu with rfl | rfl | rfl <;> rfl
theorem etyT3 : EtyK Try.prog 47 48 (.agg #[.int .i64 0, .int .i64 0, .int .i64 0]) 3 24 := EtyK.mk' Try.underlying47 (by kernel_rfl) (by kernel_rfl) (by decide) (by decide)
theorem one_tri (w : World) (xs : Array Value) (h : xs.size = 3) : (Instr.buildSlice 47 1 #[(0, .agg xs)]).run Try.prog w = .ok (.slice (some ⟨w.heap.size, 0, none⟩) 1 1) (w.alloc (.cells xs 48)) := one_slice etyT3 w xs h (by decide)
theorem own_blk {w : World} {base n k : Nat} {e : TypeId} {v : Value} {xs : List Value} (h : w.ownsRow base e k v n xs) {g : Nat} (hg : v.ownBlock = some g) : base ≤ g ∧ ∃ cs, Blk w g e cs := by
  rcases h.2 with ⟨rfl, -⟩ | ⟨g', cap, cur, rfl, h2, h3, -⟩
  · cases hg
  · simp [Value.ownBlock] at hg
    subst hg
    exact ⟨h2, cur, h3⟩
/-- A row of another type stays when one grows. -/
theorem own_other {w w' : World} {base n k : Nat} {e : TypeId} {v : Value} {xs : List Value} (h : w.ownsRow base e k v n xs) {r : Option Nat} (hg : w.grownBy w' r) (hr : ∀ g, r = some g → ∃ t cs, Blk w g t cs ∧ t ≠ e) : w'.ownsRow base e k v n xs := by
  refine ⟨h.1, ?_⟩
  rcases h.2 with h0 | ⟨g, cap, cur, rfl, h2, h3, h4⟩
  · exact .inl h0
  · refine .inr ⟨g, cap, cur, rfl, h2, (hg.block g (show g < w.heap.size from Blk.lt h3) (fun e => ?_)).trans h3, h4⟩
    obtain ⟨t, cs, hB, hne⟩ := hr g e.symm
    exact hne (Blk.type hB h3).1
/-- Types of the rows that PackAll makes. -/
abbrev TA : List TypeId := [48, 3]
theorem t3_lits (a b c : Int) (ha : -9223372036854775808 ≤ a ∧ a ≤ 9223372036854775807) (hb : -9223372036854775808 ≤ b ∧ b ≤ 9223372036854775807) (hc : -9223372036854775808 ≤ c ∧ c ≤ 9223372036854775807) : Try.prog.keyLits 10 48 [.int .i64 a, .int .i64 b, .int .i64 c] = some [.int .i64 a, .int .i64 b, .int .i64 c] := by
  have hc1 : Try.prog.cellsOf 3 = 1 := by kernel_rfl
  have hc3 : Try.prog.cellsOf 48 = 3 := by kernel_rfl
  have x0 : (Lit.int .i64 a).wf = true := by simp [Lit.wf, IntKind.min, IntKind.max, IntKind.signed, IntKind.bits]; omega
  have x1 : (Lit.int .i64 b).wf = true := by simp [Lit.wf, IntKind.min, IntKind.max, IntKind.signed, IntKind.bits]; omega
  have x2 : (Lit.int .i64 c).wf = true := by simp [Lit.wf, IntKind.min, IntKind.max, IntKind.signed, IntKind.bits]; omega
  have hk : ∀ {d : Nat} {m : Int}, (Lit.int .i64 m).wf = true → Try.prog.keyLits (d + 1) 3 [.int .i64 m] = some [.int .i64 m] := fun hw => by
    unfold Program.keyLits
    rw [Try.underlying3]
    simp [hw]
  unfold Program.keyLits
  rw [Try.underlying48]
  simp only [hc1, hc3, List.length_cons, List.length_nil, List.range_succ, List.range_zero, List.nil_append, List.cons_append, List.mapM_cons, List.mapM_nil, Nat.mul_one, List.drop_succ_cons, List.drop_zero, List.take_succ_cons, List.take_zero]
  simp only [hk, x0, x1, x2]
  simp
theorem t3_same (a b c : Int) (ha : -9223372036854775808 ≤ a ∧ a ≤ 9223372036854775807) (hb : -9223372036854775808 ≤ b ∧ b ≤ 9223372036854775807) (hc : -9223372036854775808 ≤ c ∧ c ≤ 9223372036854775807) (w : World) :
    (Op.equalIn 10000 48 (.agg #[.int .i64 a, .int .i64 b, .int .i64 c]) (.agg #[.int .i64 a, .int .i64 b, .int .i64 c])).run Try.prog w = .ok true w :=
  eql_yes (D := 10) (by kernel_rfl) (by kernel_rfl) (by kernel_rfl) (t3_lits a b c ha hb hc) (t3_lits a b c ha hb hc) w
theorem blkF_one (f : FI) : blkF [f] = f.ls.map fun n => (f.ino, f.ver, n) := by simp [blkF]
theorem blkF_take {fs : List FI} {i : Nat} {f : FI} (h : fs[i]? = some f) : blkF (fs.take (i + 1)) = blkF (fs.take i) ++ f.ls.map fun n => (f.ino, f.ver, n) := by
  rw [List.take_add_one, h, blkF_app]
  congr 1
  exact blkF_one f
theorem blkL_take {ps : List PcP} {i : Nat} {p : PcP} (h : ps[i]? = some p) : blkL (ps.take (i + 1)) = blkL (ps.take i) ++ blkF p.fs := by
  rw [List.take_add_one, h, blkL_app]
  congr 1
  simp [blkL]
theorem nodL_take {ps : List PcP} {i : Nat} {p : PcP} (h : ps[i]? = some p) : nodL (ps.take (i + 1)) = nodL (ps.take i) ++ p.is := by
  rw [List.take_add_one, h, nodL_app]
  congr 1
  simp [nodL]
theorem leftE_take {sz left : Int} {ps : List PcP} {i : Nat} {p : PcP} (h : ps[i]? = some p) : leftE sz left (ps.take (i + 1)) = leftA sz (leftE sz left (ps.take i)) p - blkN p.fs p.is := by
  rw [List.take_add_one, h]
  exact leftE_snoc sz p _ left
theorem blkF_at {fs : List FI} {i k : Nat} {f : FI} {n : Int} (h : fs[i]? = some f) (hk : f.ls[k]? = some n) : (blkF fs)[lsN (fs.take i) + k]? = some (f.ino, f.ver, n) := by
  have e : blkF fs = blkF (fs.take (i + 1)) ++ blkF (fs.drop (i + 1)) := by rw [← blkF_app, List.take_append_drop]
  have hk' := (List.getElem?_eq_some_iff.1 hk).1
  rw [e, blkF_take h, List.append_assoc, List.getElem?_append_right (by rw [blkF_len]; omega), blkF_len, Nat.add_sub_cancel_left, List.getElem?_append_left (by rw [List.length_map]; exact hk'), List.getElem?_map, hk]
  rfl
theorem map_take {f : FI} {k : Nat} {n : Int} (hk : f.ls[k]? = some n) : ((f.ls.take (k + 1)).map fun n => (f.ino, f.ver, n)) = ((f.ls.take k).map fun n => (f.ino, f.ver, n)) ++ [(f.ino, f.ver, n)] := by
  rw [List.take_add_one, hk, List.map_append]
  rfl
theorem OkA.left {sz left : Int} {ps : List PcP} (h : OkA sz left ps) (h0 : 0 ≤ left) (h1 : left ≤ sz) : ∀ q, q ≤ ps.length → 0 ≤ leftE sz left (ps.take q) ∧ leftE sz left (ps.take q) ≤ sz
  | 0, _ => ⟨h0, h1⟩
  | q + 1, hq => by
    have hp : ps[q]? = some (ps[q]'(by omega)) := List.getElem?_eq_getElem _
    have hk := h q _ hp
    have ih := OkA.left h h0 h1 q (by omega)
    rw [leftE_take hp]
    have := hk.hi
    have h3 : leftA sz (leftE sz left (ps.take q)) (ps[q]'(by omega)) ≤ sz := by unfold leftA; split <;> omega
    omega
theorem blkL_le (ps : List PcP) (q : Nat) : (blkL (ps.take q)).length ≤ (blkL ps).length ∧ (nodL (ps.take q)).length ≤ (nodL ps).length := by
  have h1 := congrArg List.length (blkL_app (ps.take q) (ps.drop q))
  have h2 := congrArg List.length (nodL_app (ps.take q) (ps.drop q))
  rw [List.take_append_drop, List.length_append] at h1 h2
  omega
end Go.Proofs.Ytopjkpopdffkeaa
