/- What == says of points (printed by gen_pteq.py). -/
import Derived.Test.YtfaingklglelnaaPtL
import Derived.Test.YtfaingklglelnaaEqDeep
namespace Go.Proofs.Ytfaingklglelnaa
open Go.RowKit

theorem keyLitsP {P : Program} {d : Nat} {t : TypeId} {q : IntKind} {m : Int} (hu : P.underlying t = some (.int q)) (hw : (Lit.int q m).wf = true) : P.keyLits (d + 1) t [.int q m] = some [.int q m] := by
  unfold Program.keyLits
  rw [hu]
  simp [hw]
theorem wf_natP {n : Nat} (h : n < 9223372036854775808) : (Lit.int .i64 (n : Int)).wf = true := by
  simp [Lit.wf, IntKind.min, IntKind.max, IntKind.signed, IntKind.bits]; omega
/-- It fits its fields. -/
def Pt.fit (p : Pt) : Prop := p.e < 65536 ∧ p.c < 65536 ∧ p.n < 65536 ∧ p.f < 65536
theorem Pt.fit_of {p : Pt} (h : p.P) : p.fit := by
  obtain ⟨h1, h2, h3, h4⟩ := h
  exact ⟨Int.ofNat_lt.1 h1.2, Int.ofNat_lt.1 h2.2, by omega, by omega⟩
theorem pt0_fit : Pt.fit ⟨0, 0, 0, 0⟩ := ⟨by decide, by decide, by decide, by decide⟩

set_option maxRecDepth 100000 in
theorem pt_lits (e c n f : Nat) (he : e < 65536) (hc : c < 65536) (hn : n < 65536) (hf : f < 65536) : Try.prog.keyLits 10 23 [.int .i64 (e : Int), .int .i64 (c : Int), .int .i64 (n : Int), .int .i64 (f : Int)] = some [.int .i64 (e : Int), .int .i64 (c : Int), .int .i64 (n : Int), .int .i64 (f : Int)] := by
  have hc1 : Try.prog.cellsOf 3 = 1 := by kernel_rfl
  have hc4 : Try.prog.cellsOf 23 = 4 := by kernel_rfl
  have x0 := wf_natP (n := e) (by omega)
  have x1 := wf_natP (n := c) (by omega)
  have x2 := wf_natP (n := n) (by omega)
  have x3 := wf_natP (n := f) (by omega)
  unfold Program.keyLits
  rw [Try.underlying23]
  simp only [hc1, hc4, List.length_cons, List.length_nil, List.mapM_cons, List.mapM_nil, List.drop_succ_cons, List.drop_zero, List.take_succ_cons, List.take_zero]
  simp only [keyLitsP Try.underlying3, x0, x1, x2, x3]
  simp
theorem pt_key : Try.prog.keyTypeAt 100 23 = true := by kernel_rfl
theorem pt_formed (e c n f : Int) : (ptV e c n f).formed Try.prog 23 = true := by kernel_rfl
theorem pt_same (p : Pt) (h : p.fit) (w : World) : (Op.equalIn 10000 23 p.val p.val).run Try.prog w = .ok true w := by
  have e := pt_lits p.e p.c p.n p.f h.1 h.2.1 h.2.2.1 h.2.2.2
  exact eql_yes pt_key (pt_formed _ _ _ _) (pt_formed _ _ _ _) e e w
theorem pt_other (p q : Pt) (h : p.fit) (h' : q.fit) (hn : p ≠ q) (w : World) : (Op.equalIn 10000 23 p.val q.val).run Try.prog w = .ok false w := by
  refine eql_no pt_key (pt_formed _ _ _ _) (pt_formed _ _ _ _) (pt_lits p.e p.c p.n p.f h.1 h.2.1 h.2.2.1 h.2.2.2) (pt_lits q.e q.c q.n q.f h'.1 h'.2.1 h'.2.2.1 h'.2.2.2) (fun e => hn ?_) w
  obtain ⟨a, b, c, d⟩ := p
  obtain ⟨a', b', c', d'⟩ := q
  simp only [List.cons.injEq, Lit.int.injEq, true_and, and_true] at e
  obtain ⟨e1, e2, e3, e4⟩ := e
  rw [Int.ofNat_inj.1 e1, Int.ofNat_inj.1 e2, Int.ofNat_inj.1 e3, Int.ofNat_inj.1 e4]

set_option maxRecDepth 100000 in
theorem rt_lits (e c n f : Nat) (he : e < 65536) (hc : c < 65536) (hn : n < 65536) (hf : f < 65536) : Try.prog.keyLits 10 30 [.int .i64 (e : Int), .int .i64 (c : Int), .int .i64 (n : Int), .int .i64 (f : Int)] = some [.int .i64 (e : Int), .int .i64 (c : Int), .int .i64 (n : Int), .int .i64 (f : Int)] := by
  have hc1 : Try.prog.cellsOf 3 = 1 := by kernel_rfl
  have hc4 : Try.prog.cellsOf 30 = 4 := by kernel_rfl
  have x0 := wf_natP (n := e) (by omega)
  have x1 := wf_natP (n := c) (by omega)
  have x2 := wf_natP (n := n) (by omega)
  have x3 := wf_natP (n := f) (by omega)
  unfold Program.keyLits
  rw [Try.underlying30]
  simp only [hc1, hc4, List.length_cons, List.length_nil, List.mapM_cons, List.mapM_nil, List.drop_succ_cons, List.drop_zero, List.take_succ_cons, List.take_zero]
  simp only [keyLitsP Try.underlying3, x0, x1, x2, x3]
  simp
theorem rt_key : Try.prog.keyTypeAt 100 30 = true := by kernel_rfl
theorem rt_formed (e c n f : Int) : (ptV e c n f).formed Try.prog 30 = true := by kernel_rfl
theorem rt_same (p : Pt) (h : p.fit) (w : World) : (Op.equalIn 10000 30 p.val p.val).run Try.prog w = .ok true w := by
  have e := rt_lits p.e p.c p.n p.f h.1 h.2.1 h.2.2.1 h.2.2.2
  exact eql_yes rt_key (rt_formed _ _ _ _) (rt_formed _ _ _ _) e e w
theorem rt_other (p q : Pt) (h : p.fit) (h' : q.fit) (hn : p ≠ q) (w : World) : (Op.equalIn 10000 30 p.val q.val).run Try.prog w = .ok false w := by
  refine eql_no rt_key (rt_formed _ _ _ _) (rt_formed _ _ _ _) (rt_lits p.e p.c p.n p.f h.1 h.2.1 h.2.2.1 h.2.2.2) (rt_lits q.e q.c q.n q.f h'.1 h'.2.1 h'.2.2.1 h'.2.2.2) (fun e => hn ?_) w
  obtain ⟨a, b, c, d⟩ := p
  obtain ⟨a', b', c', d'⟩ := q
  simp only [List.cons.injEq, Lit.int.injEq, true_and, and_true] at e
  obtain ⟨e1, e2, e3, e4⟩ := e
  rw [Int.ofNat_inj.1 e1, Int.ofNat_inj.1 e2, Int.ofNat_inj.1 e3, Int.ofNat_inj.1 e4]
end Go.Proofs.Ytfaingklglelnaa
