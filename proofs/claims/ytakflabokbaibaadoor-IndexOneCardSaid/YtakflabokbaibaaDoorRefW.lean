/- The walks over the law's ref and level, and the reference's Same. -/
import Derived.Test.YtakflabokbaibaaDoorIr1W
set_option linter.unusedVariables false
set_option linter.unusedSimpArgs false
namespace Go.Proofs.YtakflabokbaibaaDoor
open Go.RowKit
attribute [local go_sem ↓] Go.wp_at_zero Go.wp_at_succ

theorem level_any (n : Int) (hn : I64 n) {l f : Nat} (h : findP n = some (l, f)) (w : World) (sp : SpanAt w) : Calls Tryd.prog 22 #[.int .i64 n] w fun e w' => e = .returned (.int .i64 (l : Int)) ∧ Below w.heap.size w w' := by
  have C := hide (level_yes n hn h w sp)
  clear h hn sp
  go_enter Tryd.func22, Tryd.ntmps22
  go_wp2_with fail
  refine C.out.mono ?_
  rintro e w' ⟨rfl, hb⟩
  go_wp2_with fail
  go_ret
  exact ⟨rfl, hb⟩
set_option maxHeartbeats 1000000 in
theorem ref_any (r : Int) (A1 A2 : Option Addr) (n1 c1 n2 c2 : Nat) (w : World) : Calls Tryd.prog 20 #[.agg #[.int .i64 r, .slice A1 n1 c1, .slice A2 n2 c2]] w fun e w' => e = .returned (.agg #[.int .i64 r, .slice A1 n1 c1, .slice A2 n2 c2]) ∧ Below w.heap.size w w' := by
  go_enter Tryd.func20, Tryd.ntmps20
  go_wp2_with fail
  refine bodyPost_ret (results_cell_row (g := w.heap.size + 1) (cs := #[.int .i64 r, .slice A1 n1 c1, .slice A2 n2 c2]) (t := 39) (fr := (0, 0)) rfl _ _ (hp := rfl) (hg := by have := Blk.new (w.alloc (.cells #[.int .i64 r, .slice A1 n1 c1, .slice A2 n2 c2] 34)) 39 #[.int .i64 r, .slice A1 n1 c1, .slice A2 n2 c2]; simpa [Blk] using this) (hu := Tryd.underlying39) (hd := rfl) (hi := by kernel_rfl)) rfl ?_
  exact ⟨rfl, ((Below.refl _ _).alloc (Nat.le_refl _) _).alloc (by simp) _⟩
set_option maxHeartbeats 1000000 in
theorem same_rne (r r' : Int) (hr : r ≠ r') (A1 A2 A1' A2' : Option Addr) (n1 c1 n2 c2 n1' c1' n2' c2' : Nat) (w : World) :
    Calls Tryd.prog 19 #[.agg #[.int .i64 r, .slice A1 n1 c1, .slice A2 n2 c2], .agg #[.int .i64 r', .slice A1' n1' c1', .slice A2' n2' c2']] w fun e w' => e = .returned (.bool false) ∧ Below w.heap.size w w' := by
  have hd : (r == r') = false := by rw [beq_eq_false_iff_ne]; exact hr
  clear hr
  go_enter Tryd.func19, Tryd.ntmps19
  go_wp2_with fail
  go_ret
  exact ⟨rfl, ((Below.refl _ _).alloc (Nat.le_refl _) _).alloc (by simp) _⟩
set_option maxHeartbeats 1000000 in
theorem same_req (r : Int) (A1 A2 A1' A2' : Option Addr) (n1 c1 n2 c2 n1' c1' n2' c2' B1 B2 B1' B2' : Nat) (l1 l2 l1' l2' : List Int) (w : World) (h1 : Sl w B1 A1 n1 (intC l1)) (h2 : Sl w B2 A2 n2 (intC l2)) (h1' : Sl w B1' A1' n1' (intC l1')) (h2' : Sl w B2' A2' n2' (intC l2'))
    (hB : B1 ≤ w.heap.size ∧ B2 ≤ w.heap.size ∧ B1' ≤ w.heap.size ∧ B2' ≤ w.heap.size) (hn : n1 ≤ 1000000 ∧ n2 ≤ 1000000 ∧ n1' ≤ 1000000 ∧ n2' ≤ 1000000) :
    Calls Tryd.prog 19 #[.agg #[.int .i64 r, .slice A1 n1 c1, .slice A2 n2 c2], .agg #[.int .i64 r, .slice A1' n1' c1', .slice A2' n2' c2']] w fun e w' => e = .returned (.bool (decide (l1 = l1' ∧ l2 = l2'))) ∧ Below w.heap.size w w' := by
  have H1 := hide h1
  have H2 := hide h2
  have H1' := hide h1'
  have H2' := hide h2'
  have HB := hide hB
  have HN := hide hn
  clear h1 h2 h1' h2' hB hn
  go_enter Tryd.func19, Tryd.ntmps19
  go_wp2_with fail
  have hb := hide (((Below.refl w.heap.size w).alloc (Nat.le_refl _) (.cells #[.int .i64 r, .slice A1 n1 c1, .slice A2 n2 c2] 39)).alloc (by simp) (.cells #[.int .i64 r, .slice A1' n1' c1', .slice A2' n2' c2'] 39))
  have K1 := hide ((Blk.new w 39 #[.int .i64 r, .slice A1 n1 c1, .slice A2 n2 c2]).alloc (.cells #[.int .i64 r, .slice A1' n1' c1', .slice A2' n2' c2'] 39))
  have K2 := hide (Blk.new (w.alloc (.cells #[.int .i64 r, .slice A1 n1 c1, .slice A2 n2 c2] 39)) 39 #[.int .i64 r, .slice A1' n1' c1', .slice A2' n2' c2'])
  have hsz : ((w.alloc (.cells #[.int .i64 r, .slice A1 n1 c1, .slice A2 n2 c2] 39)).heap.size) = w.heap.size + 1 := by simp
  rw [hsz] at K2
  clear hsz
  generalize hw2 : (w.alloc (.cells #[.int .i64 r, .slice A1 n1 c1, .slice A2 n2 c2] 39)).alloc (.cells #[.int .i64 r, .slice A1' n1' c1', .slice A2' n2' c2'] 39) = w2 at *
  clear hw2
  have hbs := hb.out.size
  refine (ints_any A1 A1' n1 n1' c1 c1' B1 B1' l1 l1' w2 (H1.out.below (hb.out.mono HB.out.1)) (H1'.out.below (hb.out.mono HB.out.2.2.1)) (Nat.le_trans HB.out.1 hbs) (Nat.le_trans HB.out.2.2.1 hbs) HN.out.1 HN.out.2.2.1).mono ?_
  rintro e w3 ⟨rfl, hb3⟩
  clear hbs
  have B3 := hide (hb.out.trans (hb3.mono hb.out.size))
  have Q1 := hide (K1.out.below hb3)
  have Q2 := hide (K2.out.below hb3)
  clear hb3 hb K1 K2
  by_cases e1 : l1 = l1'
  · have hd : decide (l1 = l1') = true := decide_eq_true e1
    have hd2 : Hid (decide (l1 = l1' ∧ l2 = l2') = decide (l2 = l2')) := hide (by simp [e1])
    rw [hd]
    clear hd e1
    have c1 := Q1.out.cell 2
    have c2 := Q2.out.cell 2
    simp only [List.getElem?_toArray, List.getElem?_cons_succ, List.getElem?_cons_zero] at c1 c2
    go_wp2_with fail
    have hbs := B3.out.size
    refine (ints_any A2 A2' n2 n2' _ _ B2 B2' l2 l2' w3 (H2.out.below (B3.out.mono HB.out.2.1)) (H2'.out.below (B3.out.mono HB.out.2.2.2)) (Nat.le_trans HB.out.2.1 hbs) (Nat.le_trans HB.out.2.2.2 hbs) HN.out.2.1 HN.out.2.2.2).mono ?_
    rintro e w4 ⟨rfl, hb4⟩
    clear hbs
    go_wp2_with fail
    go_ret
    exact ⟨by rw [hd2.out]; rfl, B3.out.trans (hb4.mono B3.out.size)⟩
  · have hd : decide (l1 = l1') = false := decide_eq_false e1
    have hd2 : Hid (decide (l1 = l1' ∧ l2 = l2') = false) := hide (by simp [e1])
    rw [hd]
    clear hd e1
    go_wp2_with fail
    go_ret
    exact ⟨by rw [hd2.out]; rfl, B3.out⟩
/-- Both ways. -/
theorem same_any (r r' : Int) (A1 A2 A1' A2' : Option Addr) (n1 c1 n2 c2 n1' c1' n2' c2' B1 B2 B1' B2' : Nat) (l1 l2 l1' l2' : List Int) (w : World) (h1 : Sl w B1 A1 n1 (intC l1)) (h2 : Sl w B2 A2 n2 (intC l2)) (h1' : Sl w B1' A1' n1' (intC l1')) (h2' : Sl w B2' A2' n2' (intC l2'))
    (hB : B1 ≤ w.heap.size ∧ B2 ≤ w.heap.size ∧ B1' ≤ w.heap.size ∧ B2' ≤ w.heap.size) (hn : n1 ≤ 1000000 ∧ n2 ≤ 1000000 ∧ n1' ≤ 1000000 ∧ n2' ≤ 1000000) :
    Calls Tryd.prog 19 #[.agg #[.int .i64 r, .slice A1 n1 c1, .slice A2 n2 c2], .agg #[.int .i64 r', .slice A1' n1' c1', .slice A2' n2' c2']] w fun e w' => e = .returned (.bool (decide (r = r' ∧ l1 = l1' ∧ l2 = l2'))) ∧ Below w.heap.size w w' := by
  by_cases hr : r = r'
  · subst hr
    rw [show decide (r = r ∧ l1 = l1' ∧ l2 = l2') = decide (l1 = l1' ∧ l2 = l2') by simp]
    exact same_req r A1 A2 A1' A2' n1 c1 n2 c2 n1' c1' n2' c2' B1 B2 B1' B2' l1 l2 l1' l2' w h1 h2 h1' h2' hB hn
  · rw [decide_eq_false (fun e => hr e.1)]
    exact same_rne r r' hr A1 A2 A1' A2' n1 c1 n2 c2 n1' c1' n2' c2' w
end Go.Proofs.YtakflabokbaibaaDoor
