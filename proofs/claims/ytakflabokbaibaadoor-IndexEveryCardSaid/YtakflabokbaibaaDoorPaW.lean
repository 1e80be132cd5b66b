/- The walks over index: To as one contract, Parent. -/
import Derived.Test.YtakflabokbaibaaDoorToW
set_option linter.unusedVariables false
set_option linter.unusedSimpArgs false
namespace Go.Proofs.YtakflabokbaibaaDoor
open Go.RowKit
attribute [local go_sem ↓] Go.wp_at_zero Go.wp_at_succ

theorem wayP_len (k i : Nat) : ∀ m, (wayP k i m).metas.length = m ∧ (wayP k i m).slots.length = m ∧ (wayP k i m).root = 5 + k
  | 0 => ⟨rfl, rfl, rfl⟩
  | m + 1 => by
    obtain ⟨h1, h2, h3⟩ := wayP_len k i m
    refine ⟨?_, ?_, ?_⟩
    · show ((wayP k i m).metas ++ [_]).length = _; rw [List.length_append, h1]; rfl
    · show ((wayP k i m).slots ++ [_]).length = _; rw [List.length_append, h2]; rfl
    · exact h3
theorem findP_root {n : Int} {l f : Nat} (h : findP n = some (l, f)) (hr : rootN f ≠ 0) : l ≤ rootN f := by
  unfold findP at h
  have hk : ∀ k, hitL n k = true → k ≤ rootN (candI n k).toNat := fun k hh => by
    unfold hitL okL at hh
    simp only [Bool.and_eq_true, decide_eq_true_eq] at hh
    exact hh.2.1.2
  split at h
  · split at h
    · injection h with h; injection h with h1 h2; subst h1 h2; exact Nat.zero_le _
    · cases h
  · split at h
    · rename_i hh; have := hk _ hh; injection h with h; injection h with h1 h2; subst h1 h2; exact this
    · split at h
      · rename_i hh; have := hk _ hh; injection h with h; injection h with h1 h2; subst h1 h2; exact this
      · split at h
        · rename_i hh; have := hk _ hh; injection h with h; injection h with h1 h2; subst h1 h2; exact this
        · cases h
/-- A path's value. -/
def pathA (p : PathL) (A1 : Option Addr) (c1 : Nat) (A2 : Option Addr) (c2 : Nat) : Array Value := #[.int .i64 (p.root : Int), .slice A1 p.metas.length c1, .slice A2 p.metas.length c2]
theorem toP_len {n : Int} {p : PathL} (h : toP n = some p) : p.metas.length = p.slots.length ∧ p.metas.length ≤ 3 ∧ p.root ≤ 8 := by
  unfold toP at h
  split at h
  · cases h
  · rename_i l f hf
    split at h
    · rename_i hr
      injection h with h; subst h
      refine ⟨rfl, Nat.zero_le _, ?_⟩
      have := (findP_bd hf).2.1
      unfold rootN at hr
      show f ≤ 8
      split at hr
      · omega
      · split at hr
        · omega
        · split at hr <;> omega
    · injection h with h; subst h
      obtain ⟨h1, h2, h3⟩ := wayP_len (rootN f) (f - spanN (rootN f)) (rootN f - l)
      have := rootN_bd f
      rw [h1, h2, h3]
      omega
theorem to_any (n : Int) (hn : I64 n) {p : PathL} (h : toP n = some p) (w : World) (sp : SpanAt w) : Calls Tryd.prog 14 #[.int .i64 n] w fun e w' =>
    ∃ A1 c1 A2 c2, e = .returned (.tuple #[.agg (pathA p A1 c1 A2 c2), .int .i64 0]) ∧ PathM w' w.heap.size A1 p.metas.length c1 A2 c2 p ∧ Below w.heap.size w w' := by
  unfold toP at h
  split at h
  · cases h
  · rename_i l f hf
    split at h
    · rename_i hr
      injection h with h; subst h
      refine (to_direct n hn hf hr w sp).mono ?_
      rintro e w' ⟨rfl, hb⟩
      exact ⟨none, 0, none, 0, rfl, PathM.nil _, hb⟩
    · rename_i hr
      injection h with h; subst h
      obtain ⟨h1, h2, h3⟩ := wayP_len (rootN f) (f - spanN (rootN f)) (rootN f - l)
      refine (to_yes n hn hf (rootN f) rfl (by omega) (findP_root hf hr) w sp).mono ?_
      rintro e w' ⟨A1, c1, A2, c2, rfl, hp, hb⟩
      refine ⟨A1, c1, A2, c2, ?_, by rw [h1]; exact hp, hb⟩
      unfold pathA
      rw [h1, h3]
      have : (6 : Int) + (rootN f : Int) - 1 = ((5 + rootN f : Nat) : Int) := by omega
      rw [this]
theorem to_none (n : Int) (hn : I64 n) (h : toP n = none) (w : World) (sp : SpanAt w) : Calls Tryd.prog 14 #[.int .i64 n] w fun e w' => e = .returned (.tuple #[.agg #[.int .i64 0, .slice none 0 0, .slice none 0 0], .int .i64 22]) ∧ Below w.heap.size w w' := by
  refine to_no n hn ?_ w sp
  unfold toP at h
  split at h
  · assumption
  · split at h <;> cases h

/-- The parent of a block of pointers, or of data behind them. -/
theorem parent_no (n : Int) (hn : I64 n) (h : toP n = none) (w : World) (sp : SpanAt w) : Calls Tryd.prog 15 #[.int .i64 n] w fun e w' => e = .returned (.tuple #[.int .i64 0, .int .i64 0, .int .i64 22]) ∧ Below w.heap.size w w' := by
  have C := hide (to_none n hn h w sp)
  clear h hn sp
  go_enter Tryd.func15, Tryd.ntmps15
  go_wp2_with fail
  refine C.out.mono ?_
  rintro e w1 ⟨rfl, hb⟩
  have B := hide hb
  clear hb C
  go_wp2_with fail
  go_ret3
  exact ⟨rfl, B.out.alloc B.out.size _⟩
theorem parent_root (n : Int) (hn : I64 n) {p : PathL} (h : toP n = some p) (hm : p.metas = []) (w : World) (sp : SpanAt w) : Calls Tryd.prog 15 #[.int .i64 n] w fun e w' => e = .returned (.tuple #[.int .i64 600, .int .i64 (p.root : Int), .int .i64 0]) ∧ Below w.heap.size w w' := by
  have C := hide (to_any n hn h w sp)
  unfold pathA at C
  rw [hm] at C
  clear h hn sp hm
  go_enter Tryd.func15, Tryd.ntmps15
  go_wp2_with fail
  refine C.out.mono ?_
  rintro e w1 ⟨A1, c1, A2, c2, rfl, hp, hb⟩
  have B := hide hb
  clear hb C hp
  go_wp2_with fail
  go_quiet (fail)
  go_wp2_with fail
  go_ret3
  exact ⟨rfl, bel_dN (B.out.alloc B.out.size _) _⟩
theorem own_last {w : World} {base n c k : Nat} {A : Option Addr} {l : List Int} {x : Int} (h : w.ownsRow base 3 1 (.slice A n c) n (intC l)) (hx : l[k]? = some x) : ∃ g, A = some ⟨g, 0, none⟩ ∧ base ≤ g ∧ g < w.heap.size ∧ w.cell? ⟨g, k, none⟩ = some (.int .i64 x) := by
  have hk := (List.getElem?_eq_some_iff.1 hx).1
  have h1 := h.1
  rw [intC_len] at h1
  obtain ⟨g, u, hA, h2, h3, h4, h5, -, -⟩ := own_set1 h (show k < n by omega)
  refine ⟨g, hA, h2, h3, ?_⟩
  rw [intC, List.getElem?_map, hx] at h4
  simp only [Option.map_some, Option.some.injEq] at h4
  rw [h5, h4]
theorem parent_meta (n : Int) (hn : I64 n) {p : PathL} (h : toP n = some p) (k : Nat) (x : Int) (s : Nat) (hl : p.metas.length = k + 1) (hx : p.metas[k]? = some x) (hs : p.slots[k]? = some s) (w : World) (sp : SpanAt w) : Calls Tryd.prog 15 #[.int .i64 n] w fun e w' => e = .returned (.tuple #[.int .i64 x, .int .i64 (s : Int), .int .i64 0]) ∧ Below w.heap.size w w' := by
  have C := hide (to_any n hn h w sp)
  have hl3 := (toP_len h).2.1
  rw [hl] at hl3
  have hk2 : k ≤ 2 := by omega
  unfold pathA at C
  rw [hl] at C
  have HX := hide hx
  have HS : Hid ((natsI p.slots)[k]? = some (s : Int)) := hide (by unfold natsI; rw [List.getElem?_map, hs]; rfl)
  clear h hn sp hl hx hs hl3
  go_enter Tryd.func15, Tryd.ntmps15
  go_wp2_with fail
  refine C.out.mono ?_
  rintro e w1 ⟨A1, c1, A2, c2, rfl, hp, hb⟩
  obtain ⟨g1, hA1, -, hg1, q1⟩ := own_last hp.m HX.out
  obtain ⟨g2, hA2, -, hg2, q2⟩ := own_last hp.s HS.out
  subst hA1 hA2
  have B := hide hb
  clear hb C hp
  have i1 : (0 : Int) ≤ (k : Int) := by omega
  have i2 : (k : Int) < (k : Int) + 1 := by omega
  go_wp2_with fail
  go_quiet (fail)
  go_wp2_with fail
  go_ret3
  exact ⟨rfl, bel_dN (B.out.alloc B.out.size _) _⟩
end Go.Proofs.YtakflabokbaibaaDoor
