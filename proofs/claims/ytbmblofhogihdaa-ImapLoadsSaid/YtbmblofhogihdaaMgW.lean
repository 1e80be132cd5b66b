/- The walk of (*imap.Map).Get. -/
import Derived.Test.YtbmblofhogihdaaMlW
namespace Go.Proofs.Ytbmblofhogihdaa
open Go.RowKit
set_option maxRecDepth 100000
attribute [local go_sem ↓] Go.wp_at_zero Go.wp_at_succ

theorem get_out (m l b d : Nat) (L : List Ent) (D : List Bool) (w : World) (h : ImpA w m l b d L D) (i : Int) (hi : ¬ (2 ≤ i ∧ i ≤ L.length)) :
    Calls Try.prog 27 #[.pointer (some ⟨m, 0, none⟩), .int .i64 i] w fun e w' => e = .returned (.tuple #[.int .i64 0, .int .i64 0, .bool false]) ∧ w = w' := by
  have HO := hide (out_any m l b d L D w h i)
  rw [outB_yes hi] at HO
  clear h hi
  go_enter Try.func27, Try.ntmps27
  go_wp2_with fail
  refine HO.out.mono ?_
  rintro e w' ⟨rfl, rfl⟩
  clear HO
  go_wp2_with fail
  go_ret3
  exact ⟨rfl, rfl⟩
set_option maxHeartbeats 1000000 in
theorem get_in (m l b d : Nat) (L : List Ent) (D : List Bool) (w : World) (h : ImpA w m l b d L D) (j : Nat) (e0 : Ent) (h0 : L[j]? = some e0) (hj1 : 1 ≤ j) :
    Calls Try.prog 27 #[.pointer (some ⟨m, 0, none⟩), .int .i64 ((j : Int) + 1)] w fun e w' => e = .returned (.tuple #[.int .i64 (e0.addr : Int), .int .i64 (e0.ver : Int), .bool e0.busy]) ∧ Below w.heap.size w w' := by
  obtain ⟨hj, he⟩ := List.getElem?_eq_some_iff.1 h0
  have HO := hide (out_any m l b d L D w h ((j : Int) + 1))
  rw [outB_no (by omega)] at HO
  have hn := h.n
  obtain ⟨c0, c1, -⟩ := imp_cells h
  have ca : w.cell? ⟨l, j * 2, none⟩ = some (.int .i64 (e0.addr : Int)) := by rw [h.hl.cell, entC_addr L j hj, he]
  have cv : w.cell? ⟨l, j * 2 + 1, none⟩ = some (.int .i64 (e0.ver : Int)) := by rw [h.hl.cell, entC_ver L j hj, he]
  have cb : w.cell? ⟨b, j, none⟩ = some (.bool e0.busy) := by rw [h.hb.cell, bsy_get L j hj, he]
  clear h h0 he
  go_enter Try.func27, Try.ntmps27
  go_wp2_with fail
  refine HO.out.mono ?_
  rintro e w' ⟨rfl, rfl⟩
  clear HO
  go_upto_region 4 with fail
  obtain ⟨w2, hw⟩ : ∃ W, W = w.alloc (.cells #[.int .i64 (e0.addr : Int), .int .i64 (e0.ver : Int)] 59) := ⟨_, rfl⟩
  have X5 : Blk w2 w.heap.size 59 #[.int .i64 (e0.addr : Int), .int .i64 (e0.ver : Int)] := by rw [hw]; exact Blk.new _ _ _
  have BB := hide (show Below w.heap.size w w2 by rw [hw]; exact (Below.refl _ _).alloc (Nat.le_refl _) _)
  obtain ⟨z0, z1⟩ := op2E X5
  have c1' : w2.cell? ⟨m, 1, none⟩ = _ := (BB.out.cell (cell_lt c1)).trans c1
  have cb' : w2.cell? ⟨b, j, none⟩ = _ := (BB.out.cell (cell_lt cb)).trans cb
  rw [← hw]
  clear hw c0 c1 ca cv cb X5
  generalize w.heap.size = g5 at z0 z1 ⊢
  go_quiet (fail)
  go_wp2_with fail
  go_ret3
  exact ⟨rfl, bel_dN BB.out nq⟩
end Go.Proofs.Ytbmblofhogihdaa
