import Derived.Test.YtfaingklglelnaaJn05
import Derived.Test.YtfaingklglelnaaProg
import Derived.Test.YtfaingklglelnaaJn01
import Derived.RangeFuncNested
import Derived.RangeFuncBound
import Derived.RangeFuncBox
import Derived.RangeFuncLeaves
import Derived.Shelf.Abstract
import Derived.Shelf.RegionOpen
import Derived.WalkKit
import Derived.OwnWalkIn
import Derived.TacticsInMore
import Derived.LoopNIn
import Derived.LoopIn
import Derived.Deep.RegionHeld3
import Derived.Deep.MidRow
/- The walks over Ints and Tells. -/
namespace Go.Proofs.Ytfaingklglelnaa
open Go.RowKit
attribute [local go_sem ↓] Go.wp_at_zero Go.wp_at_succ

theorem sl_int {w : World} {B n : Nat} {A : Option Addr} {l : List Nat} (h : Sl w B A n (atC l)) {j : Nat} (hj : j < n) : ∃ ad x, A = some ad ∧ l[j]? = some x ∧ w.cell? (ad.add j) = some (.int .i64 (x : Int)) := by
  obtain ⟨ad, u, hA, -, hu, hc⟩ := h.get hj
  have hl := h.len
  simp only [atC, List.length_map] at hl
  have hx : l[j]? = some (l[j]'(by omega)) := List.getElem?_eq_getElem _
  refine ⟨ad, _, hA, hx, ?_⟩
  simp only [atC, List.getElem?_map, hx, Option.map_some, Option.some.injEq] at hu
  rw [hc, ← hu]
set_option maxHeartbeats 400000 in
theorem ints_same (A A' : Option Addr) (n c c' B B' : Nat) (l : List Nat) (w : World) (h : Sl w B A n (atC l)) (h' : Sl w B' A' n (atC l)) (hB : B ≤ w.heap.size) (hB' : B' ≤ w.heap.size) (hn : n ≤ 1000000) :
    Calls Try.prog 51 #[.slice A n c, .slice A' n c'] w fun e w' => e = .returned (.bool true) ∧ Below w.heap.size w w' := by
  have H := hide h
  have H' := hide h'
  clear h h'
  go_enter Try.func51, Try.ntmps51
  go_wp2_with fail
  go_loopw [13] (fun x wr => ∃ j : Nat, j ≤ n ∧ x = .int .i64 (j : Int) ∧ Below w.heap.size w wr) (fun x _ => n - (intOf x).toNat)
  case atStart => exact ⟨0, Nat.zero_le _, rfl, Below.refl _ _⟩
  case round =>
    obtain ⟨j, hj, rfl, hb⟩ := hrel
    have Hb := hide hb
    clear hb
    by_cases hlt : j < n
    · obtain ⟨ad, x, hA, hx, hc⟩ := sl_int (H.out.below (Hb.out.mono hB)) hlt
      obtain ⟨ad', x', hA', hx', hc'⟩ := sl_int (H'.out.below (Hb.out.mono hB')) hlt
      rw [hx] at hx'
      injection hx' with hx'
      subst hx' hA hA'
      clear hx
      go_wp2_with fail
      refine wp_region_noPanic ?_
      refine wp_region_held_drew (S := (fun w' => w'.cell? (ad.add j) = some (.int .i64 (x : Int)) ∧ w'.cell? (ad'.add j) = some (.int .i64 (x : Int)))) (by kernel_rfl) ?_ (fun hHeld => ?_)
      · ((try dsimp only) <;> (first | trivial | assumption | go_keep))
      refine wpAnyH_take (i := 0) (v := ?_) (by simp only [List.getElem?_toArray, List.getElem?_cons_succ, List.getElem?_cons_zero]; rfl) (by kernel_rfl) (by kernel_rfl) (by kernel_rfl) (fun _ _ _ h => h) (Or.inl ⟨by rfl, ?_⟩) (by assumption) ?_
      rotate_left 1
      · (intro w hSw; (try dsimp only at hSw); go_simp; try with_reducible rfl)
      try simp only [Act.put, List.setIfInBounds_toArray, List.set_cons_zero, List.set_cons_succ]
      refine wpAnyH_take (i := 1) (v := ?_) (by simp only [List.getElem?_toArray, List.getElem?_cons_succ, List.getElem?_cons_zero]; rfl) (by kernel_rfl) (by kernel_rfl) (by kernel_rfl) (fun _ _ _ h => h) (Or.inl ⟨by rfl, ?_⟩) (by assumption) ?_
      rotate_left 1
      · (intro w hSw; (try dsimp only at hSw); go_simp; try with_reducible rfl)
      try simp only [Act.put, List.setIfInBounds_toArray, List.set_cons_zero, List.set_cons_succ]
      refine wpAnyH_take (i := 2) (v := ?_) (by simp only [List.getElem?_toArray, List.getElem?_cons_succ, List.getElem?_cons_zero]; rfl) (by kernel_rfl) (by kernel_rfl) (by kernel_rfl) (fun _ _ _ h => h) (Or.inl ⟨by rfl, ?_⟩) (by assumption) ?_
      rotate_left 1
      · (intro w hSw; (try dsimp only at hSw); go_simp; try with_reducible rfl)
      try simp only [Act.put, List.setIfInBounds_toArray, List.set_cons_zero, List.set_cons_succ]
      refine wpAnyH_take (i := 3) (v := ?_) (by simp only [List.getElem?_toArray, List.getElem?_cons_succ, List.getElem?_cons_zero]; rfl) (by kernel_rfl) (by kernel_rfl) (by kernel_rfl) (fun _ _ _ h => h) (Or.inl ⟨by rfl, ?_⟩) (by assumption) ?_
      rotate_left 1
      · (intro w hSw; (try dsimp only at hSw); go_simp; try with_reducible rfl)
      try simp only [Act.put, List.setIfInBounds_toArray, List.set_cons_zero, List.set_cons_succ]
      refine wpAnyH_take (i := 4) (v := ?_) (by simp only [List.getElem?_toArray, List.getElem?_cons_succ, List.getElem?_cons_zero]; rfl) (by kernel_rfl) (by kernel_rfl) (by kernel_rfl) (fun _ _ _ h => h) (Or.inl ⟨by rfl, ?_⟩) (by assumption) ?_
      rotate_left 1
      · (intro w hSw; (try dsimp only at hSw); go_simp; try with_reducible rfl)
      try simp only [Act.put, List.setIfInBounds_toArray, List.set_cons_zero, List.set_cons_succ]
      refine wpAnyH_take (i := 5) (v := ?_) (by simp only [List.getElem?_toArray, List.getElem?_cons_succ, List.getElem?_cons_zero]; rfl) (by kernel_rfl) (by kernel_rfl) (by kernel_rfl) (fun _ _ _ h => h) (Or.inl ⟨by rfl, ?_⟩) (by assumption) ?_
      rotate_left 1
      · (intro w hSw; (try dsimp only at hSw); go_simp; try with_reducible rfl)
      try simp only [Act.put, List.setIfInBounds_toArray, List.set_cons_zero, List.set_cons_succ]
      refine wpAnyH_take (i := 6) (v := ?_) (by simp only [List.getElem?_toArray, List.getElem?_cons_succ, List.getElem?_cons_zero]; rfl) (by kernel_rfl) (by kernel_rfl) (by kernel_rfl) (fun _ _ _ h => h) (Or.inl ⟨by rfl, ?_⟩) (by assumption) ?_
      rotate_left 1
      · (intro w hSw; (try dsimp only at hSw); go_simp; try with_reducible rfl)
      try simp only [Act.put, List.setIfInBounds_toArray, List.set_cons_zero, List.set_cons_succ]
      refine wpAnyH_take (i := 7) (v := ?_) (by simp only [List.getElem?_toArray, List.getElem?_cons_succ, List.getElem?_cons_zero]; rfl) (by kernel_rfl) (by kernel_rfl) (by kernel_rfl) (fun _ _ _ h => h) (Or.inl ⟨by rfl, ?_⟩) (by assumption) ?_
      rotate_left 1
      · (intro w hSw; (try dsimp only at hSw); go_simp; try with_reducible rfl)
      try simp only [Act.put, List.setIfInBounds_toArray, List.set_cons_zero, List.set_cons_succ]
      refine wpAnyH_take (i := 8) (v := ?_) (by simp only [List.getElem?_toArray, List.getElem?_cons_succ, List.getElem?_cons_zero]; rfl) (by kernel_rfl) (by kernel_rfl) (by kernel_rfl) (fun _ _ _ h => h) (Or.inl ⟨by rfl, ?_⟩) (by assumption) ?_
      rotate_left 1
      · (intro w hSw; (try dsimp only at hSw); go_simp; try with_reducible rfl)
      try simp only [Act.put, List.setIfInBounds_toArray, List.set_cons_zero, List.set_cons_succ]
      refine wpAnyH_done (by kernel_rfl) ?_ _
      refine NoPanic.normal ?_
      go_wp2_with fail
      go_roundw
      case rel => exact ⟨j + 1, by omega, by go_num, Hb.out.drew⟩
      case measure => simp [intOf]; omega
    · go_wp2_with fail
      go_ret
      exact ⟨rfl, Hb.out⟩

set_option maxHeartbeats 1000000 in
theorem tells_any {w0 : World} (w : World) (d : Nat) (D : Dsk) (base : Nat) (As : Option Addr) (cs : Nat) (Aq : Option Addr) (cq : Nat) (hD : LD w0 w d D) (h : RefM w base As cs Aq cq D) :
    Calls Try.prog 35 #[.pointer (some ⟨d, 0, none⟩), .agg (refV As cs Aq cq D)] w fun e w' => e = .returned (.bool true) ∧ Below w.heap.size w w' := by
  obtain ⟨cv, hcv⟩ := cv_ex Try.prog 24 9
  have hn := h.ok.n
  have hqn := h.ok.qn
  have H := hide h
  have HD := hide hD
  clear h hD
  have hV : refV As cs Aq cq D = #[.slice As D.sure.length cs, .slice Aq D.queue.length cq, .int .i64 (D.steps : Int), .int .i64 D.left] := rfl
  have K1 := hide (Blk.new w 64 #[.slice As D.sure.length cs, .slice Aq D.queue.length cq, .int .i64 (D.steps : Int), .int .i64 D.left])
  have Kb := hide ((Below.refl w.heap.size w).alloc (Nat.le_refl _) (.cells #[.slice As D.sure.length cs, .slice Aq D.queue.length cq, .int .i64 (D.steps : Int), .int .i64 D.left] 64))
  rw [hV]
  replace hV := hide hV
  go_enter Try.func35, Try.ntmps35
  go_wp2_with fail
  generalize w.alloc (.cells #[.slice As D.sure.length cs, .slice Aq D.queue.length cq, .int .i64 (D.steps : Int), .int .i64 D.left] 64) = w1 at *
  go_loopw [5, 13] (fun x y wr => ∃ j A' c', j ≤ D.queue.length ∧ x = .slice A' j c' ∧ y = .int .i64 (j : Int) ∧ wr.ownsRow (w.heap.size + 1) 3 1 (.slice A' j c') j (atC ((D.queue.map (·.1)).take j)) ∧ Below (w.heap.size + 1) w1 wr) (fun _ y _ => D.queue.length - (intOf y).toNat)
  case atStart => exact ⟨0, none, 0, Nat.zero_le _, rfl, rfl, by simpa [atC] using World.ownsRow_nil _ _ 3 1, Below.refl _ _⟩
  case round =>
    obtain ⟨j, A', c', hj, rfl, rfl, h1, h2⟩ := hrel
    have H1 := hide h1
    have H2 := hide h2
    have hs1 : w.heap.size + 1 ≤ w1.heap.size := K1.out.lt
    have hsz := hide (Nat.le_trans hs1 h2.size)
    have K2 := hide (show Blk wr w.heap.size 64 #[.slice As D.sure.length cs, .slice Aq D.queue.length cq, .int .i64 (D.steps : Int), .int .i64 D.left] from (h2.block _ (Nat.lt_succ_self _)).trans K1.out)
    have Kb2 := hide (Kb.out.trans (h2.mono (Nat.le_succ _)))
    clear h1 h2
    by_cases hlt : j < D.queue.length
    · obtain ⟨x, hx⟩ : ∃ x, D.queue[j]? = some x := ⟨_, List.getElem?_eq_getElem hlt⟩
      obtain ⟨gq, hAq, q1, q2⟩ := (H.out.below Kb2.out).atQ j x hx
      have S1 : wr.cell? ⟨w.heap.size, 1, none⟩ = some (.slice Aq D.queue.length cq) := K2.out.cell 1
      have k6 := in_slice wr x.1
      have hst : Hid ((D.queue.map (·.1)).take (j + 1) = (D.queue.map (·.1)).take j ++ [x.1]) := by
        rw [List.take_add_one, List.getElem?_map, hx]; simp [Hid]
      have hb3 := hide (H2.out.alloc hsz.out (.cells #[.int .i64 (x.1 : Int)] 3))
      have hownW := hide (own_keep H1.out ((Below.refl _ _).alloc (Nat.le_refl _) (.cells #[.int .i64 (x.1 : Int)] 3)))
      have hnew : Hid (Sl (wr.alloc (.cells #[.int .i64 (x.1 : Int)] 3)) (wr.heap.size + 1) (some ⟨wr.heap.size, 0, none⟩) 1 [.int .i64 (x.1 : Int)]) := by
        refine hide ⟨rfl, fun i u hu => ⟨_, rfl, by simp, ?_⟩⟩
        rw [Addr.add_mid, Nat.zero_add, (Blk.new wr _ _).cell]
        simpa using hu
      subst hAq
      clear hx q2
      go_wp2_with (
        at_builtin
        refine wpList_app _ rfl (.tmp 16) (.tmp 23) _ rfl etyI (w.heap.size + 1) (.slice A' j c') j _ rfl hownW.out (wr.heap.size + 1) (some ⟨wr.heap.size, 0, none⟩) 1 1 [.int .i64 (x.1 : Int)] rfl
          hnew.out (by intro u hu; rw [List.mem_singleton] at hu; rw [hu]; rfl) (by omega) (Nat.le_trans hsz.out (by simp)) ?_
        intro A2 c2 w2 hown2 hg2 _
        have Hb2 := hide (bel_grow hb3.out hg2 (fun g hg => (hownW.out.lt g hg).1) (Nat.le_trans hsz.out (by simp)))
        rw [atC_app, ← hst.out] at hown2
        have Hown2 := hide hown2
        clear hg2 hown2)
      go_roundw
      case rel => exact ⟨j + 1, A2, c2, by omega, rfl, by go_num, Hown2.out, Hb2.out⟩
      case measure => simp [intOf]; omega
    · have hjn : j = D.queue.length := by omega
      subst hjn
      have HL : Hid (wr.ownsRow (w.heap.size + 1) 3 1 (.slice A' D.queue.length c') D.queue.length (atC (D.queue.map (·.1)))) := by
        have := H1.out
        rw [List.take_of_length_le (by simp)] at this
        exact hide this
      have HD1 := hide (HD.out.below Kb2.out)
      have S0 : wr.cell? ⟨w.heap.size, 0, none⟩ = some (.slice As D.sure.length cs) := K2.out.cell 0
      have S2 : wr.cell? ⟨w.heap.size, 2, none⟩ = some (.int .i64 (D.steps : Int)) := K2.out.cell 2
      clear H1 H2
      go_wp2_with fail
      refine wp_region_noPanic ?_
      refine wp_region_held_drew (S := (fun w' => w'.cell? ⟨w.heap.size, 0, none⟩ = some (.slice As D.sure.length cs) ∧ w'.cell? ⟨w.heap.size, 2, none⟩ = some (.int .i64 (D.steps : Int)))) (by kernel_rfl) ?_ (fun hHeld => ?_)
      · ((try dsimp only) <;> (first | trivial | assumption | go_keep))
      refine wpAnyH_take (i := 0) (v := ?_) (by simp only [List.getElem?_toArray, List.getElem?_cons_succ, List.getElem?_cons_zero]; rfl) (by kernel_rfl) (by kernel_rfl) (by kernel_rfl) (fun _ _ _ h => h) (Or.inl ⟨by rfl, ?_⟩) (by assumption) ?_
      rotate_left 1
      · (intro w hSw; (try dsimp only at hSw); go_simp; try with_reducible rfl)
      try simp only [Act.put, List.setIfInBounds_toArray, List.set_cons_zero, List.set_cons_succ]
      refine wpAnyH_take (i := 2) (v := ?_) (by simp only [List.getElem?_toArray, List.getElem?_cons_succ, List.getElem?_cons_zero]; rfl) (by kernel_rfl) (by kernel_rfl) (by kernel_rfl) (fun _ _ _ h => h) (Or.inl ⟨by rfl, ?_⟩) (by assumption) ?_
      rotate_left 1
      · (intro w hSw; (try dsimp only at hSw); go_simp; try with_reducible rfl)
      try simp only [Act.put, List.setIfInBounds_toArray, List.set_cons_zero, List.set_cons_succ]
      refine wpAnyH_take (i := 3) (v := ?_) (by simp only [List.getElem?_toArray, List.getElem?_cons_succ, List.getElem?_cons_zero]; rfl) (by kernel_rfl) (by kernel_rfl) (by kernel_rfl) (fun _ _ _ h => h) (Or.inl ⟨by rfl, ?_⟩) (by assumption) ?_
      rotate_left 1
      · (intro w hSw; (try dsimp only at hSw); go_simp; try with_reducible rfl)
      try simp only [Act.put, List.setIfInBounds_toArray, List.set_cons_zero, List.set_cons_succ]
      refine wpAnyH_take (i := 4) (v := ?_) (by simp only [List.getElem?_toArray, List.getElem?_cons_succ, List.getElem?_cons_zero]; rfl) (by kernel_rfl) (by kernel_rfl) (by kernel_rfl) (fun _ _ _ h => h) (Or.inl ⟨by rfl, ?_⟩) (by assumption) ?_
      rotate_left 1
      · (intro w hSw; (try dsimp only at hSw); go_simp; try with_reducible rfl)
      try simp only [Act.put, List.setIfInBounds_toArray, List.set_cons_zero, List.set_cons_succ]
      refine wpAnyH_ready (rs := [1]) (by kernel_rfl) (by simp) ?_
      refine AllReadyH.cons (by simp only [List.getElem?_toArray, List.getElem?_cons_succ, List.getElem?_cons_zero]; rfl) (fun K hK => ?_) ?_
      rotate_left 1
      · exact AllReadyH.nil
      go_simp
      refine (ld_size HD1.out.drew).mono ?_; rintro e w3 ⟨rfl, rfl⟩; go_wp2_with fail
      refine hK.out _ _ ?_ (fun hHeld2 => ?_)
      · ((try dsimp only) <;> (first | trivial | assumption | go_keep))
      clear hHeld
      have hHeld := hHeld2
      clear hHeld2 hK K
      try simp only [Act.put, List.setIfInBounds_toArray, List.set_cons_zero, List.set_cons_succ]
      refine wpAnyH_take (i := 5) (v := ?_) (by simp only [List.getElem?_toArray, List.getElem?_cons_succ, List.getElem?_cons_zero]; rfl) (by kernel_rfl) (by kernel_rfl) (by kernel_rfl) (fun _ _ _ h => h) (Or.inl ⟨by rfl, ?_⟩) (by assumption) ?_
      rotate_left 1
      · (intro w hSw; (try dsimp only at hSw); go_simp; try with_reducible rfl)
      try simp only [Act.put, List.setIfInBounds_toArray, List.set_cons_zero, List.set_cons_succ]
      refine wpAnyH_take (i := 6) (v := ?_) (by simp only [List.getElem?_toArray, List.getElem?_cons_succ, List.getElem?_cons_zero]; rfl) (by kernel_rfl) (by kernel_rfl) (by kernel_rfl) (fun _ _ _ h => h) (Or.inl ⟨by rfl, ?_⟩) (by assumption) ?_
      rotate_left 1
      · (intro w hSw; (try dsimp only at hSw); go_simp; try with_reducible rfl)
      try simp only [Act.put, List.setIfInBounds_toArray, List.set_cons_zero, List.set_cons_succ]
      refine wpAnyH_take (i := 7) (v := ?_) (by simp only [List.getElem?_toArray, List.getElem?_cons_succ, List.getElem?_cons_zero]; rfl) (by kernel_rfl) (by kernel_rfl) (by kernel_rfl) (fun _ _ _ h => h) (Or.inl ⟨by rfl, ?_⟩) (by assumption) ?_
      rotate_left 1
      · (intro w hSw; (try dsimp only at hSw); go_simp; try with_reducible rfl)
      try simp only [Act.put, List.setIfInBounds_toArray, List.set_cons_zero, List.set_cons_succ]
      refine wpAnyH_take (i := 9) (v := ?_) (by simp only [List.getElem?_toArray, List.getElem?_cons_succ, List.getElem?_cons_zero]; rfl) (by kernel_rfl) (by kernel_rfl) (by kernel_rfl) (fun _ _ _ h => h) (Or.inl ⟨by rfl, ?_⟩) (by assumption) ?_
      rotate_left 1
      · (intro w hSw; (try dsimp only at hSw); go_simp; try with_reducible rfl)
      try simp only [Act.put, List.setIfInBounds_toArray, List.set_cons_zero, List.set_cons_succ]
      refine wpAnyH_take (i := 10) (v := ?_) (by simp only [List.getElem?_toArray, List.getElem?_cons_succ, List.getElem?_cons_zero]; rfl) (by kernel_rfl) (by kernel_rfl) (by kernel_rfl) (fun _ _ _ h => h) (Or.inl ⟨by rfl, ?_⟩) (by assumption) ?_
      rotate_left 1
      · (intro w hSw; (try dsimp only at hSw); go_simp; try with_reducible rfl)
      try simp only [Act.put, List.setIfInBounds_toArray, List.set_cons_zero, List.set_cons_succ]
      refine wpAnyH_ready (rs := [8]) (by kernel_rfl) (by simp) ?_
      refine AllReadyH.cons (by simp only [List.getElem?_toArray, List.getElem?_cons_succ, List.getElem?_cons_zero]; rfl) (fun K hK => ?_) ?_
      rotate_left 1
      · exact AllReadyH.nil
      go_simp
      refine (ld_steps HD1.out.drew).mono ?_; rintro e w3 ⟨rfl, rfl⟩; go_wp2_with fail
      refine hK.out _ _ ?_ (fun hHeld2 => ?_)
      · ((try dsimp only) <;> (first | trivial | assumption | go_keep))
      clear hHeld
      have hHeld := hHeld2
      clear hHeld2 hK K
      try simp only [Act.put, List.setIfInBounds_toArray, List.set_cons_zero, List.set_cons_succ]
      refine wpAnyH_take (i := 11) (v := ?_) (by simp only [List.getElem?_toArray, List.getElem?_cons_succ, List.getElem?_cons_zero]; rfl) (by kernel_rfl) (by kernel_rfl) (by kernel_rfl) (fun _ _ _ h => h) (Or.inl ⟨by rfl, ?_⟩) (by assumption) ?_
      rotate_left 1
      · (intro w hSw; (try dsimp only at hSw); go_simp; try with_reducible rfl)
      try simp only [Act.put, List.setIfInBounds_toArray, List.set_cons_zero, List.set_cons_succ]
      refine wpAnyH_take (i := 12) (v := ?_) (by simp only [List.getElem?_toArray, List.getElem?_cons_succ, List.getElem?_cons_zero]; rfl) (by kernel_rfl) (by kernel_rfl) (by kernel_rfl) (fun _ _ _ h => h) (Or.inl ⟨by rfl, ?_⟩) (by assumption) ?_
      rotate_left 1
      · (intro w hSw; (try dsimp only at hSw); go_simp; try with_reducible rfl)
      try simp only [Act.put, List.setIfInBounds_toArray, List.set_cons_zero, List.set_cons_succ]
      refine wpAnyH_take (i := 13) (v := ?_) (by simp only [List.getElem?_toArray, List.getElem?_cons_succ, List.getElem?_cons_zero]; rfl) (by kernel_rfl) (by kernel_rfl) (by kernel_rfl) (fun _ _ _ h => h) (Or.inl ⟨by rfl, ?_⟩) (by assumption) ?_
      rotate_left 1
      · (intro w hSw; (try dsimp only at hSw); go_simp; try with_reducible rfl)
      try simp only [Act.put, List.setIfInBounds_toArray, List.set_cons_zero, List.set_cons_succ]
      refine wpAnyH_take (i := 14) (v := ?_) (by simp only [List.getElem?_toArray, List.getElem?_cons_succ, List.getElem?_cons_zero]; rfl) (by kernel_rfl) (by kernel_rfl) (by kernel_rfl) (fun _ _ _ h => h) (Or.inl ⟨by rfl, ?_⟩) (by assumption) ?_
      rotate_left 1
      · (intro w hSw; (try dsimp only at hSw); go_simp; try with_reducible rfl)
      try simp only [Act.put, List.setIfInBounds_toArray, List.set_cons_zero, List.set_cons_succ]
      refine wpAnyH_take (i := 16) (v := ?_) (by simp only [List.getElem?_toArray, List.getElem?_cons_succ, List.getElem?_cons_zero]; rfl) (by kernel_rfl) (by kernel_rfl) (by kernel_rfl) (fun _ _ _ h => h) (Or.inl ⟨by rfl, ?_⟩) (by assumption) ?_
      rotate_left 1
      · (intro w hSw; (try dsimp only at hSw); go_simp; try with_reducible rfl)
      try simp only [Act.put, List.setIfInBounds_toArray, List.set_cons_zero, List.set_cons_succ]
      refine wpAnyH_ready (rs := [15]) (by kernel_rfl) (by simp) ?_
      refine AllReadyH.cons (by simp only [List.getElem?_toArray, List.getElem?_cons_succ, List.getElem?_cons_zero]; rfl) (fun K hK => ?_) ?_
      rotate_left 1
      · exact AllReadyH.nil
      go_simp
      refine (ld_queue HD1.out.drew).mono ?_; rintro e w3 ⟨Aq2, cq2, rfl, hoq, hbq⟩; have Q3 := hide (Sl.of_own hoq); have B3 := hide ((Below.refl wr.heap.size wr).drew.trans hbq); have T0 := (K2.out.below B3.out).cell 0; have T2 := (K2.out.below B3.out).cell 2; have L3 := hide (Sl.of_own (own_keep HL.out B3.out)); clear hoq hbq; go_wp2_with fail
      refine hK.out _ _ ?_ (fun hHeld2 => ?_)
      · ((try dsimp only) <;> (first | trivial | assumption | go_keep))
      clear hHeld
      have hHeld := hHeld2
      clear hHeld2 hK K
      try simp only [Act.put, List.setIfInBounds_toArray, List.set_cons_zero, List.set_cons_succ]
      refine wpAnyH_ready (rs := [17]) (by kernel_rfl) (by simp) ?_
      refine AllReadyH.cons (by simp only [List.getElem?_toArray, List.getElem?_cons_succ, List.getElem?_cons_zero]; rfl) (fun K hK => ?_) ?_
      rotate_left 1
      · exact AllReadyH.nil
      go_simp
      refine (ints_same Aq2 A' D.queue.length cq2 c' _ _ _ w3 Q3.out L3.out (Nat.le_refl _) (Nat.le_refl _) hqn).mono ?_; rintro e w5 ⟨rfl, hb5⟩; have B5 := hide (B3.out.trans (hb5.mono B3.out.size)); have U0 := (K2.out.below B5.out).cell 0; have U2 := (K2.out.below B5.out).cell 2; clear hb5; go_wp2_with fail
      refine hK.out _ _ ?_ (fun hHeld2 => ?_)
      · ((try dsimp only) <;> (first | trivial | assumption | go_keep))
      clear hHeld
      have hHeld := hHeld2
      clear hHeld2 hK K
      try simp only [Act.put, List.setIfInBounds_toArray, List.set_cons_zero, List.set_cons_succ]
      refine wpAnyH_take (i := 18) (v := ?_) (by simp only [List.getElem?_toArray, List.getElem?_cons_succ, List.getElem?_cons_zero]; rfl) (by kernel_rfl) (by kernel_rfl) (by kernel_rfl) (fun _ _ _ h => h) (Or.inl ⟨by rfl, ?_⟩) (by assumption) ?_
      rotate_left 1
      · (intro w hSw; (try dsimp only at hSw); go_simp; try with_reducible rfl)
      try simp only [Act.put, List.setIfInBounds_toArray, List.set_cons_zero, List.set_cons_succ]
      refine wpAnyH_take (i := 19) (v := ?_) (by simp only [List.getElem?_toArray, List.getElem?_cons_succ, List.getElem?_cons_zero]; rfl) (by kernel_rfl) (by kernel_rfl) (by kernel_rfl) (fun _ _ _ h => h) (Or.inl ⟨by rfl, ?_⟩) (by assumption) ?_
      rotate_left 1
      · (intro w hSw; (try dsimp only at hSw); go_simp; try with_reducible rfl)
      try simp only [Act.put, List.setIfInBounds_toArray, List.set_cons_zero, List.set_cons_succ]
      refine wpAnyH_done (by kernel_rfl) ?_ _
      refine NoPanic.normal ?_
      have K5 := hide (K2.out.below B5.out)
      have HD5 := hide (HD1.out.below B5.out)
      have Hb5 := hide (Kb2.out.trans (B5.out.mono Kb2.out.size))
      clear T0 T2 U0 U2 S0 S2 hHeld Q3 L3 B3 B5 HL HD1 K2 Kb2 K1 Kb
      have V0 : w5.cell? ⟨w.heap.size, 0, none⟩ = some (.slice As D.sure.length cs) := K5.out.cell 0
      go_wp2_with fail
      clear V0
      go_loopw [49] (fun x wz => ∃ i : Nat, i ≤ D.sure.length ∧ x = .int .i64 (i : Int) ∧ Below w5.heap.size w5 wz) (fun x _ => D.sure.length - (intOf x).toNat)
      case atStart => exact ⟨0, Nat.zero_le _, rfl, Below.refl _ _⟩
      case round =>
        obtain ⟨i, hi, rfl, h2⟩ := hrel
        have H2 := hide h2
        clear h2
        by_cases hlt2 : i < D.sure.length
        · go_wp2_with fail
          refine (ld_read (HD5.out.below H2.out) i hlt2).mono ?_
          rintro e w6 ⟨gx, rfl, hgx, hbx, hblx⟩
          have B6 := hide (H2.out.trans (hblx.mono H2.out.size))
          have r64 : Hid ((D.read i).length = 64) := hide (read_len HD.out i hlt2)
          have X6 := hide hbx
          have K6 := hide (K5.out.below B6.out)
          have H6 := hide ((H.out.below Hb5.out).below B6.out)
          clear hbx hblx hgx H2
          have e1 := cvt' hcv (w := w6.drew) 64 (by_blk X6.out.drew r64.out)
          have ht := txt_eq (D.read i)
          obtain ⟨c0, c1, c2, c3, -⟩ := blk4 K6.out
          obtain ⟨rd, hrd⟩ : ∃ rd, rd = D.read i := ⟨_, rfl⟩
          rw [← hrd] at e1 ht r64 X6
          replace hrd := hide hrd
          go_wp2_with fail
          refine wp_region_noPanic ?_
          refine wp_region_held_drew (S := (fun w' => cv (.slice (some ⟨gx, 0, none⟩) 64 64) w' = .ok (.string (txt rd)) w' ∧ w'.cell? ⟨w.heap.size, 0, none⟩ = some (.slice As D.sure.length cs) ∧ w'.cell? ⟨w.heap.size, 1, none⟩ = some (.slice Aq D.queue.length cq) ∧ w'.cell? ⟨w.heap.size, 2, none⟩ = some (.int .i64 (D.steps : Int)) ∧ w'.cell? ⟨w.heap.size, 3, none⟩ = some (.int .i64 D.left))) (by kernel_rfl) ?_ (fun hHeld => ?_)
          · ((try dsimp only) <;> (first | trivial | assumption | go_keep))
          refine wpAnyH_take (i := 0) (v := ?_) (by simp only [List.getElem?_toArray, List.getElem?_cons_succ, List.getElem?_cons_zero]; rfl) (by kernel_rfl) (by kernel_rfl) (by kernel_rfl) (fun _ _ _ h => h) (Or.inl ⟨by rfl, ?_⟩) (by assumption) ?_
          rotate_left 1
          · (intro w hSw; (try dsimp only at hSw); go_simp; try with_reducible rfl)
          try simp only [Act.put, List.setIfInBounds_toArray, List.set_cons_zero, List.set_cons_succ]
          refine wpAnyH_take (i := 1) (v := ?_) (by simp only [List.getElem?_toArray, List.getElem?_cons_succ, List.getElem?_cons_zero]; rfl) (by kernel_rfl) (by kernel_rfl) (by kernel_rfl) (fun _ _ _ h => h) (Or.inl ⟨by rfl, ?_⟩) (by assumption) ?_
          rotate_left 1
          · (intro w hSw; (try dsimp only at hSw); go_simp; try with_reducible rfl)
          try simp only [Act.put, List.setIfInBounds_toArray, List.set_cons_zero, List.set_cons_succ]
          refine wpAnyH_take (i := 2) (v := ?_) (by simp only [List.getElem?_toArray, List.getElem?_cons_succ, List.getElem?_cons_zero]; rfl) (by kernel_rfl) (by kernel_rfl) (by kernel_rfl) (fun _ _ _ h => h) (Or.inl ⟨by rfl, ?_⟩) (by assumption) ?_
          rotate_left 1
          · (intro w hSw; (try dsimp only at hSw); go_simp; try with_reducible rfl)
          try simp only [Act.put, List.setIfInBounds_toArray, List.set_cons_zero, List.set_cons_succ]
          refine wpAnyH_take (i := 3) (v := ?_) (by simp only [List.getElem?_toArray, List.getElem?_cons_succ, List.getElem?_cons_zero]; rfl) (by kernel_rfl) (by kernel_rfl) (by kernel_rfl) (fun _ _ _ h => h) (Or.inl ⟨by rfl, ?_⟩) (by assumption) ?_
          rotate_left 1
          · (intro w hSw; (try dsimp only at hSw); go_simp; try with_reducible rfl)
          try simp only [Act.put, List.setIfInBounds_toArray, List.set_cons_zero, List.set_cons_succ]
          refine wpAnyH_take (i := 4) (v := ?_) (by simp only [List.getElem?_toArray, List.getElem?_cons_succ, List.getElem?_cons_zero]; rfl) (by kernel_rfl) (by kernel_rfl) (by kernel_rfl) (fun _ _ _ h => h) (Or.inl ⟨by rfl, ?_⟩) (by assumption) ?_
          rotate_left 1
          · (intro w hSw; (try dsimp only at hSw); go_simp; try with_reducible rfl)
          try simp only [Act.put, List.setIfInBounds_toArray, List.set_cons_zero, List.set_cons_succ]
          refine wpAnyH_take (i := 5) (v := ?_) (by simp only [List.getElem?_toArray, List.getElem?_cons_succ, List.getElem?_cons_zero]; rfl) (by kernel_rfl) (by kernel_rfl) (by kernel_rfl) (fun _ _ _ h => h) (Or.inl ⟨by rfl, ?_⟩) (by assumption) ?_
          rotate_left 1
          · (intro w hSw; (try dsimp only at hSw); go_simp; try with_reducible rfl)
          try simp only [Act.put, List.setIfInBounds_toArray, List.set_cons_zero, List.set_cons_succ]
          refine wpAnyH_take (i := 6) (v := ?_) (by simp only [List.getElem?_toArray, List.getElem?_cons_succ, List.getElem?_cons_zero]; rfl) (by kernel_rfl) (by kernel_rfl) (by kernel_rfl) (fun _ _ _ h => h) (Or.inl ⟨by rfl, ?_⟩) (by assumption) ?_
          rotate_left 1
          · (intro w hSw; (try dsimp only at hSw); go_simp; try with_reducible rfl)
          try simp only [Act.put, List.setIfInBounds_toArray, List.set_cons_zero, List.set_cons_succ]
          refine wpAnyH_ready (rs := [7]) (by kernel_rfl) (by simp) ?_
          refine AllReadyH.cons (by simp only [List.getElem?_toArray, List.getElem?_cons_succ, List.getElem?_cons_zero]; rfl) (fun K hK => ?_) ?_
          rotate_left 1
          · exact AllReadyH.nil
          go_simp
          have hrc := rread_any w6.drew base As cs Aq cq D (H6.out.below (Below.refl _ _).drew) i hlt2; rw [hV.out] at hrc; refine hrc.mono ?_; clear hrc; rintro e w7 ⟨rfl, hb7⟩; rw [← hrd.out]; have B7 := hide ((Below.refl w6.heap.size w6).drew.trans hb7); have e2 := cvt' hcv (w := w7) 64 (by_blk (X6.out.below B7.out) r64.out); obtain ⟨d0, d1, d2, d3, -⟩ := blk4 (K6.out.below B7.out); clear hb7; go_wp2_with fail
          refine hK.out _ _ ?_ (fun hHeld2 => ?_)
          · ((try dsimp only) <;> (first | trivial | assumption | go_keep))
          clear hHeld
          have hHeld := hHeld2
          clear hHeld2 hK K
          try simp only [Act.put, List.setIfInBounds_toArray, List.set_cons_zero, List.set_cons_succ]
          refine wpAnyH_take (i := 8) (v := ?_) (by simp only [List.getElem?_toArray, List.getElem?_cons_succ, List.getElem?_cons_zero]; rfl) (by kernel_rfl) (by kernel_rfl) (by kernel_rfl) (fun _ _ _ h => h) (Or.inl ⟨by rfl, ?_⟩) (by assumption) ?_
          rotate_left 1
          · (intro w hSw; (try dsimp only at hSw); go_simp; try with_reducible rfl)
          try simp only [Act.put, List.setIfInBounds_toArray, List.set_cons_zero, List.set_cons_succ]
          refine wpAnyH_take (i := 9) (v := ?_) (by simp only [List.getElem?_toArray, List.getElem?_cons_succ, List.getElem?_cons_zero]; rfl) (by kernel_rfl) (by kernel_rfl) (by kernel_rfl) (fun _ _ _ h => h) (Or.inl ⟨by rfl, ?_⟩) (by assumption) ?_
          rotate_left 1
          · (intro w hSw; (try dsimp only at hSw); go_simp; try with_reducible rfl)
          try simp only [Act.put, List.setIfInBounds_toArray, List.set_cons_zero, List.set_cons_succ]
          refine wpAnyH_done (by kernel_rfl) ?_ _
          refine NoPanic.normal ?_
          go_wp2_with fail
          go_roundw
          case rel => exact ⟨i + 1, by omega, by go_num, B6.out.trans (B7.out.mono B6.out.size)⟩
          case measure => simp [intOf]; omega
        · go_wp2_with fail
          go_ret
          exact ⟨rfl, Hb5.out.trans (H2.out.mono Hb5.out.size)⟩
end Go.Proofs.Ytfaingklglelnaa

/- The program's disk and the reference's disk side by side: what each call of the one leaves of the other. -/
namespace Go.Proofs.Ytfaingklglelnaa
open Go.RowKit

/-- The program's disk reads D, the reference's E; no block is of both. -/
structure PJ (w0 w : World) (d : Nat) (D : Dsk) (As : Option Addr) (cs : Nat) (Aq : Option Addr) (cq : Nat) (E : Dsk) : Prop where
  ld : LD w0 w d D
  rm : RefM w w0.heap.size As cs Aq cq E
  os : ∀ g, (Value.slice As 0 0).ownBlock = some g → Out w0 w d D g
  oq : ∀ g, (Value.slice Aq 0 0).ownBlock = some g → Out w0 w d D g
section
variable {w0 w w' : World} {d : Nat} {D D' E E' : Dsk} {As Aq As' Aq' : Option Addr} {cs cq cs' cq' : Nat}
theorem PJ.below (h : PJ w0 w d D As cs Aq cq E) (hb : Below w.heap.size w w') : PJ w0 w' d D As cs Aq cq E :=
  ⟨h.ld.below hb, h.rm.below hb, fun g hg => (h.os g hg).below hb, fun g hg => (h.oq g hg).below hb⟩
theorem PJ.drew (h : PJ w0 w d D As cs Aq cq E) : PJ w0 w.drew d D As cs Aq cq E := h.below (Below.refl _ _).drew
theorem PJ.alloc (h : PJ w0 w d D As cs Aq cq E) (o : Obj) : PJ w0 (w.alloc o) d D As cs Aq cq E := h.below ((Below.refl _ _).alloc (Nat.le_refl _) o)
/-- Behind a call of the program's. -/
theorem PJ.prog (h : PJ w0 w d D As cs Aq cq E) (hl : LD w0 w' d D') {gs : List Nat} (hK : Kp gs w w') (hf : ∀ k, Out w0 w d D k → k ∉ gs ∧ Out w0 w' d D' k) : PJ w0 w' d D' As cs Aq cq E :=
  ⟨hl, h.rm.kp hK (fun g hg => (hf g (h.os g hg)).1) (fun g hg => (hf g (h.oq g hg)).1), fun g hg => (hf g (h.os g hg)).2, fun g hg => (hf g (h.oq g hg)).2⟩
/-- Behind a call of the reference's. -/
theorem PJ.ref (h : PJ w0 w d D As cs Aq cq E) (hb : Below w.heap.size w w') (hr : RefM w' w0.heap.size As' cs' Aq' cq' E')
    (hs : ∀ g, (Value.slice As' 0 0).ownBlock = some g → w.heap.size ≤ g ∨ (Value.slice As 0 0).ownBlock = some g)
    (hq : ∀ g, (Value.slice Aq' 0 0).ownBlock = some g → w.heap.size ≤ g ∨ (Value.slice Aq 0 0).ownBlock = some g) : PJ w0 w' d D As' cs' Aq' cq' E' :=
  ⟨h.ld.below hb, hr, fun g hg => (hs g hg).elim (fun hk => h.ld.out hb hk (hr.sLt g hg).2) (fun hk => (h.os g hk).below hb),
    fun g hg => (hq g hg).elim (fun hk => h.ld.out hb hk (hr.qLt g hg).2) (fun hk => (h.oq g hk).below hb)⟩
theorem PJ.to (h : PJ w0 w d D As cs Aq cq E) (e1 : E'.sure = E.sure) (e2 : E'.queue = E.queue) (ok : E'.Ok) : PJ w0 w d D As cs Aq cq E' :=
  ⟨h.ld, h.rm.to e1 e2 ok, h.os, h.oq⟩
theorem ld_arm_ok2 (h : LD w0 w d D) (n : Int) (h0 : 0 ≤ n) (h1 : n ≤ 9223372036854775807) (hl : D.left ≠ 0) : Calls Try.prog 23 #[.pointer (some ⟨d, 0, none⟩), .int .i64 n] w fun e w' => e = .returned (.int .i64 0) ∧ LD w0 w' d { D with left := n } ∧
      ∃ gs, Kp gs w w' ∧ ∀ k, Out w0 w d D k → k ∉ gs ∧ Out w0 w' d { D with left := n } k := by
  obtain ⟨s, v, hD⟩ := h.ex
  refine (arm_ok w _ d s v D n hD h0 h1 hl).mono ?_
  rintro e w' ⟨rfl, hD', hk⟩
  refine ⟨rfl, ⟨⟨s, v, hD'⟩, Below.kp2 h.bel hk h.bel.size (by simpa using hD.db)⟩, [d], hk, fun k hn => ?_⟩
  obtain ⟨hkl, s2, v2, hD2, n1, n2, n3⟩ := hn
  obtain ⟨rfl, rfl⟩ := dsk_same hD hD2
  exact ⟨by simp [n1], Nat.lt_of_lt_of_le hkl hk.size, s, v, hD', n1, n2, n3⟩
/-- A write whose bytes lie at the head of a block that may be longer. -/
theorem ld_write2 (h : LD w0 w d D) (i : Nat) (g c : Nat) (t : TypeId) (b : List UInt8) (cs : Array Value) (hi : i < D.sure.length) (hl : D.left ≠ 0) (hs : D.steps < 1000000) (hq : D.queue.length < 1000000) (hb : b.length = 64) (hc : 64 ≤ c) (hg : Blk w g t cs) (hcs : ∀ (j : Nat) (u : Value), (u8s b)[j]? = some u → cs[j]? = some u) (hgd : g ≠ d) :
    Calls Try.prog 31 #[.pointer (some ⟨d, 0, none⟩), .int .i64 (i : Int), .slice (some ⟨g, 0, none⟩) 64 c] w fun e w' => e = .returned (.int .i64 0) ∧ LD w0 w' d (D.wrote i b) ∧
      ∃ gs, Kp gs w w' ∧ ∀ k, Out w0 w d D k → k ∉ gs ∧ Out w0 w' d (D.wrote i b) k := by
  obtain ⟨s, v, hD⟩ := h.ex
  refine (write_ok w _ d s v D i ⟨g, 0, none⟩ c b hD hi hl hs hq hb hc (fun w' hk j u hu => by
    rw [Addr.add_mid, Nat.zero_add, (hg.kp hk (by simpa using hgd)).cell]
    exact hcs j u hu)).mono ?_
  rintro e w' ⟨rfl, v', hD', hk, hnew⟩
  refine ⟨rfl, ⟨⟨s, v', hD'⟩, ?_⟩, d :: v.ownBlock.toList, hk (d :: v.ownBlock.toList) (by simp) (fun g hg => by simp [hg]), fun k hn => ?_⟩
  · refine Below.kp2 h.bel (hk (d :: v.ownBlock.toList) (by simp) (fun g hg => by simp [hg])) h.bel.size (fun g hg => ?_)
    rcases List.mem_cons.1 hg with rfl | hg
    · exact hD.db
    · exact (dsk_own hD (by simpa using hg)).1
  · obtain ⟨hkl, s2, v2, hD2, n1, n2, n3⟩ := hn
    obtain ⟨rfl, rfl⟩ := dsk_same hD hD2
    have hK := hk (d :: v.ownBlock.toList) (by simp) (fun g hg => by simp [hg])
    refine ⟨?_, Nat.lt_of_lt_of_le hkl hK.size, s, v', hD', n1, n2, ?_⟩
    · intro hm
      rcases List.mem_cons.1 hm with rfl | hm
      · exact n1 rfl
      · exact n3 (by simpa using hm)
    · intro e
      rcases hnew k e with h | h
      · exact n3 h
      · omega
end

/-- Beside the two disks a third one, that came of a crash: its blocks lie above B and are none of the old one's. -/
structure PC (w0 w : World) (B d : Nat) (D : Dsk) (c : Nat) (C : Dsk) (As : Option Addr) (cs : Nat) (Aq : Option Addr) (cq : Nat) (E : Dsk) : Prop where
  old : PJ w0 w d D As cs Aq cq E
  new : ∃ s v, DskA w B c s v C ∧ ∀ k, (k = c ∨ k = s ∨ v.ownBlock = some k) → Out w0 w d D k
  hB : w0.heap.size ≤ B
  ls : ∀ g, (Value.slice As 0 0).ownBlock = some g → g < B
  lq : ∀ g, (Value.slice Aq 0 0).ownBlock = some g → g < B
section
variable {w0 w w' : World} {B d c : Nat} {D D' C E E' : Dsk} {As Aq As' Aq' : Option Addr} {cs cq cs' cq' : Nat}
theorem PC.of (h : PJ w0 w d D As cs Aq cq E) (hc : LD w w' c C) : PC w0 w' w.heap.size d D c C As cs Aq cq E := by
  obtain ⟨s, v, hC⟩ := hc.ex
  refine ⟨h.below hc.bel, ⟨s, v, hC, ?_⟩, h.ld.sz, fun g hg => (h.rm.sLt g hg).2, fun g hg => (h.rm.qLt g hg).2⟩
  rintro k (rfl | rfl | hk)
  · exact h.ld.out hc.bel hC.db hC.hd.lt
  · exact h.ld.out hc.bel hC.sb hC.hs.lt
  · exact h.ld.out hc.bel (dsk_own hC hk).1 (dsk_own hC hk).2
theorem PC.below (h : PC w0 w B d D c C As cs Aq cq E) (hb : Below w.heap.size w w') : PC w0 w' B d D c C As cs Aq cq E := by
  obtain ⟨s, v, hC, ho⟩ := h.new
  exact ⟨h.old.below hb, ⟨s, v, dsk_kp hC (Kp.of_below (gs := []) hb) (by simp) (by simp) (by simp), fun k hk => (ho k hk).below hb⟩, h.hB, h.ls, h.lq⟩
theorem PC.drew (h : PC w0 w B d D c C As cs Aq cq E) : PC w0 w.drew B d D c C As cs Aq cq E := h.below (Below.refl _ _).drew
theorem PC.alloc (h : PC w0 w B d D c C As cs Aq cq E) (o : Obj) : PC w0 (w.alloc o) B d D c C As cs Aq cq E := h.below ((Below.refl _ _).alloc (Nat.le_refl _) o)
theorem PC.prog (h : PC w0 w B d D c C As cs Aq cq E) (hl : LD w0 w' d D') {gs : List Nat} (hK : Kp gs w w') (hf : ∀ k, Out w0 w d D k → k ∉ gs ∧ Out w0 w' d D' k) : PC w0 w' B d D' c C As cs Aq cq E := by
  obtain ⟨s, v, hC, ho⟩ := h.new
  exact ⟨h.old.prog hl hK hf, ⟨s, v, dsk_kp hC hK (hf c (ho c (.inl rfl))).1 (hf s (ho s (.inr (.inl rfl)))).1 (fun g hg => (hf g (ho g (.inr (.inr hg)))).1), fun k hk => (hf k (ho k hk)).2⟩, h.hB, h.ls, h.lq⟩
/-- The old disk is let go. -/
theorem PC.fin (h : PC w0 w B d D c C As cs Aq cq E) : PJ w0 w c C As cs Aq cq E := by
  obtain ⟨s, v, hC, ho⟩ := h.new
  have hC' := dsk_base hC h.hB
  refine ⟨⟨⟨s, v, hC'⟩, h.old.ld.bel⟩, h.old.rm, fun g hg => ⟨(h.old.rm.sLt g hg).2, s, v, hC', ?_, ?_, ?_⟩, fun g hg => ⟨(h.old.rm.qLt g hg).2, s, v, hC', ?_, ?_, ?_⟩⟩
  · have := h.ls g hg; have := hC.db; omega
  · have := h.ls g hg; have := hC.sb; omega
  · intro e; have := h.ls g hg; have := (dsk_own hC e).1; omega
  · have := h.lq g hg; have := hC.db; omega
  · have := h.lq g hg; have := hC.sb; omega
  · intro e; have := h.lq g hg; have := (dsk_own hC e).1; omega
end
end Go.Proofs.Ytfaingklglelnaa

/- The type of slices of bytes, of bools: what the program says of them. -/
namespace Go.Proofs.Ytfaingklglelnaa
open Go.RowKit
theorem etyB : Ety Try.prog 24 5 (.int .u8 0) 1 := Ety.mk' Try.underlying24 (by kernel_rfl) rfl (by omega)
theorem etyBool : Ety Try.prog 55 4 (.bool false) 1 := Ety.mk' Try.underlying55 (by kernel_rfl) rfl (by omega)
/-- append of a row of one-cell elements at a step of a region that draws its order. -/
theorem step_app {P : Program} {ops : Array Oper} {o : Oper} {a : Act} {w : World} {K : Act → World → Prop} {Q : Exit → Act → World → Prop} {E : Prop} (hgd : o.guard = none) (s x : Operand) (t : TypeId)
    (ho : o.op = .call { callee := .builtin .append, args := #[s, x], argTypes := #[t, t] })
    {e : TypeId} {z : Value} {bytes : Nat} (hE : Ety P t e z bytes) (base : Nat) (v : Value) (n : Nat) (xs : List Value) (hs : a.eval s = v) (hown : w.ownsRow base e 1 v n xs)
    (B : Nat) (A : Option Addr) (m c : Nat) (news : List Value) (hx : a.eval x = .slice A m c) (hr : Sl w B A m news) (h1 : ∀ u ∈ news, u.oneCell' = true)
    (hbytes : (n + m) * bytes ≤ 140737488355328) (hbase : base ≤ w.heap.size)
    (h : ∀ A' c' w', w'.ownsRow base e 1 (.slice A' (n + m) c') (n + m) (xs ++ news) → w.grownBy w' v.ownBlock →
      ((Value.slice A' (n + m) c').ownBlock = v.ownBlock ∨ (Value.slice A' (n + m) c').ownBlock = some w.heap.size) → K (a.put o.dst (.slice A' (n + m) c')) w') :
    if Region.wanted o (yielded ops a.tmps) = true then Oper.wp P o a w K Q else E := by
  have hw : Region.wanted o (yielded ops a.tmps) = true := by simp [Region.wanted, hgd]
  rw [if_pos hw]
  exact wp_app w s x t ho hE base v n xs hs hown B A m c news hx hr h1 hbytes hbase h
end Go.Proofs.Ytfaingklglelnaa

/- slices.Chunk of bytes: the iterator's contract. -/
namespace Go.Proofs.Ytfaingklglelnaa
open Go.RowKit Go.Shelf
attribute [local go_sem] Oper.semAt_some
/-- Go's min, kept whole in a walk. -/
def minK_KpS_refl (ts : Array TypeId) (t : TypeId) (vs : Array Value) : Sem Value := Builtin.min_ ts t vs
theorem minK_KpS_refl_keep (ts : Array TypeId) (t : TypeId) (vs : Array Value) : Builtin.min_ ts t vs = minK_KpS_refl ts t vs := rfl
attribute [local go_sem ↓] minK_KpS_refl_keep

/-- These blocks stay. -/
def KpS (gs : List Nat) (A B : World) : Prop := ∀ g ∈ gs, B.heap[g]? = A.heap[g]?
theorem KpS.refl (gs : List Nat) (A : World) : KpS gs A A := fun _ _ => rfl
theorem KpS.trans {gs : List Nat} {A B C : World} (h : KpS gs A B) (k : KpS gs B C) : KpS gs A C := fun g hg => (k g hg).trans (h g hg)
theorem KpS.put {gs : List Nat} {w : World} (hlt : ∀ g ∈ gs, g < w.heap.size) (W : World) (l : Nat) (o o' : Obj) (hl : w.heap.size ≤ l) (h : W.heap[l]? = some o) (_ : o.isCells = false) (_ : o.isWalk = false) : KpS gs W (W.putObj l o') := fun g hg => by
  have h1 := hlt g hg
  have h2 := (Array.getElem?_eq_some_iff.1 h).1
  exact (grownBy_putObj' W l o').block g (by omega) (fun e => by cases e; omega)
theorem KpS.cell {gs : List Nat} {A B : World} (h : KpS gs A B) {g : Nat} (hg : g ∈ gs) (i : Nat) : B.cell? ⟨g, i, none⟩ = A.cell? ⟨g, i, none⟩ := World.cell?_of_block (h g hg)

theorem run_cut_lhm {P : Program} {t e : TypeId} {z : Value} {bytes : Nat} (hE : Ety P t e z bytes) (ad : Addr) (n c : Nat) (w : World) (k h m : Nat) (k1 k2 k3 : IntKind) (hk : k ≤ h) (hh : h ≤ m) (hm : m ≤ c) (hlt : k < m) :
    (Instr.slice t (.slice (some ad) n c) (some (.int k1 (k : Int))) (some (.int k2 (h : Int))) (some (.int k3 (m : Int)))).run P w = .ok (.slice (some (ad.add k)) (h - k) (m - k)) w := by
  obtain ⟨i, hi, hz, hs, hb⟩ := hE.info
  have hkm : ¬ m = k := by omega
  have hkm' : ¬ m ≤ k := by omega
  simp [Instr.slice, run_underlying hE.under, sizeOf, typeInfo, hi, hs, Instr.sliceBounds, Instr.sliceBound, asIntOf, hk, hh, hm, hkm, hkm', sliced]
set_option maxRecDepth 100000 in
set_option maxHeartbeats 2000000 in
theorem chunk1_in (n : Nat) (hn : 1 ≤ n) (l Bs Bp b K p c : Nat) (hp : 1 ≤ p ∧ p ≤ 1000) (hK : K ≤ 1000) (hc : p * K ≤ c) (hc2 : c ≤ 1000000) (J Jx : List (Fin K) → World → Prop)
    (hY : ∀ (pre : List (Fin K)) (x : Fin K) (W : World), J pre W → pre.length < K → YieldAt Fence.wide (n - 1) Try.prog l #[.slice (some ⟨b, p * x.1, none⟩) p p] W fun e W' =>
      (e = .returned (.bool true) ∧ J (pre ++ [x]) W' ∧ KpS [Bs, Bp] W W') ∨ (e = .returned (.bool false) ∧ Jx (pre ++ [x]) W'))
    (hJd : ∀ (pre : List (Fin K)) (W : World), J pre W → J pre W.drew) (W : World) (hs : W.cell? ⟨Bs, 0, none⟩ = some (.slice (some ⟨b, 0, none⟩) (p * K) c)) (hz : W.cell? ⟨Bp, 0, none⟩ = some (.int .i64 (p : Int))) (h0 : J [] W) :
    CallsIn Fence.wide n Try.prog 53 #[.func (.yield l) #[] #[], .pointer (some ⟨Bs, 0, none⟩), .pointer (some ⟨Bp, 0, none⟩)] W fun e W' => (∃ v, e = .returned v) ∧
      ((∃ ys : List (Fin K), ys.map (·.1) = List.range K ∧ J ys W') ∨ (∃ pre : List (Fin K), (∃ k, k ≤ K ∧ pre.map (·.1) = List.range k) ∧ Jx pre W')) := by
  obtain ⟨N, hN⟩ : ∃ N, N = p * K := ⟨_, rfl⟩
  rw [← hN] at hc hs
  have HY := hide hY
  clear hY
  refine callsIn_of_wp Try.func53 rfl trivial ?_ rfl
  simp only [Try.ntmps53, List.size_toArray, List.length_cons, List.length_nil, Nat.reduceAdd, Nat.reduceSub, Array.replicate_succ, Array.replicate_zero, List.push_toArray, List.append_toArray, List.nil_append, List.cons_append]
  gi_wp2
  gi_loopw [4] (fun i wr => ∃ (k : Nat) (pre : List (Fin K)), k ≤ K ∧ i = .int .i64 ((p * k : Nat) : Int) ∧ pre.map (·.1) = List.range k ∧ J pre wr ∧ KpS [Bs, Bp] W wr)
    (fun i _ => N - (intOf i).toNat)
  case atStart => exact ⟨0, [], Nat.zero_le _, by simp, rfl, h0, KpS.refl _ _⟩
  case round =>
    obtain ⟨k, pre, hk, rfl, hpre, hJ, hkp⟩ := hrel
    have e1 := (hkp.cell (g := Bs) (by simp) 0).trans hs
    have e2 := (hkp.cell (g := Bp) (by simp) 0).trans hz
    by_cases hlt : k < K
    · have hlen : pre.length = k := by have := congrArg List.length hpre; simpa using this
      obtain ⟨fn, tmps, assign, body, hy, hR⟩ := HY.out pre ⟨k, hlt⟩ wr.drew (hJd _ _ hJ) (by omega)
      obtain ⟨m, hm⟩ : ∃ m, m = p * k := ⟨_, rfl⟩
      have hmN : m + p ≤ N := by rw [hm, hN, ← Nat.mul_succ]; exact Nat.mul_le_mul_left p hlt
      have hmlt : (m : Int) < (N : Int) := by omega
      have hmle : (m : Int) ≤ (N : Int) := by omega
      have hsl : ∀ w, (Instr.slice 24 (.slice (some ⟨b, 0, none⟩) N c) (some (.int .i64 (m : Int))) none none).run Try.prog w = .ok (.slice (cutA (some ⟨b, 0, none⟩) c m) (N - m) (c - m)) w := fun w => run_cut_l etyB _ N c w m .i64 (by omega)
      have hsm : ∀ w, (Instr.slice 24 (.slice (some ⟨b, 0, none⟩) N c) (some (.int .i64 (m : Int))) (some (.int .i64 ((m + p : Nat) : Int))) (some (.int .i64 ((m + p : Nat) : Int)))).run Try.prog w = .ok (.slice (some ⟨b, m, none⟩) p p) w := fun w => by
        have := run_cut_lhm etyB ⟨b, 0, none⟩ N c w m (m + p) (m + p) .i64 .i64 .i64 (by omega) (Nat.le_refl _) (by omega) (by omega)
        rw [Addr.add_lit, Nat.zero_add, Nat.add_sub_cancel_left] at this
        exact this
      have hmin : ∀ (ts : Array TypeId) (t : TypeId) (w : World), (minK_KpS_refl ts t #[.int .i64 (p : Int), .int .i64 ((N - m : Nat) : Int)]).run Try.prog w = .ok (.int .i64 (p : Int)) w := fun ts t w => by
        rw [← minK_KpS_refl_keep, run_min_int2]
        split <;> first | rfl | (congr 2; omega)
      have hwm : IntKind.i64.wrap ((m : Int) + (p : Int)) = ((m + p : Nat) : Int) := by rw [IntKind.wrap_i64]; omega
      dsimp only at hy
      rw [← hm] at hy ⊢
      have hm' := hide hm
      have hN' := hide hN
      clear hm hN
      gi_wp2
      refine wpIn_wide.2 ?_
      refine wp_region_noPanic ?_
      refine wp_region_held_drew (S := (fun w' => w'.cell? ⟨Bs, 0, none⟩ = some (.slice (some ⟨b, 0, none⟩) N c) ∧ w'.cell? ⟨Bp, 0, none⟩ = some (.int .i64 (p : Int)))) (by kernel_rfl) ?_ (fun hHeld => ?_)
      · ((try dsimp only) <;> (first | trivial | assumption | go_keep))
      refine wpAnyH_take (i := 0) (v := ?_) (by simp only [List.getElem?_toArray, List.getElem?_cons_succ, List.getElem?_cons_zero]; rfl) (by kernel_rfl) (by kernel_rfl) (by kernel_rfl) (fun _ _ _ h => h) (Or.inl ⟨by rfl, ?_⟩) (by assumption) ?_
      rotate_left 1
      · (intro w hSw; (try dsimp only at hSw); go_simp; try with_reducible rfl)
      try simp only [Act.put, List.setIfInBounds_toArray, List.set_cons_zero, List.set_cons_succ]
      refine wpAnyH_take (i := 1) (v := ?_) (by simp only [List.getElem?_toArray, List.getElem?_cons_succ, List.getElem?_cons_zero]; rfl) (by kernel_rfl) (by kernel_rfl) (by kernel_rfl) (fun _ _ _ h => h) (Or.inl ⟨by rfl, ?_⟩) (by assumption) ?_
      rotate_left 1
      · (intro w hSw; (try dsimp only at hSw); go_simp; try with_reducible rfl)
      try simp only [Act.put, List.setIfInBounds_toArray, List.set_cons_zero, List.set_cons_succ]
      refine wpAnyH_take (i := 2) (v := ?_) (by simp only [List.getElem?_toArray, List.getElem?_cons_succ, List.getElem?_cons_zero]; rfl) (by kernel_rfl) (by kernel_rfl) (by kernel_rfl) (fun _ _ _ h => h) (Or.inl ⟨by rfl, ?_⟩) (by assumption) ?_
      rotate_left 1
      · (intro w hSw; (try dsimp only at hSw); go_simp; try with_reducible rfl)
      try simp only [Act.put, List.setIfInBounds_toArray, List.set_cons_zero, List.set_cons_succ]
      refine wpAnyH_take (i := 3) (v := ?_) (by simp only [List.getElem?_toArray, List.getElem?_cons_succ, List.getElem?_cons_zero]; rfl) (by kernel_rfl) (by kernel_rfl) (by kernel_rfl) (fun _ _ _ h => h) (Or.inl ⟨by rfl, ?_⟩) (by assumption) ?_
      rotate_left 1
      · (intro w hSw; (try dsimp only at hSw); go_simp; try with_reducible rfl)
      try simp only [Act.put, List.setIfInBounds_toArray, List.set_cons_zero, List.set_cons_succ]
      refine wpAnyH_take (i := 4) (v := ?_) (by simp only [List.getElem?_toArray, List.getElem?_cons_succ, List.getElem?_cons_zero]; rfl) (by kernel_rfl) (by kernel_rfl) (by kernel_rfl) (fun _ _ _ h => h) (Or.inl ⟨by rfl, ?_⟩) (by assumption) ?_
      rotate_left 1
      · (intro w hSw; (try dsimp only at hSw); go_simp; try with_reducible rfl)
      try simp only [Act.put, List.setIfInBounds_toArray, List.set_cons_zero, List.set_cons_succ]
      refine wpAnyH_ready (rs := [5]) (by kernel_rfl) (by simp) ?_
      refine AllReadyH.cons (by simp only [List.getElem?_toArray, List.getElem?_cons_succ, List.getElem?_cons_zero]; rfl) (fun K hK => ?_) ?_
      rotate_left 1
      · exact AllReadyH.nil
      go_simp
      refine hK.out _ _ ?_ (fun hHeld2 => ?_)
      · ((try dsimp only) <;> (first | trivial | assumption | go_keep))
      clear hHeld
      have hHeld := hHeld2
      clear hHeld2 hK K
      try simp only [Act.put, List.setIfInBounds_toArray, List.set_cons_zero, List.set_cons_succ]
      refine wpAnyH_take (i := 6) (v := ?_) (by simp only [List.getElem?_toArray, List.getElem?_cons_succ, List.getElem?_cons_zero]; rfl) (by kernel_rfl) (by kernel_rfl) (by kernel_rfl) (fun _ _ _ h => h) (Or.inl ⟨by rfl, ?_⟩) (by assumption) ?_
      rotate_left 1
      · (intro w hSw; (try dsimp only at hSw); go_simp; try with_reducible rfl)
      try simp only [Act.put, List.setIfInBounds_toArray, List.set_cons_zero, List.set_cons_succ]
      refine wpAnyH_done (by kernel_rfl) ?_ _
      refine NoPanic.normal ?_
      have hMW := hide (show m = p * k ∧ N = p * K from ⟨hm'.out, hN'.out⟩)
      have hkd : KpS [Bs, Bp] W wr.drew := fun g hg => hkp g hg
      have e1d : wr.drew.cell? ⟨Bs, 0, none⟩ = some (.slice (some ⟨b, 0, none⟩) N c) := e1
      generalize wr.drew = w2 at *
      clear hHeld e1 e2 hm' hN' hkp hJ
      gi_wp2
      refine hR.mono ?_
      rintro e W3 (⟨rfl, hJ3, hk3⟩ | ⟨rfl, hJx3⟩)
      · have hk4 := hkd.trans hk3
        have e2' := (hk4.cell (g := Bp) (by simp) 0).trans hz
        clear hk3 hsl hsm hmin
        gi_wp2
        go_roundw
        case rel => exact ⟨k + 1, pre ++ [⟨k, hlt⟩], by omega, by rw [Nat.mul_succ, ← hMW.out.1, Int.natCast_add], by rw [List.map_append, hpre, List.range_succ]; rfl, hJ3, hk4⟩
        case measure => simp [intOf]; omega
      · clear hsl hsm hmin
        gi_wp2
        refine bodyPost_ret (results_none rfl _ _ _) rfl ?_
        exact ⟨⟨_, rfl⟩, .inr ⟨pre ++ [⟨k, hlt⟩], ⟨k + 1, by omega, by rw [List.map_append, hpre, List.range_succ]; rfl⟩, hJx3⟩⟩
    · have hkK : k = K := by omega
      have hend : ¬ (((p * k : Nat) : Int) < (N : Int)) := by rw [hkK, hN]; omega
      have HPRE := hide (show pre.map (·.1) = List.range K by rw [hpre, hkK])
      clear hkK hpre
      generalize p * k = m at *
      gi_wp2
      go_end0
      exact ⟨⟨_, rfl⟩, .inl ⟨pre, HPRE.out, hJ⟩⟩
set_option maxHeartbeats 1000000 in
/-- The iterator's maker. -/
theorem chunk_any (A : Option Addr) (n c : Nat) (p : Nat) (hp : 1 ≤ p) (w : World) : Calls Try.prog 36 #[.slice A n c, .int .i64 (p : Int)] w fun e w' => e = .returned (.func (.func 53) #[] #[.pointer (some ⟨w.heap.size, 0, none⟩), .pointer (some ⟨w.heap.size + 1, 0, none⟩)]) ∧ w' = (w.alloc (.cells #[.slice A n c] 24)).alloc (.cells #[.int .i64 (p : Int)] 3) := by
  have hp' : ¬ (p : Int) < 1 := by omega
  go_enter Try.func36, Try.ntmps36
  go_wp2_with fail
  go_ret
  exact ⟨rfl, rfl⟩
/-- It hands out K pieces of p bytes each. -/
theorem chunk_stops (n : Nat) (hn : 1 ≤ n) (Bs Bp b K p c : Nat) (hp : 1 ≤ p ∧ p ≤ 1000) (hK : K ≤ 1000) (hc : p * K ≤ c) (hc2 : c ≤ 1000000) (w : World) (hBs : Bs < w.heap.size) (hBp : Bp < w.heap.size)
    (hs : w.cell? ⟨Bs, 0, none⟩ = some (.slice (some ⟨b, 0, none⟩) (p * K) c)) (hz : w.cell? ⟨Bp, 0, none⟩ = some (.int .i64 (p : Int))) :
    SeqStopsK Fence.wide n Try.prog 53 #[.pointer (some ⟨Bs, 0, none⟩), .pointer (some ⟨Bp, 0, none⟩)] (fun x : Fin K => #[.slice (some ⟨b, p * x.1, none⟩) p p]) (KpS [Bs, Bp])
      (fun ys => ys.map (·.1) = List.range K) (fun pre => ∃ k, k ≤ K ∧ pre.map (·.1) = List.range k) K w := fun l J Jx W hW hJ hJx hY h0 => by
  have h1 := (hW.cell (p := ⟨Bs, 0, none⟩) hBs).trans hs
  have h2 := (hW.cell (p := ⟨Bp, 0, none⟩) hBp).trans hz
  exact chunk1_in n hn l Bs Bp b K p c hp hK hc hc2 J Jx hY (fun pre W1 h => hJ pre W1 W1.drew none h ⟨rfl, rfl, rfl, Nat.le_refl _, fun _ _ _ => rfl⟩ (by simp)) W h1 h2 h0
end Go.Proofs.Ytfaingklglelnaa

/- Numbers as their lowest bytes. No program in sight. -/
namespace Go.Proofs.Ytfaingklglelnaa
open Go.RowKit

/-- A number's lowest bytes. -/
def leN (n k : Nat) : List UInt8 := (List.range k).map fun i => UInt8.ofNat (n / 256 ^ i)
theorem leN_length (n k : Nat) : (leN n k).length = k := by simp [leN]
theorem leN_succ (n k : Nat) : leN n (k + 1) = leN n k ++ [UInt8.ofNat (n / 256 ^ k)] := by simp [leN, List.range_succ]
theorem leN_two (n : Nat) : leN n 2 = [UInt8.ofNat n, UInt8.ofNat (n / 256)] := by simp [leN, List.range_succ]
/-- The number that bytes are. -/
def numL : List UInt8 → Nat
  | [] => 0
  | b :: l => b.toNat + 256 * numL l
theorem numL_snoc (l : List UInt8) (b : UInt8) : numL (l ++ [b]) = numL l + b.toNat * 256 ^ l.length := by
  induction l with
  | nil => simp [numL]
  | cons x l ih => simp only [List.cons_append, numL, ih, List.length_cons, Nat.pow_succ]; rw [Nat.mul_add]; rw [show 256 * (b.toNat * 256 ^ l.length) = b.toNat * (256 ^ l.length * 256) by rw [Nat.mul_comm 256, Nat.mul_assoc]]; omega
theorem numL_lt (l : List UInt8) : numL l < 256 ^ l.length := by
  induction l with
  | nil => simp [numL]
  | cons x l ih =>
    have := x.toNat_lt
    simp only [numL, List.length_cons, Nat.pow_succ]
    omega
theorem numL_leN (n k : Nat) : numL (leN n k) = n % 256 ^ k := by
  induction k with
  | zero => simp [leN, numL, Nat.mod_one]
  | succ k ih => rw [leN_succ, numL_snoc, ih, leN_length, Nat.mod_pow_succ, UInt8.toNat_ofNat', Nat.mul_comm]
theorem leN_inj {a b k : Nat} (ha : a < 256 ^ k) (hb : b < 256 ^ k) (h : leN a k = leN b k) : a = b := by
  have := congrArg numL h
  rw [numL_leN, numL_leN, Nat.mod_eq_of_lt ha, Nat.mod_eq_of_lt hb] at this
  exact this
theorem ofInt_i64 (a : Nat) (ha : a < 9223372036854775808) : (BitVec.ofInt 64 (a : Int)).toNat = a := by
  rw [BitVec.ofInt_natCast, BitVec.toNat_ofNat]; exact Nat.mod_eq_of_lt (by omega)
theorem i64_or_nat (a b : Nat) (ha : a < 9223372036854775808) (hb : b < 9223372036854775808) : bits .or .i64 (a : Int) (b : Int) = ((a ||| b : Nat) : Int) := by
  have hx : a ||| b < 2 ^ 63 := Nat.or_lt_two_pow (by omega) (by omega)
  show IntKind.i64.wrap ((BitVec.ofInt 64 (a : Int) ||| BitVec.ofInt 64 (b : Int)).toNat : Int) = _
  rw [BitVec.toNat_or, ofInt_i64 a ha, ofInt_i64 b hb, IntKind.wrap_i64]
  omega
theorem or_num (a b k : Nat) (ha : a < 256 ^ k) (hb : b < 256) (hk : k ≤ 6) : bits .or .i64 (a : Int) ((b : Int) * 2 ^ (8 * k)) = ((a + b * 256 ^ k : Nat) : Int) := by
  have e : (256 : Nat) ^ k = 2 ^ (8 * k) := by rw [show (256 : Nat) = 2 ^ 8 by decide, ← Nat.pow_mul]
  have h1 : 2 ^ (8 * k) ≤ 2 ^ 48 := Nat.pow_le_pow_right (by omega) (by omega)
  have h2 : b * 2 ^ (8 * k) ≤ 256 * 2 ^ 48 := Nat.mul_le_mul (by omega) h1
  rw [e] at ha ⊢
  rw [show ((b : Int) * 2 ^ (8 * k)) = ((b * 2 ^ (8 * k) : Nat) : Int) by rw [Int.natCast_mul, Int.natCast_pow]; rfl]
  rw [i64_or_nat _ _ (by omega) (by omega), Nat.mul_comm b, Nat.or_comm, ← Nat.two_pow_add_eq_or_of_lt ha, Nat.add_comm]
/-- The number that stands at a place. -/
def fld (l : List UInt8) (i n : Nat) : Nat := numL ((l.drop i).take n)
theorem fld_lt (l : List UInt8) (i n : Nat) : fld l i n < 256 ^ n := by
  have h := numL_lt ((l.drop i).take n)
  have h2 : ((l.drop i).take n).length ≤ n := List.length_take_le _ _
  exact Nat.lt_of_lt_of_le h (Nat.pow_le_pow_right (by omega) h2)
theorem drop_take2 {l : List UInt8} {i : Nat} (h : i + 1 < l.length) : (l.drop i).take 2 = [l[i], l[i + 1]] := by
  rw [List.drop_eq_getElem_cons (by omega), List.drop_eq_getElem_cons (by omega)]
  rfl
theorem fld2_eq {l : List UInt8} {i : Nat} (h : i + 1 < l.length) : fld l i 2 = l[i].toNat + 256 * l[i + 1].toNat := by
  unfold fld
  rw [drop_take2 h]
  simp [numL]
theorem fld2_leN {l : List UInt8} {i x : Nat} {pre rest : List UInt8} (h : l = pre ++ (leN x 2 ++ rest)) (hi : pre.length = i) : fld l i 2 = x % 65536 := by
  unfold fld
  rw [h, List.drop_left' hi, List.take_left' (leN_length x 2), numL_leN]
end Go.Proofs.Ytfaingklglelnaa

/- A point's block, in plain lists. No program in sight. -/
namespace Go.Proofs.Ytfaingklglelnaa
open Go.RowKit

/-- Is it a point? -/
def PtP (e c n f : Int) : Prop := (0 ≤ e ∧ e < 65536) ∧ (0 ≤ c ∧ c < 65536) ∧ (0 ≤ n ∧ n < 4096) ∧ (0 ≤ f ∧ f < 4096)
instance (e c n f : Int) : Decidable (PtP e c n f) := by unfold PtP; infer_instance
abbrev ptV (e c n f : Int) : Value := .agg #[.int .i64 e, .int .i64 c, .int .i64 n, .int .i64 f]
/-- The words: 44 bytes. -/
def ptW (n f : Nat) : List UInt8 := leN n 2 ++ leN f 2 ++ List.replicate 40 0
theorem ptW_length (n f : Nat) : (ptW n f).length = 44 := by simp [ptW, leN_length]
def ptHead (e c s : Nat) : List UInt8 := leN e 2 ++ leN c 2 ++ [UInt8.ofNat s]
theorem ptHead_length (e c s : Nat) : (ptHead e c s).length = 5 := by simp [ptHead, leN_length]
def ptSec (e c n f s : Nat) : List UInt8 := ptHead e c s ++ ((ptW n f).drop (11 * s)).take 11
theorem ptSec_length {e c n f s : Nat} (hs : s < 4) : (ptSec e c n f s).length = 16 := by
  unfold ptSec
  rw [List.length_append, ptHead_length, List.length_take, List.length_drop, ptW_length]
  omega
/-- The first k sectors. -/
def ptUp (e c n f k : Nat) : List UInt8 := (List.range k).flatMap (ptSec e c n f)
theorem ptUp_succ (e c n f k : Nat) : ptUp e c n f (k + 1) = ptUp e c n f k ++ (ptHead e c k ++ ((ptW n f).drop (11 * k)).take 11) := by
  simp [ptUp, ptSec, List.range_succ, List.flatMap_append]
theorem ptUp_length {e c n f : Nat} : ∀ {k : Nat}, k ≤ 4 → (ptUp e c n f k).length = 16 * k
  | 0, _ => rfl
  | k + 1, h => by
    rw [ptUp_succ, List.length_append, ptUp_length (by omega), show (ptHead e c k ++ ((ptW n f).drop (11 * k)).take 11).length = 16 from ptSec_length (by omega)]
    omega
/-- A point's block. -/
def ptBytes (e c n f : Nat) : List UInt8 := ptUp e c n f 4
theorem ptBytes_length (e c n f : Nat) : (ptBytes e c n f).length = 64 := ptUp_length (by omega)
end Go.Proofs.Ytfaingklglelnaa
