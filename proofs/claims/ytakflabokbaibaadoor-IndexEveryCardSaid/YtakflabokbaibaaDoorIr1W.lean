/- The walk over the reference's Ints; Parent as one contract; the law's awake. -/
import Derived.Test.YtakflabokbaibaaDoorMeW
set_option linter.unusedVariables false
set_option linter.unusedSimpArgs false
namespace Go.Proofs.YtakflabokbaibaaDoor
open Go.RowKit
attribute [local go_sem ↓] Go.wp_at_zero Go.wp_at_succ

theorem sl_intI {w : World} {B n : Nat} {A : Option Addr} {l : List Int} (h : Sl w B A n (intC l)) {j : Nat} (hj : j < n) : ∃ (ad : Addr) (x : Int), A = some ad ∧ l[j]? = some x ∧ w.cell? (ad.add j) = some (.int .i64 x) := by
  obtain ⟨ad, u, hA, -, hu, hc⟩ := h.get hj
  have hl := h.len
  rw [intC_len] at hl
  have hx : l[j]? = some (l[j]'(by omega)) := List.getElem?_eq_getElem _
  refine ⟨ad, _, hA, hx, ?_⟩
  simp only [intC, List.getElem?_map, hx, Option.map_some, Option.some.injEq] at hu
  rw [hc, ← hu]
set_option maxHeartbeats 400000 in
theorem ints_eqI (A A' : Option Addr) (n c c' B B' : Nat) (l : List Int) (w : World) (h : Sl w B A n (intC l)) (h' : Sl w B' A' n (intC l)) (hB : B ≤ w.heap.size) (hB' : B' ≤ w.heap.size) (hn : n ≤ 1000000) :
    Calls Tryd.prog 13 #[.slice A n c, .slice A' n c'] w fun e w' => e = .returned (.bool true) ∧ Below w.heap.size w w' := by
  have H := hide h
  have H' := hide h'
  clear h h'
  go_enter Tryd.func13, Tryd.ntmps13
  go_wp2_with fail
  go_loopw [13] (fun x wr => ∃ j : Nat, j ≤ n ∧ x = .int .i64 (j : Int) ∧ Below w.heap.size w wr) (fun x _ => n - (intOf x).toNat)
  case atStart => exact ⟨0, Nat.zero_le _, rfl, Below.refl _ _⟩
  case round =>
    obtain ⟨j, hj, rfl, hb⟩ := hrel
    have Hb := hide hb
    clear hb
    by_cases hlt : j < n
    · obtain ⟨ad, x, hA, hx, hc⟩ := sl_intI (H.out.below (Hb.out.mono hB)) hlt
      obtain ⟨ad', x', hA', hx', hc'⟩ := sl_intI (H'.out.below (Hb.out.mono hB')) hlt
      rw [hx] at hx'
      injection hx' with hx'
      subst hx' hA hA'
      clear hx
      go_wp2_with fail
      refine wp_region_noPanic ?_
      refine wp_region_held_drew (S := (fun w' => w'.cell? (ad.add j) = some (.int .i64 x) ∧ w'.cell? (ad'.add j) = some (.int .i64 x))) (by kernel_rfl) ?_ (fun hHeld => ?_)
      · ((try dsimp only) <;> (first | trivial | assumption | go_keep))
      refine wpAnyH_take (i := 0) (v := ?_) (by simp only [List.getElem?_toArray, List.getElem?_cons_succ, List.getElem?_cons_zero]; rfl) (by kernel_rfl) (by kernel_rfl) (by kernel_rfl) (fun _ _ _ h => h) (Or.inl ⟨by rfl, ?_⟩) (by assumption) ?_
      rotate_left 1
      · (intro w hSw; (try dsimp only at hSw); go_simp; try with_reducible rfl)
      try simp only [Act.put, List.setIfInBounds_toArray, List.set_cons_zero, List.set_cons_succ]
      refine wpAnyH_take (i := 1) (v := ?_) (by simp only [List.getElem?_toArray, List.getElem?_cons_succ, List.getElem?_cons_zero]; rfl) (by kernel_rfl) (by kernel_rfl) (by kernel_rfl) (fun _ _ _ h => h) (Or.inl ⟨by rfl, ?_⟩) (by assumption) ?_
      rotate_left 1
      · (intro w hSw; (try dsimp only at hSw); go_simp; try with_reducible rfl)
      try simp only [Act.put, List.setIfInBounds_toArray, List.set_cons_zero, List.set_cons_succ]
      refine wpAnyH_take (i := 2) (v := ?_) (by simp only [List.getElem?_toArray, List.getElem?_cons_succ, List.getElem?_cons_zero]; rfl) (by kernel_rfl) (by kernel_rfl) (by kernel_rfl) (fun _ _ _ h => h) (Or.inl ⟨by rfl, ?_⟩) (by assumption) ?_
      rotate_left 1
      · (intro w hSw; (try dsimp only at hSw); go_simp; try with_reducible rfl)
      try simp only [Act.put, List.setIfInBounds_toArray, List.set_cons_zero, List.set_cons_succ]
      refine wpAnyH_take (i := 3) (v := ?_) (by simp only [List.getElem?_toArray, List.getElem?_cons_succ, List.getElem?_cons_zero]; rfl) (by kernel_rfl) (by kernel_rfl) (by kernel_rfl) (fun _ _ _ h => h) (Or.inl ⟨by rfl, ?_⟩) (by assumption) ?_
      rotate_left 1
      · (intro w hSw; (try dsimp only at hSw); go_simp; try with_reducible rfl)
      try simp only [Act.put, List.setIfInBounds_toArray, List.set_cons_zero, List.set_cons_succ]
      refine wpAnyH_take (i := 4) (v := ?_) (by simp only [List.getElem?_toArray, List.getElem?_cons_succ, List.getElem?_cons_zero]; rfl) (by kernel_rfl) (by kernel_rfl) (by kernel_rfl) (fun _ _ _ h => h) (Or.inl ⟨by rfl, ?_⟩) (by assumption) ?_
      rotate_left 1
      · (intro w hSw; (try dsimp only at hSw); go_simp; try with_reducible rfl)
      try simp only [Act.put, List.setIfInBounds_toArray, List.set_cons_zero, List.set_cons_succ]
      refine wpAnyH_take (i := 5) (v := ?_) (by simp only [List.getElem?_toArray, List.getElem?_cons_succ, List.getElem?_cons_zero]; rfl) (by kernel_rfl) (by kernel_rfl) (by kernel_rfl) (fun _ _ _ h => h) (Or.inl ⟨by rfl, ?_⟩) (by assumption) ?_
      rotate_left 1
      · (intro w hSw; (try dsimp only at hSw); go_simp; try with_reducible rfl)
      try simp only [Act.put, List.setIfInBounds_toArray, List.set_cons_zero, List.set_cons_succ]
      refine wpAnyH_take (i := 6) (v := ?_) (by simp only [List.getElem?_toArray, List.getElem?_cons_succ, List.getElem?_cons_zero]; rfl) (by kernel_rfl) (by kernel_rfl) (by kernel_rfl) (fun _ _ _ h => h) (Or.inl ⟨by rfl, ?_⟩) (by assumption) ?_
      rotate_left 1
      · (intro w hSw; (try dsimp only at hSw); go_simp; try with_reducible rfl)
      try simp only [Act.put, List.setIfInBounds_toArray, List.set_cons_zero, List.set_cons_succ]
      refine wpAnyH_take (i := 7) (v := ?_) (by simp only [List.getElem?_toArray, List.getElem?_cons_succ, List.getElem?_cons_zero]; rfl) (by kernel_rfl) (by kernel_rfl) (by kernel_rfl) (fun _ _ _ h => h) (Or.inl ⟨by rfl, ?_⟩) (by assumption) ?_
      rotate_left 1
      · (intro w hSw; (try dsimp only at hSw); go_simp; try with_reducible rfl)
      try simp only [Act.put, List.setIfInBounds_toArray, List.set_cons_zero, List.set_cons_succ]
      refine wpAnyH_take (i := 8) (v := ?_) (by simp only [List.getElem?_toArray, List.getElem?_cons_succ, List.getElem?_cons_zero]; rfl) (by kernel_rfl) (by kernel_rfl) (by kernel_rfl) (fun _ _ _ h => h) (Or.inl ⟨by rfl, ?_⟩) (by assumption) ?_
      rotate_left 1
      · (intro w hSw; (try dsimp only at hSw); go_simp; try with_reducible rfl)
      try simp only [Act.put, List.setIfInBounds_toArray, List.set_cons_zero, List.set_cons_succ]
      refine wpAnyH_done (by kernel_rfl) ?_ _
      refine NoPanic.normal ?_
      go_wp2_with fail
      go_roundw
      case rel => exact ⟨j + 1, by omega, by go_num, Hb.out.drew⟩
      case measure => simp [intOf]; omega
    · go_wp2_with fail
      go_ret
      exact ⟨rfl, Hb.out⟩
theorem ints_neL (A A' : Option Addr) (n n' c c' : Nat) (w : World) (hn : n ≤ 1000000) (hn' : n' ≤ 1000000) (hne : n ≠ n') :
    Calls Tryd.prog 13 #[.slice A n c, .slice A' n' c'] w fun e w' => e = .returned (.bool false) ∧ Below w.heap.size w w' := by
  go_enter Tryd.func13, Tryd.ntmps13
  go_wp2_with fail
  go_ret
  exact ⟨rfl, Below.refl _ _⟩
set_option maxHeartbeats 400000 in
theorem ints_neI (A A' : Option Addr) (n c c' B B' : Nat) (l l' : List Int) (w : World) (h : Sl w B A n (intC l)) (h' : Sl w B' A' n (intC l')) (hB : B ≤ w.heap.size) (hB' : B' ≤ w.heap.size) (hn : n ≤ 1000000) (hne : l ≠ l') :
    Calls Tryd.prog 13 #[.slice A n c, .slice A' n c'] w fun e w' => e = .returned (.bool false) ∧ Below w.heap.size w w' := by
  have H := hide h
  have H' := hide h'
  have HN := hide hne
  have hl := hide h.len
  have hl' := hide h'.len
  clear h h' hne
  go_enter Tryd.func13, Tryd.ntmps13
  go_wp2_with fail
  go_loopw [13] (fun x wr => ∃ j : Nat, j ≤ n ∧ x = .int .i64 (j : Int) ∧ l.take j = l'.take j ∧ Below w.heap.size w wr) (fun x _ => n - (intOf x).toNat)
  case atStart => exact ⟨0, Nat.zero_le _, rfl, rfl, Below.refl _ _⟩
  case round =>
    obtain ⟨j, hj, rfl, ht, hb⟩ := hrel
    have Hb := hide hb
    have HT := hide ht
    clear hb ht
    by_cases hlt : j < n
    · obtain ⟨ad, x, hA, hx, hc⟩ := sl_intI (H.out.below (Hb.out.mono hB)) hlt
      obtain ⟨ad', x', hA', hx', hc'⟩ := sl_intI (H'.out.below (Hb.out.mono hB')) hlt
      subst hA hA'
      by_cases hxx : x = x'
      · subst hxx
        have hT2 : Hid (l.take (j + 1) = l'.take (j + 1)) := hide (by rw [List.take_add_one, List.take_add_one, HT.out, hx, hx'])
        clear hx hx'
        go_wp2_with fail
        refine wp_region_noPanic ?_
        refine wp_region_held_drew (S := (fun w' => w'.cell? (ad.add j) = some (.int .i64 x) ∧ w'.cell? (ad'.add j) = some (.int .i64 x))) (by kernel_rfl) ?_ (fun hHeld => ?_)
        · ((try dsimp only) <;> (first | trivial | assumption | go_keep))
        refine wpAnyH_take (i := 0) (v := ?_) (by simp only [List.getElem?_toArray, List.getElem?_cons_succ, List.getElem?_cons_zero]; rfl) (by kernel_rfl) (by kernel_rfl) (by kernel_rfl) (fun _ _ _ h => h) (Or.inl ⟨by rfl, ?_⟩) (by assumption) ?_
        rotate_left 1
        · (intro w hSw; (try dsimp only at hSw); go_simp; try with_reducible rfl)
        try simp only [Act.put, List.setIfInBounds_toArray, List.set_cons_zero, List.set_cons_succ]
        refine wpAnyH_take (i := 1) (v := ?_) (by simp only [List.getElem?_toArray, List.getElem?_cons_succ, List.getElem?_cons_zero]; rfl) (by kernel_rfl) (by kernel_rfl) (by kernel_rfl) (fun _ _ _ h => h) (Or.inl ⟨by rfl, ?_⟩) (by assumption) ?_
        rotate_left 1
        · (intro w hSw; (try dsimp only at hSw); go_simp; try with_reducible rfl)
        try simp only [Act.put, List.setIfInBounds_toArray, List.set_cons_zero, List.set_cons_succ]
        refine wpAnyH_take (i := 2) (v := ?_) (by simp only [List.getElem?_toArray, List.getElem?_cons_succ, List.getElem?_cons_zero]; rfl) (by kernel_rfl) (by kernel_rfl) (by kernel_rfl) (fun _ _ _ h => h) (Or.inl ⟨by rfl, ?_⟩) (by assumption) ?_
        rotate_left 1
        · (intro w hSw; (try dsimp only at hSw); go_simp; try with_reducible rfl)
        try simp only [Act.put, List.setIfInBounds_toArray, List.set_cons_zero, List.set_cons_succ]
        refine wpAnyH_take (i := 3) (v := ?_) (by simp only [List.getElem?_toArray, List.getElem?_cons_succ, List.getElem?_cons_zero]; rfl) (by kernel_rfl) (by kernel_rfl) (by kernel_rfl) (fun _ _ _ h => h) (Or.inl ⟨by rfl, ?_⟩) (by assumption) ?_
        rotate_left 1
        · (intro w hSw; (try dsimp only at hSw); go_simp; try with_reducible rfl)
        try simp only [Act.put, List.setIfInBounds_toArray, List.set_cons_zero, List.set_cons_succ]
        refine wpAnyH_take (i := 4) (v := ?_) (by simp only [List.getElem?_toArray, List.getElem?_cons_succ, List.getElem?_cons_zero]; rfl) (by kernel_rfl) (by kernel_rfl) (by kernel_rfl) (fun _ _ _ h => h) (Or.inl ⟨by rfl, ?_⟩) (by assumption) ?_
        rotate_left 1
        · (intro w hSw; (try dsimp only at hSw); go_simp; try with_reducible rfl)
        try simp only [Act.put, List.setIfInBounds_toArray, List.set_cons_zero, List.set_cons_succ]
        refine wpAnyH_take (i := 5) (v := ?_) (by simp only [List.getElem?_toArray, List.getElem?_cons_succ, List.getElem?_cons_zero]; rfl) (by kernel_rfl) (by kernel_rfl) (by kernel_rfl) (fun _ _ _ h => h) (Or.inl ⟨by rfl, ?_⟩) (by assumption) ?_
        rotate_left 1
        · (intro w hSw; (try dsimp only at hSw); go_simp; try with_reducible rfl)
        try simp only [Act.put, List.setIfInBounds_toArray, List.set_cons_zero, List.set_cons_succ]
        refine wpAnyH_take (i := 6) (v := ?_) (by simp only [List.getElem?_toArray, List.getElem?_cons_succ, List.getElem?_cons_zero]; rfl) (by kernel_rfl) (by kernel_rfl) (by kernel_rfl) (fun _ _ _ h => h) (Or.inl ⟨by rfl, ?_⟩) (by assumption) ?_
        rotate_left 1
        · (intro w hSw; (try dsimp only at hSw); go_simp; try with_reducible rfl)
        try simp only [Act.put, List.setIfInBounds_toArray, List.set_cons_zero, List.set_cons_succ]
        refine wpAnyH_take (i := 7) (v := ?_) (by simp only [List.getElem?_toArray, List.getElem?_cons_succ, List.getElem?_cons_zero]; rfl) (by kernel_rfl) (by kernel_rfl) (by kernel_rfl) (fun _ _ _ h => h) (Or.inl ⟨by rfl, ?_⟩) (by assumption) ?_
        rotate_left 1
        · (intro w hSw; (try dsimp only at hSw); go_simp; try with_reducible rfl)
        try simp only [Act.put, List.setIfInBounds_toArray, List.set_cons_zero, List.set_cons_succ]
        refine wpAnyH_take (i := 8) (v := ?_) (by simp only [List.getElem?_toArray, List.getElem?_cons_succ, List.getElem?_cons_zero]; rfl) (by kernel_rfl) (by kernel_rfl) (by kernel_rfl) (fun _ _ _ h => h) (Or.inl ⟨by rfl, ?_⟩) (by assumption) ?_
        rotate_left 1
        · (intro w hSw; (try dsimp only at hSw); go_simp; try with_reducible rfl)
        try simp only [Act.put, List.setIfInBounds_toArray, List.set_cons_zero, List.set_cons_succ]
        refine wpAnyH_done (by kernel_rfl) ?_ _
        refine NoPanic.normal ?_
        go_wp2_with fail
        go_roundw
        case rel => exact ⟨j + 1, by omega, by go_num, hT2.out, Hb.out.drew⟩
        case measure => simp [intOf]; omega
      · have hb1 : (x == x') = false := by rw [beq_eq_false_iff_ne]; exact hxx
        have hb2 : (x != x') = true := by rw [bne_iff_ne]; exact hxx
        clear hx hx' hxx
        go_wp2_with fail
        refine wp_region_noPanic ?_
        refine wp_region_held_drew (S := (fun w' => w'.cell? (ad.add j) = some (.int .i64 x) ∧ w'.cell? (ad'.add j) = some (.int .i64 x'))) (by kernel_rfl) ?_ (fun hHeld => ?_)
        · ((try dsimp only) <;> (first | trivial | assumption | go_keep))
        refine wpAnyH_take (i := 0) (v := ?_) (by simp only [List.getElem?_toArray, List.getElem?_cons_succ, List.getElem?_cons_zero]; rfl) (by kernel_rfl) (by kernel_rfl) (by kernel_rfl) (fun _ _ _ h => h) (Or.inl ⟨by rfl, ?_⟩) (by assumption) ?_
        rotate_left 1
        · (intro w hSw; (try dsimp only at hSw); go_simp; try with_reducible rfl)
        try simp only [Act.put, List.setIfInBounds_toArray, List.set_cons_zero, List.set_cons_succ]
        refine wpAnyH_take (i := 1) (v := ?_) (by simp only [List.getElem?_toArray, List.getElem?_cons_succ, List.getElem?_cons_zero]; rfl) (by kernel_rfl) (by kernel_rfl) (by kernel_rfl) (fun _ _ _ h => h) (Or.inl ⟨by rfl, ?_⟩) (by assumption) ?_
        rotate_left 1
        · (intro w hSw; (try dsimp only at hSw); go_simp; try with_reducible rfl)
        try simp only [Act.put, List.setIfInBounds_toArray, List.set_cons_zero, List.set_cons_succ]
        refine wpAnyH_take (i := 2) (v := ?_) (by simp only [List.getElem?_toArray, List.getElem?_cons_succ, List.getElem?_cons_zero]; rfl) (by kernel_rfl) (by kernel_rfl) (by kernel_rfl) (fun _ _ _ h => h) (Or.inl ⟨by rfl, ?_⟩) (by assumption) ?_
        rotate_left 1
        · (intro w hSw; (try dsimp only at hSw); go_simp; try with_reducible rfl)
        try simp only [Act.put, List.setIfInBounds_toArray, List.set_cons_zero, List.set_cons_succ]
        refine wpAnyH_take (i := 3) (v := ?_) (by simp only [List.getElem?_toArray, List.getElem?_cons_succ, List.getElem?_cons_zero]; rfl) (by kernel_rfl) (by kernel_rfl) (by kernel_rfl) (fun _ _ _ h => h) (Or.inl ⟨by rfl, ?_⟩) (by assumption) ?_
        rotate_left 1
        · (intro w hSw; (try dsimp only at hSw); go_simp; try with_reducible rfl)
        try simp only [Act.put, List.setIfInBounds_toArray, List.set_cons_zero, List.set_cons_succ]
        refine wpAnyH_take (i := 4) (v := ?_) (by simp only [List.getElem?_toArray, List.getElem?_cons_succ, List.getElem?_cons_zero]; rfl) (by kernel_rfl) (by kernel_rfl) (by kernel_rfl) (fun _ _ _ h => h) (Or.inl ⟨by rfl, ?_⟩) (by assumption) ?_
        rotate_left 1
        · (intro w hSw; (try dsimp only at hSw); go_simp; try with_reducible rfl)
        try simp only [Act.put, List.setIfInBounds_toArray, List.set_cons_zero, List.set_cons_succ]
        refine wpAnyH_take (i := 5) (v := ?_) (by simp only [List.getElem?_toArray, List.getElem?_cons_succ, List.getElem?_cons_zero]; rfl) (by kernel_rfl) (by kernel_rfl) (by kernel_rfl) (fun _ _ _ h => h) (Or.inl ⟨by rfl, ?_⟩) (by assumption) ?_
        rotate_left 1
        · (intro w hSw; (try dsimp only at hSw); go_simp; try with_reducible rfl)
        try simp only [Act.put, List.setIfInBounds_toArray, List.set_cons_zero, List.set_cons_succ]
        refine wpAnyH_take (i := 6) (v := ?_) (by simp only [List.getElem?_toArray, List.getElem?_cons_succ, List.getElem?_cons_zero]; rfl) (by kernel_rfl) (by kernel_rfl) (by kernel_rfl) (fun _ _ _ h => h) (Or.inl ⟨by rfl, ?_⟩) (by assumption) ?_
        rotate_left 1
        · (intro w hSw; (try dsimp only at hSw); go_simp; try with_reducible rfl)
        try simp only [Act.put, List.setIfInBounds_toArray, List.set_cons_zero, List.set_cons_succ]
        refine wpAnyH_take (i := 7) (v := ?_) (by simp only [List.getElem?_toArray, List.getElem?_cons_succ, List.getElem?_cons_zero]; rfl) (by kernel_rfl) (by kernel_rfl) (by kernel_rfl) (fun _ _ _ h => h) (Or.inl ⟨by rfl, ?_⟩) (by assumption) ?_
        rotate_left 1
        · (intro w hSw; (try dsimp only at hSw); go_simp; try with_reducible rfl)
        try simp only [Act.put, List.setIfInBounds_toArray, List.set_cons_zero, List.set_cons_succ]
        refine wpAnyH_take (i := 8) (v := ?_) (by simp only [List.getElem?_toArray, List.getElem?_cons_succ, List.getElem?_cons_zero]; rfl) (by kernel_rfl) (by kernel_rfl) (by kernel_rfl) (fun _ _ _ h => h) (Or.inl ⟨by rfl, ?_⟩) (by assumption) ?_
        rotate_left 1
        · (intro w hSw; (try dsimp only at hSw); go_simp; try with_reducible rfl)
        try simp only [Act.put, List.setIfInBounds_toArray, List.set_cons_zero, List.set_cons_succ]
        refine wpAnyH_done (by kernel_rfl) ?_ _
        refine NoPanic.normal ?_
        go_wp2_with fail
        go_ret
        exact ⟨rfl, Hb.out.drew⟩
    · exfalso
      refine HN.out ?_
      have h1 := hl.out
      have h2 := hl'.out
      rw [intC_len] at h1 h2
      have := HT.out
      rwa [List.take_of_length_le (by omega), List.take_of_length_le (by omega)] at this
/-- Both ways. -/
theorem ints_any (A A' : Option Addr) (n n' c c' B B' : Nat) (l l' : List Int) (w : World) (h : Sl w B A n (intC l)) (h' : Sl w B' A' n' (intC l')) (hB : B ≤ w.heap.size) (hB' : B' ≤ w.heap.size) (hn : n ≤ 1000000) (hn' : n' ≤ 1000000) :
    Calls Tryd.prog 13 #[.slice A n c, .slice A' n' c'] w fun e w' => e = .returned (.bool (decide (l = l'))) ∧ Below w.heap.size w w' := by
  by_cases hnn : n = n'
  · subst hnn
    by_cases hl : l = l'
    · subst hl
      rw [decide_eq_true rfl]
      exact ints_eqI A A' n c c' B B' l w h h' hB hB' hn
    · rw [decide_eq_false hl]
      exact ints_neI A A' n c c' B B' l l' w h h' hB hB' hn hl
  · rw [decide_eq_false (fun e => by
      have h1 := h.len
      have h2 := h'.len
      rw [intC_len] at h1 h2
      subst e
      omega)]
    exact ints_neL A A' n n' c c' w hn hn' hnn
/-- A list that the text writes out. -/
theorem sl_lit (w : World) (l : List Int) : Sl (w.alloc (.cells (intC l).toArray 3)) (w.heap.size + 1) (some ⟨w.heap.size, 0, none⟩) l.length (intC l) := by
  refine ⟨intC_len l, fun i u hu => ⟨_, rfl, by simp, ?_⟩⟩
  rw [Addr.add_mid, Nat.zero_add, (Blk.new w _ _).cell]
  simpa using hu
theorem sl_of_ownI {w : World} {base n c : Nat} {A : Option Addr} {l : List Int} (h : w.ownsRow base 3 1 (.slice A n c) n (intC l)) : Sl w w.heap.size A n (intC l) := Sl.of_own h
theorem sl_of_nrow {w : World} {base n : Nat} {A : Option Addr} {l : List Int} (h : NRow w base A n l) : Sl w w.heap.size A n (intC l) := by
  refine ⟨by rw [intC_len]; exact h.1, fun j u hu => ?_⟩
  rcases h.2 with ⟨-, h0⟩ | ⟨g, cur, rfl, -, h2, h3⟩
  · exfalso
    have := (List.getElem?_eq_some_iff.1 hu).1
    rw [intC_len, h.1] at this
    omega
  · exact ⟨_, rfl, h2.lt, by rw [Addr.add_mid, Nat.zero_add, h2.cell]; exact h3 j u hu⟩

/-- The parent: its number, the pointer in it. -/
def parentP (n : Int) : Option (Int × Nat) := match toP n with
  | none => none
  | some p => match p.metas.getLast?, p.slots.getLast? with
    | some m, some s => some (m, s)
    | _, _ => some (600, p.root)
theorem parent_none (n : Int) (hn : I64 n) (h : parentP n = none) (w : World) (sp : SpanAt w) : Calls Tryd.prog 15 #[.int .i64 n] w fun e w' => e = .returned (.tuple #[.int .i64 0, .int .i64 0, .int .i64 22]) ∧ Below w.heap.size w w' := by
  unfold parentP at h
  split at h
  · rename_i ht; exact parent_no n hn ht w sp
  · split at h <;> cases h
theorem parent_yes (n : Int) (hn : I64 n) {q : Int} {i : Nat} (h : parentP n = some (q, i)) (w : World) (sp : SpanAt w) : Calls Tryd.prog 15 #[.int .i64 n] w fun e w' => e = .returned (.tuple #[.int .i64 q, .int .i64 (i : Int), .int .i64 0]) ∧ Below w.heap.size w w' := by
  unfold parentP at h
  split at h
  · cases h
  · rename_i p ht
    have hl := (toP_len ht).1
    split at h
    · rename_i m s hm hs
      injection h with h; injection h with h1 h2; subst h1 h2
      have hne : p.metas ≠ [] := by rintro e; rw [e] at hm; cases hm
      have h0 := List.length_pos_iff.2 hne
      rw [List.getLast?_eq_getElem?] at hm hs
      exact parent_meta n hn ht (p.metas.length - 1) m s (by omega) hm (by rw [hl]; exact hs) w sp
    · rename_i hx
      injection h with h; injection h with h1 h2; subst h1 h2
      refine parent_root n hn ht ?_ w sp
      rcases hm : p.metas.getLast? with _ | m
      · exact List.getLast?_eq_none_iff.1 hm
      · exfalso
        rcases hs : p.slots.getLast? with _ | s
        · rw [List.getLast?_eq_none_iff] at hs
          rw [hs] at hl
          rw [List.eq_nil_of_length_eq_zero hl] at hm
          cases hm
        · exact hx m s hm hs
end Go.Proofs.YtakflabokbaibaaDoor
