/- The walks over package index: wide, rootOf, find, number, Level, Covers. -/
import Derived.Test.YtopjkpopdffkeaaDoorSpan
import Derived.Test.YtopjkpopdffkeaaDoorIdxS
import Derived.Deep.RegionWith
import Derived.Deep.DeepCutAuto
import Derived.Deep.QuietTactic
import Derived.BigQuiet
import Derived.Deep.RegionHeld3
import Derived.Deep.DrawnRows
set_option linter.unusedVariables false
set_option linter.unusedSimpArgs false
namespace Go.Proofs.YtopjkpopdffkeaaDoor
open Go.RowKit
attribute [local go_sem ↓] Go.wp_at_zero Go.wp_at_succ

/-- How many data a block of a level covers. -/
def pw (l : Nat) : Nat := 16 ^ l
theorem pw_succ (l : Nat) : pw (l + 1) = pw l * 16 := Nat.pow_succ ..
theorem spanN_1 : spanN 1 = 6 := rfl
theorem spanN_2 : spanN 2 = 22 := rfl
theorem spanN_3 : spanN 3 = 278 := rfl
theorem pow16_bd {l : Nat} (h : l ≤ 3) : 1 ≤ pw l ∧ pw l ≤ 4096 := by
  unfold pw
  match l, h with
  | 0, _ => decide
  | 1, _ => decide
  | 2, _ => decide
  | 3, _ => decide
theorem wide_any (l : Nat) (hl : l ≤ 3) (w : World) : Calls Tryd.prog 26 #[.int .i64 (l : Int)] w fun e w' => e = .returned (.int .i64 (pw l : Int)) ∧ w = w' := by
  go_enter Tryd.func26, Tryd.ntmps26
  go_wp2_with fail
  go_loop [3, 5] (fun x y => ∃ k : Nat, k ≤ l ∧ x = .int .i64 (pw k : Int) ∧ y = .int .i64 (k : Int)) (fun _ y => l - (intOf y).toNat)
  case atStart => exact ⟨0, Nat.zero_le _, rfl, rfl⟩
  case round =>
    obtain ⟨k, hk, rfl, rfl⟩ := hrel
    have hp := pow16_bd (show k ≤ 3 by omega)
    by_cases hlt : k < l
    · have hs : Hid ((pw (k + 1) : Int) = (pw k : Int) * 16) := hide (by rw [pw_succ]; omega)
      have hp1 : 1 ≤ (pw k : Int) := by omega
      have hp2 : (pw k : Int) ≤ 4096 := by omega
      clear hp
      go_wp2_with fail
      go_round
      case rel => exact ⟨k + 1, by omega, by rw [hs.out], by go_num⟩
      case measure => simp [intOf]; omega
    · obtain rfl : l = k := by omega
      clear hp
      go_wp2_with fail
      go_ret
      exact ⟨rfl, rfl⟩
theorem rootN_bd (f : Nat) : rootN f ≤ 3 := by unfold rootN; split <;> (try split) <;> (try split) <;> omega
set_option maxRecDepth 100000 in
theorem rootOf_any (f : Nat) (hf : f < 600) (w : World) (sp : SpanAt w) : Calls Tryd.prog 25 #[.int .i64 (f : Int)] w fun e w' => e = .returned (.int .i64 (rootN f : Int)) ∧ w = w' := by
  obtain ⟨s0, s1, s2, s3, s4'⟩ := sp
  obtain ⟨M, hM, s4⟩ : ∃ M : Int, 600 ≤ M ∧ w.cell? ⟨0, 4, none⟩ = some (.int .i64 M) := ⟨1073741824, by decide, s4'⟩
  clear s4'
  have hr : Hid (∀ k, k = rootN f → (k = 0 ∧ f < 6) ∨ (k = 1 ∧ 6 ≤ f ∧ f < 22) ∨ (k = 2 ∧ 22 ≤ f ∧ f < 278) ∨ (k = 3 ∧ 278 ≤ f)) := hide (fun k hk => by
    subst hk; unfold rootN; split
    · omega
    · split
      · omega
      · split <;> omega)
  go_enter Tryd.func25, Tryd.ntmps25
  go_wp2_with fail
  go_loop [3] (fun x => ∃ k : Nat, k ≤ 3 ∧ spanN k ≤ f ∧ x = .int .i64 (k : Int)) (fun x => 3 - (intOf x).toNat)
  case atStart => exact ⟨0, by omega, Nat.zero_le _, rfl⟩
  case round =>
    obtain ⟨k, hk, hs, rfl⟩ := hrel
    have hr0 := hr.out _ rfl
    have hr1 := hide (show rootN f = 0 ∨ rootN f = 1 ∨ rootN f = 2 ∨ rootN f = 3 by omega)
    rcases (show k = 0 ∨ k = 1 ∨ k = 2 ∨ k = 3 by omega) with rfl | rfl | rfl | rfl
    · by_cases hc : f < 6
      · have e : Hid ((0 : Int) = (rootN f : Int)) := hide (by omega)
        clear hr0
        go_wp2_with fail
        go_ret
        exact ⟨by rw [← e.out]; rfl, rfl⟩
      · clear hr0
        go_wp2_with fail
        go_round
        case rel => exact ⟨1, by omega, by rw [spanN_1]; omega, by go_num⟩
        case measure => simp [intOf]
    · by_cases hc : f < 22
      · have e : Hid ((1 : Int) = (rootN f : Int)) := hide (by rw [spanN_1] at hs; omega)
        clear hr0
        go_wp2_with fail
        go_ret
        exact ⟨by rw [← e.out]; rfl, rfl⟩
      · clear hr0
        go_wp2_with fail
        go_round
        case rel => exact ⟨2, by omega, by rw [spanN_2]; omega, by go_num⟩
        case measure => simp [intOf]
    · by_cases hc : f < 278
      · have e : Hid ((2 : Int) = (rootN f : Int)) := hide (by rw [spanN_2] at hs; omega)
        clear hr0
        go_wp2_with fail
        go_ret
        exact ⟨by rw [← e.out]; rfl, rfl⟩
      · clear hr0
        go_wp2_with fail
        go_round
        case rel => exact ⟨3, by omega, by rw [spanN_3]; omega, by go_num⟩
        case measure => simp [intOf]
    · have hc : (f : Int) < M := by omega
      have e : Hid ((3 : Int) = (rootN f : Int)) := hide (by rw [spanN_3] at hs; omega)
      clear hr0
      go_wp2_with fail
      go_ret
      exact ⟨by rw [← e.out]; rfl, rfl⟩
theorem find_pos (n : Int) (h0 : 0 ≤ n) (w : World) : Calls Tryd.prog 23 #[.int .i64 n] w fun e w' => e = .returned (.tuple #[.int .i64 0, .int .i64 n, .bool (decide (n < 600))]) ∧ w = w' := by
  go_enter Tryd.func23, Tryd.ntmps23
  go_wp2_with fail
  go_ret3
  exact ⟨rfl, rfl⟩
theorem find_neg_far (n : Int) (h0 : n < -605) (h1 : -9223372036854775808 < n) (w : World) : Calls Tryd.prog 23 #[.int .i64 n] w fun e w' => e = .returned (.tuple #[.int .i64 0, .int .i64 0, .bool false]) ∧ Below w.heap.size w w' := by
  go_enter Tryd.func23, Tryd.ntmps23
  go_wp2_with fail
  go_loop [5] (fun x => ∃ l : Nat, 1 ≤ l ∧ l ≤ 4 ∧ x = .int .i64 (l : Int)) (fun x => 4 - (intOf x).toNat)
  case atStart => exact ⟨1, by omega, by omega, rfl⟩
  case round =>
    obtain ⟨l, h2, h3, rfl⟩ := hrel
    by_cases hlt : l ≤ 3
    · go_wp2_with fail
      go_round
      case rel => exact ⟨l + 1, by omega, by omega, by go_num⟩
      case measure => simp [intOf]; omega
    · go_wp2_with fail
      go_ret3
      exact ⟨rfl, Below.refl _ _⟩
theorem find_min (w : World) : Calls Tryd.prog 23 #[.int .i64 (-9223372036854775808)] w fun e w' => e = .returned (.tuple #[.int .i64 0, .int .i64 0, .bool false]) ∧ Below w.heap.size w w' := by
  obtain ⟨M, hM, hM0⟩ : ∃ M, wrap64 9223372036854775808 = M ∧ M < 0 := ⟨-9223372036854775808, by kernel_rfl, by decide⟩
  go_enter Tryd.func23, Tryd.ntmps23
  go_wp2_with fail
  go_loop [5] (fun x => ∃ l : Nat, 1 ≤ l ∧ l ≤ 4 ∧ x = .int .i64 (l : Int)) (fun x => 4 - (intOf x).toNat)
  case atStart => exact ⟨1, by omega, by omega, rfl⟩
  case round =>
    obtain ⟨l, h2, h3, rfl⟩ := hrel
    rcases (show l = 1 ∨ l = 2 ∨ l = 3 ∨ l = 4 by omega) with rfl | rfl | rfl | rfl
    all_goals clear h2 h3
    · go_wp2_with fail
      go_round
      case rel => exact ⟨2, by omega, by omega, by go_num⟩
      case measure => simp [intOf]
    · go_wp2_with fail
      go_round
      case rel => exact ⟨3, by omega, by omega, by go_num⟩
      case measure => simp [intOf]
    · go_wp2_with fail
      go_round
      case rel => exact ⟨4, by omega, by omega, by go_num⟩
      case measure => simp [intOf]
    · go_wp2_with fail
      go_ret3
      exact ⟨rfl, Below.refl _ _⟩
/-- What find answers. -/
def Found (n : Int) (e : Ending) : Prop := match findP n with
  | some (l, f) => e = .returned (.tuple #[.int .i64 (l : Int), .int .i64 (f : Int), .bool true])
  | none => ∃ a b : Int, e = .returned (.tuple #[.int .i64 a, .int .i64 b, .bool false])
theorem findP_neg {n : Int} (h : n < 0) : findP n = if hitL n 1 then some (1, (candI n 1).toNat) else if hitL n 2 then some (2, (candI n 2).toNat) else if hitL n 3 then some (3, (candI n 3).toNat) else none := by
  unfold findP; rw [if_neg (by omega)]
theorem found_hit {n : Int} (h : n < 0) {l f : Nat} (h1 : 1 ≤ l) (h3 : l ≤ 3) (hn : ∀ k, 1 ≤ k → k < l → hitL n k = false) (hh : hitL n l = true) (hf : candI n l = (f : Int)) : Found n (.returned (.tuple #[.int .i64 (l : Int), .int .i64 (f : Int), .bool true])) := by
  have e : findP n = some (l, f) := by
    rw [findP_neg h]
    have hf' : (candI n l).toNat = f := by omega
    rcases (show l = 1 ∨ l = 2 ∨ l = 3 by omega) with rfl | rfl | rfl
    · rw [if_pos hh, hf']
    · rw [if_neg (by rw [hn 1 (by omega) (by omega)]; decide), if_pos hh, hf']
    · rw [if_neg (by rw [hn 1 (by omega) (by omega)]; decide), if_neg (by rw [hn 2 (by omega) (by omega)]; decide), if_pos hh, hf']
  unfold Found
  rw [e]
theorem found_no {n : Int} (h : n < 0) (hn : ∀ k, 1 ≤ k → k < 4 → hitL n k = false) : Found n (.returned (.tuple #[.int .i64 0, .int .i64 0, .bool false])) := by
  have e : findP n = none := by
    rw [findP_neg h, if_neg (by rw [hn 1 (by omega) (by omega)]; decide), if_neg (by rw [hn 2 (by omega) (by omega)]; decide), if_neg (by rw [hn 3 (by omega) (by omega)]; decide)]
  unfold Found
  rw [e]
  exact ⟨_, _, rfl⟩
theorem SpanAt.at {w : World} (h : SpanAt w) {k : Nat} (hk : k ≤ 3) : w.cell? ⟨0, k, none⟩ = some (.int .i64 (spanN k : Int)) := by
  rcases (show k = 0 ∨ k = 1 ∨ k = 2 ∨ k = 3 by omega) with rfl | rfl | rfl | rfl
  · exact h.c0
  · exact h.c1
  · exact h.c2
  · exact h.c3
theorem span_root (f : Nat) : spanN (rootN f) ≤ f := by
  unfold rootN
  split
  · exact Nat.zero_le _
  · split
    · rw [spanN_1]; omega
    · split
      · rw [spanN_2]; omega
      · rw [spanN_3]; omega
theorem hit_iff {n : Int} {l f : Nat} (hf : candI n l = (f : Int)) : hitL n l = (decide (f < 600) && decide (l ≤ rootN f) && decide ((f - spanN (rootN f)) % 16 ^ l = 0)) := by
  unfold hitL okL
  rw [hf]
  simp
theorem hit_ext {n : Int} {l : Nat} (h : ∀ k, 1 ≤ k → k < l → hitL n k = false) (hl : hitL n l = false) : ∀ k, 1 ≤ k → k < l + 1 → hitL n k = false := fun k k1 k2 => by
  rcases (show k < l ∨ k = l by omega) with h' | rfl
  · exact h k k1 h'
  · exact hl
set_option maxHeartbeats 1000000 in
set_option maxRecDepth 100000 in
theorem find_near (n : Int) (h0 : n < 0) (h1 : -605 ≤ n) (w : World) (sp : SpanAt w) : Calls Tryd.prog 23 #[.int .i64 n] w fun e w' => Found n e ∧ Below w.heap.size w w' := by
  have SP := hide sp
  clear sp
  go_enter Tryd.func23, Tryd.ntmps23
  go_wp2_with fail
  go_loopw [5] (fun x wr => ∃ l : Nat, 1 ≤ l ∧ l ≤ 4 ∧ x = .int .i64 (l : Int) ∧ (∀ k, 1 ≤ k → k < l → hitL n k = false) ∧ Below w.heap.size w wr) (fun x _ => 4 - (intOf x).toNat)
  case atStart => exact ⟨1, by omega, by omega, rfl, (fun k h1 h2 => absurd h1 (by omega)), Below.refl _ _⟩
  case round =>
    obtain ⟨l, h2, h3, rfl, h4, h5⟩ := hrel
    have H4 := hide h4
    have H5 := hide h5
    clear h4 h5
    by_cases hlt : l ≤ 3
    · by_cases hc : 0 ≤ candI n l ∧ candI n l < 600
      · obtain ⟨f, hf⟩ : ∃ f : Nat, candI n l = (f : Int) := ⟨(candI n l).toNat, by omega⟩
        have hf6 : f < 600 := by omega
        have hh := hide (hit_iff hf)
        have hs := span_root f
        have hr3 := rootN_bd f
        have hp := pow16_bd hlt
        have e0 : -(n + (l : Int) - 1) = (f : Int) := hf
        have sc := (SP.out.bel H5.out).at hr3
        have HF := hide hf
        clear hc hf
        go_wp2_with fail
        refine (rootOf_any f hf6 wr (SP.out.bel H5.out)).mono ?_
        rintro e w1 ⟨rfl, rfl⟩
        generalize hrn : rootN f = r at *
        replace hrn := hide hrn
        by_cases hg : l ≤ r
        · have hd : decide ((l : Int) ≤ (r : Int)) = true := decide_eq_true (by omega)
          have i1 : (0 : Int) ≤ (r : Int) := by omega
          have i2 : (r : Int) < 5 := by omega
          obtain ⟨g, hgf⟩ : ∃ g : Nat, f = spanN r + g := ⟨f - spanN r, by omega⟩
          have eg : (f : Int) - (spanN r : Int) = (g : Int) := by omega
          have hgg : Hid (f - spanN r = g) := hide (by omega)
          replace hgf := hide hgf
          have w1 : IntKind.i64.wrap (g : Int) = (g : Int) := IntWalk.i64_in _ (by omega)
          have hpz : ¬ pw l = 0 := by omega
          obtain ⟨q, hq⟩ : ∃ q : Nat, q = g % pw l := ⟨_, rfl⟩
          have em : (g : Int).tmod (pw l : Int) = (q : Int) := by rw [Int.tmod_eq_emod_of_nonneg (by omega), hq, Int.natCast_emod]
          have hq5 : q < 5000 := by rw [hq]; exact Nat.lt_of_lt_of_le (Nat.mod_lt _ (by omega)) (by omega)
          have wq : IntKind.i64.wrap (q : Int) = (q : Int) := IntWalk.i64_in _ (by omega)
          by_cases hz : q = 0
          · have ez : ((q : Int) == 0) = true := by rw [hz]; rfl
            rw [hq] at hz
            replace hq := hide hq
            have hyes := hide (found_hit h0 h2 hlt H4.out (by rw [hh.out, hgg.out]; simp; exact ⟨⟨hf6, hg⟩, hz⟩) HF.out)
            clear hz
            go_wp2_with fail
            refine wp_region_noPanic ?_
            refine wp_region_held_drew (S := (fun w' => w'.cell? ⟨0, r, none⟩ = some (.int .i64 (spanN r : Int)))) (by kernel_rfl) ?_ (fun hHeld => ?_)
            · ((try dsimp only) <;> (first | trivial | assumption | go_keep))
            refine wpAnyH_take (i := 0) (v := ?_) (by simp only [List.getElem?_toArray, List.getElem?_cons_succ, List.getElem?_cons_zero]; rfl) (by kernel_rfl) (by kernel_rfl) (by kernel_rfl) (fun _ _ _ h => h) (Or.inl ⟨by rfl, ?_⟩) (by assumption) ?_
            rotate_left 1
            · (intro w hSw; (try dsimp only at hSw); go_simp; try with_reducible rfl)
            try simp only [Act.put, List.setIfInBounds_toArray, List.set_cons_zero, List.set_cons_succ]
            refine wpAnyH_take (i := 1) (v := ?_) (by simp only [List.getElem?_toArray, List.getElem?_cons_succ, List.getElem?_cons_zero]; rfl) (by kernel_rfl) (by kernel_rfl) (by kernel_rfl) (fun _ _ _ h => h) (Or.inl ⟨by rfl, ?_⟩) (by assumption) ?_
            rotate_left 1
            · (intro w hSw; (try dsimp only at hSw); go_simp; try with_reducible rfl)
            try simp only [Act.put, List.setIfInBounds_toArray, List.set_cons_zero, List.set_cons_succ]
            refine wpAnyH_take (i := 2) (v := ?_) (by simp only [List.getElem?_toArray, List.getElem?_cons_succ, List.getElem?_cons_zero]; rfl) (by kernel_rfl) (by kernel_rfl) (by kernel_rfl) (fun _ _ _ h => h) (Or.inl ⟨by rfl, ?_⟩) (by assumption) ?_
            rotate_left 1
            · (intro w hSw; (try dsimp only at hSw); go_simp; try with_reducible rfl)
            try simp only [Act.put, List.setIfInBounds_toArray, List.set_cons_zero, List.set_cons_succ]
            refine wpAnyH_take (i := 3) (v := ?_) (by simp only [List.getElem?_toArray, List.getElem?_cons_succ, List.getElem?_cons_zero]; rfl) (by kernel_rfl) (by kernel_rfl) (by kernel_rfl) (fun _ _ _ h => h) (Or.inl ⟨by rfl, ?_⟩) (by assumption) ?_
            rotate_left 1
            · (intro w hSw; (try dsimp only at hSw); go_simp; try with_reducible rfl)
            try simp only [Act.put, List.setIfInBounds_toArray, List.set_cons_zero, List.set_cons_succ]
            refine wpAnyH_take (i := 4) (v := ?_) (by simp only [List.getElem?_toArray, List.getElem?_cons_succ, List.getElem?_cons_zero]; rfl) (by kernel_rfl) (by kernel_rfl) (by kernel_rfl) (fun _ _ _ h => h) (Or.inl ⟨by rfl, ?_⟩) (by assumption) ?_
            rotate_left 1
            · (intro w hSw; (try dsimp only at hSw); go_simp; try with_reducible rfl)
            try simp only [Act.put, List.setIfInBounds_toArray, List.set_cons_zero, List.set_cons_succ]
            refine wpAnyH_take (i := 5) (v := ?_) (by simp only [List.getElem?_toArray, List.getElem?_cons_succ, List.getElem?_cons_zero]; rfl) (by kernel_rfl) (by kernel_rfl) (by kernel_rfl) (fun _ _ _ h => h) (Or.inl ⟨by rfl, ?_⟩) (by assumption) ?_
            rotate_left 1
            · (intro w hSw; (try dsimp only at hSw); go_simp; try with_reducible rfl)
            try simp only [Act.put, List.setIfInBounds_toArray, List.set_cons_zero, List.set_cons_succ]
            refine wpAnyH_take (i := 6) (v := ?_) (by simp only [List.getElem?_toArray, List.getElem?_cons_succ, List.getElem?_cons_zero]; rfl) (by kernel_rfl) (by kernel_rfl) (by kernel_rfl) (fun _ _ _ h => h) (Or.inl ⟨by rfl, ?_⟩) (by assumption) ?_
            rotate_left 1
            · (intro w hSw; (try dsimp only at hSw); go_simp; try with_reducible rfl)
            try simp only [Act.put, List.setIfInBounds_toArray, List.set_cons_zero, List.set_cons_succ]
            refine wpAnyH_take (i := 7) (v := ?_) (by simp only [List.getElem?_toArray, List.getElem?_cons_succ, List.getElem?_cons_zero]; rfl) (by kernel_rfl) (by kernel_rfl) (by kernel_rfl) (fun _ _ _ h => h) (Or.inl ⟨by rfl, ?_⟩) (by assumption) ?_
            rotate_left 1
            · (intro w hSw; (try dsimp only at hSw); go_simp; try with_reducible rfl)
            try simp only [Act.put, List.setIfInBounds_toArray, List.set_cons_zero, List.set_cons_succ]
            refine wpAnyH_take (i := 8) (v := ?_) (by simp only [List.getElem?_toArray, List.getElem?_cons_succ, List.getElem?_cons_zero]; rfl) (by kernel_rfl) (by kernel_rfl) (by kernel_rfl) (fun _ _ _ h => h) (Or.inl ⟨by rfl, ?_⟩) (by assumption) ?_
            rotate_left 1
            · (intro w hSw; (try dsimp only at hSw); go_simp; try with_reducible rfl)
            try simp only [Act.put, List.setIfInBounds_toArray, List.set_cons_zero, List.set_cons_succ]
            refine wpAnyH_take (i := 9) (v := ?_) (by simp only [List.getElem?_toArray, List.getElem?_cons_succ, List.getElem?_cons_zero]; rfl) (by kernel_rfl) (by kernel_rfl) (by kernel_rfl) (fun _ _ _ h => h) (Or.inl ⟨by rfl, ?_⟩) (by assumption) ?_
            rotate_left 1
            · (intro w hSw; (try dsimp only at hSw); go_simp; try with_reducible rfl)
            try simp only [Act.put, List.setIfInBounds_toArray, List.set_cons_zero, List.set_cons_succ]
            refine wpAnyH_ready (rs := [10]) (by kernel_rfl) (by simp) ?_
            refine AllReadyH.cons (by simp only [List.getElem?_toArray, List.getElem?_cons_succ, List.getElem?_cons_zero]; rfl) (fun K hK => ?_) ?_
            rotate_left 1
            · exact AllReadyH.nil
            go_simp
            refine (wide_any l hlt _).mono ?_; rintro e w2 ⟨rfl, rfl⟩; go_wp2_with fail
            refine hK.out _ _ ?_ (fun hHeld2 => ?_)
            · ((try dsimp only) <;> (first | trivial | assumption | go_keep))
            clear hHeld
            have hHeld := hHeld2
            clear hHeld2 hK K
            try simp only [Act.put, List.setIfInBounds_toArray, List.set_cons_zero, List.set_cons_succ]
            refine wpAnyH_take (i := 11) (v := ?_) (by simp only [List.getElem?_toArray, List.getElem?_cons_succ, List.getElem?_cons_zero]; rfl) (by kernel_rfl) (by kernel_rfl) (by kernel_rfl) (fun _ _ _ h => h) (Or.inl ⟨by rfl, ?_⟩) (by assumption) ?_
            rotate_left 1
            · (intro w hSw; (try dsimp only at hSw); go_simp; try with_reducible rfl)
            try simp only [Act.put, List.setIfInBounds_toArray, List.set_cons_zero, List.set_cons_succ]
            refine wpAnyH_take (i := 12) (v := ?_) (by simp only [List.getElem?_toArray, List.getElem?_cons_succ, List.getElem?_cons_zero]; rfl) (by kernel_rfl) (by kernel_rfl) (by kernel_rfl) (fun _ _ _ h => h) (Or.inl ⟨by rfl, ?_⟩) (by assumption) ?_
            rotate_left 1
            · (intro w hSw; (try dsimp only at hSw); go_simp; try with_reducible rfl)
            try simp only [Act.put, List.setIfInBounds_toArray, List.set_cons_zero, List.set_cons_succ]
            refine wpAnyH_take (i := 13) (v := ?_) (by simp only [List.getElem?_toArray, List.getElem?_cons_succ, List.getElem?_cons_zero]; rfl) (by kernel_rfl) (by kernel_rfl) (by kernel_rfl) (fun _ _ _ h => h) (Or.inl ⟨by rfl, ?_⟩) (by assumption) ?_
            rotate_left 1
            · (intro w hSw; (try dsimp only at hSw); go_simp; try with_reducible rfl)
            try simp only [Act.put, List.setIfInBounds_toArray, List.set_cons_zero, List.set_cons_succ]
            refine wpAnyH_done (by kernel_rfl) ?_ _
            refine NoPanic.normal ?_
            go_wp2_with fail
            go_ret3
            exact ⟨hyes.out, H5.out.drew⟩
          · have ez : ((q : Int) == 0) = false := by rw [beq_eq_false_iff_ne]; omega
            rw [hq] at hz
            replace hq := hide hq
            have hno : Hid (hitL n l = false) := hide (by rw [hh.out, hgg.out]; simp; intro _ _; exact hz)
            clear hz
            go_wp2_with fail
            refine wp_region_noPanic ?_
            refine wp_region_held_drew (S := (fun w' => w'.cell? ⟨0, r, none⟩ = some (.int .i64 (spanN r : Int)))) (by kernel_rfl) ?_ (fun hHeld => ?_)
            · ((try dsimp only) <;> (first | trivial | assumption | go_keep))
            refine wpAnyH_take (i := 0) (v := ?_) (by simp only [List.getElem?_toArray, List.getElem?_cons_succ, List.getElem?_cons_zero]; rfl) (by kernel_rfl) (by kernel_rfl) (by kernel_rfl) (fun _ _ _ h => h) (Or.inl ⟨by rfl, ?_⟩) (by assumption) ?_
            rotate_left 1
            · (intro w hSw; (try dsimp only at hSw); go_simp; try with_reducible rfl)
            try simp only [Act.put, List.setIfInBounds_toArray, List.set_cons_zero, List.set_cons_succ]
            refine wpAnyH_take (i := 1) (v := ?_) (by simp only [List.getElem?_toArray, List.getElem?_cons_succ, List.getElem?_cons_zero]; rfl) (by kernel_rfl) (by kernel_rfl) (by kernel_rfl) (fun _ _ _ h => h) (Or.inl ⟨by rfl, ?_⟩) (by assumption) ?_
            rotate_left 1
            · (intro w hSw; (try dsimp only at hSw); go_simp; try with_reducible rfl)
            try simp only [Act.put, List.setIfInBounds_toArray, List.set_cons_zero, List.set_cons_succ]
            refine wpAnyH_take (i := 2) (v := ?_) (by simp only [List.getElem?_toArray, List.getElem?_cons_succ, List.getElem?_cons_zero]; rfl) (by kernel_rfl) (by kernel_rfl) (by kernel_rfl) (fun _ _ _ h => h) (Or.inl ⟨by rfl, ?_⟩) (by assumption) ?_
            rotate_left 1
            · (intro w hSw; (try dsimp only at hSw); go_simp; try with_reducible rfl)
            try simp only [Act.put, List.setIfInBounds_toArray, List.set_cons_zero, List.set_cons_succ]
            refine wpAnyH_take (i := 3) (v := ?_) (by simp only [List.getElem?_toArray, List.getElem?_cons_succ, List.getElem?_cons_zero]; rfl) (by kernel_rfl) (by kernel_rfl) (by kernel_rfl) (fun _ _ _ h => h) (Or.inl ⟨by rfl, ?_⟩) (by assumption) ?_
            rotate_left 1
            · (intro w hSw; (try dsimp only at hSw); go_simp; try with_reducible rfl)
            try simp only [Act.put, List.setIfInBounds_toArray, List.set_cons_zero, List.set_cons_succ]
            refine wpAnyH_take (i := 4) (v := ?_) (by simp only [List.getElem?_toArray, List.getElem?_cons_succ, List.getElem?_cons_zero]; rfl) (by kernel_rfl) (by kernel_rfl) (by kernel_rfl) (fun _ _ _ h => h) (Or.inl ⟨by rfl, ?_⟩) (by assumption) ?_
            rotate_left 1
            · (intro w hSw; (try dsimp only at hSw); go_simp; try with_reducible rfl)
            try simp only [Act.put, List.setIfInBounds_toArray, List.set_cons_zero, List.set_cons_succ]
            refine wpAnyH_take (i := 5) (v := ?_) (by simp only [List.getElem?_toArray, List.getElem?_cons_succ, List.getElem?_cons_zero]; rfl) (by kernel_rfl) (by kernel_rfl) (by kernel_rfl) (fun _ _ _ h => h) (Or.inl ⟨by rfl, ?_⟩) (by assumption) ?_
            rotate_left 1
            · (intro w hSw; (try dsimp only at hSw); go_simp; try with_reducible rfl)
            try simp only [Act.put, List.setIfInBounds_toArray, List.set_cons_zero, List.set_cons_succ]
            refine wpAnyH_take (i := 6) (v := ?_) (by simp only [List.getElem?_toArray, List.getElem?_cons_succ, List.getElem?_cons_zero]; rfl) (by kernel_rfl) (by kernel_rfl) (by kernel_rfl) (fun _ _ _ h => h) (Or.inl ⟨by rfl, ?_⟩) (by assumption) ?_
            rotate_left 1
            · (intro w hSw; (try dsimp only at hSw); go_simp; try with_reducible rfl)
            try simp only [Act.put, List.setIfInBounds_toArray, List.set_cons_zero, List.set_cons_succ]
            refine wpAnyH_take (i := 7) (v := ?_) (by simp only [List.getElem?_toArray, List.getElem?_cons_succ, List.getElem?_cons_zero]; rfl) (by kernel_rfl) (by kernel_rfl) (by kernel_rfl) (fun _ _ _ h => h) (Or.inl ⟨by rfl, ?_⟩) (by assumption) ?_
            rotate_left 1
            · (intro w hSw; (try dsimp only at hSw); go_simp; try with_reducible rfl)
            try simp only [Act.put, List.setIfInBounds_toArray, List.set_cons_zero, List.set_cons_succ]
            refine wpAnyH_take (i := 8) (v := ?_) (by simp only [List.getElem?_toArray, List.getElem?_cons_succ, List.getElem?_cons_zero]; rfl) (by kernel_rfl) (by kernel_rfl) (by kernel_rfl) (fun _ _ _ h => h) (Or.inl ⟨by rfl, ?_⟩) (by assumption) ?_
            rotate_left 1
            · (intro w hSw; (try dsimp only at hSw); go_simp; try with_reducible rfl)
            try simp only [Act.put, List.setIfInBounds_toArray, List.set_cons_zero, List.set_cons_succ]
            refine wpAnyH_take (i := 9) (v := ?_) (by simp only [List.getElem?_toArray, List.getElem?_cons_succ, List.getElem?_cons_zero]; rfl) (by kernel_rfl) (by kernel_rfl) (by kernel_rfl) (fun _ _ _ h => h) (Or.inl ⟨by rfl, ?_⟩) (by assumption) ?_
            rotate_left 1
            · (intro w hSw; (try dsimp only at hSw); go_simp; try with_reducible rfl)
            try simp only [Act.put, List.setIfInBounds_toArray, List.set_cons_zero, List.set_cons_succ]
            refine wpAnyH_ready (rs := [10]) (by kernel_rfl) (by simp) ?_
            refine AllReadyH.cons (by simp only [List.getElem?_toArray, List.getElem?_cons_succ, List.getElem?_cons_zero]; rfl) (fun K hK => ?_) ?_
            rotate_left 1
            · exact AllReadyH.nil
            go_simp
            refine (wide_any l hlt _).mono ?_; rintro e w2 ⟨rfl, rfl⟩; go_wp2_with fail
            refine hK.out _ _ ?_ (fun hHeld2 => ?_)
            · ((try dsimp only) <;> (first | trivial | assumption | go_keep))
            clear hHeld
            have hHeld := hHeld2
            clear hHeld2 hK K
            try simp only [Act.put, List.setIfInBounds_toArray, List.set_cons_zero, List.set_cons_succ]
            refine wpAnyH_take (i := 11) (v := ?_) (by simp only [List.getElem?_toArray, List.getElem?_cons_succ, List.getElem?_cons_zero]; rfl) (by kernel_rfl) (by kernel_rfl) (by kernel_rfl) (fun _ _ _ h => h) (Or.inl ⟨by rfl, ?_⟩) (by assumption) ?_
            rotate_left 1
            · (intro w hSw; (try dsimp only at hSw); go_simp; try with_reducible rfl)
            try simp only [Act.put, List.setIfInBounds_toArray, List.set_cons_zero, List.set_cons_succ]
            refine wpAnyH_take (i := 12) (v := ?_) (by simp only [List.getElem?_toArray, List.getElem?_cons_succ, List.getElem?_cons_zero]; rfl) (by kernel_rfl) (by kernel_rfl) (by kernel_rfl) (fun _ _ _ h => h) (Or.inl ⟨by rfl, ?_⟩) (by assumption) ?_
            rotate_left 1
            · (intro w hSw; (try dsimp only at hSw); go_simp; try with_reducible rfl)
            try simp only [Act.put, List.setIfInBounds_toArray, List.set_cons_zero, List.set_cons_succ]
            refine wpAnyH_take (i := 13) (v := ?_) (by simp only [List.getElem?_toArray, List.getElem?_cons_succ, List.getElem?_cons_zero]; rfl) (by kernel_rfl) (by kernel_rfl) (by kernel_rfl) (fun _ _ _ h => h) (Or.inl ⟨by rfl, ?_⟩) (by assumption) ?_
            rotate_left 1
            · (intro w hSw; (try dsimp only at hSw); go_simp; try with_reducible rfl)
            try simp only [Act.put, List.setIfInBounds_toArray, List.set_cons_zero, List.set_cons_succ]
            refine wpAnyH_done (by kernel_rfl) ?_ _
            refine NoPanic.normal ?_
            go_wp2_with fail
            go_roundw
            case rel => exact ⟨l + 1, by omega, by omega, by go_num, hit_ext H4.out hno.out, H5.out.drew⟩
            case measure => simp [intOf]; omega
        · have hd : decide ((l : Int) ≤ (r : Int)) = false := decide_eq_false (by omega)
          have hno : Hid (hitL n l = false) := hide (by rw [hh.out]; simp; intro _ h; omega)
          go_wp2_with fail
          refine wp_region_noPanic ?_
          refine wp_region_held_drew (S := (fun _ => True)) (by kernel_rfl) ?_ (fun hHeld => ?_)
          · ((try dsimp only) <;> (first | trivial | assumption | go_keep))
          refine wpAnyH_take (i := 0) (v := ?_) (by simp only [List.getElem?_toArray, List.getElem?_cons_succ, List.getElem?_cons_zero]; rfl) (by kernel_rfl) (by kernel_rfl) (by kernel_rfl) (fun _ _ _ h => h) (Or.inl ⟨by rfl, ?_⟩) (by assumption) ?_
          rotate_left 1
          · (intro w hSw; (try dsimp only at hSw); go_simp; try with_reducible rfl)
          try simp only [Act.put, List.setIfInBounds_toArray, List.set_cons_zero, List.set_cons_succ]
          refine wpAnyH_take (i := 1) (v := ?_) (by simp only [List.getElem?_toArray, List.getElem?_cons_succ, List.getElem?_cons_zero]; rfl) (by kernel_rfl) (by kernel_rfl) (by kernel_rfl) (fun _ _ _ h => h) (Or.inl ⟨by rfl, ?_⟩) (by assumption) ?_
          rotate_left 1
          · (intro w hSw; (try dsimp only at hSw); go_simp; try with_reducible rfl)
          try simp only [Act.put, List.setIfInBounds_toArray, List.set_cons_zero, List.set_cons_succ]
          refine wpAnyH_take (i := 2) (v := ?_) (by simp only [List.getElem?_toArray, List.getElem?_cons_succ, List.getElem?_cons_zero]; rfl) (by kernel_rfl) (by kernel_rfl) (by kernel_rfl) (fun _ _ _ h => h) (Or.inl ⟨by rfl, ?_⟩) (by assumption) ?_
          rotate_left 1
          · (intro w hSw; (try dsimp only at hSw); go_simp; try with_reducible rfl)
          try simp only [Act.put, List.setIfInBounds_toArray, List.set_cons_zero, List.set_cons_succ]
          refine wpAnyH_take (i := 3) (v := ?_) (by simp only [List.getElem?_toArray, List.getElem?_cons_succ, List.getElem?_cons_zero]; rfl) (by kernel_rfl) (by kernel_rfl) (by kernel_rfl) (fun _ _ _ h => h) (Or.inl ⟨by rfl, ?_⟩) (by assumption) ?_
          rotate_left 1
          · (intro w hSw; (try dsimp only at hSw); go_simp; try with_reducible rfl)
          try simp only [Act.put, List.setIfInBounds_toArray, List.set_cons_zero, List.set_cons_succ]
          refine wpAnyH_take (i := 4) (v := undef) (by simp only [List.getElem?_toArray, List.getElem?_cons_succ, List.getElem?_cons_zero]; rfl) (by kernel_rfl) (by kernel_rfl) (by kernel_rfl) (fun _ _ _ h => h) (Or.inr ⟨by rfl, rfl⟩) (by assumption) ?_
          try simp only [Act.put, List.setIfInBounds_toArray, List.set_cons_zero, List.set_cons_succ]
          refine wpAnyH_take (i := 5) (v := undef) (by simp only [List.getElem?_toArray, List.getElem?_cons_succ, List.getElem?_cons_zero]; rfl) (by kernel_rfl) (by kernel_rfl) (by kernel_rfl) (fun _ _ _ h => h) (Or.inr ⟨by rfl, rfl⟩) (by assumption) ?_
          try simp only [Act.put, List.setIfInBounds_toArray, List.set_cons_zero, List.set_cons_succ]
          refine wpAnyH_take (i := 6) (v := undef) (by simp only [List.getElem?_toArray, List.getElem?_cons_succ, List.getElem?_cons_zero]; rfl) (by kernel_rfl) (by kernel_rfl) (by kernel_rfl) (fun _ _ _ h => h) (Or.inr ⟨by rfl, rfl⟩) (by assumption) ?_
          try simp only [Act.put, List.setIfInBounds_toArray, List.set_cons_zero, List.set_cons_succ]
          refine wpAnyH_take (i := 7) (v := undef) (by simp only [List.getElem?_toArray, List.getElem?_cons_succ, List.getElem?_cons_zero]; rfl) (by kernel_rfl) (by kernel_rfl) (by kernel_rfl) (fun _ _ _ h => h) (Or.inr ⟨by rfl, rfl⟩) (by assumption) ?_
          try simp only [Act.put, List.setIfInBounds_toArray, List.set_cons_zero, List.set_cons_succ]
          refine wpAnyH_take (i := 8) (v := undef) (by simp only [List.getElem?_toArray, List.getElem?_cons_succ, List.getElem?_cons_zero]; rfl) (by kernel_rfl) (by kernel_rfl) (by kernel_rfl) (fun _ _ _ h => h) (Or.inr ⟨by rfl, rfl⟩) (by assumption) ?_
          try simp only [Act.put, List.setIfInBounds_toArray, List.set_cons_zero, List.set_cons_succ]
          refine wpAnyH_take (i := 9) (v := undef) (by simp only [List.getElem?_toArray, List.getElem?_cons_succ, List.getElem?_cons_zero]; rfl) (by kernel_rfl) (by kernel_rfl) (by kernel_rfl) (fun _ _ _ h => h) (Or.inr ⟨by rfl, rfl⟩) (by assumption) ?_
          try simp only [Act.put, List.setIfInBounds_toArray, List.set_cons_zero, List.set_cons_succ]
          refine wpAnyH_take (i := 10) (v := undef) (by simp only [List.getElem?_toArray, List.getElem?_cons_succ, List.getElem?_cons_zero]; rfl) (by kernel_rfl) (by kernel_rfl) (by kernel_rfl) (fun _ _ _ h => h) (Or.inr ⟨by rfl, rfl⟩) (by assumption) ?_
          try simp only [Act.put, List.setIfInBounds_toArray, List.set_cons_zero, List.set_cons_succ]
          refine wpAnyH_take (i := 11) (v := undef) (by simp only [List.getElem?_toArray, List.getElem?_cons_succ, List.getElem?_cons_zero]; rfl) (by kernel_rfl) (by kernel_rfl) (by kernel_rfl) (fun _ _ _ h => h) (Or.inr ⟨by rfl, rfl⟩) (by assumption) ?_
          try simp only [Act.put, List.setIfInBounds_toArray, List.set_cons_zero, List.set_cons_succ]
          refine wpAnyH_take (i := 12) (v := undef) (by simp only [List.getElem?_toArray, List.getElem?_cons_succ, List.getElem?_cons_zero]; rfl) (by kernel_rfl) (by kernel_rfl) (by kernel_rfl) (fun _ _ _ h => h) (Or.inr ⟨by rfl, rfl⟩) (by assumption) ?_
          try simp only [Act.put, List.setIfInBounds_toArray, List.set_cons_zero, List.set_cons_succ]
          refine wpAnyH_take (i := 13) (v := ?_) (by simp only [List.getElem?_toArray, List.getElem?_cons_succ, List.getElem?_cons_zero]; rfl) (by kernel_rfl) (by kernel_rfl) (by kernel_rfl) (fun _ _ _ h => h) (Or.inl ⟨by rfl, ?_⟩) (by assumption) ?_
          rotate_left 1
          · (intro w hSw; (try dsimp only at hSw); go_simp; try with_reducible rfl)
          try simp only [Act.put, List.setIfInBounds_toArray, List.set_cons_zero, List.set_cons_succ]
          refine wpAnyH_done (by kernel_rfl) ?_ _
          refine NoPanic.normal ?_
          go_wp2_with fail
          go_roundw
          case rel => exact ⟨l + 1, by omega, by omega, by go_num, hit_ext H4.out hno.out, H5.out.drew⟩
          case measure => simp [intOf]; omega
      · have hno : Hid (hitL n l = false) := hide (by
          unfold hitL okL
          rcases (show candI n l < 0 ∨ 600 ≤ candI n l by omega) with h | h
          · simp; omega
          · have : ¬ (candI n l).toNat < 600 := by omega
            simp [this])
        have hc' : -(n + (l : Int) - 1) < 0 ∨ 600 ≤ -(n + (l : Int) - 1) := by unfold candI at hc; omega
        clear hc
        rcases hc' with hc' | hc'
        all_goals
          go_wp2_with fail
          go_roundw
          case rel => exact ⟨l + 1, by omega, by omega, by go_num, hit_ext H4.out hno.out, H5.out⟩
          case measure => simp [intOf]; omega
    · have hno := hide (found_no h0 (fun k k1 k2 => H4.out k k1 (by omega)))
      go_wp2_with fail
      go_ret3
      exact ⟨hno.out, H5.out⟩
end Go.Proofs.YtopjkpopdffkeaaDoor
