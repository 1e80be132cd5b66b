import Derived.Test.YtlobkefacnedeaaDoorJa02
import Derived.Deep.RegionWith
import Derived.Deep.DeepCutAuto
import Derived.Deep.QuietTactic
import Derived.BigQuiet
import Derived.Deep.RegionHeld3
import Derived.Deep.DrawnRows
set_option linter.unusedVariables false
set_option linter.unusedSimpArgs false
/- The walks over package index: wide, rootOf, find, number, Level, Covers. -/
namespace Go.Proofs.YtlobkefacnedeaaDoor
open Go.RowKit
set_option maxRecDepth 100000
attribute [local go_sem ↓] Go.wp_at_zero Go.wp_at_succ

/-- How many data a block of a level covers. -/
def pw (l : Nat) : Nat := 16 ^ l
theorem pw_succ (l : Nat) : pw (l + 1) = pw l * 16 := Nat.pow_succ ..
theorem spanN_1 : spanN 1 = 6 := rfl
theorem spanN_2 : spanN 2 = 22 := rfl
theorem spanN_3 : spanN 3 = 278 := rfl
theorem pow16_bd {l : Nat} (h : l ≤ 3) : 1 ≤ pw l ∧ pw l ≤ 4096 := by
  unfold pw
  match l, h with
  | 0, _ => decide
  | 1, _ => decide
  | 2, _ => decide
  | 3, _ => decide
theorem wide_any (l : Nat) (hl : l ≤ 3) (w : World) : Calls Tryd.prog 94 #[.int .i64 (l : Int)] w fun e w' => e = .returned (.int .i64 (pw l : Int)) ∧ w = w' := by
  go_enter Tryd.func94, Tryd.ntmps94
  go_wp2_with fail
  go_loop [3, 5] (fun x y => ∃ k : Nat, k ≤ l ∧ x = .int .i64 (pw k : Int) ∧ y = .int .i64 (k : Int)) (fun _ y => l - (intOf y).toNat)
  case atStart => exact ⟨0, Nat.zero_le _, rfl, rfl⟩
  case round =>
    obtain ⟨k, hk, rfl, rfl⟩ := hrel
    have hp := pow16_bd (show k ≤ 3 by omega)
    by_cases hlt : k < l
    · have hs : Hid ((pw (k + 1) : Int) = (pw k : Int) * 16) := hide (by rw [pw_succ]; omega)
      have hp1 : 1 ≤ (pw k : Int) := by omega
      have hp2 : (pw k : Int) ≤ 4096 := by omega
      clear hp
      go_wp2_with fail
      go_round
      case rel => exact ⟨k + 1, by omega, by rw [hs.out], by go_num⟩
      case measure => simp [intOf]; omega
    · obtain rfl : l = k := by omega
      clear hp
      go_wp2_with fail
      go_ret
      exact ⟨rfl, rfl⟩
theorem rootN_bd (f : Nat) : rootN f ≤ 3 := by unfold rootN; split <;> (try split) <;> (try split) <;> omega
set_option maxRecDepth 100000 in
theorem rootOf_any (f : Nat) (hf : f < 600) (w : World) (sp : SpanAt w) : Calls Tryd.prog 93 #[.int .i64 (f : Int)] w fun e w' => e = .returned (.int .i64 (rootN f : Int)) ∧ w = w' := by
  obtain ⟨s0, s1, s2, s3, s4'⟩ := sp
  obtain ⟨M, hM, s4⟩ : ∃ M : Int, 600 ≤ M ∧ w.cell? ⟨0, 4, none⟩ = some (.int .i64 M) := ⟨1073741824, by decide, s4'⟩
  clear s4'
  have hr : Hid (∀ k, k = rootN f → (k = 0 ∧ f < 6) ∨ (k = 1 ∧ 6 ≤ f ∧ f < 22) ∨ (k = 2 ∧ 22 ≤ f ∧ f < 278) ∨ (k = 3 ∧ 278 ≤ f)) := hide (fun k hk => by
    subst hk; unfold rootN; split
    · omega
    · split
      · omega
      · split <;> omega)
  go_enter Tryd.func93, Tryd.ntmps93
  go_wp2_with fail
  go_loop [3] (fun x => ∃ k : Nat, k ≤ 3 ∧ spanN k ≤ f ∧ x = .int .i64 (k : Int)) (fun x => 3 - (intOf x).toNat)
  case atStart => exact ⟨0, by omega, Nat.zero_le _, rfl⟩
  case round =>
    obtain ⟨k, hk, hs, rfl⟩ := hrel
    have hr0 := hr.out _ rfl
    have hr1 := hide (show rootN f = 0 ∨ rootN f = 1 ∨ rootN f = 2 ∨ rootN f = 3 by omega)
    rcases (show k = 0 ∨ k = 1 ∨ k = 2 ∨ k = 3 by omega) with rfl | rfl | rfl | rfl
    · by_cases hc : f < 6
      · have e : Hid ((0 : Int) = (rootN f : Int)) := hide (by omega)
        clear hr0
        go_wp2_with fail
        go_ret
        exact ⟨by rw [← e.out]; rfl, rfl⟩
      · clear hr0
        go_wp2_with fail
        go_round
        case rel => exact ⟨1, by omega, by rw [spanN_1]; omega, by go_num⟩
        case measure => simp [intOf]
    · by_cases hc : f < 22
      · have e : Hid ((1 : Int) = (rootN f : Int)) := hide (by rw [spanN_1] at hs; omega)
        clear hr0
        go_wp2_with fail
        go_ret
        exact ⟨by rw [← e.out]; rfl, rfl⟩
      · clear hr0
        go_wp2_with fail
        go_round
        case rel => exact ⟨2, by omega, by rw [spanN_2]; omega, by go_num⟩
        case measure => simp [intOf]
    · by_cases hc : f < 278
      · have e : Hid ((2 : Int) = (rootN f : Int)) := hide (by rw [spanN_2] at hs; omega)
        clear hr0
        go_wp2_with fail
        go_ret
        exact ⟨by rw [← e.out]; rfl, rfl⟩
      · clear hr0
        go_wp2_with fail
        go_round
        case rel => exact ⟨3, by omega, by rw [spanN_3]; omega, by go_num⟩
        case measure => simp [intOf]
    · have hc : (f : Int) < M := by omega
      have e : Hid ((3 : Int) = (rootN f : Int)) := hide (by rw [spanN_3] at hs; omega)
      clear hr0
      go_wp2_with fail
      go_ret
      exact ⟨by rw [← e.out]; rfl, rfl⟩
theorem find_pos (n : Int) (h0 : 0 ≤ n) (w : World) : Calls Tryd.prog 90 #[.int .i64 n] w fun e w' => e = .returned (.tuple #[.int .i64 0, .int .i64 n, .bool (decide (n < 600))]) ∧ w = w' := by
  go_enter Tryd.func90, Tryd.ntmps90
  go_wp2_with fail
  go_ret3
  exact ⟨rfl, rfl⟩
theorem find_neg_far (n : Int) (h0 : n < -605) (h1 : -9223372036854775808 < n) (w : World) : Calls Tryd.prog 90 #[.int .i64 n] w fun e w' => e = .returned (.tuple #[.int .i64 0, .int .i64 0, .bool false]) ∧ Below w.heap.size w w' := by
  go_enter Tryd.func90, Tryd.ntmps90
  go_wp2_with fail
  go_loop [5] (fun x => ∃ l : Nat, 1 ≤ l ∧ l ≤ 4 ∧ x = .int .i64 (l : Int)) (fun x => 4 - (intOf x).toNat)
  case atStart => exact ⟨1, by omega, by omega, rfl⟩
  case round =>
    obtain ⟨l, h2, h3, rfl⟩ := hrel
    by_cases hlt : l ≤ 3
    · go_wp2_with fail
      go_round
      case rel => exact ⟨l + 1, by omega, by omega, by go_num⟩
      case measure => simp [intOf]; omega
    · go_wp2_with fail
      go_ret3
      exact ⟨rfl, Below.refl _ _⟩
theorem find_min (w : World) : Calls Tryd.prog 90 #[.int .i64 (-9223372036854775808)] w fun e w' => e = .returned (.tuple #[.int .i64 0, .int .i64 0, .bool false]) ∧ Below w.heap.size w w' := by
  obtain ⟨M, hM, hM0⟩ : ∃ M, wrap64 9223372036854775808 = M ∧ M < 0 := ⟨-9223372036854775808, by kernel_rfl, by decide⟩
  go_enter Tryd.func90, Tryd.ntmps90
  go_wp2_with fail
  go_loop [5] (fun x => ∃ l : Nat, 1 ≤ l ∧ l ≤ 4 ∧ x = .int .i64 (l : Int)) (fun x => 4 - (intOf x).toNat)
  case atStart => exact ⟨1, by omega, by omega, rfl⟩
  case round =>
    obtain ⟨l, h2, h3, rfl⟩ := hrel
    rcases (show l = 1 ∨ l = 2 ∨ l = 3 ∨ l = 4 by omega) with rfl | rfl | rfl | rfl
    all_goals clear h2 h3
    · go_wp2_with fail
      go_round
      case rel => exact ⟨2, by omega, by omega, by go_num⟩
      case measure => simp [intOf]
    · go_wp2_with fail
      go_round
      case rel => exact ⟨3, by omega, by omega, by go_num⟩
      case measure => simp [intOf]
    · go_wp2_with fail
      go_round
      case rel => exact ⟨4, by omega, by omega, by go_num⟩
      case measure => simp [intOf]
    · go_wp2_with fail
      go_ret3
      exact ⟨rfl, Below.refl _ _⟩
/-- What find answers. -/
def Found (n : Int) (e : Ending) : Prop := match findP n with
  | some (l, f) => e = .returned (.tuple #[.int .i64 (l : Int), .int .i64 (f : Int), .bool true])
  | none => ∃ a b : Int, e = .returned (.tuple #[.int .i64 a, .int .i64 b, .bool false])
theorem findP_neg {n : Int} (h : n < 0) : findP n = if hitL n 1 then some (1, (candI n 1).toNat) else if hitL n 2 then some (2, (candI n 2).toNat) else if hitL n 3 then some (3, (candI n 3).toNat) else none := by
  unfold findP; rw [if_neg (by omega)]
theorem found_hit {n : Int} (h : n < 0) {l f : Nat} (h1 : 1 ≤ l) (h3 : l ≤ 3) (hn : ∀ k, 1 ≤ k → k < l → hitL n k = false) (hh : hitL n l = true) (hf : candI n l = (f : Int)) : Found n (.returned (.tuple #[.int .i64 (l : Int), .int .i64 (f : Int), .bool true])) := by
  have e : findP n = some (l, f) := by
    rw [findP_neg h]
    have hf' : (candI n l).toNat = f := by omega
    rcases (show l = 1 ∨ l = 2 ∨ l = 3 by omega) with rfl | rfl | rfl
    · rw [if_pos hh, hf']
    · rw [if_neg (by rw [hn 1 (by omega) (by omega)]; decide), if_pos hh, hf']
    · rw [if_neg (by rw [hn 1 (by omega) (by omega)]; decide), if_neg (by rw [hn 2 (by omega) (by omega)]; decide), if_pos hh, hf']
  unfold Found
  rw [e]
theorem found_no {n : Int} (h : n < 0) (hn : ∀ k, 1 ≤ k → k < 4 → hitL n k = false) : Found n (.returned (.tuple #[.int .i64 0, .int .i64 0, .bool false])) := by
  have e : findP n = none := by
    rw [findP_neg h, if_neg (by rw [hn 1 (by omega) (by omega)]; decide), if_neg (by rw [hn 2 (by omega) (by omega)]; decide), if_neg (by rw [hn 3 (by omega) (by omega)]; decide)]
  unfold Found
  rw [e]
  exact ⟨_, _, rfl⟩
theorem SpanAt.at {w : World} (h : SpanAt w) {k : Nat} (hk : k ≤ 3) : w.cell? ⟨0, k, none⟩ = some (.int .i64 (spanN k : Int)) := by
  rcases (show k = 0 ∨ k = 1 ∨ k = 2 ∨ k = 3 by omega) with rfl | rfl | rfl | rfl
  · exact h.c0
  · exact h.c1
  · exact h.c2
  · exact h.c3
theorem span_root (f : Nat) : spanN (rootN f) ≤ f := by
  unfold rootN
  split
  · exact Nat.zero_le _
  · split
    · rw [spanN_1]; omega
    · split
      · rw [spanN_2]; omega
      · rw [spanN_3]; omega
theorem hit_iff {n : Int} {l f : Nat} (hf : candI n l = (f : Int)) : hitL n l = (decide (f < 600) && decide (l ≤ rootN f) && decide ((f - spanN (rootN f)) % 16 ^ l = 0)) := by
  unfold hitL okL
  rw [hf]
  simp
theorem hit_ext {n : Int} {l : Nat} (h : ∀ k, 1 ≤ k → k < l → hitL n k = false) (hl : hitL n l = false) : ∀ k, 1 ≤ k → k < l + 1 → hitL n k = false := fun k k1 k2 => by
  rcases (show k < l ∨ k = l by omega) with h' | rfl
  · exact h k k1 h'
  · exact hl
set_option maxHeartbeats 1000000 in
set_option maxRecDepth 100000 in
theorem find_near (n : Int) (h0 : n < 0) (h1 : -605 ≤ n) (w : World) (sp : SpanAt w) : Calls Tryd.prog 90 #[.int .i64 n] w fun e w' => Found n e ∧ Below w.heap.size w w' := by
  have SP := hide sp
  clear sp
  go_enter Tryd.func90, Tryd.ntmps90
  go_wp2_with fail
  go_loopw [5] (fun x wr => ∃ l : Nat, 1 ≤ l ∧ l ≤ 4 ∧ x = .int .i64 (l : Int) ∧ (∀ k, 1 ≤ k → k < l → hitL n k = false) ∧ Below w.heap.size w wr) (fun x _ => 4 - (intOf x).toNat)
  case atStart => exact ⟨1, by omega, by omega, rfl, (fun k h1 h2 => absurd h1 (by omega)), Below.refl _ _⟩
  case round =>
    obtain ⟨l, h2, h3, rfl, h4, h5⟩ := hrel
    have H4 := hide h4
    have H5 := hide h5
    clear h4 h5
    by_cases hlt : l ≤ 3
    · by_cases hc : 0 ≤ candI n l ∧ candI n l < 600
      · obtain ⟨f, hf⟩ : ∃ f : Nat, candI n l = (f : Int) := ⟨(candI n l).toNat, by omega⟩
        have hf6 : f < 600 := by omega
        have hh := hide (hit_iff hf)
        have hs := span_root f
        have hr3 := rootN_bd f
        have hp := pow16_bd hlt
        have e0 : -(n + (l : Int) - 1) = (f : Int) := hf
        have sc := (SP.out.bel H5.out).at hr3
        have HF := hide hf
        clear hc hf
        go_wp2_with fail
        refine (rootOf_any f hf6 wr (SP.out.bel H5.out)).mono ?_
        rintro e w1 ⟨rfl, rfl⟩
        generalize hrn : rootN f = r at *
        replace hrn := hide hrn
        by_cases hg : l ≤ r
        · have hd : decide ((l : Int) ≤ (r : Int)) = true := decide_eq_true (by omega)
          have i1 : (0 : Int) ≤ (r : Int) := by omega
          have i2 : (r : Int) < 5 := by omega
          obtain ⟨g, hgf⟩ : ∃ g : Nat, f = spanN r + g := ⟨f - spanN r, by omega⟩
          have eg : (f : Int) - (spanN r : Int) = (g : Int) := by omega
          have hgg : Hid (f - spanN r = g) := hide (by omega)
          replace hgf := hide hgf
          have w1 : IntKind.i64.wrap (g : Int) = (g : Int) := IntWalk.i64_in _ (by omega)
          have hpz : ¬ pw l = 0 := by omega
          obtain ⟨q, hq⟩ : ∃ q : Nat, q = g % pw l := ⟨_, rfl⟩
          have em : (g : Int).tmod (pw l : Int) = (q : Int) := by rw [Int.tmod_eq_emod_of_nonneg (by omega), hq, Int.natCast_emod]
          have hq5 : q < 5000 := by rw [hq]; exact Nat.lt_of_lt_of_le (Nat.mod_lt _ (by omega)) (by omega)
          have wq : IntKind.i64.wrap (q : Int) = (q : Int) := IntWalk.i64_in _ (by omega)
          by_cases hz : q = 0
          · have ez : ((q : Int) == 0) = true := by rw [hz]; rfl
            rw [hq] at hz
            replace hq := hide hq
            have hyes := hide (found_hit h0 h2 hlt H4.out (by rw [hh.out, hgg.out]; simp; exact ⟨⟨hf6, hg⟩, hz⟩) HF.out)
            clear hz
            go_wp2_with fail
            refine wp_region_noPanic ?_
            refine wp_region_held_drew (S := (fun w' => w'.cell? ⟨0, r, none⟩ = some (.int .i64 (spanN r : Int)))) (by kernel_rfl) ?_ (fun hHeld => ?_)
            · ((try dsimp only) <;> (first | trivial | assumption | go_keep))
            refine tk 0 ?_
            refine tk 1 ?_
            refine tk 2 ?_
            refine tk 3 ?_
            refine tk 4 ?_
            refine tk 5 ?_
            refine tk 6 ?_
            refine tk 7 ?_
            refine tk 8 ?_
            refine tk 9 ?_
            refine wpAnyH_ready (rs := [10]) (by kernel_rfl) (by simp) ?_
            refine AllReadyH.cons (by simp only [List.getElem?_toArray, List.getElem?_cons_succ, List.getElem?_cons_zero]; rfl) (fun K hK => ?_) ?_
            rotate_left 1
            · exact AllReadyH.nil
            go_simp
            refine (wide_any l hlt _).mono ?_; rintro e w2 ⟨rfl, rfl⟩; go_wp2_with fail
            refine hK.out _ _ ?_ (fun hHeld2 => ?_)
            · ((try dsimp only) <;> (first | trivial | assumption | go_keep))
            clear hHeld
            have hHeld := hHeld2
            clear hHeld2 hK K
            try simp only [Act.put, List.setIfInBounds_toArray, List.set_cons_zero, List.set_cons_succ]
            refine tk 11 ?_
            refine tk 12 ?_
            refine tk 13 ?_
            refine wpAnyH_done (by kernel_rfl) ?_ _
            refine NoPanic.normal ?_
            go_wp2_with fail
            go_ret3
            exact ⟨hyes.out, H5.out.drew⟩
          · have ez : ((q : Int) == 0) = false := by rw [beq_eq_false_iff_ne]; omega
            rw [hq] at hz
            replace hq := hide hq
            have hno : Hid (hitL n l = false) := hide (by rw [hh.out, hgg.out]; simp; intro _ _; exact hz)
            clear hz
            go_wp2_with fail
            refine wp_region_noPanic ?_
            refine wp_region_held_drew (S := (fun w' => w'.cell? ⟨0, r, none⟩ = some (.int .i64 (spanN r : Int)))) (by kernel_rfl) ?_ (fun hHeld => ?_)
            · ((try dsimp only) <;> (first | trivial | assumption | go_keep))
            refine tk 0 ?_
            refine tk 1 ?_
            refine tk 2 ?_
            refine tk 3 ?_
            refine tk 4 ?_
            refine tk 5 ?_
            refine tk 6 ?_
            refine tk 7 ?_
            refine tk 8 ?_
            refine tk 9 ?_
            refine wpAnyH_ready (rs := [10]) (by kernel_rfl) (by simp) ?_
            refine AllReadyH.cons (by simp only [List.getElem?_toArray, List.getElem?_cons_succ, List.getElem?_cons_zero]; rfl) (fun K hK => ?_) ?_
            rotate_left 1
            · exact AllReadyH.nil
            go_simp
            refine (wide_any l hlt _).mono ?_; rintro e w2 ⟨rfl, rfl⟩; go_wp2_with fail
            refine hK.out _ _ ?_ (fun hHeld2 => ?_)
            · ((try dsimp only) <;> (first | trivial | assumption | go_keep))
            clear hHeld
            have hHeld := hHeld2
            clear hHeld2 hK K
            try simp only [Act.put, List.setIfInBounds_toArray, List.set_cons_zero, List.set_cons_succ]
            refine tk 11 ?_
            refine tk 12 ?_
            refine tk 13 ?_
            refine wpAnyH_done (by kernel_rfl) ?_ _
            refine NoPanic.normal ?_
            go_wp2_with fail
            go_roundw
            case rel => exact ⟨l + 1, by omega, by omega, by go_num, hit_ext H4.out hno.out, H5.out.drew⟩
            case measure => simp [intOf]; omega
        · have hd : decide ((l : Int) ≤ (r : Int)) = false := decide_eq_false (by omega)
          have hno : Hid (hitL n l = false) := hide (by rw [hh.out]; simp; intro _ h; omega)
          go_wp2_with fail
          refine wp_region_noPanic ?_
          refine wp_region_held_drew (S := (fun _ => True)) (by kernel_rfl) ?_ (fun hHeld => ?_)
          · ((try dsimp only) <;> (first | trivial | assumption | go_keep))
          refine tk 0 ?_
          refine tk 1 ?_
          refine tk 2 ?_
          refine tk 3 ?_
          refine sk 4 ?_
          refine sk 5 ?_
          refine sk 6 ?_
          refine sk 7 ?_
          refine sk 8 ?_
          refine sk 9 ?_
          refine sk 10 ?_
          refine sk 11 ?_
          refine sk 12 ?_
          refine tk 13 ?_
          refine wpAnyH_done (by kernel_rfl) ?_ _
          refine NoPanic.normal ?_
          go_wp2_with fail
          go_roundw
          case rel => exact ⟨l + 1, by omega, by omega, by go_num, hit_ext H4.out hno.out, H5.out.drew⟩
          case measure => simp [intOf]; omega
      · have hno : Hid (hitL n l = false) := hide (by
          unfold hitL okL
          rcases (show candI n l < 0 ∨ 600 ≤ candI n l by omega) with h | h
          · simp; omega
          · have : ¬ (candI n l).toNat < 600 := by omega
            simp [this])
        have hc' : -(n + (l : Int) - 1) < 0 ∨ 600 ≤ -(n + (l : Int) - 1) := by unfold candI at hc; omega
        clear hc
        rcases hc' with hc' | hc'
        all_goals
          go_wp2_with fail
          go_roundw
          case rel => exact ⟨l + 1, by omega, by omega, by go_num, hit_ext H4.out hno.out, H5.out⟩
          case measure => simp [intOf]; omega
    · have hno := hide (found_no h0 (fun k k1 k2 => H4.out k k1 (by omega)))
      go_wp2_with fail
      go_ret3
      exact ⟨hno.out, H5.out⟩
end Go.Proofs.YtlobkefacnedeaaDoor

/- The walks over package index: Level, Covers. -/
namespace Go.Proofs.YtlobkefacnedeaaDoor
open Go.RowKit
set_option maxRecDepth 100000
attribute [local go_sem ↓] Go.wp_at_zero Go.wp_at_succ

/-- An integer that a Go int may be. -/
abbrev I64 (n : Int) : Prop := -9223372036854775808 ≤ n ∧ n ≤ 9223372036854775807
theorem found_none {n : Int} (h : findP n = none) (a b : Int) : Found n (.returned (.tuple #[.int .i64 a, .int .i64 b, .bool false])) := by
  unfold Found; rw [h]; exact ⟨a, b, rfl⟩
theorem find_any (n : Int) (hn : I64 n) (w : World) (sp : SpanAt w) : Calls Tryd.prog 90 #[.int .i64 n] w fun e w' => Found n e ∧ Below w.heap.size w w' := by
  obtain ⟨h1, h2⟩ := hn
  by_cases h0 : 0 ≤ n
  · refine (find_pos n h0 w).mono ?_
    rintro e w' ⟨rfl, rfl⟩
    refine ⟨?_, Below.refl _ _⟩
    by_cases h6 : n < 600
    · rw [decide_eq_true h6]
      have e : findP n = some (0, n.toNat) := by unfold findP; rw [if_pos h0, if_pos h6]
      unfold Found
      rw [e]
      show _ = Ending.returned (.tuple #[.int .i64 0, .int .i64 (n.toNat : Int), .bool true])
      rw [Int.toNat_of_nonneg h0]
    · rw [decide_eq_false h6]
      exact found_none (by unfold findP; rw [if_pos h0, if_neg h6]) _ _
  · by_cases h3 : -605 ≤ n
    · exact find_near n (by omega) h3 w sp
    · by_cases h4 : n = -9223372036854775808
      · subst h4
        refine (find_min w).mono ?_
        rintro e w' ⟨rfl, hb⟩
        exact ⟨found_none (findP_out _ (by omega)) _ _, hb⟩
      · refine (find_neg_far n (by omega) (by omega) w).mono ?_
        rintro e w' ⟨rfl, hb⟩
        exact ⟨found_none (findP_out _ (by omega)) _ _, hb⟩
theorem find_yes (n : Int) (hn : I64 n) {l f : Nat} (h : findP n = some (l, f)) (w : World) (sp : SpanAt w) : Calls Tryd.prog 90 #[.int .i64 n] w fun e w' => e = .returned (.tuple #[.int .i64 (l : Int), .int .i64 (f : Int), .bool true]) ∧ Below w.heap.size w w' :=
  (find_any n hn w sp).mono fun e w' ⟨hf, hb⟩ => ⟨by unfold Found at hf; rw [h] at hf; exact hf, hb⟩
theorem find_no (n : Int) (hn : I64 n) (h : findP n = none) (w : World) (sp : SpanAt w) : Calls Tryd.prog 90 #[.int .i64 n] w fun e w' => (∃ a b : Int, e = .returned (.tuple #[.int .i64 a, .int .i64 b, .bool false])) ∧ Below w.heap.size w w' :=
  (find_any n hn w sp).mono fun e w' ⟨hf, hb⟩ => ⟨by unfold Found at hf; rw [h] at hf; exact hf, hb⟩
theorem level_yes (n : Int) (hn : I64 n) {l f : Nat} (h : findP n = some (l, f)) (w : World) (sp : SpanAt w) : Calls Tryd.prog 83 #[.int .i64 n] w fun e w' => e = .returned (.tuple #[.int .i64 (l : Int), .int .i64 0]) ∧ Below w.heap.size w w' := by
  have C := hide (find_yes n hn h w sp)
  clear h hn sp
  go_enter Tryd.func83, Tryd.ntmps83
  go_wp2_with fail
  refine C.out.mono ?_
  rintro e w' ⟨rfl, hb⟩
  have B := hide hb
  clear hb
  go_wp2_with fail
  go_ret2
  exact ⟨rfl, B.out⟩
theorem level_no (n : Int) (hn : I64 n) (h : findP n = none) (w : World) (sp : SpanAt w) : Calls Tryd.prog 83 #[.int .i64 n] w fun e w' => e = .returned (.tuple #[.int .i64 0, .int .i64 22]) ∧ Below w.heap.size w w' := by
  have C := hide (find_no n hn h w sp)
  clear h hn sp
  go_enter Tryd.func83, Tryd.ntmps83
  go_wp2_with fail
  refine C.out.mono ?_
  rintro e w' ⟨⟨a, b, rfl⟩, hb⟩
  have B := hide hb
  clear hb
  go_wp2_with fail
  go_ret2
  exact ⟨rfl, B.out⟩
theorem many_min (l f : Nat) : (manyN l f : Int) = min (pw l : Int) ((600 : Int) - f) ∨ 600 < f := by
  unfold manyN pw; omega
end Go.Proofs.YtlobkefacnedeaaDoor

/- The walks over summary's within, file, Check. (Printed by gen_smck.py.) -/
namespace Go.Proofs.YtlobkefacnedeaaDoor
open Go.RowKit
set_option maxRecDepth 100000
attribute [local go_sem ↓] Go.wp_at_zero Go.wp_at_succ

theorem within_any (n lo hi : Int) (w : World) : Calls Tryd.prog 63 #[.int .i64 n, .int .i64 lo, .int .i64 hi] w fun e w' => e = .returned (.bool (decide (lo ≤ n ∧ n ≤ hi))) ∧ Below w.heap.size w w' := by
  by_cases h1 : lo ≤ n
  · by_cases h2 : n ≤ hi
    · rw [decide_eq_true (show lo ≤ n ∧ n ≤ hi from ⟨h1, h2⟩)]
      go_enter Tryd.func63, Tryd.ntmps63
      go_wp2_with fail
      go_ret
      exact ⟨rfl, Below.refl _ _⟩
    · rw [decide_eq_false (show ¬ (lo ≤ n ∧ n ≤ hi) from fun h => h2 h.2)]
      go_enter Tryd.func63, Tryd.ntmps63
      go_wp2_with fail
      go_ret
      exact ⟨rfl, Below.refl _ _⟩
  · rw [decide_eq_false (show ¬ (lo ≤ n ∧ n ≤ hi) from fun h => h1 h.1)]
    go_enter Tryd.func63, Tryd.ntmps63
    go_wp2_with fail
    go_ret
    exact ⟨rfl, Below.refl _ _⟩
theorem within_yes {n lo hi : Int} (h : lo ≤ n ∧ n ≤ hi) (w : World) : Calls Tryd.prog 63 #[.int .i64 n, .int .i64 lo, .int .i64 hi] w fun e w' => e = .returned (.bool true) ∧ Below w.heap.size w w' := by
  have := within_any n lo hi w
  rwa [decide_eq_true h] at this
theorem within_no {n lo hi : Int} (h : ¬ (lo ≤ n ∧ n ≤ hi)) (w : World) : Calls Tryd.prog 63 #[.int .i64 n, .int .i64 lo, .int .i64 hi] w fun e w' => e = .returned (.bool false) ∧ Below w.heap.size w w' := by
  have := within_any n lo hi w
  rwa [decide_eq_false h] at this
/-- It is no block's number. -/
def badN (n : Int) : Bool := (findP n).isNone
theorem bad_any (n : Int) (hn : I64 n) (w : World) (sp : SpanAt w) : Calls Tryd.prog 82 #[.int .i64 n] w fun e w' => e = .returned (.bool (badN n)) ∧ Below w.heap.size w w' := by
  rcases hF : findP n with _ | ⟨l, f⟩
  · have C := hide (level_no n hn hF w sp)
    have hb : badN n = true := by unfold badN; rw [hF]; rfl
    rw [hb]
    clear hF hn sp hb
    go_enter Tryd.func82, Tryd.ntmps82
    go_wp2_with fail
    refine C.out.mono ?_
    rintro e w' ⟨rfl, hb⟩
    have B := hide hb
    clear hb
    go_wp2_with fail
    go_ret
    exact ⟨rfl, B.out⟩
  · have C := hide (level_yes n hn hF w sp)
    have hb : badN n = false := by unfold badN; rw [hF]; rfl
    rw [hb]
    clear hF hn sp hb
    go_enter Tryd.func82, Tryd.ntmps82
    go_wp2_with fail
    refine C.out.mono ?_
    rintro e w' ⟨rfl, hb⟩
    have B := hide hb
    clear hb
    go_wp2_with fail
    go_ret
    exact ⟨rfl, B.out⟩
theorem entersK {K : FuncId} {fn : Func} (hf : Tryd.prog.funcs[K]? = some fn) (hn : (fn.name == "runtime.NumGoroutine") = false) (hb : fn.body.isSome = true) : ∀ args w', (callFunc K args).run Tryd.prog w' = .ok (.enter K args) w' := by
  intro args w'
  have hne : fn.name ≠ "runtime.NumGoroutine" := fun e => by rw [e] at hn; simp at hn
  obtain ⟨c, hb⟩ := Option.isSome_iff_exists.1 hb
  simp [callFunc, hf, hne, hb]
theorem bad_enters : ∀ args w', (callFunc 82 args).run Tryd.prog w' = .ok (.enter 82 args) w' :=
  entersK (fn := Tryd.f82) (by kernel_rfl) (by kernel_rfl) (by kernel_rfl)
set_option maxRecDepth 100000 in
set_option maxHeartbeats 1000000 in
theorem idxf_any (A : Option Addr) (n c lo base : Nat) (l : List Int) (w : World) (sp : SpanAt w) (h : IntsAt lo base w A n l) (hn : n ≤ 1000000) (hl : ∀ x ∈ l, I64 x) :
    Calls Tryd.prog 91 #[.slice A n c, .func (.func 82) #[] #[]] w fun e w' => (∃ r : Int, e = .returned (.int .i64 r) ∧ (0 ≤ r ↔ l.any badN = true)) ∧ Below w.heap.size w w' := by
  have H := hide h
  have HL := hide hl
  have HLN := hide (IntsAt.len h)
  have SP := hide sp
  have hen := bad_enters
  clear h hl sp
  go_enter Tryd.func91, Tryd.ntmps91
  go_wp2_with fail
  go_loopw [8] (fun y wr => ∃ j : Nat, j ≤ n ∧ y = .int .i64 (j : Int) ∧ (l.take j).any badN = false ∧ Below w.heap.size w wr) (fun y _ => n - (intOf y).toNat)
  case atStart => exact ⟨0, Nat.zero_le _, rfl, rfl, Below.refl _ _⟩
  case round =>
    obtain ⟨j, hj, rfl, hno, hb⟩ := hrel
    have HNO := hide hno
    have HB := hide hb
    clear hno hb
    by_cases hlt : j < n
    · obtain ⟨zn, hzn⟩ : ∃ x, l[j]? = some x := ⟨_, List.getElem?_eq_getElem (by rw [HLN.out]; exact hlt)⟩
      obtain ⟨b, off, hA, -, hc⟩ := RwAt.at (RwAt.below H.out HB.out) (by omega) (by decide)
      have z0 := hc j (.int .i64 zn) (by rw [intC, List.getElem?_map, hzn]; rfl)
      subst hA
      have HZN := hide hzn
      have hz64 := hide (HL.out zn (List.mem_of_getElem? hzn))
      have hjs : (j : Int) < (n : Int) := by omega
      have hj64 : IntKind.i64.wrap (j : Int) = (j : Int) := by rw [IntKind.wrap_i64]; omega
      clear hzn hc
      go_wp2_with fail
      refine (bad_any zn hz64.out wr (SP.out.bel HB.out)).mono ?_
      rintro e w5 ⟨rfl, hb⟩
      have B5 := hide (HB.out.trans (hb.mono HB.out.size))
      clear hb
      cases hbz : badN zn with
      | true =>
        have HBZ := hide hbz
        clear hbz
        go_wp2_with fail
        go_ret
        exact ⟨⟨_, rfl, ⟨fun _ => List.any_eq_true.2 ⟨zn, List.mem_of_getElem? HZN.out, HBZ.out⟩, fun _ => Int.natCast_nonneg j⟩⟩, B5.out⟩
      | false =>
        have HBZ := hide hbz
        clear hbz
        go_wp2_with fail
        go_roundw
        case rel => exact ⟨j + 1, by omega, by go_num, by rw [List.take_add_one, HZN.out, List.any_append, HNO.out]; simp [HBZ.out], B5.out⟩
        case measure => simp [intOf]; omega
    · have hjn : j = n := by omega
      have hno : l.any badN = false := by
        have := HNO.out
        rwa [hjn, ← HLN.out, List.take_length] at this
      have HN := hide hno
      clear hno hjn
      go_wp2_with fail
      go_ret
      exact ⟨⟨_, rfl, ⟨fun h => absurd h (by decide), fun h => by rw [HN.out] at h; cases h⟩⟩, HB.out⟩
theorem conf_any (A : Option Addr) (n c lo base : Nat) (l : List Int) (w : World) (sp : SpanAt w) (h : IntsAt lo base w A n l) (hn : n ≤ 1000000) (hl : ∀ x ∈ l, I64 x) :
    Calls Tryd.prog 84 #[.slice A n c, .func (.func 82) #[] #[]] w fun e w' => e = .returned (.bool (l.any badN)) ∧ Below w.heap.size w w' := by
  have C := hide (idxf_any A n c lo base l w sp h hn hl)
  clear h hl sp
  go_enter Tryd.func84, Tryd.ntmps84
  go_wp2_with fail
  refine C.out.mono ?_
  rintro e w' ⟨⟨r, rfl, hr⟩, hb⟩
  have B := hide hb
  have HR := hide hr
  clear hb hr
  by_cases h0 : 0 ≤ r
  · have hv := hide (HR.out.1 h0)
    go_wp2_with fail
    go_ret
    exact ⟨by rw [hv.out]; rfl, B.out⟩
  · have hv : l.any badN = false := by
      cases h : l.any badN with
      | true => exact absurd (HR.out.2 h) h0
      | false => rfl
    have hv := hide hv
    go_wp2_with fail
    go_ret
    exact ⟨by rw [hv.out]; exact congrArg (fun b => Ending.returned (Value.bool b)) (decide_eq_false (by omega)), B.out⟩
def gdF (f : FI) : Prop := (1 ≤ f.ino ∧ f.ino ≤ 200) ∧ (0 ≤ f.ver ∧ f.ver ≤ 65535) ∧ (1 ≤ (f.ls.length : Int) ∧ (f.ls.length : Int) ≤ 30) ∧ f.ls.any badN = false
instance (f : FI) : Decidable (gdF f) := by unfold gdF; infer_instance
set_option maxRecDepth 100000 in
set_option maxHeartbeats 1000000 in
theorem file_any (f : FI) (A : Option Addr) (c lo base : Nat) (w : World) (sp : SpanAt w) (h : IntsAt lo base w A f.ls.length f.ls) (hn : f.ls.length ≤ 1000000) (hl : ∀ x ∈ f.ls, I64 x) :
    Calls Tryd.prog 64 #[.agg #[.int .i64 f.ino, .int .i64 f.ver, .slice A f.ls.length c]] w fun e w' => e = .returned (.bool (decide (gdF f))) ∧ Below w.heap.size w w' := by
  have HNO := hide (show ¬ gdF f → decide (gdF f) = false from fun h => decide_eq_false h)
  have HYES := hide (show gdF f → decide (gdF f) = true from fun h => decide_eq_true h)
  have H := hide h
  have HL := hide hl
  have SP := hide sp
  obtain ⟨m, hm⟩ : ∃ x, x = f.ls.length := ⟨_, rfl⟩
  rw [← hm] at H hn ⊢
  have HM := hide hm
  clear h hl sp hm
  obtain ⟨w1, hw1⟩ : ∃ W, W = w.alloc (.cells #[.int .i64 f.ino, .int .i64 f.ver, .slice A m c] 92) := ⟨_, rfl⟩
  have K1 : Hid (Blk w1 w.heap.size 92 #[.int .i64 f.ino, .int .i64 f.ver, .slice A m c]) := hide (by rw [hw1]; exact Blk.new _ _ _)
  have B1 : Hid (Below w.heap.size w w1) := hide (by rw [hw1]; exact (Below.refl _ _).alloc (Nat.le_refl _) _)
  have CC := hide (fun (W : World) (hb : Below w1.heap.size w1 W) => show W.cell? ⟨w.heap.size, 0, none⟩ = some (.int .i64 f.ino) ∧ W.cell? ⟨w.heap.size, 1, none⟩ = some (.int .i64 f.ver) ∧ W.cell? ⟨w.heap.size, 2, none⟩ = some (.slice A m c) from ⟨(K1.out.below hb).cell 0, (K1.out.below hb).cell 1, (K1.out.below hb).cell 2⟩)
  go_enter Tryd.func64, Tryd.ntmps64
  go_upto_region 1 with fail
  rw [← hw1]
  clear hw1
  obtain ⟨x0, x1, x2⟩ := CC.out w1 (Below.refl _ _)
  go_wp2_with fail
  by_cases h1 : 1 ≤ f.ino ∧ f.ino ≤ 200
  rotate_left
  · refine (within_no h1 w1).mono ?_
    rintro e w2 ⟨rfl, hb⟩
    have B2 := hide (B1.out.trans (hb.mono B1.out.size))
    clear hb x0 x1 x2
    have hr := hide (HNO.out (fun h => h1 h.1))
    clear h1
    go_wp2_with fail
    go_ret
    exact ⟨by rw [hr.out]; rfl, B2.out⟩
  refine (within_yes h1 w1).mono ?_
  rintro e w2 ⟨rfl, hb⟩
  have C2 := hide hb
  clear hb x0 x1 x2
  have H1 := hide h1
  clear h1
  obtain ⟨x0, x1, x2⟩ := CC.out w2 C2.out
  go_wp2_with fail
  by_cases h2 : 0 ≤ f.ver ∧ f.ver ≤ 65535
  rotate_left
  · refine (within_no h2 w2).mono ?_
    rintro e w3 ⟨rfl, hb⟩
    have B2 := hide (B1.out.trans ((C2.out.trans (hb.mono C2.out.size)).mono B1.out.size))
    clear hb x0 x1 x2
    have hr := hide (HNO.out (fun h => h2 h.2.1))
    clear h2
    go_wp2_with fail
    go_ret
    exact ⟨by rw [hr.out]; rfl, B2.out⟩
  refine (within_yes h2 w2).mono ?_
  rintro e w3 ⟨rfl, hb⟩
  have C3 := hide (C2.out.trans (hb.mono C2.out.size))
  clear hb x0 x1 x2
  have H2 := hide h2
  clear h2
  obtain ⟨x0, x1, x2⟩ := CC.out w3 C3.out
  go_wp2_with fail
  by_cases h3 : 1 ≤ (m : Int) ∧ (m : Int) ≤ 30
  rotate_left
  · refine (within_no h3 w3).mono ?_
    rintro e w4 ⟨rfl, hb⟩
    have B2 := hide (B1.out.trans ((C3.out.trans (hb.mono C3.out.size)).mono B1.out.size))
    clear hb x0 x1 x2
    have hr := hide (HNO.out (fun h => h3 (by rw [HM.out]; exact h.2.2.1)))
    clear h3
    go_wp2_with fail
    go_ret
    exact ⟨by rw [hr.out]; rfl, B2.out⟩
  refine (within_yes h3 w3).mono ?_
  rintro e w4 ⟨rfl, hb⟩
  have C4 := hide (C3.out.trans (hb.mono C3.out.size))
  clear hb x0 x1 x2
  have H3 := hide h3
  clear h3
  obtain ⟨x0, x1, x2⟩ := CC.out w4 C4.out
  go_wp2_with fail
  have B4 := hide (B1.out.trans (C4.out.mono B1.out.size))
  refine (conf_any A m c _ _ f.ls w4 (SP.out.bel B4.out) (RwAt.below H.out B4.out) hn HL.out).mono ?_
  rintro e w5 ⟨rfl, hb⟩
  have B5 := hide (B4.out.trans (hb.mono B4.out.size))
  clear hb x0 x1 x2
  cases hv : f.ls.any badN with
  | true =>
    have hr := hide (HNO.out (fun h => by have := h.2.2.2; rw [hv] at this; cases this))
    clear hv
    go_wp2_with fail
    go_ret
    exact ⟨by rw [hr.out]; rfl, B5.out⟩
  | false =>
    have hr := hide (HYES.out ⟨H1.out, H2.out, by rw [← HM.out]; exact H3.out, hv⟩)
    clear hv
    go_wp2_with fail
    go_ret
    exact ⟨by rw [hr.out]; rfl, B5.out⟩
def gdH (e c i p x : Int) : Prop := (0 ≤ e ∧ e ≤ 65535) ∧ (0 ≤ c ∧ c ≤ 65535) ∧ (1 ≤ p ∧ p ≤ 64) ∧ (0 ≤ i ∧ i ≤ p - 1) ∧ (0 ≤ x ∧ x ≤ 4095)
instance (e c i p x : Int) : Decidable (gdH e c i p x) := by unfold gdH; infer_instance
def gdP (e c i p x : Int) (fs : List FI) (is : List Int) : Prop := gdH e c i p x ∧ (∀ f ∈ fs, gdF f) ∧ ∀ n ∈ is, 1 ≤ n ∧ n ≤ 200
instance (e c i p x : Int) (fs : List FI) (is : List Int) : Decidable (gdP e c i p x fs is) := by unfold gdP; infer_instance
def checkP (e c i p x : Int) (fs : List FI) (is : List Int) : Int := if gdP e c i p x fs is then (if 88 < szN fs is then 27 else 0) else 22
def okF (f : FI) : Bool := decide (gdF f)
def okN (n : Int) : Bool := decide (1 ≤ n ∧ n ≤ 200)
theorem all_takeB {α : Type} {P : α → Bool} {l : List α} {j : Nat} {x : α} (hx : l[j]? = some x) : (l.take (j + 1)).all P = ((l.take j).all P && P x) := by
  rw [List.take_add_one, hx, List.all_append]
  simp
theorem okP_iff (fs : List FI) (is : List Int) : (fs.all okF && is.all okN) = true ↔ (∀ f ∈ fs, gdF f) ∧ ∀ n ∈ is, 1 ≤ n ∧ n ≤ 200 := by
  rw [Bool.and_eq_true, List.all_eq_true, List.all_eq_true]
  exact ⟨fun h => ⟨fun f hf => of_decide_eq_true (h.1 f hf), fun n hn => of_decide_eq_true (h.2 n hn)⟩, fun h => ⟨fun f hf => decide_eq_true (h.1 f hf), fun n hn => decide_eq_true (h.2 n hn)⟩⟩
set_option maxRecDepth 100000 in
set_option maxHeartbeats 8000000 in
theorem check_any (e c i p x : Int) (A1 A2 : Option Addr) (n1 c1 n2 c2 lo base lo2 base2 : Nat) (fs : List FI) (is : List Int) (w : World) (sp : SpanAt w) (hf : FisAt lo base w A1 n1 fs) (hi : IntsAt lo2 base2 w A2 n2 is) (hn1 : n1 ≤ 1000) (hn2 : n2 ≤ 100000) (hls : lsN fs ≤ 100000)
    (h64 : ∀ f ∈ fs, ∀ x ∈ f.ls, I64 x) :
    Calls Tryd.prog 37 #[.agg (partC e c i p x A1 n1 c1 A2 n2 c2)] w fun r w' => r = .returned (.int .i64 (checkP e c i p x fs is)) ∧ Below w.heap.size w w' := by
  have HF := hide hf
  have HI := hide hi
  have HLS := hide hls
  have H64 := hide h64
  have HL1 := hide hf.len
  have HL2 := hide (IntsAt.len hi)
  have SP := hide sp
  have HB22 := hide (show ¬ gdP e c i p x fs is → checkP e c i p x fs is = 22 from fun h => by unfold checkP; rw [if_neg h])
  clear hf hi hls h64 sp
  obtain ⟨w1, hw1⟩ : ∃ W, W = w.alloc (.cells #[.int .i64 e, .int .i64 c, .int .i64 i, .int .i64 p, .int .i64 x, .slice A1 n1 c1, .slice A2 n2 c2] 25) := ⟨_, rfl⟩
  have K1 : Hid (Blk w1 w.heap.size 25 #[.int .i64 e, .int .i64 c, .int .i64 i, .int .i64 p, .int .i64 x, .slice A1 n1 c1, .slice A2 n2 c2]) := hide (by rw [hw1]; exact Blk.new _ _ _)
  have B1 : Hid (Below w.heap.size w w1) := hide (by rw [hw1]; exact (Below.refl _ _).alloc (Nat.le_refl _) _)
  have CC := hide (fun (W : World) (hb : Below w1.heap.size w1 W) => show W.cell? ⟨w.heap.size, 0, none⟩ = some (.int .i64 e) ∧ W.cell? ⟨w.heap.size, 1, none⟩ = some (.int .i64 c) ∧ W.cell? ⟨w.heap.size, 2, none⟩ = some (.int .i64 i) ∧ W.cell? ⟨w.heap.size, 3, none⟩ = some (.int .i64 p) ∧ W.cell? ⟨w.heap.size, 4, none⟩ = some (.int .i64 x) ∧ W.cell? ⟨w.heap.size, 5, none⟩ = some (.slice A1 n1 c1) ∧ W.cell? ⟨w.heap.size, 6, none⟩ = some (.slice A2 n2 c2) from
    ⟨(K1.out.below hb).cell 0, (K1.out.below hb).cell 1, (K1.out.below hb).cell 2, (K1.out.below hb).cell 3, (K1.out.below hb).cell 4, (K1.out.below hb).cell 5, (K1.out.below hb).cell 6⟩)
  unfold partC
  go_enter Tryd.func37, Tryd.ntmps37
  go_upto_region 1 with fail
  rw [← hw1]
  clear hw1
  have C0 := hide (Below.refl w1.heap.size w1)
  obtain ⟨x0, x1, x2, x3, x4, x5, x6⟩ := CC.out w1 C0.out
  go_wp2_with fail
  by_cases h0 : 0 ≤ e ∧ e ≤ 65535
  rotate_left
  · refine (within_no h0 w1).mono ?_
    rintro r wk ⟨rfl, hb⟩
    have CK := hide (C0.out.trans (hb.mono C0.out.size))
    clear hb x0 x1 x2 x3 x4 x5 x6
    have HK := hide h0
    clear h0
    have hr := hide (HB22.out (fun h => HK.out (h.1.1)))
    obtain ⟨x0, x1, x2, x3, x4, x5, x6⟩ := CC.out wk CK.out
    go_wp2_with fail
    clear x0 x1 x2 x3 x4 x5 x6
    go_loopw [3, 37] (fun v y wr => ∃ j : Nat, j ≤ n1 ∧ y = .int .i64 (j : Int) ∧ v = .bool false ∧ Below w1.heap.size w1 wr) (fun _ y _ => n1 - (intOf y).toNat)
    case atStart => exact ⟨0, Nat.zero_le _, rfl, rfl, CK.out⟩
    case round =>
      obtain ⟨j, hj, rfl, rfl, hb⟩ := hrel
      have HB := hide hb
      clear hb
      by_cases hlt : j < n1
      · obtain ⟨b5, off5, f, A5, c5, hA5, hFr, hfi, hI5, z0, z1, z2⟩ := (HF.out.below (B1.out.trans (HB.out.mono B1.out.size))).at hlt
        subst hA5
        obtain ⟨m5, hm5⟩ : ∃ z, z = f.ls.length := ⟨_, rfl⟩
        rw [← hm5] at z2
        have hjs : (j : Int) < (n1 : Int) := by omega
        have hj64 : IntKind.i64.wrap (j : Int) = (j : Int) := by rw [IntKind.wrap_i64]; omega
        clear hFr hfi hI5 hm5
        go_wp2_with fail
        go_roundw
        case rel => exact ⟨j + 1, by omega, by go_num, rfl, HB.out.alloc HB.out.size _⟩
        case measure => simp [intOf]; omega
      · obtain ⟨x0, x1, x2, x3, x4, x5, x6⟩ := CC.out wr HB.out
        go_wp2_with fail
        clear x0 x1 x2 x3 x4 x5 x6
        go_loopw [3, 50] (fun v y wr => ∃ j : Nat, j ≤ n2 ∧ y = .int .i64 (j : Int) ∧ v = .bool false ∧ Below w1.heap.size w1 wr) (fun _ y _ => n2 - (intOf y).toNat)
        case atStart => exact ⟨0, Nat.zero_le _, rfl, rfl, HB.out⟩
        case round =>
          obtain ⟨k, hk, rfl, rfl, hb⟩ := hrel
          have HB2 := hide hb
          clear hb
          by_cases hlt2 : k < n2
          · obtain ⟨b6, off6, hA6, -, hc6⟩ := RwAt.at (RwAt.below HI.out (B1.out.trans (HB2.out.mono B1.out.size))) (by omega) (by decide)
            have z6 := hc6 k (.int .i64 (is[k]'(by rw [HL2.out]; exact hlt2))) (by rw [intC, List.getElem?_map, List.getElem?_eq_getElem (by rw [HL2.out]; exact hlt2)]; rfl)
            subst hA6
            have hks : (k : Int) < (n2 : Int) := by omega
            have hk64 : IntKind.i64.wrap (k : Int) = (k : Int) := by rw [IntKind.wrap_i64]; omega
            clear hc6
            go_wp2_with fail
            go_roundw
            case rel => exact ⟨k + 1, by omega, by go_num, rfl, HB2.out⟩
            case measure => simp [intOf]; omega
          · go_wp2_with fail
            go_ret
            exact ⟨by rw [hr.out]; rfl, B1.out.trans (HB2.out.mono B1.out.size)⟩
  refine (within_yes h0 w1).mono ?_
  rintro r w2 ⟨rfl, hb⟩
  have C1 := hide (C0.out.trans (hb.mono C0.out.size))
  clear hb x0 x1 x2 x3 x4 x5 x6
  have H0 := hide h0
  clear h0
  obtain ⟨x0, x1, x2, x3, x4, x5, x6⟩ := CC.out w2 C1.out
  go_wp2_with fail
  by_cases h1 : 0 ≤ c ∧ c ≤ 65535
  rotate_left
  · refine (within_no h1 w2).mono ?_
    rintro r wk ⟨rfl, hb⟩
    have CK := hide (C1.out.trans (hb.mono C1.out.size))
    clear hb x0 x1 x2 x3 x4 x5 x6
    have HK := hide h1
    clear h1
    have hr := hide (HB22.out (fun h => HK.out (h.1.2.1)))
    obtain ⟨x0, x1, x2, x3, x4, x5, x6⟩ := CC.out wk CK.out
    go_wp2_with fail
    clear x0 x1 x2 x3 x4 x5 x6
    go_loopw [3, 37] (fun v y wr => ∃ j : Nat, j ≤ n1 ∧ y = .int .i64 (j : Int) ∧ v = .bool false ∧ Below w1.heap.size w1 wr) (fun _ y _ => n1 - (intOf y).toNat)
    case atStart => exact ⟨0, Nat.zero_le _, rfl, rfl, CK.out⟩
    case round =>
      obtain ⟨j, hj, rfl, rfl, hb⟩ := hrel
      have HB := hide hb
      clear hb
      by_cases hlt : j < n1
      · obtain ⟨b5, off5, f, A5, c5, hA5, hFr, hfi, hI5, z0, z1, z2⟩ := (HF.out.below (B1.out.trans (HB.out.mono B1.out.size))).at hlt
        subst hA5
        obtain ⟨m5, hm5⟩ : ∃ z, z = f.ls.length := ⟨_, rfl⟩
        rw [← hm5] at z2
        have hjs : (j : Int) < (n1 : Int) := by omega
        have hj64 : IntKind.i64.wrap (j : Int) = (j : Int) := by rw [IntKind.wrap_i64]; omega
        clear hFr hfi hI5 hm5
        go_wp2_with fail
        go_roundw
        case rel => exact ⟨j + 1, by omega, by go_num, rfl, HB.out.alloc HB.out.size _⟩
        case measure => simp [intOf]; omega
      · obtain ⟨x0, x1, x2, x3, x4, x5, x6⟩ := CC.out wr HB.out
        go_wp2_with fail
        clear x0 x1 x2 x3 x4 x5 x6
        go_loopw [3, 50] (fun v y wr => ∃ j : Nat, j ≤ n2 ∧ y = .int .i64 (j : Int) ∧ v = .bool false ∧ Below w1.heap.size w1 wr) (fun _ y _ => n2 - (intOf y).toNat)
        case atStart => exact ⟨0, Nat.zero_le _, rfl, rfl, HB.out⟩
        case round =>
          obtain ⟨k, hk, rfl, rfl, hb⟩ := hrel
          have HB2 := hide hb
          clear hb
          by_cases hlt2 : k < n2
          · obtain ⟨b6, off6, hA6, -, hc6⟩ := RwAt.at (RwAt.below HI.out (B1.out.trans (HB2.out.mono B1.out.size))) (by omega) (by decide)
            have z6 := hc6 k (.int .i64 (is[k]'(by rw [HL2.out]; exact hlt2))) (by rw [intC, List.getElem?_map, List.getElem?_eq_getElem (by rw [HL2.out]; exact hlt2)]; rfl)
            subst hA6
            have hks : (k : Int) < (n2 : Int) := by omega
            have hk64 : IntKind.i64.wrap (k : Int) = (k : Int) := by rw [IntKind.wrap_i64]; omega
            clear hc6
            go_wp2_with fail
            go_roundw
            case rel => exact ⟨k + 1, by omega, by go_num, rfl, HB2.out⟩
            case measure => simp [intOf]; omega
          · go_wp2_with fail
            go_ret
            exact ⟨by rw [hr.out]; rfl, B1.out.trans (HB2.out.mono B1.out.size)⟩
  refine (within_yes h1 w2).mono ?_
  rintro r w3 ⟨rfl, hb⟩
  have C2 := hide (C1.out.trans (hb.mono C1.out.size))
  clear hb x0 x1 x2 x3 x4 x5 x6
  have H1 := hide h1
  clear h1
  obtain ⟨x0, x1, x2, x3, x4, x5, x6⟩ := CC.out w3 C2.out
  go_wp2_with fail
  by_cases h2 : 1 ≤ p ∧ p ≤ 64
  rotate_left
  · refine (within_no h2 w3).mono ?_
    rintro r wk ⟨rfl, hb⟩
    have CK := hide (C2.out.trans (hb.mono C2.out.size))
    clear hb x0 x1 x2 x3 x4 x5 x6
    have HK := hide h2
    clear h2
    have hr := hide (HB22.out (fun h => HK.out (h.1.2.2.1)))
    obtain ⟨x0, x1, x2, x3, x4, x5, x6⟩ := CC.out wk CK.out
    go_wp2_with fail
    clear x0 x1 x2 x3 x4 x5 x6
    go_loopw [3, 37] (fun v y wr => ∃ j : Nat, j ≤ n1 ∧ y = .int .i64 (j : Int) ∧ v = .bool false ∧ Below w1.heap.size w1 wr) (fun _ y _ => n1 - (intOf y).toNat)
    case atStart => exact ⟨0, Nat.zero_le _, rfl, rfl, CK.out⟩
    case round =>
      obtain ⟨j, hj, rfl, rfl, hb⟩ := hrel
      have HB := hide hb
      clear hb
      by_cases hlt : j < n1
      · obtain ⟨b5, off5, f, A5, c5, hA5, hFr, hfi, hI5, z0, z1, z2⟩ := (HF.out.below (B1.out.trans (HB.out.mono B1.out.size))).at hlt
        subst hA5
        obtain ⟨m5, hm5⟩ : ∃ z, z = f.ls.length := ⟨_, rfl⟩
        rw [← hm5] at z2
        have hjs : (j : Int) < (n1 : Int) := by omega
        have hj64 : IntKind.i64.wrap (j : Int) = (j : Int) := by rw [IntKind.wrap_i64]; omega
        clear hFr hfi hI5 hm5
        go_wp2_with fail
        go_roundw
        case rel => exact ⟨j + 1, by omega, by go_num, rfl, HB.out.alloc HB.out.size _⟩
        case measure => simp [intOf]; omega
      · obtain ⟨x0, x1, x2, x3, x4, x5, x6⟩ := CC.out wr HB.out
        go_wp2_with fail
        clear x0 x1 x2 x3 x4 x5 x6
        go_loopw [3, 50] (fun v y wr => ∃ j : Nat, j ≤ n2 ∧ y = .int .i64 (j : Int) ∧ v = .bool false ∧ Below w1.heap.size w1 wr) (fun _ y _ => n2 - (intOf y).toNat)
        case atStart => exact ⟨0, Nat.zero_le _, rfl, rfl, HB.out⟩
        case round =>
          obtain ⟨k, hk, rfl, rfl, hb⟩ := hrel
          have HB2 := hide hb
          clear hb
          by_cases hlt2 : k < n2
          · obtain ⟨b6, off6, hA6, -, hc6⟩ := RwAt.at (RwAt.below HI.out (B1.out.trans (HB2.out.mono B1.out.size))) (by omega) (by decide)
            have z6 := hc6 k (.int .i64 (is[k]'(by rw [HL2.out]; exact hlt2))) (by rw [intC, List.getElem?_map, List.getElem?_eq_getElem (by rw [HL2.out]; exact hlt2)]; rfl)
            subst hA6
            have hks : (k : Int) < (n2 : Int) := by omega
            have hk64 : IntKind.i64.wrap (k : Int) = (k : Int) := by rw [IntKind.wrap_i64]; omega
            clear hc6
            go_wp2_with fail
            go_roundw
            case rel => exact ⟨k + 1, by omega, by go_num, rfl, HB2.out⟩
            case measure => simp [intOf]; omega
          · go_wp2_with fail
            go_ret
            exact ⟨by rw [hr.out]; rfl, B1.out.trans (HB2.out.mono B1.out.size)⟩
  refine (within_yes h2 w3).mono ?_
  rintro r w4 ⟨rfl, hb⟩
  have C3 := hide (C2.out.trans (hb.mono C2.out.size))
  clear hb x0 x1 x2 x3 x4 x5 x6
  have H2 := hide h2
  clear h2
  obtain ⟨x0, x1, x2, x3, x4, x5, x6⟩ := CC.out w4 C3.out
  have hp1 : wrap64 (p - 1) = p - 1 := IntWalk.wrap64_in _ (by have := H2.out; omega)
  have hp2 : IntKind.i64.wrap (p - 1) = p - 1 := IntWalk.i64_in _ (by have := H2.out; omega)
  go_wp2_with fail
  try simp only [hp1, hp2]
  clear hp1 hp2
  by_cases h3 : 0 ≤ i ∧ i ≤ p - 1
  rotate_left
  · refine (within_no h3 w4).mono ?_
    rintro r wk ⟨rfl, hb⟩
    have CK := hide (C3.out.trans (hb.mono C3.out.size))
    clear hb x0 x1 x2 x3 x4 x5 x6
    have HK := hide h3
    clear h3
    have hr := hide (HB22.out (fun h => HK.out (h.1.2.2.2.1)))
    obtain ⟨x0, x1, x2, x3, x4, x5, x6⟩ := CC.out wk CK.out
    go_wp2_with fail
    clear x0 x1 x2 x3 x4 x5 x6
    go_loopw [3, 37] (fun v y wr => ∃ j : Nat, j ≤ n1 ∧ y = .int .i64 (j : Int) ∧ v = .bool false ∧ Below w1.heap.size w1 wr) (fun _ y _ => n1 - (intOf y).toNat)
    case atStart => exact ⟨0, Nat.zero_le _, rfl, rfl, CK.out⟩
    case round =>
      obtain ⟨j, hj, rfl, rfl, hb⟩ := hrel
      have HB := hide hb
      clear hb
      by_cases hlt : j < n1
      · obtain ⟨b5, off5, f, A5, c5, hA5, hFr, hfi, hI5, z0, z1, z2⟩ := (HF.out.below (B1.out.trans (HB.out.mono B1.out.size))).at hlt
        subst hA5
        obtain ⟨m5, hm5⟩ : ∃ z, z = f.ls.length := ⟨_, rfl⟩
        rw [← hm5] at z2
        have hjs : (j : Int) < (n1 : Int) := by omega
        have hj64 : IntKind.i64.wrap (j : Int) = (j : Int) := by rw [IntKind.wrap_i64]; omega
        clear hFr hfi hI5 hm5
        go_wp2_with fail
        go_roundw
        case rel => exact ⟨j + 1, by omega, by go_num, rfl, HB.out.alloc HB.out.size _⟩
        case measure => simp [intOf]; omega
      · obtain ⟨x0, x1, x2, x3, x4, x5, x6⟩ := CC.out wr HB.out
        go_wp2_with fail
        clear x0 x1 x2 x3 x4 x5 x6
        go_loopw [3, 50] (fun v y wr => ∃ j : Nat, j ≤ n2 ∧ y = .int .i64 (j : Int) ∧ v = .bool false ∧ Below w1.heap.size w1 wr) (fun _ y _ => n2 - (intOf y).toNat)
        case atStart => exact ⟨0, Nat.zero_le _, rfl, rfl, HB.out⟩
        case round =>
          obtain ⟨k, hk, rfl, rfl, hb⟩ := hrel
          have HB2 := hide hb
          clear hb
          by_cases hlt2 : k < n2
          · obtain ⟨b6, off6, hA6, -, hc6⟩ := RwAt.at (RwAt.below HI.out (B1.out.trans (HB2.out.mono B1.out.size))) (by omega) (by decide)
            have z6 := hc6 k (.int .i64 (is[k]'(by rw [HL2.out]; exact hlt2))) (by rw [intC, List.getElem?_map, List.getElem?_eq_getElem (by rw [HL2.out]; exact hlt2)]; rfl)
            subst hA6
            have hks : (k : Int) < (n2 : Int) := by omega
            have hk64 : IntKind.i64.wrap (k : Int) = (k : Int) := by rw [IntKind.wrap_i64]; omega
            clear hc6
            go_wp2_with fail
            go_roundw
            case rel => exact ⟨k + 1, by omega, by go_num, rfl, HB2.out⟩
            case measure => simp [intOf]; omega
          · go_wp2_with fail
            go_ret
            exact ⟨by rw [hr.out]; rfl, B1.out.trans (HB2.out.mono B1.out.size)⟩
  refine (within_yes h3 w4).mono ?_
  rintro r w5 ⟨rfl, hb⟩
  have C4 := hide (C3.out.trans (hb.mono C3.out.size))
  clear hb x0 x1 x2 x3 x4 x5 x6
  have H3 := hide h3
  clear h3
  obtain ⟨x0, x1, x2, x3, x4, x5, x6⟩ := CC.out w5 C4.out
  go_wp2_with fail
  by_cases h4 : 0 ≤ x ∧ x ≤ 4095
  rotate_left
  · refine (within_no h4 w5).mono ?_
    rintro r wk ⟨rfl, hb⟩
    have CK := hide (C4.out.trans (hb.mono C4.out.size))
    clear hb x0 x1 x2 x3 x4 x5 x6
    have HK := hide h4
    clear h4
    have hr := hide (HB22.out (fun h => HK.out (h.1.2.2.2.2)))
    obtain ⟨x0, x1, x2, x3, x4, x5, x6⟩ := CC.out wk CK.out
    go_wp2_with fail
    clear x0 x1 x2 x3 x4 x5 x6
    go_loopw [3, 37] (fun v y wr => ∃ j : Nat, j ≤ n1 ∧ y = .int .i64 (j : Int) ∧ v = .bool false ∧ Below w1.heap.size w1 wr) (fun _ y _ => n1 - (intOf y).toNat)
    case atStart => exact ⟨0, Nat.zero_le _, rfl, rfl, CK.out⟩
    case round =>
      obtain ⟨j, hj, rfl, rfl, hb⟩ := hrel
      have HB := hide hb
      clear hb
      by_cases hlt : j < n1
      · obtain ⟨b5, off5, f, A5, c5, hA5, hFr, hfi, hI5, z0, z1, z2⟩ := (HF.out.below (B1.out.trans (HB.out.mono B1.out.size))).at hlt
        subst hA5
        obtain ⟨m5, hm5⟩ : ∃ z, z = f.ls.length := ⟨_, rfl⟩
        rw [← hm5] at z2
        have hjs : (j : Int) < (n1 : Int) := by omega
        have hj64 : IntKind.i64.wrap (j : Int) = (j : Int) := by rw [IntKind.wrap_i64]; omega
        clear hFr hfi hI5 hm5
        go_wp2_with fail
        go_roundw
        case rel => exact ⟨j + 1, by omega, by go_num, rfl, HB.out.alloc HB.out.size _⟩
        case measure => simp [intOf]; omega
      · obtain ⟨x0, x1, x2, x3, x4, x5, x6⟩ := CC.out wr HB.out
        go_wp2_with fail
        clear x0 x1 x2 x3 x4 x5 x6
        go_loopw [3, 50] (fun v y wr => ∃ j : Nat, j ≤ n2 ∧ y = .int .i64 (j : Int) ∧ v = .bool false ∧ Below w1.heap.size w1 wr) (fun _ y _ => n2 - (intOf y).toNat)
        case atStart => exact ⟨0, Nat.zero_le _, rfl, rfl, HB.out⟩
        case round =>
          obtain ⟨k, hk, rfl, rfl, hb⟩ := hrel
          have HB2 := hide hb
          clear hb
          by_cases hlt2 : k < n2
          · obtain ⟨b6, off6, hA6, -, hc6⟩ := RwAt.at (RwAt.below HI.out (B1.out.trans (HB2.out.mono B1.out.size))) (by omega) (by decide)
            have z6 := hc6 k (.int .i64 (is[k]'(by rw [HL2.out]; exact hlt2))) (by rw [intC, List.getElem?_map, List.getElem?_eq_getElem (by rw [HL2.out]; exact hlt2)]; rfl)
            subst hA6
            have hks : (k : Int) < (n2 : Int) := by omega
            have hk64 : IntKind.i64.wrap (k : Int) = (k : Int) := by rw [IntKind.wrap_i64]; omega
            clear hc6
            go_wp2_with fail
            go_roundw
            case rel => exact ⟨k + 1, by omega, by go_num, rfl, HB2.out⟩
            case measure => simp [intOf]; omega
          · go_wp2_with fail
            go_ret
            exact ⟨by rw [hr.out]; rfl, B1.out.trans (HB2.out.mono B1.out.size)⟩
  refine (within_yes h4 w5).mono ?_
  rintro r w6 ⟨rfl, hb⟩
  have C5 := hide (C4.out.trans (hb.mono C4.out.size))
  clear hb x0 x1 x2 x3 x4 x5 x6
  have H4 := hide h4
  clear h4
  have HH := hide (show gdH e c i p x from ⟨H0.out, H1.out, H2.out, H3.out, H4.out⟩)
  obtain ⟨x0, x1, x2, x3, x4, x5, x6⟩ := CC.out w6 C5.out
  go_wp2_with fail
  clear x0 x1 x2 x3 x4 x5 x6
  go_loopw [3, 37] (fun v y wr => ∃ j : Nat, j ≤ n1 ∧ y = .int .i64 (j : Int) ∧ v = .bool ((fs.take j).all okF) ∧ Below w1.heap.size w1 wr) (fun _ y _ => n1 - (intOf y).toNat)
  case atStart => exact ⟨0, Nat.zero_le _, rfl, by simp, C5.out⟩
  case round =>
    obtain ⟨j, hj, rfl, rfl, hb⟩ := hrel
    have HB := hide hb
    have BB := hide (B1.out.trans (hb.mono B1.out.size))
    clear hb
    by_cases hlt : j < n1
    · obtain ⟨b5, off5, f, A5, c5, hA5, hFr, hfi, hI5, z0, z1, z2⟩ := (HF.out.below BB.out).at hlt
      subst hA5
      have HFI := hide hfi
      have AT := hide (all_takeB (P := okF) hfi)
      have H64F := hide (H64.out f (List.mem_of_getElem? hfi))
      have HLF := hide (show f.ls.length ≤ 1000000 by have := lsN_mem hfi; have := HLS.out; omega)
      have HI5 := hide (RwAt.below hI5 ((Below.refl wr.heap.size wr).alloc (Nat.le_refl _) (.cells #[.int .i64 f.ino, .int .i64 f.ver, .slice A5 f.ls.length c5] 92)))
      have KF := hide (Blk.new wr 92 #[.int .i64 f.ino, .int .i64 f.ver, .slice A5 f.ls.length c5])
      have BA := hide (HB.out.alloc HB.out.size (.cells #[.int .i64 f.ino, .int .i64 f.ver, .slice A5 f.ls.length c5] 92))
      obtain ⟨wb, hwb⟩ : ∃ W, W = wr.alloc (.cells #[.int .i64 f.ino, .int .i64 f.ver, .slice A5 f.ls.length c5] 92) := ⟨_, rfl⟩
      rw [← hwb] at HI5 KF BA
      have hjs : (j : Int) < (n1 : Int) := by omega
      have hj64 : IntKind.i64.wrap (j : Int) = (j : Int) := by rw [IntKind.wrap_i64]; omega
      cases hgb : (fs.take j).all okF with
      | false =>
        have HGB := hide hgb
        clear hgb hFr hfi hI5
        go_wp2_with fail
        rw [← hwb]
        go_roundw
        case rel => exact ⟨j + 1, by omega, by go_num, by rw [AT.out, HGB.out]; rfl, BA.out⟩
        case measure => simp [intOf]; omega
      | true =>
        have HGB := hide hgb
        clear hgb hFr hfi hI5
        go_upto_region 5 with fail
        rw [← hwb]
        have k0 := KF.out.cell 0
        have k1 := KF.out.cell 1
        have k2 := KF.out.cell 2
        simp only [List.getElem?_toArray, List.getElem?_cons_succ, List.getElem?_cons_zero] at k0 k1 k2
        clear hwb z0 z1 z2
        go_wp2_with fail
        refine (file_any f A5 c5 _ _ wb (SP.out.bel (B1.out.trans (BA.out.mono B1.out.size))) HI5.out HLF.out H64F.out).mono ?_
        rintro r w8 ⟨rfl, hb⟩
        have B8 := hide (BA.out.trans (hb.mono BA.out.size))
        clear hb k0 k1 k2
        rw [show decide (gdF f) = okF f from rfl]
        cases hgf : okF f with
        | true =>
          have HGF := hide hgf
          clear hgf
          go_wp2_with fail
          go_roundw
          case rel => exact ⟨j + 1, by omega, by go_num, by rw [AT.out, HGB.out, HGF.out]; rfl, B8.out⟩
          case measure => simp [intOf]; omega
        | false =>
          have HGF := hide hgf
          clear hgf
          go_wp2_with fail
          go_roundw
          case rel => exact ⟨j + 1, by omega, by go_num, by rw [AT.out, HGB.out, HGF.out]; rfl, B8.out⟩
          case measure => simp [intOf]; omega
    · have hjn : j = n1 := by omega
      have hfull : fs.take j = fs := by rw [hjn, ← HL1.out, List.take_length]
      rw [hfull]
      clear hjn hfull
      obtain ⟨x0, x1, x2, x3, x4, x5, x6⟩ := CC.out wr HB.out
      go_wp2_with fail
      clear x0 x1 x2 x3 x4 x5 x6
      go_loopw [3, 50] (fun v y wr => ∃ k : Nat, k ≤ n2 ∧ y = .int .i64 (k : Int) ∧ v = .bool (fs.all okF && (is.take k).all okN) ∧ Below w1.heap.size w1 wr) (fun _ y _ => n2 - (intOf y).toNat)
      case atStart => exact ⟨0, Nat.zero_le _, rfl, by simp, HB.out⟩
      case round =>
        obtain ⟨k, hk, rfl, rfl, hb⟩ := hrel
        have HB2 := hide hb
        have BB2 := hide (B1.out.trans (hb.mono B1.out.size))
        clear hb
        by_cases hlt2 : k < n2
        · obtain ⟨zn, hzn⟩ : ∃ z, is[k]? = some z := ⟨_, List.getElem?_eq_getElem (by rw [HL2.out]; exact hlt2)⟩
          obtain ⟨b6, off6, hA6, -, hc6⟩ := RwAt.at (RwAt.below HI.out BB2.out) (by omega) (by decide)
          have z6 := hc6 k (.int .i64 zn) (by rw [intC, List.getElem?_map, hzn]; rfl)
          have AT := hide (all_takeB (P := okN) hzn)
          subst hA6
          have hks : (k : Int) < (n2 : Int) := by omega
          have hk64 : IntKind.i64.wrap (k : Int) = (k : Int) := by rw [IntKind.wrap_i64]; omega
          clear hc6 hzn
          cases hgb : (fs.all okF && (is.take k).all okN) with
          | false =>
            have HGB := hide hgb
            clear hgb
            go_wp2_with fail
            go_roundw
            case rel => exact ⟨k + 1, by omega, by go_num, by rw [AT.out, ← Bool.and_assoc, HGB.out]; rfl, HB2.out⟩
            case measure => simp [intOf]; omega
          | true =>
            have HGB := hide hgb
            clear hgb
            go_wp2_with fail
            refine (within_any zn 1 200 wr).mono ?_
            rintro r w8 ⟨rfl, hb⟩
            have B8 := hide (HB2.out.trans (hb.mono HB2.out.size))
            clear hb z6
            rw [show decide (1 ≤ zn ∧ zn ≤ 200) = okN zn from rfl]
            cases hgf : okN zn with
            | true =>
              have HGF := hide hgf
              clear hgf
              go_wp2_with fail
              go_roundw
              case rel => exact ⟨k + 1, by omega, by go_num, by rw [AT.out, ← Bool.and_assoc, HGB.out, HGF.out]; rfl, B8.out⟩
              case measure => simp [intOf]; omega
            | false =>
              have HGF := hide hgf
              clear hgf
              go_wp2_with fail
              go_roundw
              case rel => exact ⟨k + 1, by omega, by go_num, by rw [AT.out, ← Bool.and_assoc, HGB.out, HGF.out]; rfl, B8.out⟩
              case measure => simp [intOf]; omega
        · have hkn : k = n2 := by omega
          have hfull : is.take k = is := by rw [hkn, ← HL2.out, List.take_length]
          rw [hfull]
          clear hkn hfull
          cases hgb : (fs.all okF && is.all okN) with
          | false =>
            have hr := hide (HB22.out (fun h => by rw [(okP_iff fs is).2 h.2] at hgb; cases hgb))
            clear hgb
            go_wp2_with fail
            go_ret
            exact ⟨by rw [hr.out]; rfl, BB2.out⟩
          | true =>
            have hgd : gdP e c i p x fs is := ⟨HH.out, (okP_iff fs is).1 hgb⟩
            have HCK := hide (show checkP e c i p x fs is = if 88 < szN fs is then 27 else 0 by unfold checkP; rw [if_pos hgd])
            clear hgb hgd
            obtain ⟨x0, x1, x2, x3, x4, x5, x6⟩ := CC.out wr HB2.out
            go_wp2_with fail
            have CS := hide (size_any e c i p x A1 A2 n1 c1 n2 c2 _ _ fs wr (HF.out.below BB2.out) (by omega) (by omega) HLS.out)
            have HSZ := hide (show 10 + n2 + (4 * n1 + 2 * lsN fs) = szN fs is by unfold szN; rw [HL1.out, HL2.out])
            unfold partC at CS
            clear x0 x1 x2 x3 x4 x5 x6
            refine CS.out.mono ?_
            rintro r w8 ⟨rfl, hb⟩
            rw [HSZ.out]
            have B8 := hide (BB2.out.trans (hb.mono BB2.out.size))
            clear hb CS
            by_cases h88 : 88 < szN fs is
            · have HV := hide (HCK.out.trans (if_pos h88))
              have h88' : (88 : Int) < ((szN fs is : Nat) : Int) := by omega
              go_wp2_with fail
              go_ret
              exact ⟨by rw [HV.out]; rfl, B8.out⟩
            · have HV := hide (HCK.out.trans (if_neg h88))
              have h88' : ¬ (88 : Int) < ((szN fs is : Nat) : Int) := by omega
              go_wp2_with fail
              go_ret
              exact ⟨by rw [HV.out]; rfl, B8.out⟩
end Go.Proofs.YtlobkefacnedeaaDoor
