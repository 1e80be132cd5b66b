/- The walk of marllaw02.DiskPlays. -/
import Derived.Test.YtpcaaobninnkaaaPlAny
import Derived.Test.YtpcaaobninnkaaaDrfNW
namespace Go.Proofs.Ytpcaaobninnkaaa
open Go.RowKit
attribute [local go_sem ↓] Go.wp_at_zero Go.wp_at_succ

theorem plays_no (n : Int) (A : Option Addr) (m c : Nat) (w : World) (hn : ¬ (1 ≤ n ∧ n ≤ 4096)) :
    Calls Try.prog 7 #[.int .i64 n, .slice A m c] w fun e w' => e = .returned (.bool true) ∧ Below w.heap.size w w' := by
  have HN := hide hn
  rcases (show n < 1 ∨ 1 ≤ n by omega) with h | h
  all_goals
    try (have h2 : 4096 < n := by omega)
    try (have h3 : 40 < n := by omega)
    try (have h4 : decide (n ≤ 4096) = false := decide_eq_false (by omega))
    try (have h4 : decide (40 < n) = false := decide_eq_false (by omega))
    clear hn
    go_enter Try.func7, Try.ntmps7
    go_wp2_with fail
    refine (awake_any _).mono ?_
    rintro e w1 ⟨rfl, hb1⟩
    have B1 := hide hb1
    clear hb1
    go_wp2_with fail
    refine (new_no n w1 (by have := HN.out; omega)).mono ?_
    rintro e w2 ⟨rfl, rfl⟩
    go_wp2_with fail
    refine (rnew_no n w1 (by have := HN.out; omega)).mono ?_
    rintro e w3 ⟨rfl, hb3⟩
    have B3 := hide (B1.out.trans (hb3.mono B1.out.size))
    clear hb3
    rw [refV_eq]
    go_wp2_with fail
    go_loopw [5, 9] (fun y x wr => y = .pointer none ∧ x = .int .i64 0 ∧ Below w.heap.size w wr) (fun _ _ _ => 0)
    case atStart => exact ⟨rfl, rfl, B3.out.alloc B3.out.size _⟩
    case round =>
      obtain ⟨rfl, rfl, hb⟩ := hrel
      go_wp2_with fail
      go_ret
      exact ⟨rfl, hb⟩

set_option maxHeartbeats 1000000 in
set_option maxRecDepth 100000 in
theorem plays_few (n : Nat) (A : Option Addr) (m c : Nat) (os : List OpL) (w : World) (ho : OpsAt w A m os) (hm : m ≤ 9223372036854775807) (h1 : 1 ≤ n) (h2 : n ≤ 40) :
    Calls Try.prog 7 #[.int .i64 (n : Int), .slice A m c] w fun e w' => e = .returned (.bool true) ∧ Below w.heap.size w w' := by
  have HO := hide ho
  clear ho
  go_enter Try.func7, Try.ntmps7
  go_wp2_with fail
  refine (awake_any _).mono ?_
  rintro e w1 ⟨rfl, hb1⟩
  have B1 := hide hb1
  clear hb1
  go_wp2_with fail
  refine (ld_new' w1 n _ rfl (by omega) (by omega)).mono ?_
  rintro e w2 ⟨d, rfl, hd⟩
  have L2 := hide hd
  clear hd
  go_wp2_with fail
  have C3 := rnew_yes n w2 (by omega) (by omega)
  refine C3.mono ?_
  rintro e w3 ⟨As, cs, rfl, hrm, hb3⟩
  have P0 := hide (PB.start B1.out L2.out hrm hb3)
  obtain ⟨D0, hD0⟩ : ∃ D, D = freshD n := ⟨_, rfl⟩
  rw [← hD0] at P0
  have hs0 : Hid (D0.steps = 0 ∧ D0.queue.length = 0 ∧ 1 ≤ D0.sure.length) := hide (by rw [hD0]; exact ⟨rfl, rfl, by show 1 ≤ (List.replicate _ _).length; rw [List.length_replicate]; omega⟩)
  rw [← hD0, refV_eq]
  have hq0 : Hid (D0.queue.length = 0) := hide hs0.out.2.1
  clear C3 hrm hb3 hD0
  rw [refV_eq] at P0
  go_wp2_with fail
  go_loopw [5, 9] (fun x y wr => ∃ (i d : Nat) (D : Dsk) (As : Option Addr) (cs : Nat) (Aq : Option Addr) (cq : Nat), i ≤ 60 ∧ i ≤ m ∧ x = .pointer (some ⟨d, 0, none⟩) ∧ y = .int .i64 (i : Int) ∧ PB w wr w3.heap.size d D As cs Aq cq ∧ D.steps ≤ i ∧ D.queue.length ≤ i ∧ 1 ≤ D.sure.length) (fun _ y _ => m - (intOf y).toNat)
  case atStart => exact ⟨0, d, D0, As, cs, none, 0, by omega, by omega, rfl, rfl, P0.out, by rw [hs0.out.1]; exact Nat.le_refl _, by rw [hs0.out.2.1]; exact Nat.le_refl _, hs0.out.2.2⟩
  case round =>
    clear P0 hs0 hq0 L2
    obtain ⟨i, d, D, As, cs, Aq, cq, hi, him, rfl, rfl, h1, h2, h3, h4⟩ := hrel
    have H1 := hide h1
    have H2 := hide h2
    have H3 := hide h3
    have H4 := hide h4
    clear h1 h2 h3 h4
    by_cases hlt : i < m ∧ i < 60
    · obtain ⟨hlt, hlt6⟩ := hlt
      obtain ⟨b, off, hA, hbl, hat⟩ := HO.out.at (by omega)
      obtain ⟨o, hoa, hoc⟩ := hat i hlt
      obtain ⟨q0, q1, q2, q3, q4, q5⟩ := op_cells hbl hoc H1.out.pj.ld.bel.drew
      have HOA := hide hoa
      have HAT := hide (And.intro hbl hoc)
      subst hA
      clear hat hoa hoc hbl
      obtain ⟨c0, c1, c2, c3, f0, f1, f2, f3⟩ := blk4 H1.out.bk.drew
      go_upto_region 13 with fail
      refine wp_region_noPanic ?_
      refine wp_region_held_drew (S := (fun w' => w'.cell? ⟨b, off + i * 6, none⟩ = some (.int .i64 o.kind) ∧ w'.cell? ⟨b, off + i * 6 + 1, none⟩ = some (.int .i64 o.n) ∧ w'.cell? ⟨b, off + i * 6 + 2, none⟩ = some (.int .i64 o.sectors) ∧ w'.cell? ⟨b, off + i * 6 + 3, none⟩ = some (.slice o.bA o.bn o.bc) ∧ w'.cell? ⟨b, off + i * 6 + 4, none⟩ = some (.bool o.raw) ∧ w'.cell? ⟨b, off + i * 6 + 5, none⟩ = some (.slice o.kA o.kn o.kc))) (by kernel_rfl) ?_ (fun hHeld => ?_)
      · ((try dsimp only) <;> (first | trivial | assumption | go_keep))
      refine wpAnyH_take (i := 0) (v := ?_) (by simp only [List.getElem?_toArray, List.getElem?_cons_succ, List.getElem?_cons_zero]; rfl) (by kernel_rfl) (by kernel_rfl) (by kernel_rfl) (fun _ _ _ h => h) (Or.inl ⟨by rfl, ?_⟩) (by assumption) ?_
      rotate_left 1
      · (intro w hSw; (try dsimp only at hSw); go_simp; try with_reducible rfl)
      try simp only [Act.put, List.setIfInBounds_toArray, List.set_cons_zero, List.set_cons_succ]
      refine wpAnyH_take (i := 2) (v := ?_) (by simp only [List.getElem?_toArray, List.getElem?_cons_succ, List.getElem?_cons_zero]; rfl) (by kernel_rfl) (by kernel_rfl) (by kernel_rfl) (fun _ _ _ h => h) (Or.inl ⟨by rfl, ?_⟩) (by assumption) ?_
      rotate_left 1
      · (intro w hSw; (try dsimp only at hSw); go_simp; try with_reducible rfl)
      try simp only [Act.put, List.setIfInBounds_toArray, List.set_cons_zero, List.set_cons_succ]
      refine wpAnyH_take (i := 3) (v := ?_) (by simp only [List.getElem?_toArray, List.getElem?_cons_succ, List.getElem?_cons_zero]; rfl) (by kernel_rfl) (by kernel_rfl) (by kernel_rfl) (fun _ _ _ h => h) (Or.inl ⟨by rfl, ?_⟩) (by assumption) ?_
      rotate_left 1
      · (intro w hSw; (try dsimp only at hSw); go_simp; try with_reducible rfl)
      try simp only [Act.put, List.setIfInBounds_toArray, List.set_cons_zero, List.set_cons_succ]
      refine wpAnyH_take (i := 4) (v := ?_) (by simp only [List.getElem?_toArray, List.getElem?_cons_succ, List.getElem?_cons_zero]; rfl) (by kernel_rfl) (by kernel_rfl) (by kernel_rfl) (fun _ _ _ h => h) (Or.inl ⟨by rfl, ?_⟩) (by assumption) ?_
      rotate_left 1
      · (intro w hSw; (try dsimp only at hSw); go_simp; try with_reducible rfl)
      try simp only [Act.put, List.setIfInBounds_toArray, List.set_cons_zero, List.set_cons_succ]
      refine wpAnyH_take (i := 5) (v := ?_) (by simp only [List.getElem?_toArray, List.getElem?_cons_succ, List.getElem?_cons_zero]; rfl) (by kernel_rfl) (by kernel_rfl) (by kernel_rfl) (fun _ _ _ h => h) (Or.inl ⟨by rfl, ?_⟩) (by assumption) ?_
      rotate_left 1
      · (intro w hSw; (try dsimp only at hSw); go_simp; try with_reducible rfl)
      try simp only [Act.put, List.setIfInBounds_toArray, List.set_cons_zero, List.set_cons_succ]
      refine wpAnyH_ready (rs := [1]) (by kernel_rfl) (by simp) ?_
      refine AllReadyH.cons (by simp only [List.getElem?_toArray, List.getElem?_cons_succ, List.getElem?_cons_zero]; rfl) (fun K hK => ?_) ?_
      rotate_left 1
      · exact AllReadyH.nil
      go_simp
      refine hK.out _ _ ?_ (fun hHeld2 => ?_)
      · ((try dsimp only) <;> (first | trivial | assumption | go_keep))
      clear hHeld
      have hHeld := hHeld2
      clear hHeld2 hK K
      try simp only [Act.put, List.setIfInBounds_toArray, List.set_cons_zero, List.set_cons_succ]
      refine wpAnyH_ready (rs := [6]) (by kernel_rfl) (by simp) ?_
      refine AllReadyH.cons (by simp only [List.getElem?_toArray, List.getElem?_cons_succ, List.getElem?_cons_zero]; rfl) (fun K hK => ?_) ?_
      rotate_left 1
      · exact AllReadyH.nil
      go_simp
      have CP := play_any H1.out.pj.drew o HOA.out (by have := H2.out; omega) (by have := H3.out; omega) H4.out; rw [refV_eq] at CP; unfold opV at CP; refine CP.mono ?_; rintro e w6 ⟨d', D', As', cs', Aq', cq', rfl, hp, hf, l1, l2, l3⟩; have N := hide (PB.next H1.out.drew hp hf); have HP := hide hp; have L1 := hide l1; have L2 := hide l2; have L3 := hide l3; clear hp hf l1 l2 l3 CP c0 c1 c2 c3 f0 f1 f2 f3; rw [refV_eq]; obtain ⟨c0, c1, c2, c3, f0, f1, f2, f3⟩ := blk4 N.out.1; go_wp2_with fail
      refine hK.out _ _ ?_ (fun hHeld2 => ?_)
      · ((try dsimp only) <;> (exact op_cells HAT.out.1 HAT.out.2 HP.out.ld.bel))
      clear hHeld
      have hHeld := hHeld2
      clear hHeld2 hK K
      try simp only [Act.put, List.setIfInBounds_toArray, List.set_cons_zero, List.set_cons_succ]
      refine wpAnyH_take (i := 7) (v := ?_) (by simp only [List.getElem?_toArray, List.getElem?_cons_succ, List.getElem?_cons_zero]; rfl) (by kernel_rfl) (by kernel_rfl) (by kernel_rfl) (fun _ _ _ h => h) (Or.inl ⟨by rfl, ?_⟩) (by assumption) ?_
      rotate_left 1
      · (intro w hSw; (try dsimp only at hSw); go_simp; try with_reducible rfl)
      try simp only [Act.put, List.setIfInBounds_toArray, List.set_cons_zero, List.set_cons_succ]
      refine wpAnyH_take (i := 8) (v := ?_) (by simp only [List.getElem?_toArray, List.getElem?_cons_succ, List.getElem?_cons_zero]; rfl) (by kernel_rfl) (by kernel_rfl) (by kernel_rfl) (fun _ _ _ h => h) (Or.inl ⟨by rfl, ?_⟩) (by assumption) ?_
      rotate_left 1
      · (intro w hSw; (try dsimp only at hSw); go_simp; try with_reducible rfl)
      try simp only [Act.put, List.setIfInBounds_toArray, List.set_cons_zero, List.set_cons_succ]
      refine wpAnyH_take (i := 9) (v := ?_) (by simp only [List.getElem?_toArray, List.getElem?_cons_succ, List.getElem?_cons_zero]; rfl) (by kernel_rfl) (by kernel_rfl) (by kernel_rfl) (fun _ _ _ h => h) (Or.inl ⟨by rfl, ?_⟩) (by assumption) ?_
      rotate_left 1
      · (intro w hSw; (try dsimp only at hSw); go_simp; try with_reducible rfl)
      try simp only [Act.put, List.setIfInBounds_toArray, List.set_cons_zero, List.set_cons_succ]
      refine wpAnyH_take (i := 10) (v := ?_) (by simp only [List.getElem?_toArray, List.getElem?_cons_succ, List.getElem?_cons_zero]; rfl) (by kernel_rfl) (by kernel_rfl) (by kernel_rfl) (fun _ _ _ h => h) (Or.inl ⟨by rfl, ?_⟩) (by assumption) ?_
      rotate_left 1
      · (intro w hSw; (try dsimp only at hSw); go_simp; try with_reducible rfl)
      try simp only [Act.put, List.setIfInBounds_toArray, List.set_cons_zero, List.set_cons_succ]
      refine wpAnyH_take (i := 11) (v := ?_) (by simp only [List.getElem?_toArray, List.getElem?_cons_succ, List.getElem?_cons_zero]; rfl) (by kernel_rfl) (by kernel_rfl) (by kernel_rfl) (fun _ _ _ h => h) (Or.inl ⟨by rfl, ?_⟩) (by assumption) ?_
      rotate_left 1
      · (intro w hSw; (try dsimp only at hSw); go_simp; try with_reducible rfl)
      try simp only [Act.put, List.setIfInBounds_toArray, List.set_cons_zero, List.set_cons_succ]
      refine wpAnyH_ready (rs := [12]) (by kernel_rfl) (by simp) ?_
      refine AllReadyH.cons (by simp only [List.getElem?_toArray, List.getElem?_cons_succ, List.getElem?_cons_zero]; rfl) (fun K hK => ?_) ?_
      rotate_left 1
      · exact AllReadyH.nil
      go_simp
      refine hK.out _ _ ?_ (fun hHeld2 => ?_)
      · ((try dsimp only) <;> (exact op_cells HAT.out.1 HAT.out.2 N.out.2.pj.ld.bel))
      clear hHeld
      have hHeld := hHeld2
      clear hHeld2 hK K
      try simp only [Act.put, List.setIfInBounds_toArray, List.set_cons_zero, List.set_cons_succ]
      refine wpAnyH_take (i := 13) (v := ?_) (by simp only [List.getElem?_toArray, List.getElem?_cons_succ, List.getElem?_cons_zero]; rfl) (by kernel_rfl) (by kernel_rfl) (by kernel_rfl) (fun _ _ _ h => h) (Or.inl ⟨by rfl, ?_⟩) (by assumption) ?_
      rotate_left 1
      · (intro w hSw; (try dsimp only at hSw); go_simp; try with_reducible rfl)
      try simp only [Act.put, List.setIfInBounds_toArray, List.set_cons_zero, List.set_cons_succ]
      refine wpAnyH_done (by kernel_rfl) ?_ _
      refine NoPanic.normal ?_
      have N2 := hide N.out.2
      clear hHeld N HP c0 c1 c2 c3 f0 f1 f2 f3 q0 q1 q2 q3 q4 q5 HAT HOA H1
      generalize (((w6.setCell ⟨w3.heap.size, 0, none⟩ (.slice As' D'.sure.length cs')).setCell ⟨w3.heap.size, 1, none⟩ (.slice Aq' D'.queue.length cq')).setCell ⟨w3.heap.size, 2, none⟩ (.int .i64 (D'.steps : Int))).setCell ⟨w3.heap.size, 3, none⟩ (.int .i64 D'.left) = w7 at *
      obtain ⟨c0, c1, c2, c3, -⟩ := blk4 N2.out.bk
      go_wp2_with fail
      have CT := tells_any w7 d' D' w.heap.size As' cs' Aq' cq' N2.out.pj.ld N2.out.pj.rm
      rw [refV_eq] at CT
      refine CT.mono ?_
      rintro e w8 ⟨rfl, hb8⟩
      have N3 := hide (N2.out.below hb8)
      clear hb8 CT c0 c1 c2 c3 N2
      go_wp2_with fail
      go_roundw
      case rel => exact ⟨i + 1, d', D', As', cs', Aq', cq', by omega, by omega, rfl, by go_num, N3.out, by have := L2.out; have := H2.out; omega, by have := L3.out; have := H3.out; omega, by rw [L1.out]; exact H4.out⟩
      case measure => simp [intOf]; omega
    · by_cases hlt2 : i < m
      · have h60 : ¬ i < 60 := fun h => hlt ⟨hlt2, h⟩
        clear hlt
        go_wp2_with fail
        go_ret
        exact ⟨rfl, H1.out.pj.ld.bel⟩
      · clear hlt
        go_wp2_with fail
        go_ret
        exact ⟨rfl, H1.out.pj.ld.bel⟩

set_option maxHeartbeats 1000000 in
set_option maxRecDepth 100000 in
theorem plays_more (n : Nat) (A : Option Addr) (m c : Nat) (os : List OpL) (w : World) (ho : OpsAt w A m os) (hm : m ≤ 9223372036854775807) (h1 : 40 < n) (h2 : n ≤ 4096) :
    Calls Try.prog 7 #[.int .i64 (n : Int), .slice A m c] w fun e w' => e = .returned (.bool true) ∧ Below w.heap.size w w' := by
  have HO := hide ho
  clear ho
  go_enter Try.func7, Try.ntmps7
  go_wp2_with fail
  refine (awake_any _).mono ?_
  rintro e w1 ⟨rfl, hb1⟩
  have B1 := hide hb1
  clear hb1
  go_wp2_with fail
  refine (ld_new' w1 40 _ rfl (by omega) (by omega)).mono ?_
  rintro e w2 ⟨d, rfl, hd⟩
  have L2 := hide hd
  clear hd
  go_wp2_with fail
  have C3 := rnew_yes 40 w2 (by omega) (by omega)
  refine C3.mono ?_
  rintro e w3 ⟨As, cs, rfl, hrm, hb3⟩
  have P0 := hide (PB.start B1.out L2.out hrm hb3)
  obtain ⟨D0, hD0⟩ : ∃ D, D = freshD 40 := ⟨_, rfl⟩
  rw [← hD0] at P0
  have hs0 : Hid (D0.steps = 0 ∧ D0.queue.length = 0 ∧ 1 ≤ D0.sure.length) := hide (by rw [hD0]; exact ⟨rfl, rfl, by show 1 ≤ (List.replicate _ _).length; rw [List.length_replicate]; omega⟩)
  rw [← hD0, refV_eq]
  have hq0 : Hid (D0.queue.length = 0) := hide hs0.out.2.1
  clear C3 hrm hb3 hD0
  rw [refV_eq] at P0
  go_wp2_with fail
  go_loopw [5, 9] (fun x y wr => ∃ (i d : Nat) (D : Dsk) (As : Option Addr) (cs : Nat) (Aq : Option Addr) (cq : Nat), i ≤ 60 ∧ i ≤ m ∧ x = .pointer (some ⟨d, 0, none⟩) ∧ y = .int .i64 (i : Int) ∧ PB w wr w3.heap.size d D As cs Aq cq ∧ D.steps ≤ i ∧ D.queue.length ≤ i ∧ 1 ≤ D.sure.length) (fun _ y _ => m - (intOf y).toNat)
  case atStart => exact ⟨0, d, D0, As, cs, none, 0, by omega, by omega, rfl, rfl, P0.out, by rw [hs0.out.1]; exact Nat.le_refl _, by rw [hs0.out.2.1]; exact Nat.le_refl _, hs0.out.2.2⟩
  case round =>
    clear P0 hs0 hq0 L2
    obtain ⟨i, d, D, As, cs, Aq, cq, hi, him, rfl, rfl, h1, h2, h3, h4⟩ := hrel
    have H1 := hide h1
    have H2 := hide h2
    have H3 := hide h3
    have H4 := hide h4
    clear h1 h2 h3 h4
    by_cases hlt : i < m ∧ i < 60
    · obtain ⟨hlt, hlt6⟩ := hlt
      obtain ⟨b, off, hA, hbl, hat⟩ := HO.out.at (by omega)
      obtain ⟨o, hoa, hoc⟩ := hat i hlt
      obtain ⟨q0, q1, q2, q3, q4, q5⟩ := op_cells hbl hoc H1.out.pj.ld.bel.drew
      have HOA := hide hoa
      have HAT := hide (And.intro hbl hoc)
      subst hA
      clear hat hoa hoc hbl
      obtain ⟨c0, c1, c2, c3, f0, f1, f2, f3⟩ := blk4 H1.out.bk.drew
      go_upto_region 13 with fail
      refine wp_region_noPanic ?_
      refine wp_region_held_drew (S := (fun w' => w'.cell? ⟨b, off + i * 6, none⟩ = some (.int .i64 o.kind) ∧ w'.cell? ⟨b, off + i * 6 + 1, none⟩ = some (.int .i64 o.n) ∧ w'.cell? ⟨b, off + i * 6 + 2, none⟩ = some (.int .i64 o.sectors) ∧ w'.cell? ⟨b, off + i * 6 + 3, none⟩ = some (.slice o.bA o.bn o.bc) ∧ w'.cell? ⟨b, off + i * 6 + 4, none⟩ = some (.bool o.raw) ∧ w'.cell? ⟨b, off + i * 6 + 5, none⟩ = some (.slice o.kA o.kn o.kc))) (by kernel_rfl) ?_ (fun hHeld => ?_)
      · ((try dsimp only) <;> (first | trivial | assumption | go_keep))
      refine wpAnyH_take (i := 0) (v := ?_) (by simp only [List.getElem?_toArray, List.getElem?_cons_succ, List.getElem?_cons_zero]; rfl) (by kernel_rfl) (by kernel_rfl) (by kernel_rfl) (fun _ _ _ h => h) (Or.inl ⟨by rfl, ?_⟩) (by assumption) ?_
      rotate_left 1
      · (intro w hSw; (try dsimp only at hSw); go_simp; try with_reducible rfl)
      try simp only [Act.put, List.setIfInBounds_toArray, List.set_cons_zero, List.set_cons_succ]
      refine wpAnyH_take (i := 2) (v := ?_) (by simp only [List.getElem?_toArray, List.getElem?_cons_succ, List.getElem?_cons_zero]; rfl) (by kernel_rfl) (by kernel_rfl) (by kernel_rfl) (fun _ _ _ h => h) (Or.inl ⟨by rfl, ?_⟩) (by assumption) ?_
      rotate_left 1
      · (intro w hSw; (try dsimp only at hSw); go_simp; try with_reducible rfl)
      try simp only [Act.put, List.setIfInBounds_toArray, List.set_cons_zero, List.set_cons_succ]
      refine wpAnyH_take (i := 3) (v := ?_) (by simp only [List.getElem?_toArray, List.getElem?_cons_succ, List.getElem?_cons_zero]; rfl) (by kernel_rfl) (by kernel_rfl) (by kernel_rfl) (fun _ _ _ h => h) (Or.inl ⟨by rfl, ?_⟩) (by assumption) ?_
      rotate_left 1
      · (intro w hSw; (try dsimp only at hSw); go_simp; try with_reducible rfl)
      try simp only [Act.put, List.setIfInBounds_toArray, List.set_cons_zero, List.set_cons_succ]
      refine wpAnyH_take (i := 4) (v := ?_) (by simp only [List.getElem?_toArray, List.getElem?_cons_succ, List.getElem?_cons_zero]; rfl) (by kernel_rfl) (by kernel_rfl) (by kernel_rfl) (fun _ _ _ h => h) (Or.inl ⟨by rfl, ?_⟩) (by assumption) ?_
      rotate_left 1
      · (intro w hSw; (try dsimp only at hSw); go_simp; try with_reducible rfl)
      try simp only [Act.put, List.setIfInBounds_toArray, List.set_cons_zero, List.set_cons_succ]
      refine wpAnyH_take (i := 5) (v := ?_) (by simp only [List.getElem?_toArray, List.getElem?_cons_succ, List.getElem?_cons_zero]; rfl) (by kernel_rfl) (by kernel_rfl) (by kernel_rfl) (fun _ _ _ h => h) (Or.inl ⟨by rfl, ?_⟩) (by assumption) ?_
      rotate_left 1
      · (intro w hSw; (try dsimp only at hSw); go_simp; try with_reducible rfl)
      try simp only [Act.put, List.setIfInBounds_toArray, List.set_cons_zero, List.set_cons_succ]
      refine wpAnyH_ready (rs := [1]) (by kernel_rfl) (by simp) ?_
      refine AllReadyH.cons (by simp only [List.getElem?_toArray, List.getElem?_cons_succ, List.getElem?_cons_zero]; rfl) (fun K hK => ?_) ?_
      rotate_left 1
      · exact AllReadyH.nil
      go_simp
      refine hK.out _ _ ?_ (fun hHeld2 => ?_)
      · ((try dsimp only) <;> (first | trivial | assumption | go_keep))
      clear hHeld
      have hHeld := hHeld2
      clear hHeld2 hK K
      try simp only [Act.put, List.setIfInBounds_toArray, List.set_cons_zero, List.set_cons_succ]
      refine wpAnyH_ready (rs := [6]) (by kernel_rfl) (by simp) ?_
      refine AllReadyH.cons (by simp only [List.getElem?_toArray, List.getElem?_cons_succ, List.getElem?_cons_zero]; rfl) (fun K hK => ?_) ?_
      rotate_left 1
      · exact AllReadyH.nil
      go_simp
      have CP := play_any H1.out.pj.drew o HOA.out (by have := H2.out; omega) (by have := H3.out; omega) H4.out; rw [refV_eq] at CP; unfold opV at CP; refine CP.mono ?_; rintro e w6 ⟨d', D', As', cs', Aq', cq', rfl, hp, hf, l1, l2, l3⟩; have N := hide (PB.next H1.out.drew hp hf); have HP := hide hp; have L1 := hide l1; have L2 := hide l2; have L3 := hide l3; clear hp hf l1 l2 l3 CP c0 c1 c2 c3 f0 f1 f2 f3; rw [refV_eq]; obtain ⟨c0, c1, c2, c3, f0, f1, f2, f3⟩ := blk4 N.out.1; go_wp2_with fail
      refine hK.out _ _ ?_ (fun hHeld2 => ?_)
      · ((try dsimp only) <;> (exact op_cells HAT.out.1 HAT.out.2 HP.out.ld.bel))
      clear hHeld
      have hHeld := hHeld2
      clear hHeld2 hK K
      try simp only [Act.put, List.setIfInBounds_toArray, List.set_cons_zero, List.set_cons_succ]
      refine wpAnyH_take (i := 7) (v := ?_) (by simp only [List.getElem?_toArray, List.getElem?_cons_succ, List.getElem?_cons_zero]; rfl) (by kernel_rfl) (by kernel_rfl) (by kernel_rfl) (fun _ _ _ h => h) (Or.inl ⟨by rfl, ?_⟩) (by assumption) ?_
      rotate_left 1
      · (intro w hSw; (try dsimp only at hSw); go_simp; try with_reducible rfl)
      try simp only [Act.put, List.setIfInBounds_toArray, List.set_cons_zero, List.set_cons_succ]
      refine wpAnyH_take (i := 8) (v := ?_) (by simp only [List.getElem?_toArray, List.getElem?_cons_succ, List.getElem?_cons_zero]; rfl) (by kernel_rfl) (by kernel_rfl) (by kernel_rfl) (fun _ _ _ h => h) (Or.inl ⟨by rfl, ?_⟩) (by assumption) ?_
      rotate_left 1
      · (intro w hSw; (try dsimp only at hSw); go_simp; try with_reducible rfl)
      try simp only [Act.put, List.setIfInBounds_toArray, List.set_cons_zero, List.set_cons_succ]
      refine wpAnyH_take (i := 9) (v := ?_) (by simp only [List.getElem?_toArray, List.getElem?_cons_succ, List.getElem?_cons_zero]; rfl) (by kernel_rfl) (by kernel_rfl) (by kernel_rfl) (fun _ _ _ h => h) (Or.inl ⟨by rfl, ?_⟩) (by assumption) ?_
      rotate_left 1
      · (intro w hSw; (try dsimp only at hSw); go_simp; try with_reducible rfl)
      try simp only [Act.put, List.setIfInBounds_toArray, List.set_cons_zero, List.set_cons_succ]
      refine wpAnyH_take (i := 10) (v := ?_) (by simp only [List.getElem?_toArray, List.getElem?_cons_succ, List.getElem?_cons_zero]; rfl) (by kernel_rfl) (by kernel_rfl) (by kernel_rfl) (fun _ _ _ h => h) (Or.inl ⟨by rfl, ?_⟩) (by assumption) ?_
      rotate_left 1
      · (intro w hSw; (try dsimp only at hSw); go_simp; try with_reducible rfl)
      try simp only [Act.put, List.setIfInBounds_toArray, List.set_cons_zero, List.set_cons_succ]
      refine wpAnyH_take (i := 11) (v := ?_) (by simp only [List.getElem?_toArray, List.getElem?_cons_succ, List.getElem?_cons_zero]; rfl) (by kernel_rfl) (by kernel_rfl) (by kernel_rfl) (fun _ _ _ h => h) (Or.inl ⟨by rfl, ?_⟩) (by assumption) ?_
      rotate_left 1
      · (intro w hSw; (try dsimp only at hSw); go_simp; try with_reducible rfl)
      try simp only [Act.put, List.setIfInBounds_toArray, List.set_cons_zero, List.set_cons_succ]
      refine wpAnyH_ready (rs := [12]) (by kernel_rfl) (by simp) ?_
      refine AllReadyH.cons (by simp only [List.getElem?_toArray, List.getElem?_cons_succ, List.getElem?_cons_zero]; rfl) (fun K hK => ?_) ?_
      rotate_left 1
      · exact AllReadyH.nil
      go_simp
      refine hK.out _ _ ?_ (fun hHeld2 => ?_)
      · ((try dsimp only) <;> (exact op_cells HAT.out.1 HAT.out.2 N.out.2.pj.ld.bel))
      clear hHeld
      have hHeld := hHeld2
      clear hHeld2 hK K
      try simp only [Act.put, List.setIfInBounds_toArray, List.set_cons_zero, List.set_cons_succ]
      refine wpAnyH_take (i := 13) (v := ?_) (by simp only [List.getElem?_toArray, List.getElem?_cons_succ, List.getElem?_cons_zero]; rfl) (by kernel_rfl) (by kernel_rfl) (by kernel_rfl) (fun _ _ _ h => h) (Or.inl ⟨by rfl, ?_⟩) (by assumption) ?_
      rotate_left 1
      · (intro w hSw; (try dsimp only at hSw); go_simp; try with_reducible rfl)
      try simp only [Act.put, List.setIfInBounds_toArray, List.set_cons_zero, List.set_cons_succ]
      refine wpAnyH_done (by kernel_rfl) ?_ _
      refine NoPanic.normal ?_
      have N2 := hide N.out.2
      clear hHeld N HP c0 c1 c2 c3 f0 f1 f2 f3 q0 q1 q2 q3 q4 q5 HAT HOA H1
      generalize (((w6.setCell ⟨w3.heap.size, 0, none⟩ (.slice As' D'.sure.length cs')).setCell ⟨w3.heap.size, 1, none⟩ (.slice Aq' D'.queue.length cq')).setCell ⟨w3.heap.size, 2, none⟩ (.int .i64 (D'.steps : Int))).setCell ⟨w3.heap.size, 3, none⟩ (.int .i64 D'.left) = w7 at *
      obtain ⟨c0, c1, c2, c3, -⟩ := blk4 N2.out.bk
      go_wp2_with fail
      have CT := tells_any w7 d' D' w.heap.size As' cs' Aq' cq' N2.out.pj.ld N2.out.pj.rm
      rw [refV_eq] at CT
      refine CT.mono ?_
      rintro e w8 ⟨rfl, hb8⟩
      have N3 := hide (N2.out.below hb8)
      clear hb8 CT c0 c1 c2 c3 N2
      go_wp2_with fail
      go_roundw
      case rel => exact ⟨i + 1, d', D', As', cs', Aq', cq', by omega, by omega, rfl, by go_num, N3.out, by have := L2.out; have := H2.out; omega, by have := L3.out; have := H3.out; omega, by rw [L1.out]; exact H4.out⟩
      case measure => simp [intOf]; omega
    · by_cases hlt2 : i < m
      · have h60 : ¬ i < 60 := fun h => hlt ⟨hlt2, h⟩
        clear hlt
        go_wp2_with fail
        go_ret
        exact ⟨rfl, H1.out.pj.ld.bel⟩
      · clear hlt
        go_wp2_with fail
        go_ret
        exact ⟨rfl, H1.out.pj.ld.bel⟩

theorem plays_all (n : Int) (A : Option Addr) (m c : Nat) (os : List OpL) (w : World) (ho : OpsAt w A m os) (hm : m ≤ 9223372036854775807) :
    Calls Try.prog 7 #[.int .i64 n, .slice A m c] w fun e w' => e = .returned (.bool true) ∧ Below w.heap.size w w' := by
  by_cases hn : 1 ≤ n ∧ n ≤ 4096
  · obtain ⟨k, rfl⟩ : ∃ k : Nat, n = (k : Int) := ⟨n.toNat, by omega⟩
    by_cases h : k ≤ 40
    · exact plays_few k A m c os w ho hm (by omega) h
    · exact plays_more k A m c os w ho hm (by omega) (by omega)
  · exact plays_no n A m c w hn
end Go.Proofs.Ytpcaaobninnkaaa
