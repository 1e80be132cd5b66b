/- The walk of marllaw17.PointOne. -/
import Derived.Test.YtfaingklglelnaaPtRow
import Derived.Test.YtfaingklglelnaaPtEq
import Derived.Test.YtfaingklglelnaaPtAwake
namespace Go.Proofs.Ytfaingklglelnaa
open Go.RowKit
attribute [local go_sem ↓] Go.wp_at_zero Go.wp_at_succ

/-- The point of a round. -/
def oneQ (i : Nat) (a b : Int) : Pt := ⟨i + 1, moN a 9, moN a 4096, moN b 4096⟩
theorem oneQ_P {i : Nat} (hi : i < 12) (a b : Int) : (oneQ i a b).P := by
  have h0 := moN_lt a (q := 9) (by decide)
  have h1 := moN_lt a (q := 4096) (by decide)
  have h2 := moN_lt b (q := 4096) (by decide)
  show PtP ((i + 1 : Nat) : Int) (moN _ _ : Nat) (moN _ _ : Nat) (moN _ _ : Nat)
  unfold PtP
  omega
theorem One.fit {i : Nat} {D : Dsk} (h : One i D) : (countsP D).2.fit := by
  rw [h.counts]
  rcases cnt2_cases (decP (D.read 1)) (decP (D.read 2)) with ⟨-, -, e⟩ | ⟨p, h1, e, -⟩ | ⟨q, h2, e⟩ <;> rw [e]
  · exact pt0_fit
  · exact Pt.fit_of (decP_some h1).1
  · exact Pt.fit_of (decP_some h2).1
theorem arm_stp {w0 w : World} {d : Nat} {D : Dsk} (h : LD w0 w d D) (n : Nat) (x : Int) (hx : x = (n : Int)) (h1 : n ≤ 9223372036854775807) (hl : D.left ≠ 0) : Calls Try.prog 23 #[.pointer (some ⟨d, 0, none⟩), .int .i64 x] w fun e w' => e = .returned (.int .i64 0) ∧ Stp w0 w w' d D { D with left := (n : Int) } := by
  subst hx
  obtain ⟨s, v, hD⟩ := h.ex
  refine (arm_ok w _ d s v D (n : Int) hD (by omega) (by omega) hl).mono ?_
  rintro e w' ⟨rfl, hD', hk⟩
  refine ⟨rfl, ⟨⟨s, v, hD'⟩, Below.kp2 h.bel hk h.bel.size (by simpa using hD.db)⟩, [d], hk, fun k hk2 => ?_⟩
  obtain ⟨kl, s2, u2, hD2, m1, m2, m3⟩ := hk2
  obtain ⟨rfl, rfl⟩ := dsk_same hD hD2
  exact ⟨by simpa using m1, Nat.lt_of_lt_of_le kl hk.size, s, v, hD', m1, m2, m3⟩
theorem quad4b {w : World} {g : Nat} {t : TypeId} {x0 x1 x2 x3 : Value} (h : Blk w g t #[x0, x1, x2, x3]) : w.cell? ⟨g, 0, none⟩ = some x0 ∧ w.cell? ⟨g, 1, none⟩ = some x1 ∧ w.cell? ⟨g, 2, none⟩ = some x2 ∧ w.cell? ⟨g, 3, none⟩ = some x3 := ⟨h.cell 0, h.cell 1, h.cell 2, h.cell 3⟩
theorem fresh5 : countsP (freshD 5) = (0, pt0) := by kernel_rfl
theorem saveP_len {D : Dsk} (p : Pt) : (saveP D p).2.sure.length = D.sure.length := by
  rcases saveP_cases D p with h | ⟨i, -, h⟩ | ⟨i, -, h⟩ <;> rw [h]
  · rfl
  · exact wb_len i _

set_option maxHeartbeats 4000000 in
set_option maxRecDepth 100000 in
theorem one_all17 (A : Option Addr) (m c : Nat) (ps : List (Int × Int)) (Ak : Option Addr) (nk ck : Nat) (ks : List Bool) (Ac : Option Addr) (nc cc : Nat) (cs : List Int) (w : World) (h0 : PairsAt w A m ps) (hm : m ≤ 9223372036854775807) (hk0 : Sl w w.heap.size Ak nk (ks.map Value.bool)) (hnk : nk ≤ 9223372036854775807)
    (hc0 : Sl w w.heap.size Ac nc (cs.map (Value.int .i64))) (hnc : nc ≤ 9223372036854775807) :
    Calls Try.prog 7 #[.slice A m c, .slice Ak nk ck, .slice Ac nc cc] w fun e w' => e = .returned (.bool true) ∧ Below w.heap.size w w' := by
  have H0 := hide h0
  have HK := hide hk0
  have HC := hide hc0
  clear h0 hk0 hc0
  go_enter Try.func7, Try.ntmps7
  go_wp2_with fail
  refine (awake17 _).mono ?_
  rintro e w1 ⟨rfl, hb⟩
  have B1 := hide hb
  clear hb
  go_wp2_with fail
  refine (ld_new w1 5 (by decide) (by decide)).mono ?_
  rintro e w2 ⟨d, rfl, h2⟩
  have H2 := hide (h2.alloc (.cells (ptC 0 0 0 0) 23))
  have K2 := hide (Blk.new w2 23 (ptC 0 0 0 0))
  have HG := hide h2.bel.size
  have O2 := hide one_zero
  have F2 := hide fresh5
  clear h2
  obtain ⟨D0, hD0⟩ : ∃ D, D = freshD 5 := ⟨_, rfl⟩
  rw [← hD0] at H2 O2 F2
  clear hD0
  go_upto_region 7 with fail
  obtain ⟨g9, hg9⟩ : ∃ g, g = w2.heap.size := ⟨_, rfl⟩
  rw [← hg9] at K2 HG ⊢
  clear hg9
  generalize w2.alloc _ = w3 at *
  go_wp2_with fail
  go_loopw [7, 10, 11] (fun x b y wr => ∃ (i d : Nat) (D : Dsk), i ≤ m ∧ i ≤ 12 ∧ x = .pointer (some ⟨d, 0, none⟩) ∧ b = .bool (decide (0 < (countsP D).1)) ∧ y = .int .i64 (i : Int) ∧ LD w1 wr d D ∧ One i D ∧ Blk wr g9 23 (countsP D).2.cells) (fun _ _ y _ => m - (intOf y).toNat)
  case atStart => exact ⟨0, d, D0, by omega, by omega, rfl, by rw [F2.out]; rfl, rfl, H2.out, O2.out, by rw [F2.out]; exact K2.out⟩
  case round =>
    clear H2 K2 O2 F2 D0
    obtain ⟨i, d, D, him, hi, rfl, rfl, rfl, h2, h3, h4⟩ := hrel
    have H2 := hide h2
    have O2 := hide h3
    have K2 := hide h4
    clear h2 h3 h4
    obtain ⟨ct, hct⟩ : ∃ x, x = countsP D := ⟨_, rfl⟩
    rw [← hct] at K2 ⊢
    have HCT := hide hct
    have HFIT := hide (show ct.2.fit by rw [hct]; exact O2.out.fit)
    clear hct
    obtain ⟨at0, ⟨ne, nc', nn, nf⟩⟩ := ct
    by_cases hlt : i < m ∧ i < 12
    · obtain ⟨hlt, hlt2⟩ := hlt
      obtain ⟨b, off, hA, hcs⟩ := H0.out.get hlt
      have HCS := hide (fun w' (hb : Below wr.heap.size wr w') => hcs w' (B1.out.trans ((H2.out.bel.trans (hb.mono H2.out.bel.size)).mono B1.out.size)))
      clear hcs
      subst hA
      have HQP := hide (oneQ_P hlt2 (ps.getD i (0, 0)).1 (ps.getD i (0, 0)).2)
      have mx : IntKind.i64.wrap ((IntKind.u64.wrap (ps.getD i (0, 0)).1).tmod 4096) = (moN (ps.getD i (0, 0)).1 4096 : Int) := moN_eq (ps.getD i (0, 0)).1 4096 (by decide) (by decide)
      have mz : IntKind.i64.wrap ((IntKind.u64.wrap (ps.getD i (0, 0)).1).tmod 9) = (moN (ps.getD i (0, 0)).1 9 : Int) := moN_eq (ps.getD i (0, 0)).1 9 (by decide) (by decide)
      have my : IntKind.i64.wrap ((IntKind.u64.wrap (ps.getD i (0, 0)).2).tmod 4096) = (moN (ps.getD i (0, 0)).2 4096 : Int) := moN_eq (ps.getD i (0, 0)).2 4096 (by decide) (by decide)
      have hwa : IntKind.i64.wrap ((i : Int) + 1) = ((i + 1 : Nat) : Int) := by rw [IntKind.wrap_i64]; omega
      unfold oneQ at HQP
      generalize moN (ps.getD i (0, 0)).1 4096 = pn at *
      generalize moN (ps.getD i (0, 0)).1 9 = pc at *
      generalize moN (ps.getD i (0, 0)).2 4096 = pf at *
      generalize (ps.getD i (0, 0)).1 = xa at *
      generalize (ps.getD i (0, 0)).2 = xb at *
      obtain ⟨pe, hpe⟩ : ∃ pe, pe = i + 1 := ⟨_, rfl⟩
      rw [← hpe] at hwa HQP
      have HPE := hide hpe
      clear hpe
      go_upto_region 10 with fail
      have s0 := HCS.out _ (Below.refl _ _).drew
      refine wp_region_noPanic ?_
      refine wp_region_held_drew (S := (fun w' => w'.cell? ⟨b, off + i * 2, none⟩ = some (.int .i64 xa) ∧ w'.cell? ⟨b, off + i * 2 + 1, none⟩ = some (.int .i64 xb))) (by kernel_rfl) ?_ (fun hHeld => ?_)
      · ((try dsimp only) <;> (first | trivial | assumption | go_keep))
      clear s0
      refine wpAnyH_take (i := 0) (v := ?_) (by simp only [List.getElem?_toArray, List.getElem?_cons_succ, List.getElem?_cons_zero]; rfl) (by kernel_rfl) (by kernel_rfl) (by kernel_rfl) (fun _ _ _ h => h) (Or.inl ⟨by rfl, ?_⟩) (by assumption) ?_
      rotate_left 1
      · (intro w hSw; (try dsimp only at hSw); go_simp; try with_reducible rfl)
      try simp only [Act.put, List.setIfInBounds_toArray, List.set_cons_zero, List.set_cons_succ]
      refine wpAnyH_take (i := 1) (v := ?_) (by simp only [List.getElem?_toArray, List.getElem?_cons_succ, List.getElem?_cons_zero]; rfl) (by kernel_rfl) (by kernel_rfl) (by kernel_rfl) (fun _ _ _ h => h) (Or.inl ⟨by rfl, ?_⟩) (by assumption) ?_
      rotate_left 1
      · (intro w hSw; (try dsimp only at hSw); go_simp; try with_reducible rfl)
      try simp only [Act.put, List.setIfInBounds_toArray, List.set_cons_zero, List.set_cons_succ]
      refine wpAnyH_take (i := 2) (v := ?_) (by simp only [List.getElem?_toArray, List.getElem?_cons_succ, List.getElem?_cons_zero]; rfl) (by kernel_rfl) (by kernel_rfl) (by kernel_rfl) (fun _ _ _ h => h) (Or.inl ⟨by rfl, ?_⟩) (by assumption) ?_
      rotate_left 1
      · (intro w hSw; (try dsimp only at hSw); go_simp; try with_reducible rfl)
      try simp only [Act.put, List.setIfInBounds_toArray, List.set_cons_zero, List.set_cons_succ]
      refine wpAnyH_take (i := 3) (v := ?_) (by simp only [List.getElem?_toArray, List.getElem?_cons_succ, List.getElem?_cons_zero]; rfl) (by kernel_rfl) (by kernel_rfl) (by kernel_rfl) (fun _ _ _ h => h) (Or.inl ⟨by rfl, ?_⟩) (by assumption) ?_
      rotate_left 1
      · (intro w hSw; (try dsimp only at hSw); go_simp; try with_reducible rfl)
      try simp only [Act.put, List.setIfInBounds_toArray, List.set_cons_zero, List.set_cons_succ]
      refine wpAnyH_take (i := 4) (v := ?_) (by simp only [List.getElem?_toArray, List.getElem?_cons_succ, List.getElem?_cons_zero]; rfl) (by kernel_rfl) (by kernel_rfl) (by kernel_rfl) (fun _ _ _ h => h) (Or.inl ⟨by rfl, ?_⟩) (by assumption) ?_
      rotate_left 1
      · (intro w hSw; (try dsimp only at hSw); go_simp; try with_reducible rfl)
      try simp only [Act.put, List.setIfInBounds_toArray, List.set_cons_zero, List.set_cons_succ]
      refine wpAnyH_take (i := 5) (v := ?_) (by simp only [List.getElem?_toArray, List.getElem?_cons_succ, List.getElem?_cons_zero]; rfl) (by kernel_rfl) (by kernel_rfl) (by kernel_rfl) (fun _ _ _ h => h) (Or.inl ⟨by rfl, ?_⟩) (by assumption) ?_
      rotate_left 1
      · (intro w hSw; (try dsimp only at hSw); go_simp; try with_reducible rfl)
      try simp only [Act.put, List.setIfInBounds_toArray, List.set_cons_zero, List.set_cons_succ]
      refine wpAnyH_take (i := 6) (v := ?_) (by simp only [List.getElem?_toArray, List.getElem?_cons_succ, List.getElem?_cons_zero]; rfl) (by kernel_rfl) (by kernel_rfl) (by kernel_rfl) (fun _ _ _ h => h) (Or.inl ⟨by rfl, ?_⟩) (by assumption) ?_
      rotate_left 1
      · (intro w hSw; (try dsimp only at hSw); go_simp; try with_reducible rfl)
      try simp only [Act.put, List.setIfInBounds_toArray, List.set_cons_zero, List.set_cons_succ]
      refine wpAnyH_take (i := 7) (v := ?_) (by simp only [List.getElem?_toArray, List.getElem?_cons_succ, List.getElem?_cons_zero]; rfl) (by kernel_rfl) (by kernel_rfl) (by kernel_rfl) (fun _ _ _ h => h) (Or.inl ⟨by rfl, ?_⟩) (by assumption) ?_
      rotate_left 1
      · (intro w hSw; (try dsimp only at hSw); go_simp; try with_reducible rfl)
      try simp only [Act.put, List.setIfInBounds_toArray, List.set_cons_zero, List.set_cons_succ]
      refine wpAnyH_take (i := 8) (v := ?_) (by simp only [List.getElem?_toArray, List.getElem?_cons_succ, List.getElem?_cons_zero]; rfl) (by kernel_rfl) (by kernel_rfl) (by kernel_rfl) (fun _ _ _ h => h) (Or.inl ⟨by rfl, ?_⟩) (by assumption) ?_
      rotate_left 1
      · (intro w hSw; (try dsimp only at hSw); go_simp; try with_reducible rfl)
      try simp only [Act.put, List.setIfInBounds_toArray, List.set_cons_zero, List.set_cons_succ]
      refine wpAnyH_take (i := 9) (v := ?_) (by simp only [List.getElem?_toArray, List.getElem?_cons_succ, List.getElem?_cons_zero]; rfl) (by kernel_rfl) (by kernel_rfl) (by kernel_rfl) (fun _ _ _ h => h) (Or.inl ⟨by rfl, ?_⟩) (by assumption) ?_
      rotate_left 1
      · (intro w hSw; (try dsimp only at hSw); go_simp; try with_reducible rfl)
      try simp only [Act.put, List.setIfInBounds_toArray, List.set_cons_zero, List.set_cons_succ]
      refine wpAnyH_take (i := 10) (v := ?_) (by simp only [List.getElem?_toArray, List.getElem?_cons_succ, List.getElem?_cons_zero]; rfl) (by kernel_rfl) (by kernel_rfl) (by kernel_rfl) (fun _ _ _ h => h) (Or.inl ⟨by rfl, ?_⟩) (by assumption) ?_
      rotate_left 1
      · (intro w hSw; (try dsimp only at hSw); go_simp; try with_reducible rfl)
      try simp only [Act.put, List.setIfInBounds_toArray, List.set_cons_zero, List.set_cons_succ]
      refine wpAnyH_take (i := 11) (v := ?_) (by simp only [List.getElem?_toArray, List.getElem?_cons_succ, List.getElem?_cons_zero]; rfl) (by kernel_rfl) (by kernel_rfl) (by kernel_rfl) (fun _ _ _ h => h) (Or.inl ⟨by rfl, ?_⟩) (by assumption) ?_
      rotate_left 1
      · (intro w hSw; (try dsimp only at hSw); go_simp; try with_reducible rfl)
      try simp only [Act.put, List.setIfInBounds_toArray, List.set_cons_zero, List.set_cons_succ]
      refine wpAnyH_take (i := 12) (v := ?_) (by simp only [List.getElem?_toArray, List.getElem?_cons_succ, List.getElem?_cons_zero]; rfl) (by kernel_rfl) (by kernel_rfl) (by kernel_rfl) (fun _ _ _ h => h) (Or.inl ⟨by rfl, ?_⟩) (by assumption) ?_
      rotate_left 1
      · (intro w hSw; (try dsimp only at hSw); go_simp; try with_reducible rfl)
      try simp only [Act.put, List.setIfInBounds_toArray, List.set_cons_zero, List.set_cons_succ]
      refine wpAnyH_take (i := 13) (v := ?_) (by simp only [List.getElem?_toArray, List.getElem?_cons_succ, List.getElem?_cons_zero]; rfl) (by kernel_rfl) (by kernel_rfl) (by kernel_rfl) (fun _ _ _ h => h) (Or.inl ⟨by rfl, ?_⟩) (by assumption) ?_
      rotate_left 1
      · (intro w hSw; (try dsimp only at hSw); go_simp; try with_reducible rfl)
      try simp only [Act.put, List.setIfInBounds_toArray, List.set_cons_zero, List.set_cons_succ]
      refine wpAnyH_take (i := 14) (v := ?_) (by simp only [List.getElem?_toArray, List.getElem?_cons_succ, List.getElem?_cons_zero]; rfl) (by kernel_rfl) (by kernel_rfl) (by kernel_rfl) (fun _ _ _ h => h) (Or.inl ⟨by rfl, ?_⟩) (by assumption) ?_
      rotate_left 1
      · (intro w hSw; (try dsimp only at hSw); go_simp; try with_reducible rfl)
      try simp only [Act.put, List.setIfInBounds_toArray, List.set_cons_zero, List.set_cons_succ]
      refine wpAnyH_take (i := 15) (v := ?_) (by simp only [List.getElem?_toArray, List.getElem?_cons_succ, List.getElem?_cons_zero]; rfl) (by kernel_rfl) (by kernel_rfl) (by kernel_rfl) (fun _ _ _ h => h) (Or.inl ⟨by rfl, ?_⟩) (by assumption) ?_
      rotate_left 1
      · (intro w hSw; (try dsimp only at hSw); go_simp; try with_reducible rfl)
      try simp only [Act.put, List.setIfInBounds_toArray, List.set_cons_zero, List.set_cons_succ]
      refine wpAnyH_take (i := 16) (v := ?_) (by simp only [List.getElem?_toArray, List.getElem?_cons_succ, List.getElem?_cons_zero]; rfl) (by kernel_rfl) (by kernel_rfl) (by kernel_rfl) (fun _ _ _ h => h) (Or.inl ⟨by rfl, ?_⟩) (by assumption) ?_
      rotate_left 1
      · (intro w hSw; (try dsimp only at hSw); go_simp; try with_reducible rfl)
      try simp only [Act.put, List.setIfInBounds_toArray, List.set_cons_zero, List.set_cons_succ]
      refine wpAnyH_take (i := 17) (v := ?_) (by simp only [List.getElem?_toArray, List.getElem?_cons_succ, List.getElem?_cons_zero]; rfl) (by kernel_rfl) (by kernel_rfl) (by kernel_rfl) (fun _ _ _ h => h) (Or.inl ⟨by rfl, ?_⟩) (by assumption) ?_
      rotate_left 1
      · (intro w hSw; (try dsimp only at hSw); go_simp; try with_reducible rfl)
      try simp only [Act.put, List.setIfInBounds_toArray, List.set_cons_zero, List.set_cons_succ]
      refine wpAnyH_take (i := 18) (v := ?_) (by simp only [List.getElem?_toArray, List.getElem?_cons_succ, List.getElem?_cons_zero]; rfl) (by kernel_rfl) (by kernel_rfl) (by kernel_rfl) (fun _ _ _ h => h) (Or.inl ⟨by rfl, ?_⟩) (by assumption) ?_
      rotate_left 1
      · (intro w hSw; (try dsimp only at hSw); go_simp; try with_reducible rfl)
      try simp only [Act.put, List.setIfInBounds_toArray, List.set_cons_zero, List.set_cons_succ]
      refine wpAnyH_take (i := 19) (v := ?_) (by simp only [List.getElem?_toArray, List.getElem?_cons_succ, List.getElem?_cons_zero]; rfl) (by kernel_rfl) (by kernel_rfl) (by kernel_rfl) (fun _ _ _ h => h) (Or.inl ⟨by rfl, ?_⟩) (by assumption) ?_
      rotate_left 1
      · (intro w hSw; (try dsimp only at hSw); go_simp; try with_reducible rfl)
      try simp only [Act.put, List.setIfInBounds_toArray, List.set_cons_zero, List.set_cons_succ]
      refine wpAnyH_take (i := 20) (v := ?_) (by simp only [List.getElem?_toArray, List.getElem?_cons_succ, List.getElem?_cons_zero]; rfl) (by kernel_rfl) (by kernel_rfl) (by kernel_rfl) (fun _ _ _ h => h) (Or.inl ⟨by rfl, ?_⟩) (by assumption) ?_
      rotate_left 1
      · (intro w hSw; (try dsimp only at hSw); go_simp; try with_reducible rfl)
      try simp only [Act.put, List.setIfInBounds_toArray, List.set_cons_zero, List.set_cons_succ]
      refine wpAnyH_take (i := 21) (v := ?_) (by simp only [List.getElem?_toArray, List.getElem?_cons_succ, List.getElem?_cons_zero]; rfl) (by kernel_rfl) (by kernel_rfl) (by kernel_rfl) (fun _ _ _ h => h) (Or.inl ⟨by rfl, ?_⟩) (by assumption) ?_
      rotate_left 1
      · (intro w hSw; (try dsimp only at hSw); go_simp; try with_reducible rfl)
      try simp only [Act.put, List.setIfInBounds_toArray, List.set_cons_zero, List.set_cons_succ]
      refine wpAnyH_take (i := 22) (v := ?_) (by simp only [List.getElem?_toArray, List.getElem?_cons_succ, List.getElem?_cons_zero]; rfl) (by kernel_rfl) (by kernel_rfl) (by kernel_rfl) (fun _ _ _ h => h) (Or.inl ⟨by rfl, ?_⟩) (by assumption) ?_
      rotate_left 1
      · (intro w hSw; (try dsimp only at hSw); go_simp; try with_reducible rfl)
      try simp only [Act.put, List.setIfInBounds_toArray, List.set_cons_zero, List.set_cons_succ]
      refine wpAnyH_take (i := 23) (v := ?_) (by simp only [List.getElem?_toArray, List.getElem?_cons_succ, List.getElem?_cons_zero]; rfl) (by kernel_rfl) (by kernel_rfl) (by kernel_rfl) (fun _ _ _ h => h) (Or.inl ⟨by rfl, ?_⟩) (by assumption) ?_
      rotate_left 1
      · (intro w hSw; (try dsimp only at hSw); go_simp; try with_reducible rfl)
      try simp only [Act.put, List.setIfInBounds_toArray, List.set_cons_zero, List.set_cons_succ]
      refine wpAnyH_take (i := 24) (v := ?_) (by simp only [List.getElem?_toArray, List.getElem?_cons_succ, List.getElem?_cons_zero]; rfl) (by kernel_rfl) (by kernel_rfl) (by kernel_rfl) (fun _ _ _ h => h) (Or.inl ⟨by rfl, ?_⟩) (by assumption) ?_
      rotate_left 1
      · (intro w hSw; (try dsimp only at hSw); go_simp; try with_reducible rfl)
      try simp only [Act.put, List.setIfInBounds_toArray, List.set_cons_zero, List.set_cons_succ]
      refine wpAnyH_take (i := 25) (v := ?_) (by simp only [List.getElem?_toArray, List.getElem?_cons_succ, List.getElem?_cons_zero]; rfl) (by kernel_rfl) (by kernel_rfl) (by kernel_rfl) (fun _ _ _ h => h) (Or.inl ⟨by rfl, ?_⟩) (by assumption) ?_
      rotate_left 1
      · (intro w hSw; (try dsimp only at hSw); go_simp; try with_reducible rfl)
      try simp only [Act.put, List.setIfInBounds_toArray, List.set_cons_zero, List.set_cons_succ]
      refine wpAnyH_take (i := 26) (v := ?_) (by simp only [List.getElem?_toArray, List.getElem?_cons_succ, List.getElem?_cons_zero]; rfl) (by kernel_rfl) (by kernel_rfl) (by kernel_rfl) (fun _ _ _ h => h) (Or.inl ⟨by rfl, ?_⟩) (by assumption) ?_
      rotate_left 1
      · (intro w hSw; (try dsimp only at hSw); go_simp; try with_reducible rfl)
      try simp only [Act.put, List.setIfInBounds_toArray, List.set_cons_zero, List.set_cons_succ]
      refine wpAnyH_ready (rs := [27]) (by kernel_rfl) (by simp) ?_
      refine AllReadyH.cons (by simp only [List.getElem?_toArray, List.getElem?_cons_succ, List.getElem?_cons_zero]; rfl) (fun K hK => ?_) ?_
      rotate_left 1
      · exact AllReadyH.nil
      go_simp
      refine hK.out _ _ ?_ (fun hHeld2 => ?_)
      · ((try dsimp only) <;> (exact HCS.out _ ((Below.refl _ _).drew.alloc (Nat.le_refl _) _)))
      clear hHeld
      have hHeld := hHeld2
      clear hHeld2 hK K
      try simp only [Act.put, List.setIfInBounds_toArray, List.set_cons_zero, List.set_cons_succ]
      refine wpAnyH_ready (rs := [28]) (by kernel_rfl) (by simp) ?_
      refine AllReadyH.cons (by simp only [List.getElem?_toArray, List.getElem?_cons_succ, List.getElem?_cons_zero]; rfl) (fun K hK => ?_) ?_
      rotate_left 1
      · exact AllReadyH.nil
      go_simp
      refine hK.out _ _ ?_ (fun hHeld2 => ?_)
      · ((try dsimp only) <;> (exact HCS.out _ ((Below.refl _ _).drew.alloc (Nat.le_refl _) _)))
      clear hHeld
      have hHeld := hHeld2
      clear hHeld2 hK K
      try simp only [Act.put, List.setIfInBounds_toArray, List.set_cons_zero, List.set_cons_succ]
      refine wpAnyH_done (by kernel_rfl) ?_ _
      refine NoPanic.normal ?_
      have b3 := ((Below.refl wr.heap.size wr).alloc (Nat.le_refl _) (.cells (ptC pe pc pn pf) 23)).drew
      have K3 := hide ((Blk.new wr 23 (ptC pe pc pn pf)).drew)
      have H3 := hide (H2.out.below b3)
      have N3 := hide (K2.out.below b3)
      have hne := hide (show g9 ≠ wr.heap.size from by have := K2.out.lt; omega)
      obtain ⟨g12, hg12⟩ : ∃ g, g = wr.heap.size := ⟨_, rfl⟩
      rw [← hg12] at K3 hne ⊢
      clear hg12 hHeld HCS b3 mx my mz hwa H2 K2
      generalize (wr.alloc (.cells (ptC pe pc pn pf) 23)).drew = w4 at *
      by_cases hic : i < nc
      focus
        obtain ⟨adc, u, hAc, -, hu, hcu⟩ := (HC.out.below (B1.out.trans (H3.out.bel.mono B1.out.size))).get hic
        rw [List.getElem?_map, Option.map_eq_some_iff] at hu
        obtain ⟨x, -, rfl⟩ := hu
        subst hAc
        have mk : IntKind.i64.wrap ((IntKind.u64.wrap x).tmod 4) = (moN x 4 : Int) := moN_eq x 4 (by decide) (by decide)
        have mk4 := moN_lt x (q := 4) (by decide)
        have mk2 : RowKit.wrap64 ((IntKind.u64.wrap x).tmod 4) = (moN x 4 : Int) := moN_w64 x 4 (by decide) (by decide)
        obtain ⟨k, hk⟩ : ∃ k, k = moN x 4 := ⟨_, rfl⟩
        rw [← hk] at mk mk2 mk4
        clear hk
        have MK := hide mk2
        clear mk mk2
        go_wp2_with fail
        refine (arm_stp H3.out k _ MK.out (by omega) (by rw [O2.out.left]; decide)).mono ?_
        rintro e w5 ⟨rfl, hst⟩
        have H5 := hide hst.ld
        have N5 := hide (hst.blk N3.out (out_typeO H3.out N3.out (by decide)))
        have K5 := hide (hst.blk K3.out (out_typeO H3.out K3.out (by decide)))
        clear hst
        obtain ⟨c0, c1, c2, c3⟩ := ptb4 K5.out
        go_wp2_with fail
        clear c0 c1 c2 c3
        refine (save_yes w1 w5 d _ H5.out ⟨pe, pc, pn, pf⟩ HQP.out (by show D.steps < _; rw [O2.out.steps]; decide) (by show D.queue.length < _; rw [O2.out.queue]; show 0 < _; decide)).mono ?_
        rintro e w6 ⟨rfl, hst⟩
        have hone := fun f cap pad => one_step O2.out HQP.out HPE.out k f cap pad
        have hlen : (saveP { D with left := ((k : Nat) : Int) } ⟨pe, pc, pn, pf⟩).2.sure.length = 5 := (saveP_len _).trans O2.out.len
        have HONE := hide hone
        have HLEN := hide hlen
        have N6 := hide (hst.blk N5.out (out_typeO H5.out N5.out (by decide)))
        have K6 := hide (hst.blk K5.out (out_typeO H5.out K5.out (by decide)))
        have H6 := hide hst.ld
        clear hst hone hlen H5 N5 K5
        obtain ⟨S, hS⟩ : ∃ S, S = saveP { D with left := ((k : Nat) : Int) } ⟨pe, pc, pn, pf⟩ := ⟨_, rfl⟩
        rw [← hS] at H6 HONE HLEN ⊢
        clear hS
        obtain ⟨er, SD⟩ := S
        simp only at H6 HONE HLEN
        go_wp2_with fail
        refine (ld_crash H6.out (by have := HLEN.out; omega) w.heap.size Ak nk ck ks (HK.out.below (B1.out.trans (H6.out.bel.mono B1.out.size))) (Nat.le_trans B1.out.size H6.out.bel.size) hnk 0 x).mono ?_
        rintro e w7 ⟨d7, cap, pad, rfl, hc⟩
        have hone2 := HONE.out (crashF ks 0 x) cap pad
        have H7 := hide (hc.base H6.out.bel)
        have N7 := hide (N6.out.below hc.bel)
        have K7 := hide (K6.out.below hc.bel)
        obtain ⟨C, hC⟩ : ∃ C, C = SD.crashed (crashF ks 0 x) cap pad := ⟨_, rfl⟩
        rw [← hC] at H7 hone2
        have HON2 := hide hone2
        clear hC hone2 HONE HLEN hc N6 K6 H6
        go_wp2_with fail
      rotate_left 1
      focus
        go_wp2_with fail
        refine (arm_stp H3.out 0 _ rfl (by omega) (by rw [O2.out.left]; decide)).mono ?_
        rintro e w5 ⟨rfl, hst⟩
        have H5 := hide hst.ld
        have N5 := hide (hst.blk N3.out (out_typeO H3.out N3.out (by decide)))
        have K5 := hide (hst.blk K3.out (out_typeO H3.out K3.out (by decide)))
        clear hst
        obtain ⟨c0, c1, c2, c3⟩ := ptb4 K5.out
        go_wp2_with fail
        clear c0 c1 c2 c3
        refine (save_yes w1 w5 d _ H5.out ⟨pe, pc, pn, pf⟩ HQP.out (by show D.steps < _; rw [O2.out.steps]; decide) (by show D.queue.length < _; rw [O2.out.queue]; show 0 < _; decide)).mono ?_
        rintro e w6 ⟨rfl, hst⟩
        have hone := fun f cap pad => one_step O2.out HQP.out HPE.out 0 f cap pad
        have hlen : (saveP { D with left := ((0 : Nat) : Int) } ⟨pe, pc, pn, pf⟩).2.sure.length = 5 := (saveP_len _).trans O2.out.len
        have HONE := hide hone
        have HLEN := hide hlen
        have N6 := hide (hst.blk N5.out (out_typeO H5.out N5.out (by decide)))
        have K6 := hide (hst.blk K5.out (out_typeO H5.out K5.out (by decide)))
        have H6 := hide hst.ld
        clear hst hone hlen H5 N5 K5
        obtain ⟨S, hS⟩ : ∃ S, S = saveP { D with left := ((0 : Nat) : Int) } ⟨pe, pc, pn, pf⟩ := ⟨_, rfl⟩
        rw [← hS] at H6 HONE HLEN ⊢
        clear hS
        obtain ⟨er, SD⟩ := S
        simp only at H6 HONE HLEN
        go_wp2_with fail
        refine (ld_crash H6.out (by have := HLEN.out; omega) w.heap.size Ak nk ck ks (HK.out.below (B1.out.trans (H6.out.bel.mono B1.out.size))) (Nat.le_trans B1.out.size H6.out.bel.size) hnk 0 0).mono ?_
        rintro e w7 ⟨d7, cap, pad, rfl, hc⟩
        have hone2 := HONE.out (crashF ks 0 0) cap pad
        have H7 := hide (hc.base H6.out.bel)
        have N7 := hide (N6.out.below hc.bel)
        have K7 := hide (K6.out.below hc.bel)
        obtain ⟨C, hC⟩ : ∃ C, C = SD.crashed (crashF ks 0 0) cap pad := ⟨_, rfl⟩
        rw [← hC] at H7 hone2
        have HON2 := hide hone2
        clear hC hone2 HONE HLEN hc N6 K6 H6
        go_wp2_with fail
      all_goals
        refine (load_any w1 w7 d7 C H7.out).mono ?_
        rintro e w8 ⟨rfl, hb⟩
        have H8 := hide (H7.out.below hb)
        have N8 := hide (N7.out.below hb)
        have K8 := hide (K7.out.below hb)
        have CF := hide (HON2.out.1.fit)
        clear hb H7 N7 K7
        obtain ⟨cc', hcc⟩ : ∃ x, x = countsP C := ⟨_, rfl⟩
        have HON3 := hide HON2.out
        rw [← hcc] at HON3 CF ⊢
        have HCC := hide hcc
        clear hcc HON2
        obtain ⟨ca, ⟨qe, qc, qn, qf⟩⟩ := cc'
        simp only at HON3 CF
        have H9 := hide (H8.out.alloc (.cells (ptC qe qc qn qf) 23))
        have N9 := hide (N8.out.alloc (.cells (ptC qe qc qn qf) 23))
        have K9 := hide (K8.out.alloc (.cells (ptC qe qc qn qf) 23))
        have Q9 := hide (Blk.new w8 23 (ptC qe qc qn qf))
        obtain ⟨okv, hokv⟩ : ∃ x, x = decide (0 < ca) := ⟨_, rfl⟩
        have HOK := hide hokv
        obtain ⟨th, hth⟩ : ∃ x, x = decide (0 < at0) := ⟨_, rfl⟩
        have HTH := hide hth
        simp only
        rw [← hokv, ← hth]
        clear hokv hth H8 N8 K8
        go_upto_region 21 with fail
        obtain ⟨g15, hg15⟩ : ∃ g, g = w8.heap.size := ⟨_, rfl⟩
        rw [← hg15] at Q9 ⊢
        clear hg15
        generalize w8.alloc _ = w9 at *
        obtain ⟨c0, c1, c2, c3⟩ := ptb4 K9.out
        obtain ⟨d0, d1, d2, d3⟩ := ptb4 Q9.out
        obtain ⟨n0, n1, n2, n3⟩ := ptb4 N9.out
        obtain ⟨f0, f1, f2, f3⟩ := blk4f N9.out
        have HPF := hide (Pt.fit_of HQP.out)
        by_cases hA : okv = true ∧ (⟨qe, qc, qn, qf⟩ : Pt) = ⟨pe, pc, pn, pf⟩
        · obtain ⟨h1, h2⟩ := hA
          rw [Pt.mk.injEq] at h2
          obtain ⟨rfl, rfl, rfl, rfl⟩ := h2
          have hsm := pt_same ⟨qe, qc, qn, qf⟩ CF.out
          rw [h1] at HOK ⊢
          clear h1
          go_wp2_with fail
          go_roundw
          case rel => exact ⟨i + 1, d7, C, by omega, by omega, rfl, by rw [← HCC.out]; show Value.bool _ = Value.bool (decide (0 < ca)); rw [← HOK.out], by go_num, H9.out.kpO (put4_kp _ g9) (fun k hk => by rw [List.mem_singleton] at hk; subst hk; exact ⟨HG.out, out_typeO H9.out N9.out (by decide)⟩), HON3.out.1, by rw [← HCC.out]; exact put4_blk N9.out⟩
          case measure => simp [intOf]; omega
        · have HB : Hid (er ≠ 0 ∧ ca = at0 ∧ (⟨qe, qc, qn, qf⟩ : Pt) = ⟨ne, nc', nn, nf⟩) := hide (by
            rcases HON3.out.2 with ⟨h1, h2⟩ | ⟨h1, h2⟩
            · exact absurd ⟨by rw [HOK.out]; exact decide_eq_true h1, h2⟩ hA
            · rw [← HCT.out, Prod.mk.injEq] at h2
              exact ⟨h1, h2.1, h2.2⟩)
          have her : (er == 0) = false := by rw [beq_eq_false_iff_ne]; exact HB.out.1
          have hot : okv = th := by rw [HOK.out, HTH.out, HB.out.2.1]
          have h2 := HB.out.2.2
          rw [Pt.mk.injEq] at h2
          obtain ⟨rfl, rfl, rfl, rfl⟩ := h2
          subst hot
          have hsm := pt_same ⟨qe, qc, qn, qf⟩ CF.out
          rcases hok2 : okv with _ | _
          · rw [hok2] at HOK HTH
            clear hA
            go_wp2_with fail
            go_roundw
            case rel => exact ⟨i + 1, d7, C, by omega, by omega, rfl, by rw [← HCC.out]; show Value.bool _ = Value.bool (decide (0 < ca)); rw [← HOK.out], by go_num, H9.out, HON3.out.1, by rw [← HCC.out]; exact N9.out⟩
            case measure => simp [intOf]; omega
          · have hne2 : (⟨qe, qc, qn, qf⟩ : Pt) ≠ ⟨pe, pc, pn, pf⟩ := fun e => hA ⟨hok2, e⟩
            have hot2 := pt_other ⟨qe, qc, qn, qf⟩ ⟨pe, pc, pn, pf⟩ CF.out HPF.out hne2
            rw [hok2] at HOK HTH
            clear hA hne2
            go_wp2_with fail
            go_roundw
            case rel => exact ⟨i + 1, d7, C, by omega, by omega, rfl, by rw [← HCC.out]; show Value.bool _ = Value.bool (decide (0 < ca)); rw [← HOK.out], by go_num, H9.out, HON3.out.1, by rw [← HCC.out]; exact N9.out⟩
            case measure => simp [intOf]; omega
    · have hout : (i < m ∧ ¬ i < 12) ∨ ¬ i < m := by omega
      clear hlt
      rcases hout with ⟨hm1, hm2⟩ | hm1
      all_goals
        go_wp2_with fail
        go_ret
        exact ⟨rfl, B1.out.trans (H2.out.bel.mono B1.out.size)⟩
end Go.Proofs.Ytfaingklglelnaa
