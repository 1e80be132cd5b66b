/- The walk of marllaw17.PointTurns. -/
import Derived.Test.YtfaingklglelnaaPtRow
import Derived.Test.YtfaingklglelnaaPtEq
import Derived.Test.YtfaingklglelnaaPtAwake
namespace Go.Proofs.Ytfaingklglelnaa
open Go.RowKit
attribute [local go_sem ↓] Go.wp_at_zero Go.wp_at_succ
/-- Go's max, kept whole in a walk. -/
def maxK_trnQ_asc (ts : Array TypeId) (t : TypeId) (vs : Array Value) : Sem Value := Builtin.max_ ts t vs
theorem maxK_trnQ_asc_keep (ts : Array TypeId) (t : TypeId) (vs : Array Value) : Builtin.max_ ts t vs = maxK_trnQ_asc ts t vs := rfl
attribute [local go_sem ↓] maxK_trnQ_asc_keep

/-- The points of the list. -/
def trnQ (ps : List (Int × Int)) (i : Nat) : Pt := ⟨1 + i / 3, i, moN (ps.getD i (0, 0)).1 4096, moN (ps.getD i (0, 0)).2 4096⟩
theorem trnQ_asc (ps : List (Int × Int)) : Asc (trnQ ps) 20 := by
  refine ⟨fun i hi => ?_, fun i hi => ?_⟩
  · have h1 := moN_lt (ps.getD i (0, 0)).1 (q := 4096) (by decide)
    have h2 := moN_lt (ps.getD i (0, 0)).2 (q := 4096) (by decide)
    show PtP ((1 + i / 3 : Nat) : Int) (i : Nat) (moN _ _ : Nat) (moN _ _ : Nat)
    unfold PtP
    omega
  · rw [newer_iff]
    show 1 + i / 3 < 1 + (i + 1) / 3 ∨ (1 + (i + 1) / 3 = 1 + i / 3 ∧ i < i + 1)
    omega

theorem quad4 {w : World} {g : Nat} {t : TypeId} {x0 x1 x2 x3 : Value} (h : Blk w g t #[x0, x1, x2, x3]) : w.cell? ⟨g, 0, none⟩ = some x0 ∧ w.cell? ⟨g, 1, none⟩ = some x1 ∧ w.cell? ⟨g, 2, none⟩ = some x2 ∧ w.cell? ⟨g, 3, none⟩ = some x3 := ⟨h.cell 0, h.cell 1, h.cell 2, h.cell 3⟩
theorem ld_readX {w0 w : World} {d : Nat} {D : Dsk} (h : LD w0 w d D) (i : Nat) (x : Int) (hx : x = (i : Int)) (hi : i < D.sure.length) : Calls Try.prog 22 #[.pointer (some ⟨d, 0, none⟩), .int .i64 x] w fun e w' => ∃ g, e = .returned (.tuple #[.slice (some ⟨g, 0, none⟩) 64 64, .int .i64 0]) ∧ w.heap.size ≤ g ∧ Blk w' g 99 (u8s (D.read i)).toArray ∧ Below w.heap.size w w' := by
  subst hx; exact ld_read h i hi
set_option maxHeartbeats 4000000 in
set_option maxRecDepth 100000 in
theorem turns_all (A : Option Addr) (m c : Nat) (ps : List (Int × Int)) (w : World) (h0 : PairsAt w A m ps) (hm : m ≤ 9223372036854775807) :
    Calls Try.prog 5 #[.slice A m c] w fun e w' => e = .returned (.bool true) ∧ Below w.heap.size w w' := by
  have H0 := hide h0
  have AS := hide (trnQ_asc ps)
  clear h0
  go_enter Try.func5, Try.ntmps5
  go_wp2_with fail
  refine (awake17 _).mono ?_
  rintro e w1 ⟨rfl, hb⟩
  have B1 := hide hb
  clear hb
  go_wp2_with fail
  refine (ld_new w1 3 (by decide) (by decide)).mono ?_
  rintro e w2 ⟨d, rfl, h2⟩
  have H2 := hide h2
  have T2 := hide (trn_zero (trnQ ps))
  clear h2
  obtain ⟨D0, hD0⟩ : ∃ D, D = freshD 3 := ⟨_, rfl⟩
  rw [← hD0] at H2 T2
  clear hD0
  go_wp2_with fail
  go_loopw [5, 6] (fun x y wr => ∃ (i : Nat) (Al : Option Addr) (cl : Nat) (D : Dsk), i ≤ m ∧ i ≤ 20 ∧ y = .int .i64 (i : Int) ∧ x = .slice Al i cl ∧ LD w1 wr d D ∧ Trn (trnQ ps) i D ∧ PtRow wr w1.heap.size Al cl i (trnQ ps)) (fun _ y _ => m - (intOf y).toNat)
  case atStart => exact ⟨0, none, 0, D0, by omega, by omega, rfl, rfl, H2.out, T2.out, World.ownsRow_nil _ _ _ _⟩
  case round =>
    clear H2 T2 D0
    obtain ⟨i, Al, cl, D, him, hi, rfl, rfl, h2, h3, h4⟩ := hrel
    have H2 := hide h2
    have T2 := hide h3
    have R2 := hide h4
    clear h2 h3 h4
    by_cases hlt : i < m ∧ i < 20
    · obtain ⟨hlt, hlt2⟩ := hlt
      obtain ⟨b, off, hA, hcs⟩ := H0.out.get hlt
      have HCS := hide (fun w' (hb : Below wr.heap.size wr w') => hcs w' (B1.out.trans ((H2.out.bel.trans (hb.mono H2.out.bel.size)).mono B1.out.size)))
      clear hcs
      subst hA
      have mx : IntKind.i64.wrap ((IntKind.u64.wrap (ps.getD i (0, 0)).1).tmod 4096) = (moN (ps.getD i (0, 0)).1 4096 : Int) := moN_eq (ps.getD i (0, 0)).1 4096 (by decide) (by decide)
      have my : IntKind.i64.wrap ((IntKind.u64.wrap (ps.getD i (0, 0)).2).tmod 4096) = (moN (ps.getD i (0, 0)).2 4096 : Int) := moN_eq (ps.getD i (0, 0)).2 4096 (by decide) (by decide)
      have hwa : IntKind.i64.wrap ((i : Int) / 3) = (i : Int) / 3 := by rw [IntKind.wrap_i64]; omega
      have hwb : IntKind.i64.wrap (1 + (i : Int) / 3) = ((1 + i / 3 : Nat) : Int) := by rw [IntKind.wrap_i64]; omega
      have HQ : Hid (trnQ ps i = ⟨1 + i / 3, i, moN (ps.getD i (0, 0)).1 4096, moN (ps.getD i (0, 0)).2 4096⟩) := hide rfl
      generalize moN (ps.getD i (0, 0)).1 4096 = pn at *
      generalize moN (ps.getD i (0, 0)).2 4096 = pf at *
      generalize (ps.getD i (0, 0)).1 = xa at *
      generalize (ps.getD i (0, 0)).2 = xb at *
      obtain ⟨pe, hpe⟩ : ∃ pe, pe = 1 + i / 3 := ⟨_, rfl⟩
      rw [← hpe] at hwb HQ
      clear hpe
      go_upto_region 10 with fail
      have s0 := HCS.out _ (Below.refl _ _).drew
      refine wp_region_noPanic ?_
      refine wp_region_held_drew (S := (fun w' => w'.cell? ⟨b, off + i * 2, none⟩ = some (.int .i64 xa) ∧ w'.cell? ⟨b, off + i * 2 + 1, none⟩ = some (.int .i64 xb))) (by kernel_rfl) ?_ (fun hHeld => ?_)
      · ((try dsimp only) <;> (first | trivial | assumption | go_keep))
      clear s0
      have ws := hide ((Below.refl wr.heap.size wr).drew)
      refine wpAnyH_take (i := 0) (v := ?_) (by simp only [List.getElem?_toArray, List.getElem?_cons_succ, List.getElem?_cons_zero]; rfl) (by kernel_rfl) (by kernel_rfl) (by kernel_rfl) (fun _ _ _ h => h) (Or.inl ⟨by rfl, ?_⟩) (by assumption) ?_
      rotate_left 1
      · (intro w hSw; (try dsimp only at hSw); go_simp; try with_reducible rfl)
      try simp only [Act.put, List.setIfInBounds_toArray, List.set_cons_zero, List.set_cons_succ]
      refine wpAnyH_take (i := 1) (v := ?_) (by simp only [List.getElem?_toArray, List.getElem?_cons_succ, List.getElem?_cons_zero]; rfl) (by kernel_rfl) (by kernel_rfl) (by kernel_rfl) (fun _ _ _ h => h) (Or.inl ⟨by rfl, ?_⟩) (by assumption) ?_
      rotate_left 1
      · (intro w hSw; (try dsimp only at hSw); go_simp; try with_reducible rfl)
      try simp only [Act.put, List.setIfInBounds_toArray, List.set_cons_zero, List.set_cons_succ]
      refine wpAnyH_take (i := 2) (v := ?_) (by simp only [List.getElem?_toArray, List.getElem?_cons_succ, List.getElem?_cons_zero]; rfl) (by kernel_rfl) (by kernel_rfl) (by kernel_rfl) (fun _ _ _ h => h) (Or.inl ⟨by rfl, ?_⟩) (by assumption) ?_
      rotate_left 1
      · (intro w hSw; (try dsimp only at hSw); go_simp; try with_reducible rfl)
      try simp only [Act.put, List.setIfInBounds_toArray, List.set_cons_zero, List.set_cons_succ]
      refine wpAnyH_take (i := 3) (v := ?_) (by simp only [List.getElem?_toArray, List.getElem?_cons_succ, List.getElem?_cons_zero]; rfl) (by kernel_rfl) (by kernel_rfl) (by kernel_rfl) (fun _ _ _ h => h) (Or.inl ⟨by rfl, ?_⟩) (by assumption) ?_
      rotate_left 1
      · (intro w hSw; (try dsimp only at hSw); go_simp; try with_reducible rfl)
      try simp only [Act.put, List.setIfInBounds_toArray, List.set_cons_zero, List.set_cons_succ]
      refine wpAnyH_take (i := 4) (v := ?_) (by simp only [List.getElem?_toArray, List.getElem?_cons_succ, List.getElem?_cons_zero]; rfl) (by kernel_rfl) (by kernel_rfl) (by kernel_rfl) (fun _ _ _ h => h) (Or.inl ⟨by rfl, ?_⟩) (by assumption) ?_
      rotate_left 1
      · (intro w hSw; (try dsimp only at hSw); go_simp; try with_reducible rfl)
      try simp only [Act.put, List.setIfInBounds_toArray, List.set_cons_zero, List.set_cons_succ]
      refine wpAnyH_take (i := 5) (v := ?_) (by simp only [List.getElem?_toArray, List.getElem?_cons_succ, List.getElem?_cons_zero]; rfl) (by kernel_rfl) (by kernel_rfl) (by kernel_rfl) (fun _ _ _ h => h) (Or.inl ⟨by rfl, ?_⟩) (by assumption) ?_
      rotate_left 1
      · (intro w hSw; (try dsimp only at hSw); go_simp; try with_reducible rfl)
      try simp only [Act.put, List.setIfInBounds_toArray, List.set_cons_zero, List.set_cons_succ]
      refine wpAnyH_take (i := 6) (v := ?_) (by simp only [List.getElem?_toArray, List.getElem?_cons_succ, List.getElem?_cons_zero]; rfl) (by kernel_rfl) (by kernel_rfl) (by kernel_rfl) (fun _ _ _ h => h) (Or.inl ⟨by rfl, ?_⟩) (by assumption) ?_
      rotate_left 1
      · (intro w hSw; (try dsimp only at hSw); go_simp; try with_reducible rfl)
      try simp only [Act.put, List.setIfInBounds_toArray, List.set_cons_zero, List.set_cons_succ]
      refine wpAnyH_take (i := 7) (v := ?_) (by simp only [List.getElem?_toArray, List.getElem?_cons_succ, List.getElem?_cons_zero]; rfl) (by kernel_rfl) (by kernel_rfl) (by kernel_rfl) (fun _ _ _ h => h) (Or.inl ⟨by rfl, ?_⟩) (by assumption) ?_
      rotate_left 1
      · (intro w hSw; (try dsimp only at hSw); go_simp; try with_reducible rfl)
      try simp only [Act.put, List.setIfInBounds_toArray, List.set_cons_zero, List.set_cons_succ]
      refine wpAnyH_take (i := 8) (v := ?_) (by simp only [List.getElem?_toArray, List.getElem?_cons_succ, List.getElem?_cons_zero]; rfl) (by kernel_rfl) (by kernel_rfl) (by kernel_rfl) (fun _ _ _ h => h) (Or.inl ⟨by rfl, ?_⟩) (by assumption) ?_
      rotate_left 1
      · (intro w hSw; (try dsimp only at hSw); go_simp; try with_reducible rfl)
      try simp only [Act.put, List.setIfInBounds_toArray, List.set_cons_zero, List.set_cons_succ]
      refine wpAnyH_take (i := 9) (v := ?_) (by simp only [List.getElem?_toArray, List.getElem?_cons_succ, List.getElem?_cons_zero]; rfl) (by kernel_rfl) (by kernel_rfl) (by kernel_rfl) (fun _ _ _ h => h) (Or.inl ⟨by rfl, ?_⟩) (by assumption) ?_
      rotate_left 1
      · (intro w hSw; (try dsimp only at hSw); go_simp; try with_reducible rfl)
      try simp only [Act.put, List.setIfInBounds_toArray, List.set_cons_zero, List.set_cons_succ]
      refine wpAnyH_take (i := 10) (v := ?_) (by simp only [List.getElem?_toArray, List.getElem?_cons_succ, List.getElem?_cons_zero]; rfl) (by kernel_rfl) (by kernel_rfl) (by kernel_rfl) (fun _ _ _ h => h) (Or.inl ⟨by rfl, ?_⟩) (by assumption) ?_
      rotate_left 1
      · (intro w hSw; (try dsimp only at hSw); go_simp; try with_reducible rfl)
      try simp only [Act.put, List.setIfInBounds_toArray, List.set_cons_zero, List.set_cons_succ]
      refine wpAnyH_take (i := 11) (v := ?_) (by simp only [List.getElem?_toArray, List.getElem?_cons_succ, List.getElem?_cons_zero]; rfl) (by kernel_rfl) (by kernel_rfl) (by kernel_rfl) (fun _ _ _ h => h) (Or.inl ⟨by rfl, ?_⟩) (by assumption) ?_
      rotate_left 1
      · (intro w hSw; (try dsimp only at hSw); go_simp; try with_reducible rfl)
      try simp only [Act.put, List.setIfInBounds_toArray, List.set_cons_zero, List.set_cons_succ]
      refine wpAnyH_take (i := 12) (v := ?_) (by simp only [List.getElem?_toArray, List.getElem?_cons_succ, List.getElem?_cons_zero]; rfl) (by kernel_rfl) (by kernel_rfl) (by kernel_rfl) (fun _ _ _ h => h) (Or.inl ⟨by rfl, ?_⟩) (by assumption) ?_
      rotate_left 1
      · (intro w hSw; (try dsimp only at hSw); go_simp; try with_reducible rfl)
      try simp only [Act.put, List.setIfInBounds_toArray, List.set_cons_zero, List.set_cons_succ]
      refine wpAnyH_take (i := 13) (v := ?_) (by simp only [List.getElem?_toArray, List.getElem?_cons_succ, List.getElem?_cons_zero]; rfl) (by kernel_rfl) (by kernel_rfl) (by kernel_rfl) (fun _ _ _ h => h) (Or.inl ⟨by rfl, ?_⟩) (by assumption) ?_
      rotate_left 1
      · (intro w hSw; (try dsimp only at hSw); go_simp; try with_reducible rfl)
      try simp only [Act.put, List.setIfInBounds_toArray, List.set_cons_zero, List.set_cons_succ]
      refine wpAnyH_take (i := 14) (v := ?_) (by simp only [List.getElem?_toArray, List.getElem?_cons_succ, List.getElem?_cons_zero]; rfl) (by kernel_rfl) (by kernel_rfl) (by kernel_rfl) (fun _ _ _ h => h) (Or.inl ⟨by rfl, ?_⟩) (by assumption) ?_
      rotate_left 1
      · (intro w hSw; (try dsimp only at hSw); go_simp; try with_reducible rfl)
      try simp only [Act.put, List.setIfInBounds_toArray, List.set_cons_zero, List.set_cons_succ]
      refine wpAnyH_take (i := 15) (v := ?_) (by simp only [List.getElem?_toArray, List.getElem?_cons_succ, List.getElem?_cons_zero]; rfl) (by kernel_rfl) (by kernel_rfl) (by kernel_rfl) (fun _ _ _ h => h) (Or.inl ⟨by rfl, ?_⟩) (by assumption) ?_
      rotate_left 1
      · (intro w hSw; (try dsimp only at hSw); go_simp; try with_reducible rfl)
      try simp only [Act.put, List.setIfInBounds_toArray, List.set_cons_zero, List.set_cons_succ]
      refine wpAnyH_take (i := 16) (v := ?_) (by simp only [List.getElem?_toArray, List.getElem?_cons_succ, List.getElem?_cons_zero]; rfl) (by kernel_rfl) (by kernel_rfl) (by kernel_rfl) (fun _ _ _ h => h) (Or.inl ⟨by rfl, ?_⟩) (by assumption) ?_
      rotate_left 1
      · (intro w hSw; (try dsimp only at hSw); go_simp; try with_reducible rfl)
      try simp only [Act.put, List.setIfInBounds_toArray, List.set_cons_zero, List.set_cons_succ]
      refine wpAnyH_take (i := 17) (v := ?_) (by simp only [List.getElem?_toArray, List.getElem?_cons_succ, List.getElem?_cons_zero]; rfl) (by kernel_rfl) (by kernel_rfl) (by kernel_rfl) (fun _ _ _ h => h) (Or.inl ⟨by rfl, ?_⟩) (by assumption) ?_
      rotate_left 1
      · (intro w hSw; (try dsimp only at hSw); go_simp; try with_reducible rfl)
      try simp only [Act.put, List.setIfInBounds_toArray, List.set_cons_zero, List.set_cons_succ]
      refine wpAnyH_take (i := 18) (v := ?_) (by simp only [List.getElem?_toArray, List.getElem?_cons_succ, List.getElem?_cons_zero]; rfl) (by kernel_rfl) (by kernel_rfl) (by kernel_rfl) (fun _ _ _ h => h) (Or.inl ⟨by rfl, ?_⟩) (by assumption) ?_
      rotate_left 1
      · (intro w hSw; (try dsimp only at hSw); go_simp; try with_reducible rfl)
      try simp only [Act.put, List.setIfInBounds_toArray, List.set_cons_zero, List.set_cons_succ]
      refine wpAnyH_take (i := 19) (v := ?_) (by simp only [List.getElem?_toArray, List.getElem?_cons_succ, List.getElem?_cons_zero]; rfl) (by kernel_rfl) (by kernel_rfl) (by kernel_rfl) (fun _ _ _ h => h) (Or.inl ⟨by rfl, ?_⟩) (by assumption) ?_
      rotate_left 1
      · (intro w hSw; (try dsimp only at hSw); go_simp; try with_reducible rfl)
      try simp only [Act.put, List.setIfInBounds_toArray, List.set_cons_zero, List.set_cons_succ]
      refine wpAnyH_take (i := 20) (v := ?_) (by simp only [List.getElem?_toArray, List.getElem?_cons_succ, List.getElem?_cons_zero]; rfl) (by kernel_rfl) (by kernel_rfl) (by kernel_rfl) (fun _ _ _ h => h) (Or.inl ⟨by rfl, ?_⟩) (by assumption) ?_
      rotate_left 1
      · (intro w hSw; (try dsimp only at hSw); go_simp; try with_reducible rfl)
      try simp only [Act.put, List.setIfInBounds_toArray, List.set_cons_zero, List.set_cons_succ]
      refine wpAnyH_ready (rs := [21]) (by kernel_rfl) (by simp) ?_
      refine AllReadyH.cons (by simp only [List.getElem?_toArray, List.getElem?_cons_succ, List.getElem?_cons_zero]; rfl) (fun K hK => ?_) ?_
      rotate_left 1
      · exact AllReadyH.nil
      go_simp
      refine hK.out _ _ ?_ (fun hHeld2 => ?_)
      · ((try dsimp only) <;> (exact HCS.out _ ((Below.refl _ _).drew.alloc (Nat.le_refl _) _)))
      clear hHeld
      have hHeld := hHeld2
      clear hHeld2 hK K
      try simp only [Act.put, List.setIfInBounds_toArray, List.set_cons_zero, List.set_cons_succ]
      refine wpAnyH_ready (rs := [22]) (by kernel_rfl) (by simp) ?_
      refine AllReadyH.cons (by simp only [List.getElem?_toArray, List.getElem?_cons_succ, List.getElem?_cons_zero]; rfl) (fun K hK => ?_) ?_
      rotate_left 1
      · exact AllReadyH.nil
      go_simp
      refine hK.out _ _ ?_ (fun hHeld2 => ?_)
      · ((try dsimp only) <;> (exact HCS.out _ ((Below.refl _ _).drew.alloc (Nat.le_refl _) _)))
      clear hHeld
      have hHeld := hHeld2
      clear hHeld2 hK K
      try simp only [Act.put, List.setIfInBounds_toArray, List.set_cons_zero, List.set_cons_succ]
      refine wpAnyH_done (by kernel_rfl) ?_ _
      refine NoPanic.normal ?_
      have K3 := hide ((Blk.new wr 23 (ptC pe i pn pf)).drew)
      have b3 := ((Below.refl wr.heap.size wr).alloc (Nat.le_refl _) (.cells (ptC pe i pn pf) 23)).drew
      have H3 := hide (H2.out.below b3)
      have R3 := hide (R2.out.below b3)
      obtain ⟨g7, hg7⟩ : ∃ g, g = wr.heap.size := ⟨_, rfl⟩
      rw [← hg7] at K3 ⊢
      have hg7n : (Value.slice Al i cl).ownBlock ≠ some g7 := fun e => by
        obtain ⟨-, cs, hB⟩ := own_blkO R2.out e
        have := hB.lt
        omega
      clear hg7 hHeld ws HCS b3 mx my hwa hwb H2 R2
      generalize (wr.alloc (.cells (ptC pe i pn pf) 23)).drew = w3 at *
      obtain ⟨c0, c1, c2, c3⟩ := ptb4 K3.out
      have hbs := hide H3.out.bel.size
      have SN := hide (slc_new w3 (ptC pe i pn pf).toList 23 (m := 1) (k := 4) rfl)
      go_upto_region 12 with (
        at_builtin
        refine wpList_appK rfl (.tmp 58) (.tmp 60) _ rfl etyPt w1.heap.size (.slice Al i cl) i (ptsC (trnQ ps) i) rfl (own_kq R3.out (Kp.of_below (gs := []) ((Below.refl _ _).alloc (Nat.le_refl _) _)) (by simp)) (w3.heap.size + 1) (some ⟨w3.heap.size, 0, none⟩) 1 1 (ptC pe i pn pf).toList rfl
          SN.out (by intro u hu; simp at hu; rcases hu with rfl | rfl | rfl | rfl <;> rfl) (by omega) (Nat.le_trans hbs.out (by simp)) ?_
        intro A4 c4 w4 hown hg hnew
        have R4 := hide (show PtRow w4 w1.heap.size A4 c4 (i + 1) (trnQ ps) from by
          unfold PtRow
          rw [ptsC_succ, HQ.out]
          exact hown)
        have b4 := (Below.refl w3.heap.size w3).alloc (Nat.le_refl _) (.cells (ptC pe i pn pf) 23)
        have ho4 := own_kq R3.out (Kp.of_below (gs := []) b4) (by simp)
        have hlt4 : ∀ k, (Value.slice Al i cl).ownBlock = some k → w1.heap.size ≤ k := fun k hk => (own_blkO R3.out hk).1
        have H4 := hide ((H3.out.below b4).kpO (kp_growO hg) (fun k hk => by
          have hk' : (Value.slice Al i cl).ownBlock = some k := by simpa using hk
          obtain ⟨h1, cs, hB⟩ := own_blkO ho4 hk'
          exact ⟨h1, out_typeO (H3.out.below b4) hB (by decide)⟩))
        have K4 := hide ((K3.out.below b4).kp (kp_growO hg) (fun hk => by
          have hk' : (Value.slice Al i cl).ownBlock = some g7 := by simpa using hk
          exact hg7n hk'))
        clear hown hg hnew b4 ho4 hlt4)
      clear c0 c1 c2 c3 SN hbs H3 R3 K3
      obtain ⟨c0, c1, c2, c3⟩ := ptb4 K4.out
      obtain ⟨D', hsv, htr⟩ := trn_save AS.out T2.out hlt2
      have HSV := hide hsv
      have T5 := hide htr
      have hgood := AS.out.good i hlt2
      have HT := hide T2.out.steps
      have HTQ := hide T2.out.queue
      clear hsv htr T2
      go_wp2_with fail
      clear c0 c1 c2 c3
      refine (save_yes w1 w4 d D H4.out ⟨pe, i, pn, pf⟩ (by rw [← HQ.out]; exact hgood) (by rw [HT.out]; omega) (by rw [HTQ.out]; show 0 < _; decide)).mono ?_
      rintro e w5 ⟨rfl, hst⟩
      rw [← HQ.out, HSV.out] at hst
      rw [← HQ.out, HSV.out]
      have H5 := hide (show LD w1 w5 d D' from hst.ld)
      have R5 := hide (R4.out.stp H4.out hst)
      have K5 := hide (hst.blk K4.out (out_typeO H4.out K4.out (by decide)))
      clear hst HSV R4 H4 K4 HT HTQ hgood
      by_cases h0 : i = 0
      focus
        have hi0 : decide (0 < i) = false := decide_eq_false (by omega)
        have hi1 : ¬ 0 < i := by omega
        have hmx : ∀ (ts : Array TypeId) (t : TypeId) (w : World), (maxK_trnQ_asc ts t #[.int .i64 0, .int .i64 ((i : Int) - 1)]).run Try.prog w = .ok (.int .i64 ((i - 1 : Nat) : Int)) w := fun ts t w => by
          rw [← maxK_trnQ_asc_keep, run_max_int2]
          split <;> (congr 2; omega)
        clear h0
        go_wp2_with fail
        have H6 := hide H5.out
        have R6 := hide R5.out
        have K6 := hide K5.out
        clear H5 R5 K5 hi1
        generalize w5 = w6 at *
      rotate_left 1
      focus
        have hi0 : 0 < i := by omega
        obtain ⟨k, hk⟩ : ∃ k, i = k + 1 := ⟨i - 1, by omega⟩
        have hik : (i : Int) - 1 = (k : Int) := by omega
        have hkl : (k : Int) < ((i + 1 : Nat) : Int) := by omega
        obtain ⟨gl, hA4, -, -, l0, l1, l2, l3⟩ := R5.out.get (j := k) (by omega)
        subst hA4
        have hag := trn_again AS.out T5.out hlt2 (by omega)
        rw [show i - 1 = k by omega] at hag
        have HAG := hide hag
        have hg2 := AS.out.good k (by omega)
        have HT := hide T5.out.steps
        have HTQ := hide T5.out.queue
        obtain ⟨qk, hqk⟩ : ∃ q, q = trnQ ps k := ⟨_, rfl⟩
        rw [← hqk] at HAG hg2 l0 l1 l2 l3
        clear hqk hag h0 hk
        obtain ⟨ke, kc, kn, kf⟩ := qk
        simp only at l0 l1 l2 l3
        go_wp2_with fail
        refine (save_yes w1 w5 d D' H5.out ⟨ke, kc, kn, kf⟩ hg2 (by rw [HT.out]; omega) (by rw [HTQ.out]; show 0 < _; decide)).mono ?_
        rintro e w6 ⟨rfl, hst⟩
        rw [HAG.out] at hst
        rw [HAG.out]
        have H6 := hide (show LD w1 w6 d D' from hst.ld)
        have R6 := hide (R5.out.stp H5.out hst)
        have K6 := hide (hst.blk K5.out (out_typeO H5.out K5.out (by decide)))
        clear hst R5 H5 K5 HT HTQ HAG hg2 l0 l1 l2 l3 hik hkl
        have hmx : ∀ (ts : Array TypeId) (t : TypeId) (w : World), (maxK_trnQ_asc ts t #[.int .i64 0, .int .i64 ((i : Int) - 1)]).run Try.prog w = .ok (.int .i64 ((i - 1 : Nat) : Int)) w := fun ts t w => by
          rw [← maxK_trnQ_asc_keep, run_max_int2]
          split <;> (congr 2; omega)
        go_wp2_with fail
      all_goals
        have hc := trn_counts AS.out T5.out (show i + 1 ≤ 20 by omega)
        rw [if_neg (by omega), Nat.add_sub_cancel, HQ.out] at hc
        refine (load_any w1 w6 d D' H6.out).mono ?_
        rintro e w7 ⟨rfl, hb⟩
        rw [hc]
        have hd1 : decide (0 < ((1 + i % 2, (⟨pe, i, pn, pf⟩ : Pt)) : Nat × Pt).1) = true := decide_eq_true (by show 0 < 1 + i % 2; omega)
        rw [hd1]
        have H7 := hide ((H6.out.below hb).alloc (.cells (ptC pe i pn pf) 23))
        have R7 := hide ((R6.out.below hb).below ((Below.refl _ _).alloc (Nat.le_refl _) (.cells (ptC pe i pn pf) 23)))
        have K7 := hide ((K6.out.below hb).alloc (.cells (ptC pe i pn pf) 23))
        have K8 := hide (Blk.new w7 23 (ptC pe i pn pf))
        have HSM := hide (pt_same ⟨pe, i, pn, pf⟩ (by have := Pt.fit_of (AS.out.good i hlt2); rwa [HQ.out] at this))
        clear hc hd1 hb H6 R6 K6
        go_upto_region 15 with fail
        obtain ⟨g8, hg8⟩ : ∃ g, g = w7.heap.size := ⟨_, rfl⟩
        rw [← hg8] at K8 ⊢
        clear hg8
        generalize w7.alloc (.cells (ptC pe i pn pf) 23) = w8 at *
        obtain ⟨c0, c1, c2, c3⟩ := ptb4 K7.out
        obtain ⟨d0, d1, d2, d3⟩ := ptb4 K8.out
        have hsm := HSM.out
        go_wp2_with fail
        clear c0 c1 c2 c3 d0 d1 d2 d3 hsm HSM K7 K8
        clear hmx hi0
        go_loopw [10] (fun x wz => ∃ j : Nat, i - 1 ≤ j ∧ j ≤ i + 1 ∧ x = .int .i64 (j : Int) ∧ Below w8.heap.size w8 wz) (fun x _ => i + 1 - (intOf x).toNat)
        case atStart => exact ⟨i - 1, by omega, by omega, rfl, Below.refl _ _⟩
        case round =>
          obtain ⟨j, hj0, hj1, rfl, hz⟩ := hrel
          have Z := hide hz
          clear hz
          by_cases hji : j ≤ i
          · have hjm := hide (show (1 : Int) + (j : Int) % 2 = ((1 + j % 2 : Nat) : Int) by omega)
            have HRD : Hid (D'.read (1 + j % 2) = (trnQ ps j).bytes) := hide (by
              by_cases e : j = i
              · have := T5.out.r1 (by omega)
                rw [Nat.add_sub_cancel] at this
                rw [e]; exact this
              · have := T5.out.r2 (by omega)
                rw [show i + 1 - 2 = j by omega] at this
                exact this)
            have HGJ := hide (AS.out.good j (by omega))
            have HFJ := hide (Pt.fit_of HGJ.out)
            have RJ := hide (fun (w' : World) (hb : Below w8.heap.size w8 w') => (R7.out.below hb).get (j := j) (by omega))
            obtain ⟨gl2, hA2, -, -, -⟩ := RJ.out w8 (Below.refl _ _)
            first
              | subst hA2
              | (have eg : gl2 = gl := by { injection hA2 with h; injection h with h; exact h.symm })
                subst eg
            have RJ2 := hide (fun (w' : World) (hb : Below w8.heap.size w8 w') => by
              obtain ⟨g, hg, -, -, h⟩ := RJ.out w' hb
              cases hg
              exact h)
            clear RJ
            generalize trnQ ps j = qj at *
            obtain ⟨je, jc, jn, jf⟩ := qj
            simp only at RJ2
            have hlen := hide (show 1 + j % 2 < D'.sure.length by rw [T5.out.len]; omega)
            go_wp2_with fail
            refine (ld_readX (H7.out.below Z.out) (1 + j % 2) _ hjm.out hlen.out).mono ?_
            rintro e w9 ⟨gb, rfl, -, hkb, hb⟩
            rw [HRD.out] at hkb
            have KB := hide (by_blkL hkb)
            have HGL := hide hkb.lt
            have Z9 := hide (Z.out.trans (hb.mono Z.out.size))
            clear hb hkb hjm
            go_wp2_with fail
            refine (dec_any _ 64 64 (gb + 1) _ w9 (by have := KB.out; rwa [show (Pt.bytes ⟨je, jc, jn, jf⟩).length = 64 from ptBytes_length _ _ _ _] at this) HGL.out (by decide) (by decide)).mono ?_
            rintro e w10 ⟨rfl, hb⟩
            rw [decV_some (decP_bytes HGJ.out)]
            have Z10 := hide ((Z9.out.trans (hb.mono Z9.out.size)).alloc (Nat.le_trans Z9.out.size hb.size) (.cells (ptC je jc jn jf) 23))
            have K10 := hide (Blk.new w10 23 (ptC je jc jn jf))
            have HSM := hide (pt_same ⟨je, jc, jn, jf⟩ HFJ.out)
            clear hb KB HGL Z9 Z HRD HGJ HFJ hlen
            go_upto_region 22 with fail
            obtain ⟨g13, hg13⟩ : ∃ g, g = w10.heap.size := ⟨_, rfl⟩
            rw [← hg13] at K10 ⊢
            clear hg13
            generalize w10.alloc (.cells (ptC je jc jn jf) 23) = w11 at *
            have CC := hide (fun (w' : World) (hb : Below w11.heap.size w11 w') => And.intro (quad4 (K10.out.below hb)) (RJ2.out w' (Z10.out.trans (hb.mono Z10.out.size))))
            have s0 := CC.out _ (Below.refl _ _).drew
            have hj20 : (j : Int) < (i : Int) + 1 := by omega
            have hj22 : (0 : Int) ≤ (j : Int) := by omega
            refine wp_region_noPanic ?_
            refine wp_region_held_drew (S := fun w' => (w'.cell? ⟨g13, 0, none⟩ = some (.int .i64 (je : Int)) ∧ w'.cell? ⟨g13, 1, none⟩ = some (.int .i64 (jc : Int)) ∧ w'.cell? ⟨g13, 2, none⟩ = some (.int .i64 (jn : Int)) ∧ w'.cell? ⟨g13, 3, none⟩ = some (.int .i64 (jf : Int))) ∧ w'.cell? ⟨gl2, j * 4, none⟩ = some (.int .i64 (je : Int)) ∧ w'.cell? ⟨gl2, j * 4 + 1, none⟩ = some (.int .i64 (jc : Int)) ∧ w'.cell? ⟨gl2, j * 4 + 2, none⟩ = some (.int .i64 (jn : Int)) ∧ w'.cell? ⟨gl2, j * 4 + 3, none⟩ = some (.int .i64 (jf : Int))) (by kernel_rfl) ?_ (fun hHeld => ?_)
            focus
              exact s0
            clear s0
            have hsm := HSM.out
            refine wpAnyH_take (i := 0) (v := ?_) (by simp only [List.getElem?_toArray, List.getElem?_cons_succ, List.getElem?_cons_zero]; rfl) (by kernel_rfl) (by kernel_rfl) (by kernel_rfl) (fun _ _ _ h => h) (Or.inl ⟨by rfl, ?_⟩) (by assumption) ?_
            rotate_left 1
            · (intro w hSw; (try dsimp only at hSw); go_simp; try with_reducible rfl)
            try simp only [Act.put, List.setIfInBounds_toArray, List.set_cons_zero, List.set_cons_succ]
            refine wpAnyH_take (i := 1) (v := ?_) (by simp only [List.getElem?_toArray, List.getElem?_cons_succ, List.getElem?_cons_zero]; rfl) (by kernel_rfl) (by kernel_rfl) (by kernel_rfl) (fun _ _ _ h => h) (Or.inl ⟨by rfl, ?_⟩) (by assumption) ?_
            rotate_left 1
            · (intro w hSw; (try dsimp only at hSw); go_simp; try with_reducible rfl)
            try simp only [Act.put, List.setIfInBounds_toArray, List.set_cons_zero, List.set_cons_succ]
            refine wpAnyH_take (i := 2) (v := ?_) (by simp only [List.getElem?_toArray, List.getElem?_cons_succ, List.getElem?_cons_zero]; rfl) (by kernel_rfl) (by kernel_rfl) (by kernel_rfl) (fun _ _ _ h => h) (Or.inl ⟨by rfl, ?_⟩) (by assumption) ?_
            rotate_left 1
            · (intro w hSw; (try dsimp only at hSw); go_simp; try with_reducible rfl)
            try simp only [Act.put, List.setIfInBounds_toArray, List.set_cons_zero, List.set_cons_succ]
            refine wpAnyH_take (i := 3) (v := ?_) (by simp only [List.getElem?_toArray, List.getElem?_cons_succ, List.getElem?_cons_zero]; rfl) (by kernel_rfl) (by kernel_rfl) (by kernel_rfl) (fun _ _ _ h => h) (Or.inl ⟨by rfl, ?_⟩) (by assumption) ?_
            rotate_left 1
            · (intro w hSw; (try dsimp only at hSw); go_simp; try with_reducible rfl)
            try simp only [Act.put, List.setIfInBounds_toArray, List.set_cons_zero, List.set_cons_succ]
            refine wpAnyH_take (i := 4) (v := ?_) (by simp only [List.getElem?_toArray, List.getElem?_cons_succ, List.getElem?_cons_zero]; rfl) (by kernel_rfl) (by kernel_rfl) (by kernel_rfl) (fun _ _ _ h => h) (Or.inl ⟨by rfl, ?_⟩) (by assumption) ?_
            rotate_left 1
            · (intro w hSw; (try dsimp only at hSw); go_simp; try with_reducible rfl)
            try simp only [Act.put, List.setIfInBounds_toArray, List.set_cons_zero, List.set_cons_succ]
            refine wpAnyH_take (i := 5) (v := ?_) (by simp only [List.getElem?_toArray, List.getElem?_cons_succ, List.getElem?_cons_zero]; rfl) (by kernel_rfl) (by kernel_rfl) (by kernel_rfl) (fun _ _ _ h => h) (Or.inl ⟨by rfl, ?_⟩) (by assumption) ?_
            rotate_left 1
            · (intro w hSw; (try dsimp only at hSw); go_simp; try with_reducible rfl)
            try simp only [Act.put, List.setIfInBounds_toArray, List.set_cons_zero, List.set_cons_succ]
            refine wpAnyH_take (i := 6) (v := ?_) (by simp only [List.getElem?_toArray, List.getElem?_cons_succ, List.getElem?_cons_zero]; rfl) (by kernel_rfl) (by kernel_rfl) (by kernel_rfl) (fun _ _ _ h => h) (Or.inl ⟨by rfl, ?_⟩) (by assumption) ?_
            rotate_left 1
            · (intro w hSw; (try dsimp only at hSw); go_simp; try with_reducible rfl)
            try simp only [Act.put, List.setIfInBounds_toArray, List.set_cons_zero, List.set_cons_succ]
            refine wpAnyH_take (i := 7) (v := ?_) (by simp only [List.getElem?_toArray, List.getElem?_cons_succ, List.getElem?_cons_zero]; rfl) (by kernel_rfl) (by kernel_rfl) (by kernel_rfl) (fun _ _ _ h => h) (Or.inl ⟨by rfl, ?_⟩) (by assumption) ?_
            rotate_left 1
            · (intro w hSw; (try dsimp only at hSw); go_simp; try with_reducible rfl)
            try simp only [Act.put, List.setIfInBounds_toArray, List.set_cons_zero, List.set_cons_succ]
            refine wpAnyH_ready (rs := [8]) (by kernel_rfl) (by simp) ?_
            refine AllReadyH.cons (by simp only [List.getElem?_toArray, List.getElem?_cons_succ, List.getElem?_cons_zero]; rfl) (fun K hK => ?_) ?_
            rotate_left 1
            · exact AllReadyH.nil
            go_simp
            refine hK.out _ _ ?_ (fun hHeld2 => ?_)
            · ((try dsimp only) <;> (exact CC.out _ (Below.refl _ _).drew))
            clear hHeld
            have hHeld := hHeld2
            clear hHeld2 hK K
            try simp only [Act.put, List.setIfInBounds_toArray, List.set_cons_zero, List.set_cons_succ]
            refine wpAnyH_take (i := 9) (v := ?_) (by simp only [List.getElem?_toArray, List.getElem?_cons_succ, List.getElem?_cons_zero]; rfl) (by kernel_rfl) (by kernel_rfl) (by kernel_rfl) (fun _ _ _ h => h) (Or.inl ⟨by rfl, ?_⟩) (by assumption) ?_
            rotate_left 1
            · (intro w hSw; (try dsimp only at hSw); go_simp; try with_reducible rfl)
            try simp only [Act.put, List.setIfInBounds_toArray, List.set_cons_zero, List.set_cons_succ]
            refine wpAnyH_done (by kernel_rfl) ?_ _
            refine NoPanic.normal ?_
            clear CC hsm HSM hHeld RJ2
            go_wp2_with fail
            go_roundw
            case rel => exact ⟨j + 1, by omega, by omega, by go_num, Z10.out.drew⟩
            case measure => simp [intOf]; omega
          · obtain rfl : j = i + 1 := by omega
            go_wp2_with fail
            go_roundw
            case rel => exact ⟨i + 1, _, c4, D', by omega, by omega, by go_num, rfl, H7.out.below Z.out, T5.out, R7.out.below Z.out⟩
            case measure => simp [intOf]; omega
    · have hout : (i < m ∧ ¬ i < 20) ∨ ¬ i < m := by omega
      clear hlt
      rcases hout with ⟨hm1, hm2⟩ | hm1
      all_goals
        go_wp2_with fail
        go_ret
        exact ⟨rfl, B1.out.trans (H2.out.bel.mono B1.out.size)⟩
end Go.Proofs.Ytfaingklglelnaa
