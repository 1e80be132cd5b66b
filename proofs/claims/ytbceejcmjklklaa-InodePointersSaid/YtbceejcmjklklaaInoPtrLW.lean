/- The walk over marllaw05.InodePointers (printed by gen_inoptrl.py). -/
import Derived.Test.YtbceejcmjklklaaInoPtrW
import Derived.Test.YtbceejcmjklklaaInoLists2
import Derived.Test.YtbceejcmjklklaaCO5
import Derived.Deep.WholeRow
namespace Go.Proofs.Ytbceejcmjklklaa
open Go.RowKit
attribute [local go_sem ↓] Go.wp_at_zero Go.wp_at_succ

theorem row_by {w : World} {base : Nat} {l : List UInt8} {v : Value} (h : RdF 5 base (u8s l) v w) : ∃ A n c, v = .slice A n c ∧ By w w.heap.size A n l := by
  obtain ⟨A, n, c, c', hv, ho⟩ := h
  exact ⟨A, n, c, hv, OwnBy.by (show OwnBy w base A n c' l from ho)⟩
theorem ptrs_none (A : Option Addr) (n c : Nat) (w : World) (hn : n ≠ 64) : Calls Try.prog 15 #[.slice A n c] w fun e w' => e = .returned (.tuple #[.agg (u32s (List.replicate 16 0)).toArray, .int .i64 100]) ∧ Below w.heap.size w w' := ptrs_no A n c w hn
set_option maxHeartbeats 1000000 in
/-- Sizes and zero values, kept whole in a walk. -/
def szK_ptrl_big : Sem Nat := sizeOf 34
theorem szK_ptrl_big_keep : sizeOf 34 = szK_ptrl_big := rfl
def zvK_ptrl_big : Sem Value := zeroValue 34
theorem zvK_ptrl_big_keep : zeroValue 34 = zvK_ptrl_big := rfl
attribute [local go_sem ↓] szK_ptrl_big_keep zvK_ptrl_big_keep in
theorem ptrl_big (ps : List Nat) (A : Option Addr) (n c : Nat) (w : World) (hbig : 1000 < n) :
    Calls Try.prog 6 #[.agg (u32s ps).toArray, .slice A n c] w fun e w' => e = .returned (.bool true) ∧ Below w.heap.size w w' := by
  go_enter Try.func6, Try.ntmps6
  go_wp2_with fail
  have Hb := hide ((Below.refl w.heap.size w).alloc (Nat.le_refl _) (.cells (u32s ps).toArray 34))
  generalize w.alloc (.cells (u32s ps).toArray 34) = w0 at *
  refine (awake_any _).mono ?_
  rintro e w1 ⟨rfl, hb1⟩
  go_wp2_with fail
  refine (awake_any _).mono ?_
  rintro e w2 ⟨rfl, hb2⟩
  go_wp2_with fail
  go_ret
  exact ⟨rfl, (Hb.out.trans (hb1.mono Hb.out.size)).trans (hb2.mono (Nat.le_trans Hb.out.size hb1.size))⟩
set_option maxRecDepth 100000 in
set_option maxHeartbeats 2000000 in
/-- Sizes and zero values, kept whole in a walk. -/
def szK_ptrl_any : Sem Nat := sizeOf 34
theorem szK_ptrl_any_keep : sizeOf 34 = szK_ptrl_any := rfl
def zvK_ptrl_any : Sem Value := zeroValue 34
theorem zvK_ptrl_any_keep : zeroValue 34 = zvK_ptrl_any := rfl
attribute [local go_sem ↓] szK_ptrl_any_keep zvK_ptrl_any_keep in
theorem ptrl_any (ps : List Nat) (h16 : ps.length = 16) (hps : ∀ p ∈ ps, p < 4294967296) (A : Option Addr) (n c : Nat) (l : List UInt8) (w : World) (h : By w w.heap.size A n l) (hsm : n ≤ 1000) :
    Calls Try.prog 6 #[.agg (u32s ps).toArray, .slice A n c] w fun e w' => e = .returned (.bool true) ∧ Below w.heap.size w w' := by
  have H := hide h
  have HL := hide h.length
  obtain ⟨k, hk⟩ : ∃ k, k = 16 := ⟨_, rfl⟩
  have ks : ∀ w, szK_ptrl_any.run Try.prog w = .ok k w := fun w => by rw [hk]; exact Try.sizeOf34 w
  have hk0 : ¬ k = 0 := by omega
  have C1 := hide (fun w => blk_any ps h16 hps w)
  have C2 := hide (fun w => rblk_any ps h16 hps w)
  have l1 : Hid ((u32s ps).length = k) := hide (by rw [u32s_length, h16, hk])
  have PB : Hid (quads 16 (ps.flatMap four) = ps) := hide (by have := quads_four ps hps; rw [h16] at this; exact this)
  have SM := hide (fun w => arr_same ps h16 hps w)
  have PL : Hid ((ps.flatMap four).length = 64) := hide (by rw [four_all_length, h16])
  obtain ⟨zs, hzs⟩ : ∃ zs : List Nat, zs = List.replicate 16 0 := ⟨_, rfl⟩
  have kz : ∀ w, zvK_ptrl_any.run Try.prog w = .ok (.agg (u32s zs).toArray) w := fun w => by rw [hzs]; exact Try.zeroValue34 w
  have zl : Hid (zs.length = 16) := hide (by rw [hzs]; rfl)
  have kst : ∀ (W : World) (qs : List Nat), qs.length = 16 → (storeCells ⟨W.heap.size, 0, none⟩ (u32s qs) 0).run Try.prog (W.alloc (.cells (u32s zs).toArray 34)) = .ok () (W.alloc (.cells (u32s qs).toArray 34)) := fun W qs hq => by
    have hi : (Try.prog.info? 34).map (·.size) = some (u32s qs).toArray.size := by rw [List.size_toArray, u32s_length, hq]; kernel_rfl
    have := run_storeCells_new (P := Try.prog) W 34 (u32s zs).toArray (u32s qs).toArray hi (by rw [List.size_toArray, List.size_toArray, u32s_length, u32s_length, hq, zl.out]) (u32s_one qs)
    simpa using this
  have KST := hide kst
  have KZ := hide kz
  have HK := hide hk
  have HZ := hide hzs
  have H16 := hide h16
  clear h h16 hps hk kst kz hzs
  go_enter Try.func6, Try.ntmps6
  go_wp2_with fail
  have K0 := hide (Blk.new w 34 (u32s ps).toArray)
  have B0 := hide ((Below.refl w.heap.size w).alloc (Nat.le_refl _) (.cells (u32s ps).toArray 34))
  obtain ⟨g2, hg2⟩ : ∃ g2, g2 = w.heap.size := ⟨_, rfl⟩
  rw [← hg2] at K0 ⊢
  clear hg2
  generalize w.alloc (.cells (u32s ps).toArray 34) = w0 at *
  refine (awake_any _).mono ?_
  rintro e w1 ⟨rfl, hb1⟩
  have K1 := hide (K0.out.below hb1)
  have B1 := hide (B0.out.trans (hb1.mono B0.out.size))
  have e1 := ld_row w1 g2 k _ _ l1.out K1.out
  clear hb1 K0 B0
  go_wp2_with fail
  clear e1
  refine (C1.out _).mono ?_
  rintro e w2 ⟨X, cx, rfl, hX, hb2⟩
  have X2 := hide hX
  have K2 := hide (K1.out.below hb2)
  have B2 := hide hb2
  clear hX hb2
  go_wp2_with fail
  refine (ptrs_yes X 64 w2.heap.size (ps.flatMap four) w2 (own_by64 X2.out) (Nat.le_refl _) (Nat.le_refl _)).mono ?_
  rintro e w3 ⟨rfl, hb3⟩
  rw [PB.out]
  have X3 := hide (own_keep X2.out hb3)
  have K3 := hide (K2.out.below hb3)
  have B3 := hide (B2.out.trans (hb3.mono B2.out.size))
  clear hb3 X2 K2 B2
  have kz := KZ.out
  have kst := KST.out w3 ps H16.out
  have kl := l1.out
  have hsz := u32s_length zs
  go_wp2_with fail
  obtain ⟨w4, hw4⟩ : ∃ w4, w4 = w3.alloc (.cells (u32s ps).toArray 34) := ⟨_, rfl⟩
  obtain ⟨g6, hg6⟩ : ∃ g6, g6 = w3.heap.size := ⟨_, rfl⟩
  have K6 := Blk.new w3 34 (u32s ps).toArray
  have hal := (Below.refl w3.heap.size w3).alloc (Nat.le_refl _) (.cells (u32s ps).toArray 34)
  have K4 := hide (K3.out.below hal)
  have X4 := hide (own_keep X3.out hal)
  have B4 := hide (B3.out.trans (hal.mono B3.out.size))
  rw [← hw4] at K4 X4 B4 K6 ⊢
  rw [← hg6] at K6 ⊢
  have K6 := hide K6
  clear hal hw4 hg6 kz kst hsz K3 X3 B3
  have cC : ∀ w' : World, Below w4.heap.size w4 w' → (loadCellsFrom ⟨g2, 0, none⟩ 0 k #[]).run Try.prog w' = .ok (u32s ps).toArray w' ∧ (loadCellsFrom ⟨g6, 0, none⟩ 0 k #[]).run Try.prog w' = .ok (u32s ps).toArray w' := fun w' hb => ⟨ld_row w' g2 k _ _ l1.out (K4.out.below hb), ld_row w' g6 k _ _ l1.out (K6.out.below hb)⟩
  have s0 := cC _ (Below.refl _ _).drew
  have BW := hide ((Below.refl w4.heap.size w4).drew)
  have CC := hide cC
  clear cC
  refine wp_region_noPanic ?_
  refine wp_region_held_drew (S := (fun w' => (loadCellsFrom ⟨g2, 0, none⟩ 0 k #[]).run Try.prog w' = .ok (u32s ps).toArray w' ∧ (loadCellsFrom ⟨g6, 0, none⟩ 0 k #[]).run Try.prog w' = .ok (u32s ps).toArray w')) (by kernel_rfl) ?_ (fun hHeld => ?_)
  · ((try dsimp only) <;> (first | trivial | assumption | go_keep))
  clear s0
  have w5s : Hid (w4.heap.size ≤ w4.drew.heap.size) := hide (Nat.le_refl _)
  generalize w4.drew = w5 at *
  refine wpAnyH_take (i := 0) (v := ?_) (by simp only [List.getElem?_toArray, List.getElem?_cons_succ, List.getElem?_cons_zero]; rfl) (by kernel_rfl) (by kernel_rfl) (by kernel_rfl) (fun _ _ _ h => h) (Or.inl ⟨by rfl, ?_⟩) (by assumption) ?_
  rotate_left 1
  · (intro w hSw; (try dsimp only at hSw); go_simp; try with_reducible rfl)
  try simp only [Act.put, List.setIfInBounds_toArray, List.set_cons_zero, List.set_cons_succ]
  refine wpAnyH_take (i := 2) (v := ?_) (by simp only [List.getElem?_toArray, List.getElem?_cons_succ, List.getElem?_cons_zero]; rfl) (by kernel_rfl) (by kernel_rfl) (by kernel_rfl) (fun _ _ _ h => h) (Or.inl ⟨by rfl, ?_⟩) (by assumption) ?_
  rotate_left 1
  · (intro w hSw; (try dsimp only at hSw); go_simp; try with_reducible rfl)
  try simp only [Act.put, List.setIfInBounds_toArray, List.set_cons_zero, List.set_cons_succ]
  refine region_rows (fuel := 10) (w0 := w5) (base := w5.heap.size) (stop := 5) (C := [⟨1, 27, [], [], StrF (ps.flatMap four)⟩, ⟨3, 29, [], [], RdF 5 w5.heap.size (u8s (ps.flatMap four))⟩, ⟨4, 30, [], [3], StrF (ps.flatMap four)⟩])
    (ok_of_cd (by kernel_rfl)) ?hok ?hst ?hS (Below.refl _ _) (Nat.le_refl _) ?hend
  case hok =>
    intro y hy
    simp only [List.mem_cons, List.not_mem_nil, or_false] at hy
    rcases hy with rfl | rfl | rfl
    · exact strF_ok _ _ _ _ _ _
    · exact rdF_ok _ _ _ _ _ _ _
    · exact strF_ok _ _ _ _ _ _
  case hS =>
    intro w' hb _
    exact CC.out w' (BW.out.trans (hb.mono w5s.out))
  case hst =>
    intro y hy
    simp only [List.mem_cons, List.not_mem_nil, or_false] at hy
    rcases hy with rfl | rfl | rfl
    · exact CO.step_conv (by simp only [List.getElem?_toArray, List.getElem?_cons_succ, List.getElem?_cons_zero]; rfl) (want_none (by rfl)) (by rfl) 26 (by rfl) Try.underlying29 Try.underlying5 Try.underlying9 (ps.flatMap four) (fun a w' e1 e2 e3 e4 => ⟨_, X, 64, 64, (e3 26 (by intro z hz; simp only [List.mem_cons, List.not_mem_nil, or_false] at hz; rcases hz with rfl | rfl | rfl <;> simp)).trans (by rfl), (own_by64 X4.out).below ((BW.out.trans (e1.mono w5s.out)))⟩) rfl
    · exact CO.step_call (by simp only [List.getElem?_toArray, List.getElem?_cons_succ, List.getElem?_cons_zero]; rfl) (want_none (by rfl)) (by rfl) Try.func16 (by kernel_rfl) (by rfl) #[.tmp 28] _ (by rfl) (fun a w' e1 e2 e3 e4 => by
        have hv : a.tmps.getD 28 undef = .agg (u32s ps).toArray := (e3 28 (by intro z hz; simp only [List.mem_cons, List.not_mem_nil, or_false] at hz; rcases hz with rfl | rfl | rfl <;> simp)).trans (by rfl)
        have := C2.out w'
        simp only [List.map_toArray, List.map_cons, List.map_nil, Act.eval, hv]
        refine this.mono ?_
        rintro e w2' ⟨A', c', rfl, ho, hb⟩
        exact ⟨_, rfl, ⟨A', 64, c', c', rfl, own_bq ho e2⟩, hb, fun g hg => (World.ownsRow.lt ho g (ownBlock_vbs.2 (vbs_cap.1 hg))).1⟩)
    · exact CO.step_conv (by simp only [List.getElem?_toArray, List.getElem?_cons_succ, List.getElem?_cons_zero]; rfl) (want_none (by rfl)) (by rfl) 29 (by rfl) Try.underlying29 Try.underlying5 Try.underlying9 (ps.flatMap four) (fun a w' e1 e2 e3 e4 => by
        obtain ⟨A', n', c', hv, hb⟩ := row_by (e4 ⟨3, 29, [], [], RdF 5 w5.heap.size (u8s (ps.flatMap four))⟩ (by simp) (by simp))
        exact ⟨_, A', n', c', hv, hb⟩) rfl
  case hend =>
    intro vals w6 hb6 hs6 hF hap
    have f1 := hF ⟨1, 27, [], [], StrF (ps.flatMap four)⟩ (by simp) (by simp)
    have f4 := hF ⟨4, 30, [], [3], StrF (ps.flatMap four)⟩ (by simp) (by simp)
    clear hF hap
    simp only [StrF] at f1 f4
    simp only [List.foldl_cons, List.foldl_nil, f1, f4]
    generalize vals 3 = x3
    clear f1 f4
    simp only [Act.put, List.setIfInBounds_toArray, List.set_cons_zero, List.set_cons_succ]
    have B6 := hide (BW.out.trans (hb6.mono w5s.out))
    replace hHeld := CC.out w6 B6.out
    have X6 := hide (own_keep X4.out B6.out)
    have B7 := hide (B4.out.trans (B6.out.mono B4.out.size))
    have sm := SM.out
    clear hb6 hs6
    refine wpAnyH_take (i := 5) (v := ?_) (by simp only [List.getElem?_toArray, List.getElem?_cons_succ, List.getElem?_cons_zero]; rfl) (by kernel_rfl) (by kernel_rfl) (by kernel_rfl) (fun _ _ _ h => h) (Or.inl ⟨by rfl, ?_⟩) (by assumption) ?_
    rotate_left 1
    · (intro w hSw; (try dsimp only at hSw); go_simp; try with_reducible rfl)
    try simp only [Act.put, List.setIfInBounds_toArray, List.set_cons_zero, List.set_cons_succ]
    refine wpAnyH_take (i := 6) (v := ?_) (by simp only [List.getElem?_toArray, List.getElem?_cons_succ, List.getElem?_cons_zero]; rfl) (by kernel_rfl) (by kernel_rfl) (by kernel_rfl) (fun _ _ _ h => h) (Or.inl ⟨by rfl, ?_⟩) (by assumption) ?_
    rotate_left 1
    · (intro w hSw; (try dsimp only at hSw); go_simp; try with_reducible rfl)
    try simp only [Act.put, List.setIfInBounds_toArray, List.set_cons_zero, List.set_cons_succ]
    refine wpAnyH_take (i := 7) (v := ?_) (by simp only [List.getElem?_toArray, List.getElem?_cons_succ, List.getElem?_cons_zero]; rfl) (by kernel_rfl) (by kernel_rfl) (by kernel_rfl) (fun _ _ _ h => h) (Or.inl ⟨by rfl, ?_⟩) (by assumption) ?_
    rotate_left 1
    · (intro w hSw; (try dsimp only at hSw); go_simp; try with_reducible rfl)
    try simp only [Act.put, List.setIfInBounds_toArray, List.set_cons_zero, List.set_cons_succ]
    refine wpAnyH_take (i := 8) (v := ?_) (by simp only [List.getElem?_toArray, List.getElem?_cons_succ, List.getElem?_cons_zero]; rfl) (by kernel_rfl) (by kernel_rfl) (by kernel_rfl) (fun _ _ _ h => h) (Or.inl ⟨by rfl, ?_⟩) (by assumption) ?_
    rotate_left 1
    · (intro w hSw; (try dsimp only at hSw); go_simp; try with_reducible rfl)
    try simp only [Act.put, List.setIfInBounds_toArray, List.set_cons_zero, List.set_cons_succ]
    refine wpAnyH_take (i := 9) (v := ?_) (by simp only [List.getElem?_toArray, List.getElem?_cons_succ, List.getElem?_cons_zero]; rfl) (by kernel_rfl) (by kernel_rfl) (by kernel_rfl) (fun _ _ _ h => h) (Or.inl ⟨by rfl, ?_⟩) (by assumption) ?_
    rotate_left 1
    · (intro w hSw; (try dsimp only at hSw); go_simp; try with_reducible rfl)
    try simp only [Act.put, List.setIfInBounds_toArray, List.set_cons_zero, List.set_cons_succ]
    refine wpAnyH_take (i := 10) (v := ?_) (by simp only [List.getElem?_toArray, List.getElem?_cons_succ, List.getElem?_cons_zero]; rfl) (by kernel_rfl) (by kernel_rfl) (by kernel_rfl) (fun _ _ _ h => h) (Or.inl ⟨by rfl, ?_⟩) (by assumption) ?_
    rotate_left 1
    · (intro w hSw; (try dsimp only at hSw); go_simp; try with_reducible rfl)
    try simp only [Act.put, List.setIfInBounds_toArray, List.set_cons_zero, List.set_cons_succ]
    refine wpAnyH_take (i := 11) (v := ?_) (by simp only [List.getElem?_toArray, List.getElem?_cons_succ, List.getElem?_cons_zero]; rfl) (by kernel_rfl) (by kernel_rfl) (by kernel_rfl) (fun _ _ _ h => h) (Or.inl ⟨by rfl, ?_⟩) (by assumption) ?_
    rotate_left 1
    · (intro w hSw; (try dsimp only at hSw); go_simp; try with_reducible rfl)
    try simp only [Act.put, List.setIfInBounds_toArray, List.set_cons_zero, List.set_cons_succ]
    refine wpAnyH_take (i := 12) (v := ?_) (by simp only [List.getElem?_toArray, List.getElem?_cons_succ, List.getElem?_cons_zero]; rfl) (by kernel_rfl) (by kernel_rfl) (by kernel_rfl) (fun _ _ _ h => h) (Or.inl ⟨by rfl, ?_⟩) (by assumption) ?_
    rotate_left 1
    · (intro w hSw; (try dsimp only at hSw); go_simp; try with_reducible rfl)
    try simp only [Act.put, List.setIfInBounds_toArray, List.set_cons_zero, List.set_cons_succ]
    refine wpAnyH_take (i := 13) (v := ?_) (by simp only [List.getElem?_toArray, List.getElem?_cons_succ, List.getElem?_cons_zero]; rfl) (by kernel_rfl) (by kernel_rfl) (by kernel_rfl) (fun _ _ _ h => h) (Or.inl ⟨by rfl, ?_⟩) (by assumption) ?_
    rotate_left 1
    · (intro w hSw; (try dsimp only at hSw); go_simp; try with_reducible rfl)
    try simp only [Act.put, List.setIfInBounds_toArray, List.set_cons_zero, List.set_cons_succ]
    refine wpAnyH_take (i := 14) (v := ?_) (by simp only [List.getElem?_toArray, List.getElem?_cons_succ, List.getElem?_cons_zero]; rfl) (by kernel_rfl) (by kernel_rfl) (by kernel_rfl) (fun _ _ _ h => h) (Or.inl ⟨by rfl, ?_⟩) (by assumption) ?_
    rotate_left 1
    · (intro w hSw; (try dsimp only at hSw); go_simp; try with_reducible rfl)
    try simp only [Act.put, List.setIfInBounds_toArray, List.set_cons_zero, List.set_cons_succ]
    refine wpAnyH_done (by kernel_rfl) ?_ _
    refine NoPanic.normal ?_
    clear hHeld sm CC
    go_wp2_with fail
    have Q6 : Hid (∃ xs : List Value, w6.ownsRow w1.heap.size 5 1 (.slice X 64 cx) 64 xs ∧ ∀ u ∈ xs, ∃ m : Int, u = .int .u8 m) := hide ⟨_, X6.out, fun u hu => by
      simp only [u8s, List.mem_map] at hu
      obtain ⟨b, -, rfl⟩ := hu
      exact ⟨_, rfl⟩⟩
    clear X6 X4 K4 K6 B4 B6 BW w5s
    go_loopw [43] (fun x wr => ∃ j : Nat, j ≤ 64 ∧ x = .int .i64 (j : Int) ∧ (∃ xs : List Value, wr.ownsRow w1.heap.size 5 1 (.slice X 64 cx) 64 xs ∧ ∀ u ∈ xs, ∃ m : Int, u = .int .u8 m) ∧ Below w1.heap.size w1 wr) (fun x _ => 64 - (intOf x).toNat)
    case atStart => exact ⟨0, Nat.zero_le _, rfl, Q6.out, B7.out⟩
    case round =>
      obtain ⟨j, hj, rfl, ⟨xs, h1, h2⟩, h3⟩ := hrel
      have H1 := hide h1
      have H2 := hide h2
      have H3 := hide h3
      clear h1 h2 h3 Q6 B7
      by_cases hlt : j < 64
      · obtain ⟨g, u, hA, hg1, hg2, hu, hc, hf, hset⟩ := own_set1 H1.out hlt
        obtain ⟨m, rfl⟩ := H2.out u (List.mem_of_getElem? hu)
        subst hA
        have HS := hide hset
        have HG := hide hg1
        clear hset hu hg1
        go_wp2_with fail
        go_roundw
        case rel =>
          refine ⟨j + 1, by omega, by go_num, ⟨_, HS.out _, fun u hu => ?_⟩, H3.out.setCell (p := ⟨g, j, none⟩) HG.out _⟩
          rcases List.mem_or_eq_of_mem_set hu with h | h
          · exact H2.out u h
          · exact ⟨_, h⟩
        case measure => simp [intOf]; omega
      · clear H1 H2
        go_wp2_with (
          at_builtin
          refine wpList_app _ rfl (.tmp 54) (.tmp 55) _ rfl ety8 wr.heap.size (.slice (some ⟨wr.heap.size, 0, none⟩) 0 0) 0 [] rfl (empty_own (Nat.le_refl _)) w.heap.size A n c (u8s l) rfl
            ((H.out.below (B1.out.trans (H3.out.mono B1.out.size))).alloc (Nat.le_trans B1.out.size H3.out.size) _) (u8s_one l) (by omega) (by simp) ?_
          intro A7 c7 w7 hown hg _
          simp only [Nat.zero_add, List.nil_append] at hown
          have O7 := hide (show OwnBy w7 wr.heap.size A7 n c7 l from hown)
          have B7 := hide (((Below.refl wr.heap.size wr).alloc (Nat.le_refl _) (.cells #[] 5)).grown hg (by simp) (fun k hk => by
            have hk' : wr.heap.size = k := by simpa [Value.ownBlock] using hk
            omega))
          clear hown hg)

        have HB7 := hide (H3.out.trans (B7.out.mono H3.out.size))
        have hcap := own_cap O7.out
        by_cases hn : n = 64
        · subst hn
          refine (ptrs_yes A7 c7 w7.heap.size l w7 O7.out.by (Nat.le_refl _) hcap).mono ?_
          rintro e w8 ⟨rfl, hb8⟩
          have hql := quads_len 16 l
          have hqb := quads_lt 16 l
          have QB := hide (quads_back 16 l HL.out)
          obtain ⟨qs, hqs⟩ : ∃ qs, qs = quads 16 l := ⟨_, rfl⟩
          rw [← hqs] at hql hqb QB ⊢
          clear hqs
          have D1 := hide (fun w => blk_any qs hql hqb w)
          have kz := KZ.out
          have kst := KST.out w8 qs hql
          have kl2 : (u32s qs).length = k := by rw [u32s_length, hql, HK.out]
          have hsz := u32s_length zs
          have K9 := hide (Blk.new w8 34 (u32s qs).toArray)
          have hal := (Below.refl w8.heap.size w8).alloc (Nat.le_refl _) (.cells (u32s qs).toArray 34)
          have B9 := hide (HB7.out.trans ((hb8.trans (hal.mono hb8.size)).mono HB7.out.size))
          clear hal hb8 hql hqb
          go_wp2_with fail
          obtain ⟨g9, hg9⟩ : ∃ g9, g9 = w8.heap.size := ⟨_, rfl⟩
          rw [← hg9] at K9 ⊢
          clear hg9 kz kst hsz
          generalize w8.alloc _ = w9 at *
          have cC : ∀ w' : World, Below w9.heap.size w9 w' → (loadCellsFrom ⟨g2, 0, none⟩ 0 k #[]).run Try.prog w' = .ok (u32s ps).toArray w' ∧ (loadCellsFrom ⟨g9, 0, none⟩ 0 k #[]).run Try.prog w' = .ok (u32s qs).toArray w' := fun w' hb => ⟨ld_row w' g2 k _ _ l1.out (K1.out.below (B9.out.trans (hb.mono B9.out.size))), ld_row w' g9 k _ _ kl2 (K9.out.below hb)⟩
          have s0 := cC _ (Below.refl _ _).drew
          have BW := hide ((Below.refl w9.heap.size w9).drew)
          have CC := hide cC
          clear cC
          refine wp_region_noPanic ?_
          refine wp_region_held_drew (S := (fun w' => (loadCellsFrom ⟨g2, 0, none⟩ 0 k #[]).run Try.prog w' = .ok (u32s ps).toArray w' ∧ (loadCellsFrom ⟨g9, 0, none⟩ 0 k #[]).run Try.prog w' = .ok (u32s qs).toArray w')) (by kernel_rfl) ?_ (fun hHeld => ?_)
          · ((try dsimp only) <;> (first | trivial | assumption | go_keep))
          clear s0
          have w5s : Hid (w9.heap.size ≤ w9.drew.heap.size) := hide (Nat.le_refl _)
          generalize w9.drew = w5 at *
          have HA := hide (H.out.below (B1.out.trans ((B9.out.trans (BW.out.mono B9.out.size)).mono B1.out.size)))
          have hA5 : Hid (w.heap.size ≤ w5.heap.size) := hide (Nat.le_trans B1.out.size (Nat.le_trans B9.out.size w5s.out))
          refine wpAnyH_take (i := 0) (v := ?_) (by simp only [List.getElem?_toArray, List.getElem?_cons_succ, List.getElem?_cons_zero]; rfl) (by kernel_rfl) (by kernel_rfl) (by kernel_rfl) (fun _ _ _ h => h) (Or.inl ⟨by rfl, ?_⟩) (by assumption) ?_
          rotate_left 1
          · (intro w hSw; (try dsimp only at hSw); go_simp; try with_reducible rfl)
          try simp only [Act.put, List.setIfInBounds_toArray, List.set_cons_zero, List.set_cons_succ]
          refine wpAnyH_take (i := 1) (v := ?_) (by simp only [List.getElem?_toArray, List.getElem?_cons_succ, List.getElem?_cons_zero]; rfl) (by kernel_rfl) (by kernel_rfl) (by kernel_rfl) (fun _ _ _ h => h) (Or.inl ⟨by rfl, ?_⟩) (by assumption) ?_
          rotate_left 1
          · (intro w hSw; (try dsimp only at hSw); go_simp; try with_reducible rfl)
          try simp only [Act.put, List.setIfInBounds_toArray, List.set_cons_zero, List.set_cons_succ]
          refine wpAnyH_take (i := 2) (v := ?_) (by simp only [List.getElem?_toArray, List.getElem?_cons_succ, List.getElem?_cons_zero]; rfl) (by kernel_rfl) (by kernel_rfl) (by kernel_rfl) (fun _ _ _ h => h) (Or.inl ⟨by rfl, ?_⟩) (by assumption) ?_
          rotate_left 1
          · (intro w hSw; (try dsimp only at hSw); go_simp; try with_reducible rfl)
          try simp only [Act.put, List.setIfInBounds_toArray, List.set_cons_zero, List.set_cons_succ]
          refine wpAnyH_take (i := 3) (v := ?_) (by simp only [List.getElem?_toArray, List.getElem?_cons_succ, List.getElem?_cons_zero]; rfl) (by kernel_rfl) (by kernel_rfl) (by kernel_rfl) (fun _ _ _ h => h) (Or.inl ⟨by rfl, ?_⟩) (by assumption) ?_
          rotate_left 1
          · (intro w hSw; (try dsimp only at hSw); go_simp; try with_reducible rfl)
          try simp only [Act.put, List.setIfInBounds_toArray, List.set_cons_zero, List.set_cons_succ]
          refine wpAnyH_take (i := 6) (v := ?_) (by simp only [List.getElem?_toArray, List.getElem?_cons_succ, List.getElem?_cons_zero]; rfl) (by kernel_rfl) (by kernel_rfl) (by kernel_rfl) (fun _ _ _ h => h) (Or.inl ⟨by rfl, ?_⟩) (by assumption) ?_
          rotate_left 1
          · (intro w hSw; (try dsimp only at hSw); go_simp; try with_reducible rfl)
          try simp only [Act.put, List.setIfInBounds_toArray, List.set_cons_zero, List.set_cons_succ]
          refine region_rows (fuel := 12) (w0 := w5) (base := w5.heap.size) (stop := 8) (C := [⟨4, 74, [], [], RdF 5 w5.heap.size (u8s (qs.flatMap four))⟩, ⟨5, 75, [], [4], StrF (qs.flatMap four)⟩, ⟨7, 77, [], [], StrF l⟩])
            (ok_of_cd (by kernel_rfl)) ?hok ?hst ?hS (Below.refl _ _) (Nat.le_refl _) ?hend
          case hok =>
            intro y hy
            simp only [List.mem_cons, List.not_mem_nil, or_false] at hy
            rcases hy with rfl | rfl | rfl
            · exact rdF_ok _ _ _ _ _ _ _
            · exact strF_ok _ _ _ _ _ _
            · exact strF_ok _ _ _ _ _ _
          case hS =>
            intro w' hb _
            exact CC.out w' (BW.out.trans (hb.mono w5s.out))
          case hst =>
            intro y hy
            simp only [List.mem_cons, List.not_mem_nil, or_false] at hy
            rcases hy with rfl | rfl | rfl
            · exact CO.step_call (by simp only [List.getElem?_toArray, List.getElem?_cons_succ, List.getElem?_cons_zero]; rfl) (want_of (by rfl) (by rfl) (by rfl) (by intro z hz; simp only [List.mem_cons, List.not_mem_nil, or_false] at hz; rcases hz with rfl | rfl | rfl <;> simp) (by rfl)) (by rfl) Try.func14 (by kernel_rfl) (by rfl) #[.tmp 73] _ (by rfl) (fun a w' e1 e2 e3 e4 => by
                have hv : a.tmps.getD 73 undef = .agg (u32s qs).toArray := (e3 73 (by intro z hz; simp only [List.mem_cons, List.not_mem_nil, or_false] at hz; rcases hz with rfl | rfl | rfl <;> simp)).trans (by rfl)
                have := D1.out w'
                simp only [List.map_toArray, List.map_cons, List.map_nil, Act.eval, hv]
                refine this.mono ?_
                rintro e w2' ⟨A', c', rfl, ho, hb⟩
                exact ⟨_, rfl, ⟨A', 64, 64, c', rfl, own_bq ho e2⟩, hb, fun g hg => (World.ownsRow.lt ho g (ownBlock_vbs.2 (vbs_cap.1 hg))).1⟩)
            · exact CO.step_conv (by simp only [List.getElem?_toArray, List.getElem?_cons_succ, List.getElem?_cons_zero]; rfl) (want_of (by rfl) (by rfl) (by rfl) (by intro z hz; simp only [List.mem_cons, List.not_mem_nil, or_false] at hz; rcases hz with rfl | rfl | rfl <;> simp) (by rfl)) (by rfl) 74 (by rfl) Try.underlying29 Try.underlying5 Try.underlying9 (qs.flatMap four) (fun a w' e1 e2 e3 e4 => by
                obtain ⟨A', n', c', hv, hb⟩ := row_by (e4 ⟨4, 74, [], [], RdF 5 w5.heap.size (u8s (qs.flatMap four))⟩ (by simp) (by simp))
                exact ⟨_, A', n', c', hv, hb⟩) rfl
            · exact CO.step_conv (by simp only [List.getElem?_toArray, List.getElem?_cons_succ, List.getElem?_cons_zero]; rfl) (want_of (by rfl) (by rfl) (by rfl) (by intro z hz; simp only [List.mem_cons, List.not_mem_nil, or_false] at hz; rcases hz with rfl | rfl | rfl <;> simp) (by rfl)) (by rfl) 76 (by rfl) Try.underlying29 Try.underlying5 Try.underlying9 l (fun a w' e1 e2 e3 e4 => ⟨_, A, 64, c, (e3 76 (by intro z hz; simp only [List.mem_cons, List.not_mem_nil, or_false] at hz; rcases hz with rfl | rfl | rfl <;> simp)).trans (by rfl), HA.out.below (e1.mono hA5.out)⟩) rfl
          case hend =>
            intro vals w10 hb10 hs10 hF hap
            have f5 := hF ⟨5, 75, [], [4], StrF (qs.flatMap four)⟩ (by simp) (by simp)
            have f7 := hF ⟨7, 77, [], [], StrF l⟩ (by simp) (by simp)
            clear hF hap
            simp only [StrF] at f5 f7
            rw [QB.out] at f5
            simp only [List.foldl_cons, List.foldl_nil, f5, f7]
            generalize vals 4 = x4
            clear f5 f7
            simp only [Act.put, List.setIfInBounds_toArray, List.set_cons_zero, List.set_cons_succ]
            have B10 := hide (BW.out.trans (hb10.mono w5s.out))
            replace hHeld := CC.out w10 B10.out
            clear hb10 hs10
            refine wpAnyH_take (i := 8) (v := ?_) (by simp only [List.getElem?_toArray, List.getElem?_cons_succ, List.getElem?_cons_zero]; rfl) (by kernel_rfl) (by kernel_rfl) (by kernel_rfl) (fun _ _ _ h => h) (Or.inl ⟨by rfl, ?_⟩) (by assumption) ?_
            rotate_left 1
            · (intro w hSw; (try dsimp only at hSw); go_simp; try with_reducible rfl)
            try simp only [Act.put, List.setIfInBounds_toArray, List.set_cons_zero, List.set_cons_succ]
            refine wpAnyH_take (i := 9) (v := ?_) (by simp only [List.getElem?_toArray, List.getElem?_cons_succ, List.getElem?_cons_zero]; rfl) (by kernel_rfl) (by kernel_rfl) (by kernel_rfl) (fun _ _ _ h => h) (Or.inl ⟨by rfl, ?_⟩) (by assumption) ?_
            rotate_left 1
            · (intro w hSw; (try dsimp only at hSw); go_simp; try with_reducible rfl)
            try simp only [Act.put, List.setIfInBounds_toArray, List.set_cons_zero, List.set_cons_succ]
            refine wpAnyH_take (i := 10) (v := ?_) (by simp only [List.getElem?_toArray, List.getElem?_cons_succ, List.getElem?_cons_zero]; rfl) (by kernel_rfl) (by kernel_rfl) (by kernel_rfl) (fun _ _ _ h => h) (Or.inl ⟨by rfl, ?_⟩) (by assumption) ?_
            rotate_left 1
            · (intro w hSw; (try dsimp only at hSw); go_simp; try with_reducible rfl)
            try simp only [Act.put, List.setIfInBounds_toArray, List.set_cons_zero, List.set_cons_succ]
            refine wpAnyH_take (i := 11) (v := ?_) (by simp only [List.getElem?_toArray, List.getElem?_cons_succ, List.getElem?_cons_zero]; rfl) (by kernel_rfl) (by kernel_rfl) (by kernel_rfl) (fun _ _ _ h => h) (Or.inl ⟨by rfl, ?_⟩) (by assumption) ?_
            rotate_left 1
            · (intro w hSw; (try dsimp only at hSw); go_simp; try with_reducible rfl)
            try simp only [Act.put, List.setIfInBounds_toArray, List.set_cons_zero, List.set_cons_succ]
            refine wpAnyH_take (i := 14) (v := ?_) (by simp only [List.getElem?_toArray, List.getElem?_cons_succ, List.getElem?_cons_zero]; rfl) (by kernel_rfl) (by kernel_rfl) (by kernel_rfl) (fun _ _ _ h => h) (Or.inl ⟨by rfl, ?_⟩) (by assumption) ?_
            rotate_left 1
            · (intro w hSw; (try dsimp only at hSw); go_simp; try with_reducible rfl)
            try simp only [Act.put, List.setIfInBounds_toArray, List.set_cons_zero, List.set_cons_succ]
            refine region_rows (fuel := 3) (w0 := w10) (base := w10.heap.size) (stop := 17) (C := [⟨12, 82, [], [], RdF 5 w10.heap.size (u8s (ps.flatMap four))⟩, ⟨13, 83, [], [12], StrF (ps.flatMap four)⟩, ⟨15, 85, [], [], RdF 5 w10.heap.size (u8s (ps.flatMap four))⟩, ⟨16, 86, [], [15], StrF (ps.flatMap four)⟩])
              (ok_of_cd (by kernel_rfl)) ?hok2 ?hst2 ?hS2 (Below.refl _ _) (Nat.le_refl _) ?hend2
            case hok2 =>
              intro y hy
              simp only [List.mem_cons, List.not_mem_nil, or_false] at hy
              rcases hy with rfl | rfl | rfl | rfl
              · exact rdF_ok _ _ _ _ _ _ _
              · exact strF_ok _ _ _ _ _ _
              · exact rdF_ok _ _ _ _ _ _ _
              · exact strF_ok _ _ _ _ _ _
            case hS2 =>
              intro w' hb _
              exact CC.out w' (B10.out.trans (hb.mono B10.out.size))
            case hst2 =>
              intro y hy
              simp only [List.mem_cons, List.not_mem_nil, or_false] at hy
              rcases hy with rfl | rfl | rfl | rfl
              · exact CO.step_call (by simp only [List.getElem?_toArray, List.getElem?_cons_succ, List.getElem?_cons_zero]; rfl) (want_of (by rfl) (by rfl) (by rfl) (by intro z hz; simp only [List.mem_cons, List.not_mem_nil, or_false] at hz; rcases hz with rfl | rfl | rfl | rfl <;> simp) (by rfl)) (by rfl) Try.func14 (by kernel_rfl) (by rfl) #[.tmp 81] _ (by rfl) (fun a w' e1 e2 e3 e4 => by
                  have hv : a.tmps.getD 81 undef = .agg (u32s ps).toArray := (e3 81 (by intro z hz; simp only [List.mem_cons, List.not_mem_nil, or_false] at hz; rcases hz with rfl | rfl | rfl | rfl <;> simp)).trans (by rfl)
                  have := C1.out w'
                  simp only [List.map_toArray, List.map_cons, List.map_nil, Act.eval, hv]
                  refine this.mono ?_
                  rintro e w2' ⟨A', c', rfl, ho, hb⟩
                  exact ⟨_, rfl, ⟨A', 64, 64, c', rfl, own_bq ho e2⟩, hb, fun g hg => (World.ownsRow.lt ho g (ownBlock_vbs.2 (vbs_cap.1 hg))).1⟩)
              · exact CO.step_conv (by simp only [List.getElem?_toArray, List.getElem?_cons_succ, List.getElem?_cons_zero]; rfl) (want_of (by rfl) (by rfl) (by rfl) (by intro z hz; simp only [List.mem_cons, List.not_mem_nil, or_false] at hz; rcases hz with rfl | rfl | rfl | rfl <;> simp) (by rfl)) (by rfl) 82 (by rfl) Try.underlying29 Try.underlying5 Try.underlying9 (ps.flatMap four) (fun a w' e1 e2 e3 e4 => by
                  obtain ⟨A', n', c', hv, hb⟩ := row_by (e4 ⟨12, 82, [], [], RdF 5 w10.heap.size (u8s (ps.flatMap four))⟩ (by simp) (by simp))
                  exact ⟨_, A', n', c', hv, hb⟩) rfl
              · exact CO.step_call (by simp only [List.getElem?_toArray, List.getElem?_cons_succ, List.getElem?_cons_zero]; rfl) (want_of (by rfl) (by rfl) (by rfl) (by intro z hz; simp only [List.mem_cons, List.not_mem_nil, or_false] at hz; rcases hz with rfl | rfl | rfl | rfl <;> simp) (by rfl)) (by rfl) Try.func16 (by kernel_rfl) (by rfl) #[.tmp 84] _ (by rfl) (fun a w' e1 e2 e3 e4 => by
                  have hv : a.tmps.getD 84 undef = .agg (u32s ps).toArray := (e3 84 (by intro z hz; simp only [List.mem_cons, List.not_mem_nil, or_false] at hz; rcases hz with rfl | rfl | rfl | rfl <;> simp)).trans (by rfl)
                  have := C2.out w'
                  simp only [List.map_toArray, List.map_cons, List.map_nil, Act.eval, hv]
                  refine this.mono ?_
                  rintro e w2' ⟨A', c', rfl, ho, hb⟩
                  exact ⟨_, rfl, ⟨A', 64, c', c', rfl, own_bq ho e2⟩, hb, fun g hg => (World.ownsRow.lt ho g (ownBlock_vbs.2 (vbs_cap.1 hg))).1⟩)
              · exact CO.step_conv (by simp only [List.getElem?_toArray, List.getElem?_cons_succ, List.getElem?_cons_zero]; rfl) (want_of (by rfl) (by rfl) (by rfl) (by intro z hz; simp only [List.mem_cons, List.not_mem_nil, or_false] at hz; rcases hz with rfl | rfl | rfl | rfl <;> simp) (by rfl)) (by rfl) 85 (by rfl) Try.underlying29 Try.underlying5 Try.underlying9 (ps.flatMap four) (fun a w' e1 e2 e3 e4 => by
                  obtain ⟨A', n', c', hv, hb⟩ := row_by (e4 ⟨15, 85, [], [], RdF 5 w10.heap.size (u8s (ps.flatMap four))⟩ (by simp) (by simp))
                  exact ⟨_, A', n', c', hv, hb⟩) rfl
            case hend2 =>
              intro vals2 w11 hb11 hs11 hF hap
              have f13 := hF ⟨13, 83, [], [12], StrF (ps.flatMap four)⟩ (by simp) (by simp)
              have f16 := hF ⟨16, 86, [], [15], StrF (ps.flatMap four)⟩ (by simp) (by simp)
              clear hF hap
              simp only [StrF] at f13 f16
              simp only [List.foldl_cons, List.foldl_nil, f13, f16]
              generalize vals2 12 = x12
              generalize vals2 15 = x15
              clear f13 f16
              simp only [Act.put, List.setIfInBounds_toArray, List.set_cons_zero, List.set_cons_succ]
              have B11 := hide (B10.out.trans (hb11.mono B10.out.size))
              replace hHeld := CC.out w11 B11.out
              clear hb11 hs11
              refine wpAnyH_take (i := 17) (v := ?_) (by simp only [List.getElem?_toArray, List.getElem?_cons_succ, List.getElem?_cons_zero]; rfl) (by kernel_rfl) (by kernel_rfl) (by kernel_rfl) (fun _ _ _ h => h) (Or.inl ⟨by rfl, ?_⟩) (by assumption) ?_
              rotate_left 1
              · (intro w hSw; (try dsimp only at hSw); go_simp; try with_reducible rfl)
              try simp only [Act.put, List.setIfInBounds_toArray, List.set_cons_zero, List.set_cons_succ]
              refine wpAnyH_take (i := 18) (v := ?_) (by simp only [List.getElem?_toArray, List.getElem?_cons_succ, List.getElem?_cons_zero]; rfl) (by kernel_rfl) (by kernel_rfl) (by kernel_rfl) (fun _ _ _ h => h) (Or.inl ⟨by rfl, ?_⟩) (by assumption) ?_
              rotate_left 1
              · (intro w hSw; (try dsimp only at hSw); go_simp; try with_reducible rfl)
              try simp only [Act.put, List.setIfInBounds_toArray, List.set_cons_zero, List.set_cons_succ]
              refine wpAnyH_take (i := 19) (v := ?_) (by simp only [List.getElem?_toArray, List.getElem?_cons_succ, List.getElem?_cons_zero]; rfl) (by kernel_rfl) (by kernel_rfl) (by kernel_rfl) (fun _ _ _ h => h) (Or.inl ⟨by rfl, ?_⟩) (by assumption) ?_
              rotate_left 1
              · (intro w hSw; (try dsimp only at hSw); go_simp; try with_reducible rfl)
              try simp only [Act.put, List.setIfInBounds_toArray, List.set_cons_zero, List.set_cons_succ]
              refine wpAnyH_done (by kernel_rfl) ?_ _
              refine NoPanic.normal ?_
              go_wp2_with fail
              go_ret
              exact ⟨rfl, B1.out.trans ((B9.out.trans (B11.out.mono B9.out.size)).mono B1.out.size)⟩
        · have hn64 : ((n : Int) == 64) = false := by rw [beq_eq_false_iff_ne]; omega
          refine (ptrs_none A7 n c7 w7 hn).mono ?_
          rintro e w8 ⟨rfl, hb8⟩
          rw [← HZ.out]
          have kz := KZ.out
          have kst := KST.out w8 zs zl.out
          have kl2 : (u32s zs).length = k := by rw [u32s_length, zl.out, HK.out]
          have hal := (Below.refl w8.heap.size w8).alloc (Nat.le_refl _) (.cells (u32s zs).toArray 34)
          have B9 := hide (HB7.out.trans ((hb8.trans (hal.mono hb8.size)).mono HB7.out.size))
          have e9 := ld_row (w8.alloc (.cells (u32s zs).toArray 34)) w8.heap.size k _ _ kl2 (Blk.new w8 34 (u32s zs).toArray)
          have ez : ∀ w, (Op.equalIn 10000 34 (.agg (u32s zs).toArray) (.agg (u32s zs).toArray)).run Try.prog w = .ok true w := fun w => arr_same zs zl.out (by rw [HZ.out]; intro p hp; rw [List.eq_of_mem_replicate hp]; decide) w
          clear hal hb8 hn
          go_wp2_with fail
          go_ret
          exact ⟨rfl, B1.out.trans (B9.out.mono B1.out.size)⟩
theorem ptrl_all (ps : List Nat) (h16 : ps.length = 16) (hps : ∀ p ∈ ps, p < 4294967296) (A : Option Addr) (n c : Nat) (l : List UInt8) (w : World) (h : By w w.heap.size A n l) :
    Calls Try.prog 6 #[.agg (u32s ps).toArray, .slice A n c] w fun e w' => e = .returned (.bool true) ∧ Below w.heap.size w w' := by
  by_cases hn : 1000 < n
  · exact ptrl_big ps A n c w hn
  · exact ptrl_any ps h16 hps A n c l w h (by omega)
end Go.Proofs.Ytbceejcmjklklaa
