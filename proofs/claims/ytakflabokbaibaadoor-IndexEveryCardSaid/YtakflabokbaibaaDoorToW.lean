/- The walk over index.To: the path to a block of pointers or of data behind them. -/
import Derived.Test.YtakflabokbaibaaDoorToM
set_option linter.unusedVariables false
set_option linter.unusedSimpArgs false
namespace Go.Proofs.YtakflabokbaibaaDoor
open Go.RowKit
attribute [local go_sem ↓] Go.wp_at_zero Go.wp_at_succ

theorem sp_back {w w' : World} {R P base : Nat} {x0 : Value} {A1 A2 : Option Addr} {n1 c1 n2 c2 : Nat} {l1 l2 : List Int} {r i : Nat} {v : Value} (sp : SpanAt w) (hr : r ≤ 3) (h : ToM w (w'.setCell ⟨P, i, none⟩ v) R P base x0 A1 n1 c1 A2 n2 c2 l1 l2) : w'.cell? ⟨0, r, none⟩ = some (.int .i64 (spanN r : Int)) := by
  have h1 := (sp.below h.bel sp.lt).at hr
  have hlt := sp.lt
  obtain ⟨b1, b2, b3, b4⟩ := h.b
  rwa [World.cell?_setCell_other w' ⟨P, i, none⟩ ⟨0, r, none⟩ v (fun e => by injection e with e; omega)] at h1
theorem sp_back2 {w w' : World} {R P base : Nat} {x0 : Value} {A1 A2 : Option Addr} {n1 c1 n2 c2 : Nat} {l1 l2 : List Int} {r : Nat} (sp : SpanAt w) (hr : r ≤ 3) (h : ToM w w' R P base x0 A1 n1 c1 A2 n2 c2 l1 l2) : w'.cell? ⟨0, r, none⟩ = some (.int .i64 (spanN r : Int)) := (sp.below h.bel sp.lt).at hr
theorem wayP_step {r g m v : Nat} (hv : v + m = r) : wayP r g (m + 1) = ⟨(wayP r g m).root, (wayP r g m).metas ++ [-((spanN r + (g - g % pw v) : Nat) : Int) - ((v : Int) - 1)], (wayP r g m).slots ++ [(g - (g - g % pw v)) / pw (v - 1)]⟩ := by
  have e : r - m = v := by omega
  show (let p := wayP r g m; let lev := r - m; let at_ := g - g % 16 ^ lev; (⟨p.root, p.metas ++ [-((spanN r + at_ : Nat) : Int) - ((lev : Int) - 1)], p.slots ++ [(g - at_) / 16 ^ (lev - 1)]⟩ : PathL)) = _
  rw [e]
  rfl
set_option maxHeartbeats 1000000 in
set_option maxRecDepth 100000 in
theorem to_yes (n : Int) (hn : I64 n) {l f : Nat} (h : findP n = some (l, f)) (r : Nat) (hr : rootN f = r) (hr0 : 0 < r) (hlr : l ≤ r) (w : World) (sp : SpanAt w) : Calls Tryd.prog 14 #[.int .i64 n] w fun e w' =>
    ∃ A1 c1 A2 c2, e = .returned (.tuple #[.agg #[.int .i64 (6 + (r : Int) - 1), .slice A1 (r - l) c1, .slice A2 (r - l) c2], .int .i64 0]) ∧ PathM w' w.heap.size A1 (r - l) c1 A2 c2 (wayP r (f - spanN r) (r - l)) ∧ Below w.heap.size w w' := by
  have hf6 := (findP_bd h).2.1
  have hr3 : r ≤ 3 := by rw [← hr]; exact rootN_bd f
  have hsr : spanN r ≤ f := by rw [← hr]; exact span_root f
  have sp1 := sp.alloc (.cells #[.int .i64 0, .slice none 0 0, .slice none 0 0] 34)
  have C := hide (find_yes n hn h _ sp1)
  have SP := hide sp1
  have B0 := hide ((Below.refl w.heap.size w).alloc (Nat.le_refl _) (.cells #[.int .i64 0, .slice none 0 0, .slice none 0 0] 34))
  have K0 := hide (Blk.new w 34 #[.int .i64 0, .slice none 0 0, .slice none 0 0])
  have HR := hide hr
  obtain ⟨g, hgf⟩ : ∃ g : Nat, f = spanN r + g := ⟨f - spanN r, by omega⟩
  have hg : Hid (f - spanN r = g) := hide (by omega)
  have eg : (f : Int) - (spanN r : Int) = (g : Int) := by omega
  have hs6 : spanN r ≤ 278 := by
    rcases (show r = 1 ∨ r = 2 ∨ r = 3 by omega) with rfl | rfl | rfl
    · rw [spanN_1]; omega
    · rw [spanN_2]; omega
    · rw [spanN_3]; omega
  have hg6 : g < 600 := by omega
  rw [hg.out]
  have SPw := hide sp
  clear h hn sp sp1 hr hgf
  go_enter Tryd.func14, Tryd.ntmps14
  go_wp2_with fail
  refine C.out.mono ?_
  rintro e w1 ⟨rfl, hb⟩
  have B1 := hide (B0.out.trans (hb.mono (by simp)))
  have K1 := hide (K0.out.below hb)
  have SP1 := hide (SP.out.bel hb)
  clear hb C B0 K0 SP
  go_wp2_with fail
  refine (rootOf_any f hf6 w1 SP1.out).mono ?_
  rintro e w2 ⟨rfl, rfl⟩
  rw [HR.out]
  have hrb : ((r : Int) == 0) = false := by rw [beq_eq_false_iff_ne]; omega
  have sc := (SP1.out.alloc (.cells #[.int .i64 (6 + (r : Int) - 1), .slice none 0 0, .slice none 0 0] 34)).at hr3
  have hT : Hid (ToM w (w1.alloc (.cells #[.int .i64 (6 + (r : Int) - 1), .slice none 0 0, .slice none 0 0] 34)) w.heap.size w1.heap.size (w1.heap.size + 1) (.int .i64 (6 + (r : Int) - 1)) none 0 0 none 0 0 [] []) := hide (by
    have hlt := K1.out.lt
    exact ⟨K1.out.alloc _, Blk.new _ _ _, World.ownsRow_nil _ _ _ _, World.ownsRow_nil _ _ _ _, by simp [Value.ownBlock], ⟨Nat.le_refl _, hlt, by omega, by simp⟩, B1.out.alloc B1.out.size _⟩)
  have hw0 : wayP r g 0 = ⟨5 + r, [], []⟩ := rfl
  have SP2 := hide (SP1.out.alloc (.cells #[.int .i64 (6 + (r : Int) - 1), .slice none 0 0, .slice none 0 0] 34))
  go_upto_region 10 with fail
  clear sc K1 B1 SP1
  generalize w1.alloc (.cells #[.int .i64 (6 + (r : Int) - 1), .slice none 0 0, .slice none 0 0] 34) = w2 at *
  go_loopw [10] (fun x wr => ∃ (m v : Nat) (A1 : Option Addr) (c1 : Nat) (A2 : Option Addr) (c2 : Nat), v + m = r ∧ l ≤ v ∧ x = .int .i64 (v : Int) ∧ ToM w wr w.heap.size w1.heap.size (w1.heap.size + 1) (.int .i64 (6 + (r : Int) - 1)) A1 m c1 A2 m c2 (wayP r g m).metas (natsI (wayP r g m).slots)) (fun x _ => (intOf x).toNat - l)
  case atStart => exact ⟨0, r, none, 0, none, 0, by omega, hlr, rfl, hT.out⟩
  case round =>
    obtain ⟨m, v, A1, c1, A2, c2, hv, hlv, rfl, h1⟩ := hrel
    have H1 := hide h1
    clear h1 hT
    by_cases hlt : l < v
    · obtain ⟨u, hu⟩ : ∃ u, v = u + 1 := ⟨v - 1, by omega⟩
      have hv3 : v ≤ 3 := by omega
      have hpv := pow16_bd hv3
      have hu3 : u ≤ 3 := by omega
      have hpu := pow16_bd (show u ≤ 3 by omega)
      have hst := hide (wayP_step (g := g) hv)
      obtain ⟨q, hq⟩ : ∃ q : Nat, q = g % pw v := ⟨_, rfl⟩
      have hqg : q ≤ g := by rw [hq]; exact Nat.mod_le _ _
      have em : (g : Int) % (pw v : Int) = (q : Int) := by rw [hq, Int.natCast_emod]
      have em2 : (g : Int).tmod (pw v : Int) = (q : Int) := by rw [Int.tmod_eq_emod_of_nonneg (by omega), em]
      have hpv1 : 1 ≤ (pw v : Int) := by omega
      have hpu1 : 1 ≤ (pw u : Int) := by omega
      have ea : (g : Int) - (q : Int) = ((g - q : Nat) : Int) := by omega
      have w13 : IntKind.i64.wrap ((spanN r : Int) + ((g - q : Nat) : Int)) = ((spanN r + (g - q) : Nat) : Int) := by rw [IntWalk.i64_in _ (by omega)]; omega
      obtain ⟨sa, hsa⟩ : ∃ sa : Nat, sa = spanN r + (g - q) := ⟨_, rfl⟩
      obtain ⟨X, hX⟩ : ∃ X : Int, X = -(sa : Int) - ((v : Int) - 1) := ⟨_, rfl⟩
      rw [← hsa] at w13
      have C13 := hide (fun w => number_any sa v (by omega) (by omega) w)
      rw [← hX] at C13
      have w14a : IntKind.i64.wrap ((g : Int) - ((g - q : Nat) : Int)) = (q : Int) := by rw [IntWalk.i64_in _ (by omega)]; omega
      have w14b : IntKind.i64.wrap ((v : Int) - 1) = (u : Int) := by rw [IntWalk.i64_in _ (by omega)]; omega
      obtain ⟨d, hd⟩ : ∃ d : Nat, d = q / pw u := ⟨_, rfl⟩
      have hdq : d ≤ q := by rw [hd]; exact Nat.div_le_self _ _
      have ed : (q : Int).tdiv (pw u : Int) = (d : Int) := by rw [hd, Int.tdiv_eq_ediv_of_nonneg (by omega), Int.natCast_ediv]
      have wd : IntKind.i64.wrap (d : Int) = (d : Int) := IntWalk.i64_in _ (by omega)
      have hpz : ¬ pw u = 0 := by omega
      have k6 := fun w (x : Int) => int_slice w x
      have i1 : (0 : Int) ≤ (r : Int) := by omega
      have i2 : (r : Int) < 5 := by omega
      have sc := (SPw.out.below H1.out.bel SPw.out.lt).drew.at hr3
      obtain ⟨k0, k1, k2, f0, f1, f2⟩ := blk3 H1.out.kP.drew
      rw [← hq, ← hsa, ← hX, show g - (g - q) = q by omega, show v - 1 = u by omega, ← hd] at hst
      replace hsa := hide hsa
      replace hX := hide hX
      replace hq := hide hq
      replace hd := hide hd
      replace hu := hide hu
      go_wp2_with fail
      refine (wide_any v hv3 wr).mono ?_
      rintro e w3 ⟨rfl, rfl⟩
      go_upto_region 13 with fail
      refine wp_region_noPanic ?_
      refine wp_region_held_drew (S := (fun w' => w'.cell? ⟨0, r, none⟩ = some (.int .i64 (spanN r : Int)))) (by kernel_rfl) ?_ (fun hHeld => ?_)
      · ((try dsimp only) <;> (first | trivial | assumption | go_keep))
      refine wpAnyH_take (i := 0) (v := ?_) (by simp only [List.getElem?_toArray, List.getElem?_cons_succ, List.getElem?_cons_zero]; rfl) (by kernel_rfl) (by kernel_rfl) (by kernel_rfl) (fun _ _ _ h => h) (Or.inl ⟨by rfl, ?_⟩) (by assumption) ?_
      rotate_left 1
      · (intro w hSw; (try dsimp only at hSw); go_simp; try with_reducible rfl)
      try simp only [Act.put, List.setIfInBounds_toArray, List.set_cons_zero, List.set_cons_succ]
      refine wpAnyH_take (i := 2) (v := ?_) (by simp only [List.getElem?_toArray, List.getElem?_cons_succ, List.getElem?_cons_zero]; rfl) (by kernel_rfl) (by kernel_rfl) (by kernel_rfl) (fun _ _ _ h => h) (Or.inl ⟨by rfl, ?_⟩) (by assumption) ?_
      rotate_left 1
      · (intro w hSw; (try dsimp only at hSw); go_simp; try with_reducible rfl)
      try simp only [Act.put, List.setIfInBounds_toArray, List.set_cons_zero, List.set_cons_succ]
      refine wpAnyH_take (i := 3) (v := ?_) (by simp only [List.getElem?_toArray, List.getElem?_cons_succ, List.getElem?_cons_zero]; rfl) (by kernel_rfl) (by kernel_rfl) (by kernel_rfl) (fun _ _ _ h => h) (Or.inl ⟨by rfl, ?_⟩) (by assumption) ?_
      rotate_left 1
      · (intro w hSw; (try dsimp only at hSw); go_simp; try with_reducible rfl)
      try simp only [Act.put, List.setIfInBounds_toArray, List.set_cons_zero, List.set_cons_succ]
      refine wpAnyH_take (i := 4) (v := ?_) (by simp only [List.getElem?_toArray, List.getElem?_cons_succ, List.getElem?_cons_zero]; rfl) (by kernel_rfl) (by kernel_rfl) (by kernel_rfl) (fun _ _ _ h => h) (Or.inl ⟨by rfl, ?_⟩) (by assumption) ?_
      rotate_left 1
      · (intro w hSw; (try dsimp only at hSw); go_simp; try with_reducible rfl)
      try simp only [Act.put, List.setIfInBounds_toArray, List.set_cons_zero, List.set_cons_succ]
      refine wpAnyH_take (i := 5) (v := ?_) (by simp only [List.getElem?_toArray, List.getElem?_cons_succ, List.getElem?_cons_zero]; rfl) (by kernel_rfl) (by kernel_rfl) (by kernel_rfl) (fun _ _ _ h => h) (Or.inl ⟨by rfl, ?_⟩) (by assumption) ?_
      rotate_left 1
      · (intro w hSw; (try dsimp only at hSw); go_simp; try with_reducible rfl)
      try simp only [Act.put, List.setIfInBounds_toArray, List.set_cons_zero, List.set_cons_succ]
      refine wpAnyH_take (i := 6) (v := ?_) (by simp only [List.getElem?_toArray, List.getElem?_cons_succ, List.getElem?_cons_zero]; rfl) (by kernel_rfl) (by kernel_rfl) (by kernel_rfl) (fun _ _ _ h => h) (Or.inl ⟨by rfl, ?_⟩) (by assumption) ?_
      rotate_left 1
      · (intro w hSw; (try dsimp only at hSw); go_simp; try with_reducible rfl)
      try simp only [Act.put, List.setIfInBounds_toArray, List.set_cons_zero, List.set_cons_succ]
      refine wpAnyH_take (i := 7) (v := ?_) (by simp only [List.getElem?_toArray, List.getElem?_cons_succ, List.getElem?_cons_zero]; rfl) (by kernel_rfl) (by kernel_rfl) (by kernel_rfl) (fun _ _ _ h => h) (Or.inl ⟨by rfl, ?_⟩) (by assumption) ?_
      rotate_left 1
      · (intro w hSw; (try dsimp only at hSw); go_simp; try with_reducible rfl)
      try simp only [Act.put, List.setIfInBounds_toArray, List.set_cons_zero, List.set_cons_succ]
      refine wpAnyH_ready (rs := [1, 8]) (by kernel_rfl) (by simp) ?_
      refine AllReadyH.cons (by simp only [List.getElem?_toArray, List.getElem?_cons_succ, List.getElem?_cons_zero]; rfl) (fun K hK => ?_) ?_
      rotate_left 1
      refine AllReadyH.cons (by simp only [List.getElem?_toArray, List.getElem?_cons_succ, List.getElem?_cons_zero]; rfl) (fun K hK => ?_) ?_
      rotate_left 1
      exact AllReadyH.nil
      ·
        go_simp
        refine hK.out _ _ ?_ (fun hHeld2 => ?_)
        · ((try dsimp only) <;> (first | trivial | assumption | go_keep))
        clear hHeld
        have hHeld := hHeld2
        clear hHeld2 hK K
        try simp only [Act.put, List.setIfInBounds_toArray, List.set_cons_zero, List.set_cons_succ]
        refine wpAnyH_ready (rs := [8]) (by kernel_rfl) (by simp) ?_
        refine AllReadyH.cons (by simp only [List.getElem?_toArray, List.getElem?_cons_succ, List.getElem?_cons_zero]; rfl) (fun K hK => ?_) ?_
        rotate_left 1
        · exact AllReadyH.nil
        go_simp
        refine (C13.out _).mono ?_; rintro e w3 ⟨rfl, rfl⟩; go_wp2_with fail
        refine hK.out _ _ ?_ (fun hHeld2 => ?_)
        · ((try dsimp only) <;> (first | trivial | assumption | go_keep))
        clear hHeld
        have hHeld := hHeld2
        clear hHeld2 hK K
        try simp only [Act.put, List.setIfInBounds_toArray, List.set_cons_zero, List.set_cons_succ]
        refine wpAnyH_ready (rs := [9]) (by kernel_rfl) (by simp) ?_
        refine AllReadyH.cons (by simp only [List.getElem?_toArray, List.getElem?_cons_succ, List.getElem?_cons_zero]; rfl) (fun K hK => ?_) ?_
        rotate_left 1
        · exact AllReadyH.nil
        go_simp
        refine hK.out _ _ ?_ (fun hHeld2 => ?_)
        · ((try dsimp only) <;> (exact (((SPw.out.below H1.out.bel SPw.out.lt).alloc _).drew).at hr3))
        clear hHeld
        have hHeld := hHeld2
        clear hHeld2 hK K
        try simp only [Act.put, List.setIfInBounds_toArray, List.set_cons_zero, List.set_cons_succ]
        refine wpAnyH_ready (rs := [10]) (by kernel_rfl) (by simp) ?_
        refine AllReadyH.cons (by simp only [List.getElem?_toArray, List.getElem?_cons_succ, List.getElem?_cons_zero]; rfl) (fun K hK => ?_) ?_
        rotate_left 1
        · exact AllReadyH.nil
        refine step_app rfl (.tmp 49) (.tmp 57) _ (by rfl) etyJ (w1.heap.size + 1) (.slice A1 m c1) m (intC (wayP r g m).metas) (by rfl) (own_bel H1.out.m1 ((Below.refl _ _).alloc (Nat.le_refl _) (.cells #[.int .i64 (X)] 3)).drew) _ (some ⟨wr.heap.size, 0, none⟩) 1 1 [.int .i64 (X)] (by rfl) (one_int wr (X)).drew (fun u hu => by rw [List.mem_singleton] at hu; rw [hu]; rfl) (by omega) (by have := H1.out.b.2.2.2; simp; omega) ?_; intro A3 c3 w5 hown5 hg5 hat5; have Xw5 := hide ((H1.out.below ((Below.refl _ _).alloc (Nat.le_refl _) (.cells #[.int .i64 (X)] 3)).drew).app1 hown5 hg5 hat5); clear hown5 hg5 hat5 k0 k1 k2 f0 f1 f2; obtain ⟨k0, k1, k2, f0, f1, f2⟩ := blk3 Xw5.out.1
        refine hK.out _ _ ?_ (fun hHeld2 => ?_)
        · ((try dsimp only) <;> (exact sp_back SPw.out hr3 Xw5.out.2))
        clear hHeld
        have hHeld := hHeld2
        clear hHeld2 hK K
        try simp only [Act.put, List.setIfInBounds_toArray, List.set_cons_zero, List.set_cons_succ]
        refine wpAnyH_take (i := 11) (v := ?_) (by simp only [List.getElem?_toArray, List.getElem?_cons_succ, List.getElem?_cons_zero]; rfl) (by kernel_rfl) (by kernel_rfl) (by kernel_rfl) (fun _ _ _ h => h) (Or.inl ⟨by rfl, ?_⟩) (by assumption) ?_
        rotate_left 1
        · (intro w hSw; (try dsimp only at hSw); go_simp; try with_reducible rfl)
        try simp only [Act.put, List.setIfInBounds_toArray, List.set_cons_zero, List.set_cons_succ]
        refine wpAnyH_ready (rs := [12]) (by kernel_rfl) (by simp) ?_
        refine AllReadyH.cons (by simp only [List.getElem?_toArray, List.getElem?_cons_succ, List.getElem?_cons_zero]; rfl) (fun K hK => ?_) ?_
        rotate_left 1
        · exact AllReadyH.nil
        go_simp
        refine hK.out _ _ ?_ (fun hHeld2 => ?_)
        · ((try dsimp only) <;> (exact sp_back2 SPw.out hr3 Xw5.out.2))
        clear hHeld
        have hHeld := hHeld2
        clear hHeld2 hK K
        try simp only [Act.put, List.setIfInBounds_toArray, List.set_cons_zero, List.set_cons_succ]
        refine wpAnyH_done (by kernel_rfl) ?_ _
        refine NoPanic.normal ?_
        have Yw5 := hide Xw5.out.2
        clear Xw5 k0 k1 k2 f0 f1 f2 hHeld
        clear sc
        generalize w5.setCell ⟨w1.heap.size, 1, none⟩ (.slice A3 (m + 1) c3) = w6 at *
        have sc := (SPw.out.below Yw5.out.bel SPw.out.lt).drew.at hr3
        obtain ⟨k0, k1, k2, f0, f1, f2⟩ := blk3 Yw5.out.kP.drew
        go_upto_region 14 with fail
        refine wp_region_noPanic ?_
        refine wp_region_held_drew (S := (fun w' => w'.cell? ⟨0, r, none⟩ = some (.int .i64 (spanN r : Int)))) (by kernel_rfl) ?_ (fun hHeld => ?_)
        · ((try dsimp only) <;> (first | trivial | assumption | go_keep))
        refine wpAnyH_take (i := 0) (v := ?_) (by simp only [List.getElem?_toArray, List.getElem?_cons_succ, List.getElem?_cons_zero]; rfl) (by kernel_rfl) (by kernel_rfl) (by kernel_rfl) (fun _ _ _ h => h) (Or.inl ⟨by rfl, ?_⟩) (by assumption) ?_
        rotate_left 1
        · (intro w hSw; (try dsimp only at hSw); go_simp; try with_reducible rfl)
        try simp only [Act.put, List.setIfInBounds_toArray, List.set_cons_zero, List.set_cons_succ]
        refine wpAnyH_take (i := 2) (v := ?_) (by simp only [List.getElem?_toArray, List.getElem?_cons_succ, List.getElem?_cons_zero]; rfl) (by kernel_rfl) (by kernel_rfl) (by kernel_rfl) (fun _ _ _ h => h) (Or.inl ⟨by rfl, ?_⟩) (by assumption) ?_
        rotate_left 1
        · (intro w hSw; (try dsimp only at hSw); go_simp; try with_reducible rfl)
        try simp only [Act.put, List.setIfInBounds_toArray, List.set_cons_zero, List.set_cons_succ]
        refine wpAnyH_take (i := 3) (v := ?_) (by simp only [List.getElem?_toArray, List.getElem?_cons_succ, List.getElem?_cons_zero]; rfl) (by kernel_rfl) (by kernel_rfl) (by kernel_rfl) (fun _ _ _ h => h) (Or.inl ⟨by rfl, ?_⟩) (by assumption) ?_
        rotate_left 1
        · (intro w hSw; (try dsimp only at hSw); go_simp; try with_reducible rfl)
        try simp only [Act.put, List.setIfInBounds_toArray, List.set_cons_zero, List.set_cons_succ]
        refine wpAnyH_take (i := 4) (v := ?_) (by simp only [List.getElem?_toArray, List.getElem?_cons_succ, List.getElem?_cons_zero]; rfl) (by kernel_rfl) (by kernel_rfl) (by kernel_rfl) (fun _ _ _ h => h) (Or.inl ⟨by rfl, ?_⟩) (by assumption) ?_
        rotate_left 1
        · (intro w hSw; (try dsimp only at hSw); go_simp; try with_reducible rfl)
        try simp only [Act.put, List.setIfInBounds_toArray, List.set_cons_zero, List.set_cons_succ]
        refine wpAnyH_take (i := 5) (v := ?_) (by simp only [List.getElem?_toArray, List.getElem?_cons_succ, List.getElem?_cons_zero]; rfl) (by kernel_rfl) (by kernel_rfl) (by kernel_rfl) (fun _ _ _ h => h) (Or.inl ⟨by rfl, ?_⟩) (by assumption) ?_
        rotate_left 1
        · (intro w hSw; (try dsimp only at hSw); go_simp; try with_reducible rfl)
        try simp only [Act.put, List.setIfInBounds_toArray, List.set_cons_zero, List.set_cons_succ]
        refine wpAnyH_take (i := 6) (v := ?_) (by simp only [List.getElem?_toArray, List.getElem?_cons_succ, List.getElem?_cons_zero]; rfl) (by kernel_rfl) (by kernel_rfl) (by kernel_rfl) (fun _ _ _ h => h) (Or.inl ⟨by rfl, ?_⟩) (by assumption) ?_
        rotate_left 1
        · (intro w hSw; (try dsimp only at hSw); go_simp; try with_reducible rfl)
        try simp only [Act.put, List.setIfInBounds_toArray, List.set_cons_zero, List.set_cons_succ]
        refine wpAnyH_ready (rs := [1, 7]) (by kernel_rfl) (by simp) ?_
        refine AllReadyH.cons (by simp only [List.getElem?_toArray, List.getElem?_cons_succ, List.getElem?_cons_zero]; rfl) (fun K hK => ?_) ?_
        rotate_left 1
        refine AllReadyH.cons (by simp only [List.getElem?_toArray, List.getElem?_cons_succ, List.getElem?_cons_zero]; rfl) (fun K hK => ?_) ?_
        rotate_left 1
        exact AllReadyH.nil
        ·
          go_simp
          refine hK.out _ _ ?_ (fun hHeld2 => ?_)
          · ((try dsimp only) <;> (first | trivial | assumption | go_keep))
          clear hHeld
          have hHeld := hHeld2
          clear hHeld2 hK K
          try simp only [Act.put, List.setIfInBounds_toArray, List.set_cons_zero, List.set_cons_succ]
          refine wpAnyH_ready (rs := [7]) (by kernel_rfl) (by simp) ?_
          refine AllReadyH.cons (by simp only [List.getElem?_toArray, List.getElem?_cons_succ, List.getElem?_cons_zero]; rfl) (fun K hK => ?_) ?_
          rotate_left 1
          · exact AllReadyH.nil
          go_simp
          refine (wide_any u hu3 _).mono ?_; rintro e w3 ⟨rfl, rfl⟩; go_wp2_with fail
          refine hK.out _ _ ?_ (fun hHeld2 => ?_)
          · ((try dsimp only) <;> (first | trivial | assumption | go_keep))
          clear hHeld
          have hHeld := hHeld2
          clear hHeld2 hK K
          try simp only [Act.put, List.setIfInBounds_toArray, List.set_cons_zero, List.set_cons_succ]
          refine wpAnyH_take (i := 8) (v := ?_) (by simp only [List.getElem?_toArray, List.getElem?_cons_succ, List.getElem?_cons_zero]; rfl) (by kernel_rfl) (by kernel_rfl) (by kernel_rfl) (fun _ _ _ h => h) (Or.inl ⟨by rfl, ?_⟩) (by assumption) ?_
          rotate_left 1
          · (intro w hSw; (try dsimp only at hSw); go_simp; try with_reducible rfl)
          try simp only [Act.put, List.setIfInBounds_toArray, List.set_cons_zero, List.set_cons_succ]
          refine wpAnyH_ready (rs := [9]) (by kernel_rfl) (by simp) ?_
          refine AllReadyH.cons (by simp only [List.getElem?_toArray, List.getElem?_cons_succ, List.getElem?_cons_zero]; rfl) (fun K hK => ?_) ?_
          rotate_left 1
          · exact AllReadyH.nil
          go_simp
          refine hK.out _ _ ?_ (fun hHeld2 => ?_)
          · ((try dsimp only) <;> (exact (((SPw.out.below Yw5.out.bel SPw.out.lt).alloc _).drew).at hr3))
          clear hHeld
          have hHeld := hHeld2
          clear hHeld2 hK K
          try simp only [Act.put, List.setIfInBounds_toArray, List.set_cons_zero, List.set_cons_succ]
          refine wpAnyH_ready (rs := [10]) (by kernel_rfl) (by simp) ?_
          refine AllReadyH.cons (by simp only [List.getElem?_toArray, List.getElem?_cons_succ, List.getElem?_cons_zero]; rfl) (fun K hK => ?_) ?_
          rotate_left 1
          · exact AllReadyH.nil
          refine step_app rfl (.tmp 61) (.tmp 69) _ (by rfl) etyJ (w1.heap.size + 1) (.slice A2 m c2) m (intC (natsI (wayP r g m).slots)) (by rfl) (own_bel Yw5.out.m2 ((Below.refl _ _).alloc (Nat.le_refl _) (.cells #[.int .i64 ((d : Int))] 3)).drew) _ (some ⟨w6.heap.size, 0, none⟩) 1 1 [.int .i64 ((d : Int))] (by rfl) (one_int w6 ((d : Int))).drew (fun u hu => by rw [List.mem_singleton] at hu; rw [hu]; rfl) (by omega) (by have := Yw5.out.b.2.2.2; simp; omega) ?_; intro A3 c3 w7 hown5 hg5 hat5; have Xw7 := hide ((Yw5.out.below ((Below.refl _ _).alloc (Nat.le_refl _) (.cells #[.int .i64 ((d : Int))] 3)).drew).app2 hown5 hg5 hat5); clear hown5 hg5 hat5 k0 k1 k2 f0 f1 f2; obtain ⟨k0, k1, k2, f0, f1, f2⟩ := blk3 Xw7.out.1
          refine hK.out _ _ ?_ (fun hHeld2 => ?_)
          · ((try dsimp only) <;> (exact sp_back SPw.out hr3 Xw7.out.2))
          clear hHeld
          have hHeld := hHeld2
          clear hHeld2 hK K
          try simp only [Act.put, List.setIfInBounds_toArray, List.set_cons_zero, List.set_cons_succ]
          refine wpAnyH_take (i := 11) (v := ?_) (by simp only [List.getElem?_toArray, List.getElem?_cons_succ, List.getElem?_cons_zero]; rfl) (by kernel_rfl) (by kernel_rfl) (by kernel_rfl) (fun _ _ _ h => h) (Or.inl ⟨by rfl, ?_⟩) (by assumption) ?_
          rotate_left 1
          · (intro w hSw; (try dsimp only at hSw); go_simp; try with_reducible rfl)
          try simp only [Act.put, List.setIfInBounds_toArray, List.set_cons_zero, List.set_cons_succ]
          refine wpAnyH_ready (rs := [12]) (by kernel_rfl) (by simp) ?_
          refine AllReadyH.cons (by simp only [List.getElem?_toArray, List.getElem?_cons_succ, List.getElem?_cons_zero]; rfl) (fun K hK => ?_) ?_
          rotate_left 1
          · exact AllReadyH.nil
          go_simp
          refine hK.out _ _ ?_ (fun hHeld2 => ?_)
          · ((try dsimp only) <;> (exact sp_back2 SPw.out hr3 Xw7.out.2))
          clear hHeld
          have hHeld := hHeld2
          clear hHeld2 hK K
          try simp only [Act.put, List.setIfInBounds_toArray, List.set_cons_zero, List.set_cons_succ]
          refine wpAnyH_done (by kernel_rfl) ?_ _
          refine NoPanic.normal ?_
          have Yw7 := hide Xw7.out.2
          clear Xw7 k0 k1 k2 f0 f1 f2 hHeld
          go_wp2_with fail
          go_roundw
          case rel => exact ⟨m + 1, u, _, _, _, _, by have := hu.out; omega, by have := hu.out; omega, rfl, by rw [hst.out]; have := Yw7.out; rwa [natsI_app] at this⟩
          case measure => have := hu.out; simp [intOf]; omega
        ·
          go_simp
          refine (wide_any u hu3 _).mono ?_; rintro e w3 ⟨rfl, rfl⟩; go_wp2_with fail
          refine hK.out _ _ ?_ (fun hHeld2 => ?_)
          · ((try dsimp only) <;> (first | trivial | assumption | go_keep))
          clear hHeld
          have hHeld := hHeld2
          clear hHeld2 hK K
          try simp only [Act.put, List.setIfInBounds_toArray, List.set_cons_zero, List.set_cons_succ]
          refine wpAnyH_take (i := 8) (v := ?_) (by simp only [List.getElem?_toArray, List.getElem?_cons_succ, List.getElem?_cons_zero]; rfl) (by kernel_rfl) (by kernel_rfl) (by kernel_rfl) (fun _ _ _ h => h) (Or.inl ⟨by rfl, ?_⟩) (by assumption) ?_
          rotate_left 1
          · (intro w hSw; (try dsimp only at hSw); go_simp; try with_reducible rfl)
          try simp only [Act.put, List.setIfInBounds_toArray, List.set_cons_zero, List.set_cons_succ]
          refine wpAnyH_ready (rs := [1, 9]) (by kernel_rfl) (by simp) ?_
          refine AllReadyH.cons (by simp only [List.getElem?_toArray, List.getElem?_cons_succ, List.getElem?_cons_zero]; rfl) (fun K hK => ?_) ?_
          rotate_left 1
          refine AllReadyH.cons (by simp only [List.getElem?_toArray, List.getElem?_cons_succ, List.getElem?_cons_zero]; rfl) (fun K hK => ?_) ?_
          rotate_left 1
          exact AllReadyH.nil
          ·
            go_simp
            refine hK.out _ _ ?_ (fun hHeld2 => ?_)
            · ((try dsimp only) <;> (first | trivial | assumption | go_keep))
            clear hHeld
            have hHeld := hHeld2
            clear hHeld2 hK K
            try simp only [Act.put, List.setIfInBounds_toArray, List.set_cons_zero, List.set_cons_succ]
            refine wpAnyH_ready (rs := [9]) (by kernel_rfl) (by simp) ?_
            refine AllReadyH.cons (by simp only [List.getElem?_toArray, List.getElem?_cons_succ, List.getElem?_cons_zero]; rfl) (fun K hK => ?_) ?_
            rotate_left 1
            · exact AllReadyH.nil
            go_simp
            refine hK.out _ _ ?_ (fun hHeld2 => ?_)
            · ((try dsimp only) <;> (exact (((SPw.out.below Yw5.out.bel SPw.out.lt).alloc _).drew).at hr3))
            clear hHeld
            have hHeld := hHeld2
            clear hHeld2 hK K
            try simp only [Act.put, List.setIfInBounds_toArray, List.set_cons_zero, List.set_cons_succ]
            refine wpAnyH_ready (rs := [10]) (by kernel_rfl) (by simp) ?_
            refine AllReadyH.cons (by simp only [List.getElem?_toArray, List.getElem?_cons_succ, List.getElem?_cons_zero]; rfl) (fun K hK => ?_) ?_
            rotate_left 1
            · exact AllReadyH.nil
            refine step_app rfl (.tmp 61) (.tmp 69) _ (by rfl) etyJ (w1.heap.size + 1) (.slice A2 m c2) m (intC (natsI (wayP r g m).slots)) (by rfl) (own_bel Yw5.out.m2 ((Below.refl _ _).alloc (Nat.le_refl _) (.cells #[.int .i64 ((d : Int))] 3)).drew) _ (some ⟨w6.heap.size, 0, none⟩) 1 1 [.int .i64 ((d : Int))] (by rfl) (one_int w6 ((d : Int))).drew (fun u hu => by rw [List.mem_singleton] at hu; rw [hu]; rfl) (by omega) (by have := Yw5.out.b.2.2.2; simp; omega) ?_; intro A3 c3 w7 hown5 hg5 hat5; have Xw7 := hide ((Yw5.out.below ((Below.refl _ _).alloc (Nat.le_refl _) (.cells #[.int .i64 ((d : Int))] 3)).drew).app2 hown5 hg5 hat5); clear hown5 hg5 hat5 k0 k1 k2 f0 f1 f2; obtain ⟨k0, k1, k2, f0, f1, f2⟩ := blk3 Xw7.out.1
            refine hK.out _ _ ?_ (fun hHeld2 => ?_)
            · ((try dsimp only) <;> (exact sp_back SPw.out hr3 Xw7.out.2))
            clear hHeld
            have hHeld := hHeld2
            clear hHeld2 hK K
            try simp only [Act.put, List.setIfInBounds_toArray, List.set_cons_zero, List.set_cons_succ]
            refine wpAnyH_take (i := 11) (v := ?_) (by simp only [List.getElem?_toArray, List.getElem?_cons_succ, List.getElem?_cons_zero]; rfl) (by kernel_rfl) (by kernel_rfl) (by kernel_rfl) (fun _ _ _ h => h) (Or.inl ⟨by rfl, ?_⟩) (by assumption) ?_
            rotate_left 1
            · (intro w hSw; (try dsimp only at hSw); go_simp; try with_reducible rfl)
            try simp only [Act.put, List.setIfInBounds_toArray, List.set_cons_zero, List.set_cons_succ]
            refine wpAnyH_ready (rs := [12]) (by kernel_rfl) (by simp) ?_
            refine AllReadyH.cons (by simp only [List.getElem?_toArray, List.getElem?_cons_succ, List.getElem?_cons_zero]; rfl) (fun K hK => ?_) ?_
            rotate_left 1
            · exact AllReadyH.nil
            go_simp
            refine hK.out _ _ ?_ (fun hHeld2 => ?_)
            · ((try dsimp only) <;> (exact sp_back2 SPw.out hr3 Xw7.out.2))
            clear hHeld
            have hHeld := hHeld2
            clear hHeld2 hK K
            try simp only [Act.put, List.setIfInBounds_toArray, List.set_cons_zero, List.set_cons_succ]
            refine wpAnyH_done (by kernel_rfl) ?_ _
            refine NoPanic.normal ?_
            have Yw7 := hide Xw7.out.2
            clear Xw7 k0 k1 k2 f0 f1 f2 hHeld
            go_wp2_with fail
            go_roundw
            case rel => exact ⟨m + 1, u, _, _, _, _, by have := hu.out; omega, by have := hu.out; omega, rfl, by rw [hst.out]; have := Yw7.out; rwa [natsI_app] at this⟩
            case measure => have := hu.out; simp [intOf]; omega
          ·
            go_simp
            refine hK.out _ _ ?_ (fun hHeld2 => ?_)
            · ((try dsimp only) <;> (exact (((SPw.out.below Yw5.out.bel SPw.out.lt).alloc _).drew).at hr3))
            clear hHeld
            have hHeld := hHeld2
            clear hHeld2 hK K
            try simp only [Act.put, List.setIfInBounds_toArray, List.set_cons_zero, List.set_cons_succ]
            obtain ⟨j0, j1, j2, -⟩ := blk3 ((Yw5.out.kP.alloc (.cells #[.int .i64 ((d : Int))] 3)).drew)
            refine wpAnyH_ready (rs := [1]) (by kernel_rfl) (by simp) ?_
            refine AllReadyH.cons (by simp only [List.getElem?_toArray, List.getElem?_cons_succ, List.getElem?_cons_zero]; rfl) (fun K hK => ?_) ?_
            rotate_left 1
            · exact AllReadyH.nil
            go_simp
            refine hK.out _ _ ?_ (fun hHeld2 => ?_)
            · ((try dsimp only) <;> (first | trivial | assumption | go_keep))
            clear hHeld
            have hHeld := hHeld2
            clear hHeld2 hK K
            try simp only [Act.put, List.setIfInBounds_toArray, List.set_cons_zero, List.set_cons_succ]
            clear j0 j1 j2
            refine wpAnyH_ready (rs := [10]) (by kernel_rfl) (by simp) ?_
            refine AllReadyH.cons (by simp only [List.getElem?_toArray, List.getElem?_cons_succ, List.getElem?_cons_zero]; rfl) (fun K hK => ?_) ?_
            rotate_left 1
            · exact AllReadyH.nil
            refine step_app rfl (.tmp 61) (.tmp 69) _ (by rfl) etyJ (w1.heap.size + 1) (.slice A2 m c2) m (intC (natsI (wayP r g m).slots)) (by rfl) (own_bel Yw5.out.m2 ((Below.refl _ _).alloc (Nat.le_refl _) (.cells #[.int .i64 ((d : Int))] 3)).drew) _ (some ⟨w6.heap.size, 0, none⟩) 1 1 [.int .i64 ((d : Int))] (by rfl) (one_int w6 ((d : Int))).drew (fun u hu => by rw [List.mem_singleton] at hu; rw [hu]; rfl) (by omega) (by have := Yw5.out.b.2.2.2; simp; omega) ?_; intro A3 c3 w7 hown5 hg5 hat5; have Xw7 := hide ((Yw5.out.below ((Below.refl _ _).alloc (Nat.le_refl _) (.cells #[.int .i64 ((d : Int))] 3)).drew).app2 hown5 hg5 hat5); clear hown5 hg5 hat5 k0 k1 k2 f0 f1 f2; obtain ⟨k0, k1, k2, f0, f1, f2⟩ := blk3 Xw7.out.1
            refine hK.out _ _ ?_ (fun hHeld2 => ?_)
            · ((try dsimp only) <;> (exact sp_back SPw.out hr3 Xw7.out.2))
            clear hHeld
            have hHeld := hHeld2
            clear hHeld2 hK K
            try simp only [Act.put, List.setIfInBounds_toArray, List.set_cons_zero, List.set_cons_succ]
            refine wpAnyH_take (i := 11) (v := ?_) (by simp only [List.getElem?_toArray, List.getElem?_cons_succ, List.getElem?_cons_zero]; rfl) (by kernel_rfl) (by kernel_rfl) (by kernel_rfl) (fun _ _ _ h => h) (Or.inl ⟨by rfl, ?_⟩) (by assumption) ?_
            rotate_left 1
            · (intro w hSw; (try dsimp only at hSw); go_simp; try with_reducible rfl)
            try simp only [Act.put, List.setIfInBounds_toArray, List.set_cons_zero, List.set_cons_succ]
            refine wpAnyH_ready (rs := [12]) (by kernel_rfl) (by simp) ?_
            refine AllReadyH.cons (by simp only [List.getElem?_toArray, List.getElem?_cons_succ, List.getElem?_cons_zero]; rfl) (fun K hK => ?_) ?_
            rotate_left 1
            · exact AllReadyH.nil
            go_simp
            refine hK.out _ _ ?_ (fun hHeld2 => ?_)
            · ((try dsimp only) <;> (exact sp_back2 SPw.out hr3 Xw7.out.2))
            clear hHeld
            have hHeld := hHeld2
            clear hHeld2 hK K
            try simp only [Act.put, List.setIfInBounds_toArray, List.set_cons_zero, List.set_cons_succ]
            refine wpAnyH_done (by kernel_rfl) ?_ _
            refine NoPanic.normal ?_
            have Yw7 := hide Xw7.out.2
            clear Xw7 k0 k1 k2 f0 f1 f2 hHeld
            go_wp2_with fail
            go_roundw
            case rel => exact ⟨m + 1, u, _, _, _, _, by have := hu.out; omega, by have := hu.out; omega, rfl, by rw [hst.out]; have := Yw7.out; rwa [natsI_app] at this⟩
            case measure => have := hu.out; simp [intOf]; omega
      ·
        go_simp
        refine (C13.out _).mono ?_; rintro e w3 ⟨rfl, rfl⟩; go_wp2_with fail
        refine hK.out _ _ ?_ (fun hHeld2 => ?_)
        · ((try dsimp only) <;> (first | trivial | assumption | go_keep))
        clear hHeld
        have hHeld := hHeld2
        clear hHeld2 hK K
        try simp only [Act.put, List.setIfInBounds_toArray, List.set_cons_zero, List.set_cons_succ]
        refine wpAnyH_ready (rs := [1, 9]) (by kernel_rfl) (by simp) ?_
        refine AllReadyH.cons (by simp only [List.getElem?_toArray, List.getElem?_cons_succ, List.getElem?_cons_zero]; rfl) (fun K hK => ?_) ?_
        rotate_left 1
        refine AllReadyH.cons (by simp only [List.getElem?_toArray, List.getElem?_cons_succ, List.getElem?_cons_zero]; rfl) (fun K hK => ?_) ?_
        rotate_left 1
        exact AllReadyH.nil
        ·
          go_simp
          refine hK.out _ _ ?_ (fun hHeld2 => ?_)
          · ((try dsimp only) <;> (first | trivial | assumption | go_keep))
          clear hHeld
          have hHeld := hHeld2
          clear hHeld2 hK K
          try simp only [Act.put, List.setIfInBounds_toArray, List.set_cons_zero, List.set_cons_succ]
          refine wpAnyH_ready (rs := [9]) (by kernel_rfl) (by simp) ?_
          refine AllReadyH.cons (by simp only [List.getElem?_toArray, List.getElem?_cons_succ, List.getElem?_cons_zero]; rfl) (fun K hK => ?_) ?_
          rotate_left 1
          · exact AllReadyH.nil
          go_simp
          refine hK.out _ _ ?_ (fun hHeld2 => ?_)
          · ((try dsimp only) <;> (exact (((SPw.out.below H1.out.bel SPw.out.lt).alloc _).drew).at hr3))
          clear hHeld
          have hHeld := hHeld2
          clear hHeld2 hK K
          try simp only [Act.put, List.setIfInBounds_toArray, List.set_cons_zero, List.set_cons_succ]
          refine wpAnyH_ready (rs := [10]) (by kernel_rfl) (by simp) ?_
          refine AllReadyH.cons (by simp only [List.getElem?_toArray, List.getElem?_cons_succ, List.getElem?_cons_zero]; rfl) (fun K hK => ?_) ?_
          rotate_left 1
          · exact AllReadyH.nil
          refine step_app rfl (.tmp 49) (.tmp 57) _ (by rfl) etyJ (w1.heap.size + 1) (.slice A1 m c1) m (intC (wayP r g m).metas) (by rfl) (own_bel H1.out.m1 ((Below.refl _ _).alloc (Nat.le_refl _) (.cells #[.int .i64 (X)] 3)).drew) _ (some ⟨wr.heap.size, 0, none⟩) 1 1 [.int .i64 (X)] (by rfl) (one_int wr (X)).drew (fun u hu => by rw [List.mem_singleton] at hu; rw [hu]; rfl) (by omega) (by have := H1.out.b.2.2.2; simp; omega) ?_; intro A3 c3 w5 hown5 hg5 hat5; have Xw5 := hide ((H1.out.below ((Below.refl _ _).alloc (Nat.le_refl _) (.cells #[.int .i64 (X)] 3)).drew).app1 hown5 hg5 hat5); clear hown5 hg5 hat5 k0 k1 k2 f0 f1 f2; obtain ⟨k0, k1, k2, f0, f1, f2⟩ := blk3 Xw5.out.1
          refine hK.out _ _ ?_ (fun hHeld2 => ?_)
          · ((try dsimp only) <;> (exact sp_back SPw.out hr3 Xw5.out.2))
          clear hHeld
          have hHeld := hHeld2
          clear hHeld2 hK K
          try simp only [Act.put, List.setIfInBounds_toArray, List.set_cons_zero, List.set_cons_succ]
          refine wpAnyH_take (i := 11) (v := ?_) (by simp only [List.getElem?_toArray, List.getElem?_cons_succ, List.getElem?_cons_zero]; rfl) (by kernel_rfl) (by kernel_rfl) (by kernel_rfl) (fun _ _ _ h => h) (Or.inl ⟨by rfl, ?_⟩) (by assumption) ?_
          rotate_left 1
          · (intro w hSw; (try dsimp only at hSw); go_simp; try with_reducible rfl)
          try simp only [Act.put, List.setIfInBounds_toArray, List.set_cons_zero, List.set_cons_succ]
          refine wpAnyH_ready (rs := [12]) (by kernel_rfl) (by simp) ?_
          refine AllReadyH.cons (by simp only [List.getElem?_toArray, List.getElem?_cons_succ, List.getElem?_cons_zero]; rfl) (fun K hK => ?_) ?_
          rotate_left 1
          · exact AllReadyH.nil
          go_simp
          refine hK.out _ _ ?_ (fun hHeld2 => ?_)
          · ((try dsimp only) <;> (exact sp_back2 SPw.out hr3 Xw5.out.2))
          clear hHeld
          have hHeld := hHeld2
          clear hHeld2 hK K
          try simp only [Act.put, List.setIfInBounds_toArray, List.set_cons_zero, List.set_cons_succ]
          refine wpAnyH_done (by kernel_rfl) ?_ _
          refine NoPanic.normal ?_
          have Yw5 := hide Xw5.out.2
          clear Xw5 k0 k1 k2 f0 f1 f2 hHeld
          clear sc
          generalize w5.setCell ⟨w1.heap.size, 1, none⟩ (.slice A3 (m + 1) c3) = w6 at *
          have sc := (SPw.out.below Yw5.out.bel SPw.out.lt).drew.at hr3
          obtain ⟨k0, k1, k2, f0, f1, f2⟩ := blk3 Yw5.out.kP.drew
          go_upto_region 14 with fail
          refine wp_region_noPanic ?_
          refine wp_region_held_drew (S := (fun w' => w'.cell? ⟨0, r, none⟩ = some (.int .i64 (spanN r : Int)))) (by kernel_rfl) ?_ (fun hHeld => ?_)
          · ((try dsimp only) <;> (first | trivial | assumption | go_keep))
          refine wpAnyH_take (i := 0) (v := ?_) (by simp only [List.getElem?_toArray, List.getElem?_cons_succ, List.getElem?_cons_zero]; rfl) (by kernel_rfl) (by kernel_rfl) (by kernel_rfl) (fun _ _ _ h => h) (Or.inl ⟨by rfl, ?_⟩) (by assumption) ?_
          rotate_left 1
          · (intro w hSw; (try dsimp only at hSw); go_simp; try with_reducible rfl)
          try simp only [Act.put, List.setIfInBounds_toArray, List.set_cons_zero, List.set_cons_succ]
          refine wpAnyH_take (i := 2) (v := ?_) (by simp only [List.getElem?_toArray, List.getElem?_cons_succ, List.getElem?_cons_zero]; rfl) (by kernel_rfl) (by kernel_rfl) (by kernel_rfl) (fun _ _ _ h => h) (Or.inl ⟨by rfl, ?_⟩) (by assumption) ?_
          rotate_left 1
          · (intro w hSw; (try dsimp only at hSw); go_simp; try with_reducible rfl)
          try simp only [Act.put, List.setIfInBounds_toArray, List.set_cons_zero, List.set_cons_succ]
          refine wpAnyH_take (i := 3) (v := ?_) (by simp only [List.getElem?_toArray, List.getElem?_cons_succ, List.getElem?_cons_zero]; rfl) (by kernel_rfl) (by kernel_rfl) (by kernel_rfl) (fun _ _ _ h => h) (Or.inl ⟨by rfl, ?_⟩) (by assumption) ?_
          rotate_left 1
          · (intro w hSw; (try dsimp only at hSw); go_simp; try with_reducible rfl)
          try simp only [Act.put, List.setIfInBounds_toArray, List.set_cons_zero, List.set_cons_succ]
          refine wpAnyH_take (i := 4) (v := ?_) (by simp only [List.getElem?_toArray, List.getElem?_cons_succ, List.getElem?_cons_zero]; rfl) (by kernel_rfl) (by kernel_rfl) (by kernel_rfl) (fun _ _ _ h => h) (Or.inl ⟨by rfl, ?_⟩) (by assumption) ?_
          rotate_left 1
          · (intro w hSw; (try dsimp only at hSw); go_simp; try with_reducible rfl)
          try simp only [Act.put, List.setIfInBounds_toArray, List.set_cons_zero, List.set_cons_succ]
          refine wpAnyH_take (i := 5) (v := ?_) (by simp only [List.getElem?_toArray, List.getElem?_cons_succ, List.getElem?_cons_zero]; rfl) (by kernel_rfl) (by kernel_rfl) (by kernel_rfl) (fun _ _ _ h => h) (Or.inl ⟨by rfl, ?_⟩) (by assumption) ?_
          rotate_left 1
          · (intro w hSw; (try dsimp only at hSw); go_simp; try with_reducible rfl)
          try simp only [Act.put, List.setIfInBounds_toArray, List.set_cons_zero, List.set_cons_succ]
          refine wpAnyH_take (i := 6) (v := ?_) (by simp only [List.getElem?_toArray, List.getElem?_cons_succ, List.getElem?_cons_zero]; rfl) (by kernel_rfl) (by kernel_rfl) (by kernel_rfl) (fun _ _ _ h => h) (Or.inl ⟨by rfl, ?_⟩) (by assumption) ?_
          rotate_left 1
          · (intro w hSw; (try dsimp only at hSw); go_simp; try with_reducible rfl)
          try simp only [Act.put, List.setIfInBounds_toArray, List.set_cons_zero, List.set_cons_succ]
          refine wpAnyH_ready (rs := [1, 7]) (by kernel_rfl) (by simp) ?_
          refine AllReadyH.cons (by simp only [List.getElem?_toArray, List.getElem?_cons_succ, List.getElem?_cons_zero]; rfl) (fun K hK => ?_) ?_
          rotate_left 1
          refine AllReadyH.cons (by simp only [List.getElem?_toArray, List.getElem?_cons_succ, List.getElem?_cons_zero]; rfl) (fun K hK => ?_) ?_
          rotate_left 1
          exact AllReadyH.nil
          ·
            go_simp
            refine hK.out _ _ ?_ (fun hHeld2 => ?_)
            · ((try dsimp only) <;> (first | trivial | assumption | go_keep))
            clear hHeld
            have hHeld := hHeld2
            clear hHeld2 hK K
            try simp only [Act.put, List.setIfInBounds_toArray, List.set_cons_zero, List.set_cons_succ]
            refine wpAnyH_ready (rs := [7]) (by kernel_rfl) (by simp) ?_
            refine AllReadyH.cons (by simp only [List.getElem?_toArray, List.getElem?_cons_succ, List.getElem?_cons_zero]; rfl) (fun K hK => ?_) ?_
            rotate_left 1
            · exact AllReadyH.nil
            go_simp
            refine (wide_any u hu3 _).mono ?_; rintro e w3 ⟨rfl, rfl⟩; go_wp2_with fail
            refine hK.out _ _ ?_ (fun hHeld2 => ?_)
            · ((try dsimp only) <;> (first | trivial | assumption | go_keep))
            clear hHeld
            have hHeld := hHeld2
            clear hHeld2 hK K
            try simp only [Act.put, List.setIfInBounds_toArray, List.set_cons_zero, List.set_cons_succ]
            refine wpAnyH_take (i := 8) (v := ?_) (by simp only [List.getElem?_toArray, List.getElem?_cons_succ, List.getElem?_cons_zero]; rfl) (by kernel_rfl) (by kernel_rfl) (by kernel_rfl) (fun _ _ _ h => h) (Or.inl ⟨by rfl, ?_⟩) (by assumption) ?_
            rotate_left 1
            · (intro w hSw; (try dsimp only at hSw); go_simp; try with_reducible rfl)
            try simp only [Act.put, List.setIfInBounds_toArray, List.set_cons_zero, List.set_cons_succ]
            refine wpAnyH_ready (rs := [9]) (by kernel_rfl) (by simp) ?_
            refine AllReadyH.cons (by simp only [List.getElem?_toArray, List.getElem?_cons_succ, List.getElem?_cons_zero]; rfl) (fun K hK => ?_) ?_
            rotate_left 1
            · exact AllReadyH.nil
            go_simp
            refine hK.out _ _ ?_ (fun hHeld2 => ?_)
            · ((try dsimp only) <;> (exact (((SPw.out.below Yw5.out.bel SPw.out.lt).alloc _).drew).at hr3))
            clear hHeld
            have hHeld := hHeld2
            clear hHeld2 hK K
            try simp only [Act.put, List.setIfInBounds_toArray, List.set_cons_zero, List.set_cons_succ]
            refine wpAnyH_ready (rs := [10]) (by kernel_rfl) (by simp) ?_
            refine AllReadyH.cons (by simp only [List.getElem?_toArray, List.getElem?_cons_succ, List.getElem?_cons_zero]; rfl) (fun K hK => ?_) ?_
            rotate_left 1
            · exact AllReadyH.nil
            refine step_app rfl (.tmp 61) (.tmp 69) _ (by rfl) etyJ (w1.heap.size + 1) (.slice A2 m c2) m (intC (natsI (wayP r g m).slots)) (by rfl) (own_bel Yw5.out.m2 ((Below.refl _ _).alloc (Nat.le_refl _) (.cells #[.int .i64 ((d : Int))] 3)).drew) _ (some ⟨w6.heap.size, 0, none⟩) 1 1 [.int .i64 ((d : Int))] (by rfl) (one_int w6 ((d : Int))).drew (fun u hu => by rw [List.mem_singleton] at hu; rw [hu]; rfl) (by omega) (by have := Yw5.out.b.2.2.2; simp; omega) ?_; intro A3 c3 w7 hown5 hg5 hat5; have Xw7 := hide ((Yw5.out.below ((Below.refl _ _).alloc (Nat.le_refl _) (.cells #[.int .i64 ((d : Int))] 3)).drew).app2 hown5 hg5 hat5); clear hown5 hg5 hat5 k0 k1 k2 f0 f1 f2; obtain ⟨k0, k1, k2, f0, f1, f2⟩ := blk3 Xw7.out.1
            refine hK.out _ _ ?_ (fun hHeld2 => ?_)
            · ((try dsimp only) <;> (exact sp_back SPw.out hr3 Xw7.out.2))
            clear hHeld
            have hHeld := hHeld2
            clear hHeld2 hK K
            try simp only [Act.put, List.setIfInBounds_toArray, List.set_cons_zero, List.set_cons_succ]
            refine wpAnyH_take (i := 11) (v := ?_) (by simp only [List.getElem?_toArray, List.getElem?_cons_succ, List.getElem?_cons_zero]; rfl) (by kernel_rfl) (by kernel_rfl) (by kernel_rfl) (fun _ _ _ h => h) (Or.inl ⟨by rfl, ?_⟩) (by assumption) ?_
            rotate_left 1
            · (intro w hSw; (try dsimp only at hSw); go_simp; try with_reducible rfl)
            try simp only [Act.put, List.setIfInBounds_toArray, List.set_cons_zero, List.set_cons_succ]
            refine wpAnyH_ready (rs := [12]) (by kernel_rfl) (by simp) ?_
            refine AllReadyH.cons (by simp only [List.getElem?_toArray, List.getElem?_cons_succ, List.getElem?_cons_zero]; rfl) (fun K hK => ?_) ?_
            rotate_left 1
            · exact AllReadyH.nil
            go_simp
            refine hK.out _ _ ?_ (fun hHeld2 => ?_)
            · ((try dsimp only) <;> (exact sp_back2 SPw.out hr3 Xw7.out.2))
            clear hHeld
            have hHeld := hHeld2
            clear hHeld2 hK K
            try simp only [Act.put, List.setIfInBounds_toArray, List.set_cons_zero, List.set_cons_succ]
            refine wpAnyH_done (by kernel_rfl) ?_ _
            refine NoPanic.normal ?_
            have Yw7 := hide Xw7.out.2
            clear Xw7 k0 k1 k2 f0 f1 f2 hHeld
            go_wp2_with fail
            go_roundw
            case rel => exact ⟨m + 1, u, _, _, _, _, by have := hu.out; omega, by have := hu.out; omega, rfl, by rw [hst.out]; have := Yw7.out; rwa [natsI_app] at this⟩
            case measure => have := hu.out; simp [intOf]; omega
          ·
            go_simp
            refine (wide_any u hu3 _).mono ?_; rintro e w3 ⟨rfl, rfl⟩; go_wp2_with fail
            refine hK.out _ _ ?_ (fun hHeld2 => ?_)
            · ((try dsimp only) <;> (first | trivial | assumption | go_keep))
            clear hHeld
            have hHeld := hHeld2
            clear hHeld2 hK K
            try simp only [Act.put, List.setIfInBounds_toArray, List.set_cons_zero, List.set_cons_succ]
            refine wpAnyH_take (i := 8) (v := ?_) (by simp only [List.getElem?_toArray, List.getElem?_cons_succ, List.getElem?_cons_zero]; rfl) (by kernel_rfl) (by kernel_rfl) (by kernel_rfl) (fun _ _ _ h => h) (Or.inl ⟨by rfl, ?_⟩) (by assumption) ?_
            rotate_left 1
            · (intro w hSw; (try dsimp only at hSw); go_simp; try with_reducible rfl)
            try simp only [Act.put, List.setIfInBounds_toArray, List.set_cons_zero, List.set_cons_succ]
            refine wpAnyH_ready (rs := [1, 9]) (by kernel_rfl) (by simp) ?_
            refine AllReadyH.cons (by simp only [List.getElem?_toArray, List.getElem?_cons_succ, List.getElem?_cons_zero]; rfl) (fun K hK => ?_) ?_
            rotate_left 1
            refine AllReadyH.cons (by simp only [List.getElem?_toArray, List.getElem?_cons_succ, List.getElem?_cons_zero]; rfl) (fun K hK => ?_) ?_
            rotate_left 1
            exact AllReadyH.nil
            ·
              go_simp
              refine hK.out _ _ ?_ (fun hHeld2 => ?_)
              · ((try dsimp only) <;> (first | trivial | assumption | go_keep))
              clear hHeld
              have hHeld := hHeld2
              clear hHeld2 hK K
              try simp only [Act.put, List.setIfInBounds_toArray, List.set_cons_zero, List.set_cons_succ]
              refine wpAnyH_ready (rs := [9]) (by kernel_rfl) (by simp) ?_
              refine AllReadyH.cons (by simp only [List.getElem?_toArray, List.getElem?_cons_succ, List.getElem?_cons_zero]; rfl) (fun K hK => ?_) ?_
              rotate_left 1
              · exact AllReadyH.nil
              go_simp
              refine hK.out _ _ ?_ (fun hHeld2 => ?_)
              · ((try dsimp only) <;> (exact (((SPw.out.below Yw5.out.bel SPw.out.lt).alloc _).drew).at hr3))
              clear hHeld
              have hHeld := hHeld2
              clear hHeld2 hK K
              try simp only [Act.put, List.setIfInBounds_toArray, List.set_cons_zero, List.set_cons_succ]
              refine wpAnyH_ready (rs := [10]) (by kernel_rfl) (by simp) ?_
              refine AllReadyH.cons (by simp only [List.getElem?_toArray, List.getElem?_cons_succ, List.getElem?_cons_zero]; rfl) (fun K hK => ?_) ?_
              rotate_left 1
              · exact AllReadyH.nil
              refine step_app rfl (.tmp 61) (.tmp 69) _ (by rfl) etyJ (w1.heap.size + 1) (.slice A2 m c2) m (intC (natsI (wayP r g m).slots)) (by rfl) (own_bel Yw5.out.m2 ((Below.refl _ _).alloc (Nat.le_refl _) (.cells #[.int .i64 ((d : Int))] 3)).drew) _ (some ⟨w6.heap.size, 0, none⟩) 1 1 [.int .i64 ((d : Int))] (by rfl) (one_int w6 ((d : Int))).drew (fun u hu => by rw [List.mem_singleton] at hu; rw [hu]; rfl) (by omega) (by have := Yw5.out.b.2.2.2; simp; omega) ?_; intro A3 c3 w7 hown5 hg5 hat5; have Xw7 := hide ((Yw5.out.below ((Below.refl _ _).alloc (Nat.le_refl _) (.cells #[.int .i64 ((d : Int))] 3)).drew).app2 hown5 hg5 hat5); clear hown5 hg5 hat5 k0 k1 k2 f0 f1 f2; obtain ⟨k0, k1, k2, f0, f1, f2⟩ := blk3 Xw7.out.1
              refine hK.out _ _ ?_ (fun hHeld2 => ?_)
              · ((try dsimp only) <;> (exact sp_back SPw.out hr3 Xw7.out.2))
              clear hHeld
              have hHeld := hHeld2
              clear hHeld2 hK K
              try simp only [Act.put, List.setIfInBounds_toArray, List.set_cons_zero, List.set_cons_succ]
              refine wpAnyH_take (i := 11) (v := ?_) (by simp only [List.getElem?_toArray, List.getElem?_cons_succ, List.getElem?_cons_zero]; rfl) (by kernel_rfl) (by kernel_rfl) (by kernel_rfl) (fun _ _ _ h => h) (Or.inl ⟨by rfl, ?_⟩) (by assumption) ?_
              rotate_left 1
              · (intro w hSw; (try dsimp only at hSw); go_simp; try with_reducible rfl)
              try simp only [Act.put, List.setIfInBounds_toArray, List.set_cons_zero, List.set_cons_succ]
              refine wpAnyH_ready (rs := [12]) (by kernel_rfl) (by simp) ?_
              refine AllReadyH.cons (by simp only [List.getElem?_toArray, List.getElem?_cons_succ, List.getElem?_cons_zero]; rfl) (fun K hK => ?_) ?_
              rotate_left 1
              · exact AllReadyH.nil
              go_simp
              refine hK.out _ _ ?_ (fun hHeld2 => ?_)
              · ((try dsimp only) <;> (exact sp_back2 SPw.out hr3 Xw7.out.2))
              clear hHeld
              have hHeld := hHeld2
              clear hHeld2 hK K
              try simp only [Act.put, List.setIfInBounds_toArray, List.set_cons_zero, List.set_cons_succ]
              refine wpAnyH_done (by kernel_rfl) ?_ _
              refine NoPanic.normal ?_
              have Yw7 := hide Xw7.out.2
              clear Xw7 k0 k1 k2 f0 f1 f2 hHeld
              go_wp2_with fail
              go_roundw
              case rel => exact ⟨m + 1, u, _, _, _, _, by have := hu.out; omega, by have := hu.out; omega, rfl, by rw [hst.out]; have := Yw7.out; rwa [natsI_app] at this⟩
              case measure => have := hu.out; simp [intOf]; omega
            ·
              go_simp
              refine hK.out _ _ ?_ (fun hHeld2 => ?_)
              · ((try dsimp only) <;> (exact (((SPw.out.below Yw5.out.bel SPw.out.lt).alloc _).drew).at hr3))
              clear hHeld
              have hHeld := hHeld2
              clear hHeld2 hK K
              try simp only [Act.put, List.setIfInBounds_toArray, List.set_cons_zero, List.set_cons_succ]
              obtain ⟨j0, j1, j2, -⟩ := blk3 ((Yw5.out.kP.alloc (.cells #[.int .i64 ((d : Int))] 3)).drew)
              refine wpAnyH_ready (rs := [1]) (by kernel_rfl) (by simp) ?_
              refine AllReadyH.cons (by simp only [List.getElem?_toArray, List.getElem?_cons_succ, List.getElem?_cons_zero]; rfl) (fun K hK => ?_) ?_
              rotate_left 1
              · exact AllReadyH.nil
              go_simp
              refine hK.out _ _ ?_ (fun hHeld2 => ?_)
              · ((try dsimp only) <;> (first | trivial | assumption | go_keep))
              clear hHeld
              have hHeld := hHeld2
              clear hHeld2 hK K
              try simp only [Act.put, List.setIfInBounds_toArray, List.set_cons_zero, List.set_cons_succ]
              clear j0 j1 j2
              refine wpAnyH_ready (rs := [10]) (by kernel_rfl) (by simp) ?_
              refine AllReadyH.cons (by simp only [List.getElem?_toArray, List.getElem?_cons_succ, List.getElem?_cons_zero]; rfl) (fun K hK => ?_) ?_
              rotate_left 1
              · exact AllReadyH.nil
              refine step_app rfl (.tmp 61) (.tmp 69) _ (by rfl) etyJ (w1.heap.size + 1) (.slice A2 m c2) m (intC (natsI (wayP r g m).slots)) (by rfl) (own_bel Yw5.out.m2 ((Below.refl _ _).alloc (Nat.le_refl _) (.cells #[.int .i64 ((d : Int))] 3)).drew) _ (some ⟨w6.heap.size, 0, none⟩) 1 1 [.int .i64 ((d : Int))] (by rfl) (one_int w6 ((d : Int))).drew (fun u hu => by rw [List.mem_singleton] at hu; rw [hu]; rfl) (by omega) (by have := Yw5.out.b.2.2.2; simp; omega) ?_; intro A3 c3 w7 hown5 hg5 hat5; have Xw7 := hide ((Yw5.out.below ((Below.refl _ _).alloc (Nat.le_refl _) (.cells #[.int .i64 ((d : Int))] 3)).drew).app2 hown5 hg5 hat5); clear hown5 hg5 hat5 k0 k1 k2 f0 f1 f2; obtain ⟨k0, k1, k2, f0, f1, f2⟩ := blk3 Xw7.out.1
              refine hK.out _ _ ?_ (fun hHeld2 => ?_)
              · ((try dsimp only) <;> (exact sp_back SPw.out hr3 Xw7.out.2))
              clear hHeld
              have hHeld := hHeld2
              clear hHeld2 hK K
              try simp only [Act.put, List.setIfInBounds_toArray, List.set_cons_zero, List.set_cons_succ]
              refine wpAnyH_take (i := 11) (v := ?_) (by simp only [List.getElem?_toArray, List.getElem?_cons_succ, List.getElem?_cons_zero]; rfl) (by kernel_rfl) (by kernel_rfl) (by kernel_rfl) (fun _ _ _ h => h) (Or.inl ⟨by rfl, ?_⟩) (by assumption) ?_
              rotate_left 1
              · (intro w hSw; (try dsimp only at hSw); go_simp; try with_reducible rfl)
              try simp only [Act.put, List.setIfInBounds_toArray, List.set_cons_zero, List.set_cons_succ]
              refine wpAnyH_ready (rs := [12]) (by kernel_rfl) (by simp) ?_
              refine AllReadyH.cons (by simp only [List.getElem?_toArray, List.getElem?_cons_succ, List.getElem?_cons_zero]; rfl) (fun K hK => ?_) ?_
              rotate_left 1
              · exact AllReadyH.nil
              go_simp
              refine hK.out _ _ ?_ (fun hHeld2 => ?_)
              · ((try dsimp only) <;> (exact sp_back2 SPw.out hr3 Xw7.out.2))
              clear hHeld
              have hHeld := hHeld2
              clear hHeld2 hK K
              try simp only [Act.put, List.setIfInBounds_toArray, List.set_cons_zero, List.set_cons_succ]
              refine wpAnyH_done (by kernel_rfl) ?_ _
              refine NoPanic.normal ?_
              have Yw7 := hide Xw7.out.2
              clear Xw7 k0 k1 k2 f0 f1 f2 hHeld
              go_wp2_with fail
              go_roundw
              case rel => exact ⟨m + 1, u, _, _, _, _, by have := hu.out; omega, by have := hu.out; omega, rfl, by rw [hst.out]; have := Yw7.out; rwa [natsI_app] at this⟩
              case measure => have := hu.out; simp [intOf]; omega
        ·
          go_simp
          refine hK.out _ _ ?_ (fun hHeld2 => ?_)
          · ((try dsimp only) <;> (exact (((SPw.out.below H1.out.bel SPw.out.lt).alloc _).drew).at hr3))
          clear hHeld
          have hHeld := hHeld2
          clear hHeld2 hK K
          try simp only [Act.put, List.setIfInBounds_toArray, List.set_cons_zero, List.set_cons_succ]
          obtain ⟨j0, j1, j2, -⟩ := blk3 ((H1.out.kP.alloc (.cells #[.int .i64 (X)] 3)).drew)
          refine wpAnyH_ready (rs := [1]) (by kernel_rfl) (by simp) ?_
          refine AllReadyH.cons (by simp only [List.getElem?_toArray, List.getElem?_cons_succ, List.getElem?_cons_zero]; rfl) (fun K hK => ?_) ?_
          rotate_left 1
          · exact AllReadyH.nil
          go_simp
          refine hK.out _ _ ?_ (fun hHeld2 => ?_)
          · ((try dsimp only) <;> (first | trivial | assumption | go_keep))
          clear hHeld
          have hHeld := hHeld2
          clear hHeld2 hK K
          try simp only [Act.put, List.setIfInBounds_toArray, List.set_cons_zero, List.set_cons_succ]
          clear j0 j1 j2
          refine wpAnyH_ready (rs := [10]) (by kernel_rfl) (by simp) ?_
          refine AllReadyH.cons (by simp only [List.getElem?_toArray, List.getElem?_cons_succ, List.getElem?_cons_zero]; rfl) (fun K hK => ?_) ?_
          rotate_left 1
          · exact AllReadyH.nil
          refine step_app rfl (.tmp 49) (.tmp 57) _ (by rfl) etyJ (w1.heap.size + 1) (.slice A1 m c1) m (intC (wayP r g m).metas) (by rfl) (own_bel H1.out.m1 ((Below.refl _ _).alloc (Nat.le_refl _) (.cells #[.int .i64 (X)] 3)).drew) _ (some ⟨wr.heap.size, 0, none⟩) 1 1 [.int .i64 (X)] (by rfl) (one_int wr (X)).drew (fun u hu => by rw [List.mem_singleton] at hu; rw [hu]; rfl) (by omega) (by have := H1.out.b.2.2.2; simp; omega) ?_; intro A3 c3 w5 hown5 hg5 hat5; have Xw5 := hide ((H1.out.below ((Below.refl _ _).alloc (Nat.le_refl _) (.cells #[.int .i64 (X)] 3)).drew).app1 hown5 hg5 hat5); clear hown5 hg5 hat5 k0 k1 k2 f0 f1 f2; obtain ⟨k0, k1, k2, f0, f1, f2⟩ := blk3 Xw5.out.1
          refine hK.out _ _ ?_ (fun hHeld2 => ?_)
          · ((try dsimp only) <;> (exact sp_back SPw.out hr3 Xw5.out.2))
          clear hHeld
          have hHeld := hHeld2
          clear hHeld2 hK K
          try simp only [Act.put, List.setIfInBounds_toArray, List.set_cons_zero, List.set_cons_succ]
          refine wpAnyH_take (i := 11) (v := ?_) (by simp only [List.getElem?_toArray, List.getElem?_cons_succ, List.getElem?_cons_zero]; rfl) (by kernel_rfl) (by kernel_rfl) (by kernel_rfl) (fun _ _ _ h => h) (Or.inl ⟨by rfl, ?_⟩) (by assumption) ?_
          rotate_left 1
          · (intro w hSw; (try dsimp only at hSw); go_simp; try with_reducible rfl)
          try simp only [Act.put, List.setIfInBounds_toArray, List.set_cons_zero, List.set_cons_succ]
          refine wpAnyH_ready (rs := [12]) (by kernel_rfl) (by simp) ?_
          refine AllReadyH.cons (by simp only [List.getElem?_toArray, List.getElem?_cons_succ, List.getElem?_cons_zero]; rfl) (fun K hK => ?_) ?_
          rotate_left 1
          · exact AllReadyH.nil
          go_simp
          refine hK.out _ _ ?_ (fun hHeld2 => ?_)
          · ((try dsimp only) <;> (exact sp_back2 SPw.out hr3 Xw5.out.2))
          clear hHeld
          have hHeld := hHeld2
          clear hHeld2 hK K
          try simp only [Act.put, List.setIfInBounds_toArray, List.set_cons_zero, List.set_cons_succ]
          refine wpAnyH_done (by kernel_rfl) ?_ _
          refine NoPanic.normal ?_
          have Yw5 := hide Xw5.out.2
          clear Xw5 k0 k1 k2 f0 f1 f2 hHeld
          clear sc
          generalize w5.setCell ⟨w1.heap.size, 1, none⟩ (.slice A3 (m + 1) c3) = w6 at *
          have sc := (SPw.out.below Yw5.out.bel SPw.out.lt).drew.at hr3
          obtain ⟨k0, k1, k2, f0, f1, f2⟩ := blk3 Yw5.out.kP.drew
          go_upto_region 14 with fail
          refine wp_region_noPanic ?_
          refine wp_region_held_drew (S := (fun w' => w'.cell? ⟨0, r, none⟩ = some (.int .i64 (spanN r : Int)))) (by kernel_rfl) ?_ (fun hHeld => ?_)
          · ((try dsimp only) <;> (first | trivial | assumption | go_keep))
          refine wpAnyH_take (i := 0) (v := ?_) (by simp only [List.getElem?_toArray, List.getElem?_cons_succ, List.getElem?_cons_zero]; rfl) (by kernel_rfl) (by kernel_rfl) (by kernel_rfl) (fun _ _ _ h => h) (Or.inl ⟨by rfl, ?_⟩) (by assumption) ?_
          rotate_left 1
          · (intro w hSw; (try dsimp only at hSw); go_simp; try with_reducible rfl)
          try simp only [Act.put, List.setIfInBounds_toArray, List.set_cons_zero, List.set_cons_succ]
          refine wpAnyH_take (i := 2) (v := ?_) (by simp only [List.getElem?_toArray, List.getElem?_cons_succ, List.getElem?_cons_zero]; rfl) (by kernel_rfl) (by kernel_rfl) (by kernel_rfl) (fun _ _ _ h => h) (Or.inl ⟨by rfl, ?_⟩) (by assumption) ?_
          rotate_left 1
          · (intro w hSw; (try dsimp only at hSw); go_simp; try with_reducible rfl)
          try simp only [Act.put, List.setIfInBounds_toArray, List.set_cons_zero, List.set_cons_succ]
          refine wpAnyH_take (i := 3) (v := ?_) (by simp only [List.getElem?_toArray, List.getElem?_cons_succ, List.getElem?_cons_zero]; rfl) (by kernel_rfl) (by kernel_rfl) (by kernel_rfl) (fun _ _ _ h => h) (Or.inl ⟨by rfl, ?_⟩) (by assumption) ?_
          rotate_left 1
          · (intro w hSw; (try dsimp only at hSw); go_simp; try with_reducible rfl)
          try simp only [Act.put, List.setIfInBounds_toArray, List.set_cons_zero, List.set_cons_succ]
          refine wpAnyH_take (i := 4) (v := ?_) (by simp only [List.getElem?_toArray, List.getElem?_cons_succ, List.getElem?_cons_zero]; rfl) (by kernel_rfl) (by kernel_rfl) (by kernel_rfl) (fun _ _ _ h => h) (Or.inl ⟨by rfl, ?_⟩) (by assumption) ?_
          rotate_left 1
          · (intro w hSw; (try dsimp only at hSw); go_simp; try with_reducible rfl)
          try simp only [Act.put, List.setIfInBounds_toArray, List.set_cons_zero, List.set_cons_succ]
          refine wpAnyH_take (i := 5) (v := ?_) (by simp only [List.getElem?_toArray, List.getElem?_cons_succ, List.getElem?_cons_zero]; rfl) (by kernel_rfl) (by kernel_rfl) (by kernel_rfl) (fun _ _ _ h => h) (Or.inl ⟨by rfl, ?_⟩) (by assumption) ?_
          rotate_left 1
          · (intro w hSw; (try dsimp only at hSw); go_simp; try with_reducible rfl)
          try simp only [Act.put, List.setIfInBounds_toArray, List.set_cons_zero, List.set_cons_succ]
          refine wpAnyH_take (i := 6) (v := ?_) (by simp only [List.getElem?_toArray, List.getElem?_cons_succ, List.getElem?_cons_zero]; rfl) (by kernel_rfl) (by kernel_rfl) (by kernel_rfl) (fun _ _ _ h => h) (Or.inl ⟨by rfl, ?_⟩) (by assumption) ?_
          rotate_left 1
          · (intro w hSw; (try dsimp only at hSw); go_simp; try with_reducible rfl)
          try simp only [Act.put, List.setIfInBounds_toArray, List.set_cons_zero, List.set_cons_succ]
          refine wpAnyH_ready (rs := [1, 7]) (by kernel_rfl) (by simp) ?_
          refine AllReadyH.cons (by simp only [List.getElem?_toArray, List.getElem?_cons_succ, List.getElem?_cons_zero]; rfl) (fun K hK => ?_) ?_
          rotate_left 1
          refine AllReadyH.cons (by simp only [List.getElem?_toArray, List.getElem?_cons_succ, List.getElem?_cons_zero]; rfl) (fun K hK => ?_) ?_
          rotate_left 1
          exact AllReadyH.nil
          ·
            go_simp
            refine hK.out _ _ ?_ (fun hHeld2 => ?_)
            · ((try dsimp only) <;> (first | trivial | assumption | go_keep))
            clear hHeld
            have hHeld := hHeld2
            clear hHeld2 hK K
            try simp only [Act.put, List.setIfInBounds_toArray, List.set_cons_zero, List.set_cons_succ]
            refine wpAnyH_ready (rs := [7]) (by kernel_rfl) (by simp) ?_
            refine AllReadyH.cons (by simp only [List.getElem?_toArray, List.getElem?_cons_succ, List.getElem?_cons_zero]; rfl) (fun K hK => ?_) ?_
            rotate_left 1
            · exact AllReadyH.nil
            go_simp
            refine (wide_any u hu3 _).mono ?_; rintro e w3 ⟨rfl, rfl⟩; go_wp2_with fail
            refine hK.out _ _ ?_ (fun hHeld2 => ?_)
            · ((try dsimp only) <;> (first | trivial | assumption | go_keep))
            clear hHeld
            have hHeld := hHeld2
            clear hHeld2 hK K
            try simp only [Act.put, List.setIfInBounds_toArray, List.set_cons_zero, List.set_cons_succ]
            refine wpAnyH_take (i := 8) (v := ?_) (by simp only [List.getElem?_toArray, List.getElem?_cons_succ, List.getElem?_cons_zero]; rfl) (by kernel_rfl) (by kernel_rfl) (by kernel_rfl) (fun _ _ _ h => h) (Or.inl ⟨by rfl, ?_⟩) (by assumption) ?_
            rotate_left 1
            · (intro w hSw; (try dsimp only at hSw); go_simp; try with_reducible rfl)
            try simp only [Act.put, List.setIfInBounds_toArray, List.set_cons_zero, List.set_cons_succ]
            refine wpAnyH_ready (rs := [9]) (by kernel_rfl) (by simp) ?_
            refine AllReadyH.cons (by simp only [List.getElem?_toArray, List.getElem?_cons_succ, List.getElem?_cons_zero]; rfl) (fun K hK => ?_) ?_
            rotate_left 1
            · exact AllReadyH.nil
            go_simp
            refine hK.out _ _ ?_ (fun hHeld2 => ?_)
            · ((try dsimp only) <;> (exact (((SPw.out.below Yw5.out.bel SPw.out.lt).alloc _).drew).at hr3))
            clear hHeld
            have hHeld := hHeld2
            clear hHeld2 hK K
            try simp only [Act.put, List.setIfInBounds_toArray, List.set_cons_zero, List.set_cons_succ]
            refine wpAnyH_ready (rs := [10]) (by kernel_rfl) (by simp) ?_
            refine AllReadyH.cons (by simp only [List.getElem?_toArray, List.getElem?_cons_succ, List.getElem?_cons_zero]; rfl) (fun K hK => ?_) ?_
            rotate_left 1
            · exact AllReadyH.nil
            refine step_app rfl (.tmp 61) (.tmp 69) _ (by rfl) etyJ (w1.heap.size + 1) (.slice A2 m c2) m (intC (natsI (wayP r g m).slots)) (by rfl) (own_bel Yw5.out.m2 ((Below.refl _ _).alloc (Nat.le_refl _) (.cells #[.int .i64 ((d : Int))] 3)).drew) _ (some ⟨w6.heap.size, 0, none⟩) 1 1 [.int .i64 ((d : Int))] (by rfl) (one_int w6 ((d : Int))).drew (fun u hu => by rw [List.mem_singleton] at hu; rw [hu]; rfl) (by omega) (by have := Yw5.out.b.2.2.2; simp; omega) ?_; intro A3 c3 w7 hown5 hg5 hat5; have Xw7 := hide ((Yw5.out.below ((Below.refl _ _).alloc (Nat.le_refl _) (.cells #[.int .i64 ((d : Int))] 3)).drew).app2 hown5 hg5 hat5); clear hown5 hg5 hat5 k0 k1 k2 f0 f1 f2; obtain ⟨k0, k1, k2, f0, f1, f2⟩ := blk3 Xw7.out.1
            refine hK.out _ _ ?_ (fun hHeld2 => ?_)
            · ((try dsimp only) <;> (exact sp_back SPw.out hr3 Xw7.out.2))
            clear hHeld
            have hHeld := hHeld2
            clear hHeld2 hK K
            try simp only [Act.put, List.setIfInBounds_toArray, List.set_cons_zero, List.set_cons_succ]
            refine wpAnyH_take (i := 11) (v := ?_) (by simp only [List.getElem?_toArray, List.getElem?_cons_succ, List.getElem?_cons_zero]; rfl) (by kernel_rfl) (by kernel_rfl) (by kernel_rfl) (fun _ _ _ h => h) (Or.inl ⟨by rfl, ?_⟩) (by assumption) ?_
            rotate_left 1
            · (intro w hSw; (try dsimp only at hSw); go_simp; try with_reducible rfl)
            try simp only [Act.put, List.setIfInBounds_toArray, List.set_cons_zero, List.set_cons_succ]
            refine wpAnyH_ready (rs := [12]) (by kernel_rfl) (by simp) ?_
            refine AllReadyH.cons (by simp only [List.getElem?_toArray, List.getElem?_cons_succ, List.getElem?_cons_zero]; rfl) (fun K hK => ?_) ?_
            rotate_left 1
            · exact AllReadyH.nil
            go_simp
            refine hK.out _ _ ?_ (fun hHeld2 => ?_)
            · ((try dsimp only) <;> (exact sp_back2 SPw.out hr3 Xw7.out.2))
            clear hHeld
            have hHeld := hHeld2
            clear hHeld2 hK K
            try simp only [Act.put, List.setIfInBounds_toArray, List.set_cons_zero, List.set_cons_succ]
            refine wpAnyH_done (by kernel_rfl) ?_ _
            refine NoPanic.normal ?_
            have Yw7 := hide Xw7.out.2
            clear Xw7 k0 k1 k2 f0 f1 f2 hHeld
            go_wp2_with fail
            go_roundw
            case rel => exact ⟨m + 1, u, _, _, _, _, by have := hu.out; omega, by have := hu.out; omega, rfl, by rw [hst.out]; have := Yw7.out; rwa [natsI_app] at this⟩
            case measure => have := hu.out; simp [intOf]; omega
          ·
            go_simp
            refine (wide_any u hu3 _).mono ?_; rintro e w3 ⟨rfl, rfl⟩; go_wp2_with fail
            refine hK.out _ _ ?_ (fun hHeld2 => ?_)
            · ((try dsimp only) <;> (first | trivial | assumption | go_keep))
            clear hHeld
            have hHeld := hHeld2
            clear hHeld2 hK K
            try simp only [Act.put, List.setIfInBounds_toArray, List.set_cons_zero, List.set_cons_succ]
            refine wpAnyH_take (i := 8) (v := ?_) (by simp only [List.getElem?_toArray, List.getElem?_cons_succ, List.getElem?_cons_zero]; rfl) (by kernel_rfl) (by kernel_rfl) (by kernel_rfl) (fun _ _ _ h => h) (Or.inl ⟨by rfl, ?_⟩) (by assumption) ?_
            rotate_left 1
            · (intro w hSw; (try dsimp only at hSw); go_simp; try with_reducible rfl)
            try simp only [Act.put, List.setIfInBounds_toArray, List.set_cons_zero, List.set_cons_succ]
            refine wpAnyH_ready (rs := [1, 9]) (by kernel_rfl) (by simp) ?_
            refine AllReadyH.cons (by simp only [List.getElem?_toArray, List.getElem?_cons_succ, List.getElem?_cons_zero]; rfl) (fun K hK => ?_) ?_
            rotate_left 1
            refine AllReadyH.cons (by simp only [List.getElem?_toArray, List.getElem?_cons_succ, List.getElem?_cons_zero]; rfl) (fun K hK => ?_) ?_
            rotate_left 1
            exact AllReadyH.nil
            ·
              go_simp
              refine hK.out _ _ ?_ (fun hHeld2 => ?_)
              · ((try dsimp only) <;> (first | trivial | assumption | go_keep))
              clear hHeld
              have hHeld := hHeld2
              clear hHeld2 hK K
              try simp only [Act.put, List.setIfInBounds_toArray, List.set_cons_zero, List.set_cons_succ]
              refine wpAnyH_ready (rs := [9]) (by kernel_rfl) (by simp) ?_
              refine AllReadyH.cons (by simp only [List.getElem?_toArray, List.getElem?_cons_succ, List.getElem?_cons_zero]; rfl) (fun K hK => ?_) ?_
              rotate_left 1
              · exact AllReadyH.nil
              go_simp
              refine hK.out _ _ ?_ (fun hHeld2 => ?_)
              · ((try dsimp only) <;> (exact (((SPw.out.below Yw5.out.bel SPw.out.lt).alloc _).drew).at hr3))
              clear hHeld
              have hHeld := hHeld2
              clear hHeld2 hK K
              try simp only [Act.put, List.setIfInBounds_toArray, List.set_cons_zero, List.set_cons_succ]
              refine wpAnyH_ready (rs := [10]) (by kernel_rfl) (by simp) ?_
              refine AllReadyH.cons (by simp only [List.getElem?_toArray, List.getElem?_cons_succ, List.getElem?_cons_zero]; rfl) (fun K hK => ?_) ?_
              rotate_left 1
              · exact AllReadyH.nil
              refine step_app rfl (.tmp 61) (.tmp 69) _ (by rfl) etyJ (w1.heap.size + 1) (.slice A2 m c2) m (intC (natsI (wayP r g m).slots)) (by rfl) (own_bel Yw5.out.m2 ((Below.refl _ _).alloc (Nat.le_refl _) (.cells #[.int .i64 ((d : Int))] 3)).drew) _ (some ⟨w6.heap.size, 0, none⟩) 1 1 [.int .i64 ((d : Int))] (by rfl) (one_int w6 ((d : Int))).drew (fun u hu => by rw [List.mem_singleton] at hu; rw [hu]; rfl) (by omega) (by have := Yw5.out.b.2.2.2; simp; omega) ?_; intro A3 c3 w7 hown5 hg5 hat5; have Xw7 := hide ((Yw5.out.below ((Below.refl _ _).alloc (Nat.le_refl _) (.cells #[.int .i64 ((d : Int))] 3)).drew).app2 hown5 hg5 hat5); clear hown5 hg5 hat5 k0 k1 k2 f0 f1 f2; obtain ⟨k0, k1, k2, f0, f1, f2⟩ := blk3 Xw7.out.1
              refine hK.out _ _ ?_ (fun hHeld2 => ?_)
              · ((try dsimp only) <;> (exact sp_back SPw.out hr3 Xw7.out.2))
              clear hHeld
              have hHeld := hHeld2
              clear hHeld2 hK K
              try simp only [Act.put, List.setIfInBounds_toArray, List.set_cons_zero, List.set_cons_succ]
              refine wpAnyH_take (i := 11) (v := ?_) (by simp only [List.getElem?_toArray, List.getElem?_cons_succ, List.getElem?_cons_zero]; rfl) (by kernel_rfl) (by kernel_rfl) (by kernel_rfl) (fun _ _ _ h => h) (Or.inl ⟨by rfl, ?_⟩) (by assumption) ?_
              rotate_left 1
              · (intro w hSw; (try dsimp only at hSw); go_simp; try with_reducible rfl)
              try simp only [Act.put, List.setIfInBounds_toArray, List.set_cons_zero, List.set_cons_succ]
              refine wpAnyH_ready (rs := [12]) (by kernel_rfl) (by simp) ?_
              refine AllReadyH.cons (by simp only [List.getElem?_toArray, List.getElem?_cons_succ, List.getElem?_cons_zero]; rfl) (fun K hK => ?_) ?_
              rotate_left 1
              · exact AllReadyH.nil
              go_simp
              refine hK.out _ _ ?_ (fun hHeld2 => ?_)
              · ((try dsimp only) <;> (exact sp_back2 SPw.out hr3 Xw7.out.2))
              clear hHeld
              have hHeld := hHeld2
              clear hHeld2 hK K
              try simp only [Act.put, List.setIfInBounds_toArray, List.set_cons_zero, List.set_cons_succ]
              refine wpAnyH_done (by kernel_rfl) ?_ _
              refine NoPanic.normal ?_
              have Yw7 := hide Xw7.out.2
              clear Xw7 k0 k1 k2 f0 f1 f2 hHeld
              go_wp2_with fail
              go_roundw
              case rel => exact ⟨m + 1, u, _, _, _, _, by have := hu.out; omega, by have := hu.out; omega, rfl, by rw [hst.out]; have := Yw7.out; rwa [natsI_app] at this⟩
              case measure => have := hu.out; simp [intOf]; omega
            ·
              go_simp
              refine hK.out _ _ ?_ (fun hHeld2 => ?_)
              · ((try dsimp only) <;> (exact (((SPw.out.below Yw5.out.bel SPw.out.lt).alloc _).drew).at hr3))
              clear hHeld
              have hHeld := hHeld2
              clear hHeld2 hK K
              try simp only [Act.put, List.setIfInBounds_toArray, List.set_cons_zero, List.set_cons_succ]
              obtain ⟨j0, j1, j2, -⟩ := blk3 ((Yw5.out.kP.alloc (.cells #[.int .i64 ((d : Int))] 3)).drew)
              refine wpAnyH_ready (rs := [1]) (by kernel_rfl) (by simp) ?_
              refine AllReadyH.cons (by simp only [List.getElem?_toArray, List.getElem?_cons_succ, List.getElem?_cons_zero]; rfl) (fun K hK => ?_) ?_
              rotate_left 1
              · exact AllReadyH.nil
              go_simp
              refine hK.out _ _ ?_ (fun hHeld2 => ?_)
              · ((try dsimp only) <;> (first | trivial | assumption | go_keep))
              clear hHeld
              have hHeld := hHeld2
              clear hHeld2 hK K
              try simp only [Act.put, List.setIfInBounds_toArray, List.set_cons_zero, List.set_cons_succ]
              clear j0 j1 j2
              refine wpAnyH_ready (rs := [10]) (by kernel_rfl) (by simp) ?_
              refine AllReadyH.cons (by simp only [List.getElem?_toArray, List.getElem?_cons_succ, List.getElem?_cons_zero]; rfl) (fun K hK => ?_) ?_
              rotate_left 1
              · exact AllReadyH.nil
              refine step_app rfl (.tmp 61) (.tmp 69) _ (by rfl) etyJ (w1.heap.size + 1) (.slice A2 m c2) m (intC (natsI (wayP r g m).slots)) (by rfl) (own_bel Yw5.out.m2 ((Below.refl _ _).alloc (Nat.le_refl _) (.cells #[.int .i64 ((d : Int))] 3)).drew) _ (some ⟨w6.heap.size, 0, none⟩) 1 1 [.int .i64 ((d : Int))] (by rfl) (one_int w6 ((d : Int))).drew (fun u hu => by rw [List.mem_singleton] at hu; rw [hu]; rfl) (by omega) (by have := Yw5.out.b.2.2.2; simp; omega) ?_; intro A3 c3 w7 hown5 hg5 hat5; have Xw7 := hide ((Yw5.out.below ((Below.refl _ _).alloc (Nat.le_refl _) (.cells #[.int .i64 ((d : Int))] 3)).drew).app2 hown5 hg5 hat5); clear hown5 hg5 hat5 k0 k1 k2 f0 f1 f2; obtain ⟨k0, k1, k2, f0, f1, f2⟩ := blk3 Xw7.out.1
              refine hK.out _ _ ?_ (fun hHeld2 => ?_)
              · ((try dsimp only) <;> (exact sp_back SPw.out hr3 Xw7.out.2))
              clear hHeld
              have hHeld := hHeld2
              clear hHeld2 hK K
              try simp only [Act.put, List.setIfInBounds_toArray, List.set_cons_zero, List.set_cons_succ]
              refine wpAnyH_take (i := 11) (v := ?_) (by simp only [List.getElem?_toArray, List.getElem?_cons_succ, List.getElem?_cons_zero]; rfl) (by kernel_rfl) (by kernel_rfl) (by kernel_rfl) (fun _ _ _ h => h) (Or.inl ⟨by rfl, ?_⟩) (by assumption) ?_
              rotate_left 1
              · (intro w hSw; (try dsimp only at hSw); go_simp; try with_reducible rfl)
              try simp only [Act.put, List.setIfInBounds_toArray, List.set_cons_zero, List.set_cons_succ]
              refine wpAnyH_ready (rs := [12]) (by kernel_rfl) (by simp) ?_
              refine AllReadyH.cons (by simp only [List.getElem?_toArray, List.getElem?_cons_succ, List.getElem?_cons_zero]; rfl) (fun K hK => ?_) ?_
              rotate_left 1
              · exact AllReadyH.nil
              go_simp
              refine hK.out _ _ ?_ (fun hHeld2 => ?_)
              · ((try dsimp only) <;> (exact sp_back2 SPw.out hr3 Xw7.out.2))
              clear hHeld
              have hHeld := hHeld2
              clear hHeld2 hK K
              try simp only [Act.put, List.setIfInBounds_toArray, List.set_cons_zero, List.set_cons_succ]
              refine wpAnyH_done (by kernel_rfl) ?_ _
              refine NoPanic.normal ?_
              have Yw7 := hide Xw7.out.2
              clear Xw7 k0 k1 k2 f0 f1 f2 hHeld
              go_wp2_with fail
              go_roundw
              case rel => exact ⟨m + 1, u, _, _, _, _, by have := hu.out; omega, by have := hu.out; omega, rfl, by rw [hst.out]; have := Yw7.out; rwa [natsI_app] at this⟩
              case measure => have := hu.out; simp [intOf]; omega
    · have hvl : v = l := by omega
      subst hvl
      have hm := hide (show r - v = m by omega)
      obtain ⟨k0, k1, k2, f0, f1, f2⟩ := blk3 H1.out.kP
      obtain ⟨j0, j1, j2, g0, g1, g2⟩ := blk3 H1.out.kR
      go_wp2_with fail
      have K9 := set3 H1.out.kR (.int .i64 (6 + (r : Int) - 1)) (.slice A1 m c1) (.slice A2 m c2)
      clear j0 j1 j2 g0 g1 g2 k0 k1 k2 f0 f1 f2
      obtain ⟨j0, j1, j2, g0, g1, g2⟩ := blk3 K9
      refine bodyPost_ret (v := .tuple #[.agg #[.int .i64 (6 + (r : Int) - 1), .slice A1 m c1, .slice A2 m c2], .int .i64 0]) (by simp [results, Tryd.results14, go_sem, j0, j1, j2]) rfl ?_
      obtain ⟨b1, b2, b3, b4⟩ := H1.out.b
      have hK : Kp [w.heap.size] wr (((wr.setCell ⟨w.heap.size, 0, none⟩ (.int .i64 (6 + (r : Int) - 1))).setCell ⟨w.heap.size, 1, none⟩ (.slice A1 m c1)).setCell ⟨w.heap.size, 2, none⟩ (.slice A2 m c2)) :=
        (((Kp.refl _ wr).set (p := ⟨w.heap.size, 0, none⟩) (.inl (by simp)) _).set (p := ⟨w.heap.size, 1, none⟩) (.inl (by simp)) _).set (p := ⟨w.heap.size, 2, none⟩) (.inl (by simp)) _
      rw [hm.out]
      exact ⟨A1, c1, A2, c2, rfl, PathM.base ⟨own_kq H1.out.m1 hK (fun k hk => by have := (H1.out.m1.lt k hk).1; simp; omega), own_kq H1.out.m2 hK (fun k hk => by have := (H1.out.m2.lt k hk).1; simp; omega), H1.out.ne⟩ (by omega), bel3 H1.out.bel (Nat.le_refl _) _ _ _⟩
end Go.Proofs.YtakflabokbaibaaDoor
