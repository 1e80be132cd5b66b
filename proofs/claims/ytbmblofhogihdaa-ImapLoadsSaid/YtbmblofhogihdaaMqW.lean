/- The walk of marlref07.ReadMap (printed by gen_mq.py out of XMrW). -/
import Derived.Test.YtbmblofhogihdaaMmW
import Derived.Test.YtbmblofhogihdaaTk
namespace Go.Proofs.Ytbmblofhogihdaa
open Go.RowKit
set_option maxRecDepth 100000
attribute [local go_sem ↓] Go.wp_at_zero Go.wp_at_succ

theorem hi16Q : (Try.prog.info? 68).map (·.size) = some 16 := by kernel_rfl
theorem rdL_bdQ (b : List UInt8) : ∀ e ∈ rdL b, e.1 < 4294967296 ∧ e.2 < 65536 := fun e he => ⟨by have := (rdL_bd b e he).1; omega, (rdL_bd b e he).2⟩
theorem rdF_8Q (b : List UInt8) : rdF (rdE b) 8 = rdL b := by
  unfold rdF rdL
  apply List.map_congr_left
  intro k hk
  rw [if_pos (List.mem_range.1 hk)]
theorem ret_rq {K : Ending → World → Prop} {tmps : Array Value} {w : World} {g : Nat} {cs : Array Value} {v : Value} (hp : tmps.getD 2 undef = .pointer (some ⟨g, 0, none⟩)) (hq : tmps.getD 3 undef = v) (hB : Blk w g 68 cs) (hs : cs.size = 16)
    (hK : K (.returned (.tuple #[.agg cs, v])) w) : bodyPost Try.prog Try.f26 K .ret ⟨tmps, []⟩ w :=
  bodyPost_ret (results_cell_slotM (g := g) (cs := cs) (t := 68) (fr := (0, 0)) rfl _ _ (v := v) (hp := hp) (hq := hq) (hg := hB) (hu := Try.underlying68) (hd := rfl) (hi := by rw [hs]; exact hi16Q)) rfl hK
set_option maxHeartbeats 4000000 in
theorem readmapR_any (w : World) (A : Option Addr) (n c : Nat) (b : List UInt8) (h : By w w.heap.size A n b) (hc : n ≤ c) (hcm : c ≤ 9223372036854775807) :
    Calls Try.prog 26 #[.slice A n c] w fun r w' => RmAns b r ∧ Below w.heap.size w w' := by
  have H := hide h
  have hl : b.length = n := by have := h.1; simpa [u8s] using this
  have HL := hide hl
  have HC := hide (And.intro hc hcm)
  clear h hl hc hcm
  by_cases hn : n = 64
  rotate_left
  · have hn' : ((n : Int) != 64) = true := bne_iff_ne.2 (by omega)
    have HM := hide (show isM b = false by
      unfold isM
      exact decide_eq_false (fun h => hn (by rw [← HL.out]; exact h.1)))
    clear hn
    go_enter Try.func26, Try.ntmps26
    go_upto_region 2 with fail
    obtain ⟨w1, hw⟩ : ∃ W, W = (w.alloc (.cells #[.int .i64 0, .int .i64 0, .int .i64 0, .int .i64 0, .int .i64 0, .int .i64 0, .int .i64 0, .int .i64 0, .int .i64 0, .int .i64 0, .int .i64 0, .int .i64 0, .int .i64 0, .int .i64 0, .int .i64 0, .int .i64 0] 68)).alloc (.cells #[.int .i64 0, .int .i64 0, .int .i64 0, .int .i64 0, .int .i64 0, .int .i64 0, .int .i64 0, .int .i64 0, .int .i64 0, .int .i64 0, .int .i64 0, .int .i64 0, .int .i64 0, .int .i64 0, .int .i64 0, .int .i64 0] 68) := ⟨_, rfl⟩
    have X2 : Hid (Blk w1 w.heap.size 68 #[.int .i64 0, .int .i64 0, .int .i64 0, .int .i64 0, .int .i64 0, .int .i64 0, .int .i64 0, .int .i64 0, .int .i64 0, .int .i64 0, .int .i64 0, .int .i64 0, .int .i64 0, .int .i64 0, .int .i64 0, .int .i64 0]) := hide (by rw [hw]; exact (Blk.new _ _ _).alloc _)
    have X4 : Hid (Blk w1 (w.heap.size + 1) 68 #[.int .i64 0, .int .i64 0, .int .i64 0, .int .i64 0, .int .i64 0, .int .i64 0, .int .i64 0, .int .i64 0, .int .i64 0, .int .i64 0, .int .i64 0, .int .i64 0, .int .i64 0, .int .i64 0, .int .i64 0, .int .i64 0]) := hide (by rw [hw]; have := Blk.new (w.alloc (.cells #[.int .i64 0, .int .i64 0, .int .i64 0, .int .i64 0, .int .i64 0, .int .i64 0, .int .i64 0, .int .i64 0, .int .i64 0, .int .i64 0, .int .i64 0, .int .i64 0, .int .i64 0, .int .i64 0, .int .i64 0, .int .i64 0] 68)) 68 #[.int .i64 0, .int .i64 0, .int .i64 0, .int .i64 0, .int .i64 0, .int .i64 0, .int .i64 0, .int .i64 0, .int .i64 0, .int .i64 0, .int .i64 0, .int .i64 0, .int .i64 0, .int .i64 0, .int .i64 0, .int .i64 0]; simpa using this)
    have BW : Hid (Below w.heap.size w w1) := hide (by rw [hw]; exact ((Below.refl _ _).alloc (Nat.le_refl _) _).alloc (by simp) _)
    rw [← hw]
    obtain ⟨g2, hg2⟩ : ∃ g, g = w.heap.size := ⟨_, rfl⟩
    rw [← hg2] at X2 X4 ⊢
    obtain ⟨g4, hg4⟩ : ∃ g, g = g2 + 1 := ⟨_, rfl⟩
    rw [← hg4] at X4 ⊢
    have G := hide (show w.heap.size ≤ g2 by omega)
    clear hw hg2 hg4
    have HZ := hide (And.intro (show (Try.prog.info? 68).map (·.size) = some (#[.int .i64 0, .int .i64 0, .int .i64 0, .int .i64 0, .int .i64 0, .int .i64 0, .int .i64 0, .int .i64 0, .int .i64 0, .int .i64 0, .int .i64 0, .int .i64 0, .int .i64 0, .int .i64 0, .int .i64 0, .int .i64 0] : Array Value).size from hi16Q) (show (#[.int .i64 0, .int .i64 0, .int .i64 0, .int .i64 0, .int .i64 0, .int .i64 0, .int .i64 0, .int .i64 0, .int .i64 0, .int .i64 0, .int .i64 0, .int .i64 0, .int .i64 0, .int .i64 0, .int .i64 0, .int .i64 0] : Array Value).all (·.oneCell') = true by rw [← zer8_cells]; exact fl8_one _))
    go_upto_region 3 with fail
    go_wp2_with (first | (refine wpList_load_row (by rfl) 68 (.tmp 4) (by rfl) g4 (by rfl) 68 #[.int .i64 0, .int .i64 0, .int .i64 0, .int .i64 0, .int .i64 0, .int .i64 0, .int .i64 0, .int .i64 0, .int .i64 0, .int .i64 0, .int .i64 0, .int .i64 0, .int .i64 0, .int .i64 0, .int .i64 0, .int .i64 0] (0, 0) _ X4.out Try.underlying68 rfl HZ.out.1 ?_) | (refine wpList_store_row (by rfl) 68 (.tmp 2) (.tmp 11) (by rfl) g2 #[.int .i64 0, .int .i64 0, .int .i64 0, .int .i64 0, .int .i64 0, .int .i64 0, .int .i64 0, .int .i64 0, .int .i64 0, .int .i64 0, .int .i64 0, .int .i64 0, .int .i64 0, .int .i64 0, .int .i64 0, .int .i64 0] (by rfl) (by rfl) 68 #[.int .i64 0, .int .i64 0, .int .i64 0, .int .i64 0, .int .i64 0, .int .i64 0, .int .i64 0, .int .i64 0, .int .i64 0, .int .i64 0, .int .i64 0, .int .i64 0, .int .i64 0, .int .i64 0, .int .i64 0, .int .i64 0] X2.out HZ.out.1 (by rfl) HZ.out.2 ?_))
    refine ret_rq (g := g2) rfl rfl (setRow_heap _ _ _ _ _ _ X2.out) rfl ⟨?_, below_setRow BW.out G.out _⟩
    unfold RmAns
    rw [if_neg (by rw [HM.out]; decide), if_neg (by rw [HM.out]; decide), zer8_cells]
    rfl
  subst hn
  obtain ⟨bb, ob, rfl, -, hby⟩ := by_atM H.out (by decide)
  have HBY := hide hby
  clear hby
  go_enter Try.func26, Try.ntmps26
  go_upto_region 2 with fail
  obtain ⟨w1, hw⟩ : ∃ W, W = (w.alloc (.cells #[.int .i64 0, .int .i64 0, .int .i64 0, .int .i64 0, .int .i64 0, .int .i64 0, .int .i64 0, .int .i64 0, .int .i64 0, .int .i64 0, .int .i64 0, .int .i64 0, .int .i64 0, .int .i64 0, .int .i64 0, .int .i64 0] 68)).alloc (.cells #[.int .i64 0, .int .i64 0, .int .i64 0, .int .i64 0, .int .i64 0, .int .i64 0, .int .i64 0, .int .i64 0, .int .i64 0, .int .i64 0, .int .i64 0, .int .i64 0, .int .i64 0, .int .i64 0, .int .i64 0, .int .i64 0] 68) := ⟨_, rfl⟩
  have X2 : Hid (Blk w1 w.heap.size 68 #[.int .i64 0, .int .i64 0, .int .i64 0, .int .i64 0, .int .i64 0, .int .i64 0, .int .i64 0, .int .i64 0, .int .i64 0, .int .i64 0, .int .i64 0, .int .i64 0, .int .i64 0, .int .i64 0, .int .i64 0, .int .i64 0]) := hide (by rw [hw]; exact (Blk.new _ _ _).alloc _)
  have X4 : Hid (Blk w1 (w.heap.size + 1) 68 (fl meC (rdF (rdE b) 0))) := hide (by rw [hw, show fl meC (rdF (rdE b) 0) = #[.int .i64 0, .int .i64 0, .int .i64 0, .int .i64 0, .int .i64 0, .int .i64 0, .int .i64 0, .int .i64 0, .int .i64 0, .int .i64 0, .int .i64 0, .int .i64 0, .int .i64 0, .int .i64 0, .int .i64 0, .int .i64 0] from rfl]; have := Blk.new (w.alloc (.cells #[.int .i64 0, .int .i64 0, .int .i64 0, .int .i64 0, .int .i64 0, .int .i64 0, .int .i64 0, .int .i64 0, .int .i64 0, .int .i64 0, .int .i64 0, .int .i64 0, .int .i64 0, .int .i64 0, .int .i64 0, .int .i64 0] 68)) 68 #[.int .i64 0, .int .i64 0, .int .i64 0, .int .i64 0, .int .i64 0, .int .i64 0, .int .i64 0, .int .i64 0, .int .i64 0, .int .i64 0, .int .i64 0, .int .i64 0, .int .i64 0, .int .i64 0, .int .i64 0, .int .i64 0]; simpa using this)
  have BW : Hid (Below w.heap.size w w1) := hide (by rw [hw]; exact ((Below.refl _ _).alloc (Nat.le_refl _) _).alloc (by simp) _)
  rw [← hw]
  obtain ⟨g2, hg2⟩ : ∃ g, g = w.heap.size := ⟨_, rfl⟩
  rw [← hg2] at X2 X4 ⊢
  obtain ⟨g4, hg4⟩ : ∃ g, g = g2 + 1 := ⟨_, rfl⟩
  rw [← hg4] at X4 ⊢
  have G := hide (show w.heap.size ≤ g2 ∧ w.heap.size ≤ g4 ∧ g2 ≠ g4 by omega)
  clear hw hg2 hg4
  go_wp2_with fail
  go_loopw [5] (fun y wr => ∃ i : Nat, i ≤ 8 ∧ y = .int .i64 (i : Int) ∧ Blk wr g4 68 (fl meC (rdF (rdE b) i)) ∧ Blk wr g2 68 #[.int .i64 0, .int .i64 0, .int .i64 0, .int .i64 0, .int .i64 0, .int .i64 0, .int .i64 0, .int .i64 0, .int .i64 0, .int .i64 0, .int .i64 0, .int .i64 0, .int .i64 0, .int .i64 0, .int .i64 0, .int .i64 0] ∧ Below w.heap.size w wr) (fun y _ => 8 - (intOf y).toNat)
  case atStart => exact ⟨0, Nat.zero_le _, rfl, X4.out, X2.out, BW.out⟩
  case round =>
    obtain ⟨i, hi, rfl, hx4, hx2, hb⟩ := hrel
    clear X4 X2 BW
    have X4 := hide hx4
    have X2 := hide hx2
    have BW := hide hb
    clear hx4 hx2 hb
    by_cases hlt : i < 8
    rotate_left
    · have h8 : ¬ (i : Int) < 8 := by omega
      obtain rfl : i = 8 := by omega
      rw [rdF_8Q] at X4
      obtain ⟨cs, hcs⟩ : ∃ cs, cs = fl meC (rdL b) := ⟨_, rfl⟩
      rw [← hcs] at X4
      have hsz : cs.size = 16 := by rw [hcs, fl_size meC_len, rdL_len]
      have MB := hide (mapblockR_any wr (rdL b) (rdL_len b) (rdL_bdQ b))
      rw [← hcs] at MB
      have HCS := hide (And.intro hcs hsz)
      have hi : (Try.prog.info? 68).map (·.size) = some cs.size := by rw [hsz]; exact hi16Q
      clear hcs hsz
      go_wp2_with (refine wpList_load_row rfl 68 (.tmp 4) rfl g4 rfl 68 cs (0, 0) _ X4.out Try.underlying68 rfl hi ?_)
      refine MB.out.mono ?_
      rintro r w5 ⟨rfl, hb⟩
      clear MB
      have HI := hide hi
      have hb64 : b.length = 64 := HL.out
      have hkey : isM b = true ↔ (rdL b).all gdE = true ∧ mbS (rdL b) = b := by
        unfold isM
        rw [decide_eq_true_iff]
        exact ⟨fun h => h.2, fun h => ⟨hb64, h⟩⟩
      replace X2 := hide (X2.out.below hb)
      replace X4 := hide (X4.out.below hb)
      have HB2 := hide ((H.out.below BW.out).below (hb.mono BW.out.size))
      replace BW := hide (BW.out.trans (hb.mono BW.out.size))
      have HZ := hide (And.intro (show (Try.prog.info? 68).map (·.size) = some (#[.int .i64 0, .int .i64 0, .int .i64 0, .int .i64 0, .int .i64 0, .int .i64 0, .int .i64 0, .int .i64 0, .int .i64 0, .int .i64 0, .int .i64 0, .int .i64 0, .int .i64 0, .int .i64 0, .int .i64 0, .int .i64 0] : Array Value).size from hi16Q) (show (#[.int .i64 0, .int .i64 0, .int .i64 0, .int .i64 0, .int .i64 0, .int .i64 0, .int .i64 0, .int .i64 0, .int .i64 0, .int .i64 0, .int .i64 0, .int .i64 0, .int .i64 0, .int .i64 0, .int .i64 0, .int .i64 0] : Array Value).all (·.oneCell') = true by rw [← zer8_cells]; exact fl8_one _))
      clear hb hi hb64
      by_cases hg : (rdL b).all gdE = true
      rotate_left
      · rw [if_neg hg, if_neg hg]
        have HM := hide (show isM b = false by
          cases hm : isM b with
          | false => rfl
          | true => exact absurd (hkey.1 hm).1 hg)
        clear hkey hg
        go_upto_region 10 with fail
        go_wp2_with ((refine wpList_store_row (by rfl) 68 (.tmp 2) (.tmp 63) (by rfl) g2 #[.int .i64 0, .int .i64 0, .int .i64 0, .int .i64 0, .int .i64 0, .int .i64 0, .int .i64 0, .int .i64 0, .int .i64 0, .int .i64 0, .int .i64 0, .int .i64 0, .int .i64 0, .int .i64 0, .int .i64 0, .int .i64 0] (by rfl) (by rfl) 68 #[.int .i64 0, .int .i64 0, .int .i64 0, .int .i64 0, .int .i64 0, .int .i64 0, .int .i64 0, .int .i64 0, .int .i64 0, .int .i64 0, .int .i64 0, .int .i64 0, .int .i64 0, .int .i64 0, .int .i64 0, .int .i64 0] X2.out HZ.out.1 (by rfl) HZ.out.2 ?_))
        refine ret_rq (g := g2) rfl rfl (setRow_heap _ _ _ _ _ _ X2.out) rfl ⟨?_, below_setRow BW.out G.out.1 _⟩
        unfold RmAns
        rw [if_neg (by rw [HM.out]; decide), if_neg (by rw [HM.out]; decide), zer8_cells]
        rfl
      · rw [if_pos hg, if_pos hg]
        have e2 := run_conv_txt (P := Try.prog) (w := w5) Try.underlying44 Try.underlying5 Try.underlying9 c HB2.out
        by_cases hq : mbS (rdL b) = b
        rotate_left
        · have HM := hide (show isM b = false by
            cases hm : isM b with
            | false => rfl
            | true => exact absurd (hkey.1 hm).2 hq)
          have hne := txt_ne hq
          clear hkey hg hq
          go_upto_region 10 with fail
          clear e2 hne
          go_wp2_with ((refine wpList_store_row (by rfl) 68 (.tmp 2) (.tmp 63) (by rfl) g2 #[.int .i64 0, .int .i64 0, .int .i64 0, .int .i64 0, .int .i64 0, .int .i64 0, .int .i64 0, .int .i64 0, .int .i64 0, .int .i64 0, .int .i64 0, .int .i64 0, .int .i64 0, .int .i64 0, .int .i64 0, .int .i64 0] (by rfl) (by rfl) 68 #[.int .i64 0, .int .i64 0, .int .i64 0, .int .i64 0, .int .i64 0, .int .i64 0, .int .i64 0, .int .i64 0, .int .i64 0, .int .i64 0, .int .i64 0, .int .i64 0, .int .i64 0, .int .i64 0, .int .i64 0, .int .i64 0] X2.out HZ.out.1 (by rfl) HZ.out.2 ?_))
          refine ret_rq (g := g2) rfl rfl (setRow_heap _ _ _ _ _ _ X2.out) rfl ⟨?_, below_setRow BW.out G.out.1 _⟩
          unfold RmAns
          rw [if_neg (by rw [HM.out]; decide), if_neg (by rw [HM.out]; decide), zer8_cells]
          rfl
        · have HM := hide (hkey.2 ⟨hg, hq⟩)
          have hne : ((txt (mbS (rdL b))).toList == (txt b).toList) = true := by
            rw [hq]
            exact txt_eq b
          clear hkey hg hq
          have hz2 : (#[.int .i64 0, .int .i64 0, .int .i64 0, .int .i64 0, .int .i64 0, .int .i64 0, .int .i64 0, .int .i64 0, .int .i64 0, .int .i64 0, .int .i64 0, .int .i64 0, .int .i64 0, .int .i64 0, .int .i64 0, .int .i64 0] : Array Value).size = cs.size := by rw [HCS.out.2]; rfl
          have hz1 : cs.all (·.oneCell') = true := by rw [HCS.out.1]; exact fl8_one _
          replace HZ := hide (And.intro hz2 hz1)
          clear hz2 hz1
          go_upto_region 11 with fail
          clear e2 hne
          go_wp2_with (first | (refine wpList_load_row (by rfl) 68 (.tmp 4) (by rfl) g4 (by rfl) 68 cs (0, 0) _ X4.out Try.underlying68 rfl HI.out ?_) | (refine wpList_store_row (by rfl) 68 (.tmp 2) (.tmp 64) (by rfl) g2 cs (by rfl) (by rfl) 68 #[.int .i64 0, .int .i64 0, .int .i64 0, .int .i64 0, .int .i64 0, .int .i64 0, .int .i64 0, .int .i64 0, .int .i64 0, .int .i64 0, .int .i64 0, .int .i64 0, .int .i64 0, .int .i64 0, .int .i64 0, .int .i64 0] X2.out HI.out HZ.out.1 HZ.out.2 ?_))
          refine ret_rq (g := g2) rfl rfl (setRow_heap _ _ _ _ _ _ X2.out) HCS.out.2 ⟨?_, below_setRow BW.out G.out.1 _⟩
          unfold RmAns
          rw [if_pos HM.out, if_pos HM.out, ← HCS.out.1]
          rfl
    have h8 : (i : Int) < 8 := by omega
    obtain ⟨s, hs⟩ : ∃ s, s = 8 * i := ⟨_, rfl⟩
    have hs56 : s ≤ 56 := by omega
    have HS := hide hs
    have hw8 : IntKind.i64.wrap (8 * (i : Int)) = (s : Int) := by rw [IntKind.wrap_i64]; omega
    clear hs
    have hs0 : (s : Int) < 64 := by omega
    obtain ⟨s1, hs1⟩ : ∃ t, t = s + 1 := ⟨_, rfl⟩
    obtain ⟨s4, hs4⟩ : ∃ t, t = s + 4 := ⟨_, rfl⟩
    obtain ⟨s5, hs5⟩ : ∃ t, t = s + 5 := ⟨_, rfl⟩
    have ws1 : IntKind.i64.wrap ((s : Int) + 1) = (s1 : Int) := by rw [IntKind.wrap_i64]; omega
    have ws4 : IntKind.i64.wrap ((s : Int) + 4) = (s4 : Int) := by rw [IntKind.wrap_i64]; omega
    have ws5 : IntKind.i64.wrap ((s : Int) + 5) = (s5 : Int) := by rw [IntKind.wrap_i64]; omega
    have l1 : (s1 : Int) < 64 := by omega
    have l4 : (s4 : Int) < 64 := by omega
    have l5 : (s5 : Int) < 64 := by omega
    have n0 : s < 64 := by omega
    have n1 : s1 < 64 := by omega
    have n4 : s4 < 64 := by omega
    have n5 : s5 < 64 := by omega
    have hcl : ∀ t, t < 64 → wr.cell? ⟨bb, ob + t, none⟩ = some (.int .u8 ((nb b t : Nat) : Int)) := fun t ht => by
      have h := HBY.out t ht
      exact (BW.out.cell (cell_lt h)).trans h
    obtain ⟨x0, hx0⟩ : ∃ x, x = nb b s := ⟨_, rfl⟩
    obtain ⟨x1, hx1⟩ : ∃ x, x = nb b s1 := ⟨_, rfl⟩
    obtain ⟨x4, hx4⟩ : ∃ x, x = nb b s4 := ⟨_, rfl⟩
    obtain ⟨x5, hx5⟩ : ∃ x, x = nb b s5 := ⟨_, rfl⟩
    have b0 : x0 < 256 := by rw [hx0]; exact nb_lt _ _
    have b1 : x1 < 256 := by rw [hx1]; exact nb_lt _ _
    have b4 : x4 < 256 := by rw [hx4]; exact nb_lt _ _
    have b5 : x5 < 256 := by rw [hx5]; exact nb_lt _ _
    have hcc : wr.cell? ⟨bb, ob + s, none⟩ = some (.int .u8 (x0 : Int)) ∧ wr.cell? ⟨bb, ob + s1, none⟩ = some (.int .u8 (x1 : Int)) ∧ wr.cell? ⟨bb, ob + s4, none⟩ = some (.int .u8 (x4 : Int)) ∧ wr.cell? ⟨bb, ob + s5, none⟩ = some (.int .u8 (x5 : Int)) := by
      rw [hx0, hx1, hx4, hx5]
      exact ⟨hcl s n0, hcl s1 n1, hcl s4 n4, hcl s5 n5⟩
    rw [hs1] at hx1
    rw [hs4] at hx4
    rw [hs5] at hx5
    have HX := hide (And.intro hx0 (And.intro hx1 (And.intro hx4 hx5)))
    clear hcl hx0 hx1 hx4 hx5 hs1 hs4 hs5
    obtain ⟨y1, hy1⟩ : ∃ y, y = 256 * x1 := ⟨_, rfl⟩
    obtain ⟨y5, hy5⟩ : ∃ y, y = 256 * x5 := ⟨_, rfl⟩
    obtain ⟨a3, ha3⟩ : ∃ y, y = x0 + y1 := ⟨_, rfl⟩
    obtain ⟨v5, hv5⟩ : ∃ y, y = x4 + y5 := ⟨_, rfl⟩
    have HY := hide (show a3 = x0 + 256 * x1 ∧ v5 = x4 + 256 * x5 by omega)
    have wx0 : IntKind.i64.wrap (x0 : Int) = (x0 : Int) := by rw [IntKind.wrap_i64]; omega
    have wx1 : IntKind.i64.wrap (x1 : Int) = (x1 : Int) := by rw [IntKind.wrap_i64]; omega
    have wx4 : IntKind.i64.wrap (x4 : Int) = (x4 : Int) := by rw [IntKind.wrap_i64]; omega
    have wx5 : IntKind.i64.wrap (x5 : Int) = (x5 : Int) := by rw [IntKind.wrap_i64]; omega
    have wy1 : IntKind.i64.wrap (256 * (x1 : Int)) = (y1 : Int) := by rw [IntKind.wrap_i64]; omega
    have wy5 : IntKind.i64.wrap (256 * (x5 : Int)) = (y5 : Int) := by rw [IntKind.wrap_i64]; omega
    have o1 : IntKind.i64.wrap ((x0 : Int) + (y1 : Int)) = (a3 : Int) := by rw [IntKind.wrap_i64]; omega
    have o4 : IntKind.i64.wrap ((x4 : Int) + (y5 : Int)) = (v5 : Int) := by rw [IntKind.wrap_i64]; omega
    clear hy1 hy5 ha3 hv5 b0 b1 b4 b5
    go_upto_region 7 with fail
    refine wp_region_noPanic ?_
    refine wp_region_last (n := 34) (S := (fun w' => w'.cell? ⟨bb, ob + s, none⟩ = some (.int .u8 (x0 : Int)) ∧ w'.cell? ⟨bb, ob + s1, none⟩ = some (.int .u8 (x1 : Int)) ∧ w'.cell? ⟨bb, ob + s4, none⟩ = some (.int .u8 (x4 : Int)) ∧ w'.cell? ⟨bb, ob + s5, none⟩ = some (.int .u8 (x5 : Int)))) (by kernel_rfl) (by rfl) (by kernel_rfl) ?_ (fun hHeld => ?_)
    · ((try dsimp only) <;> (first | trivial | assumption | go_keep))
    clear hcc
    refine tk 0 ?_
    refine tk 1 ?_
    refine tk 2 ?_
    refine tk 3 ?_
    refine tk 4 ?_
    refine tk 5 ?_
    refine tk 6 ?_
    refine tk 7 ?_
    refine tk 8 ?_
    refine tk 9 ?_
    refine tk 10 ?_
    refine tk 11 ?_
    refine tk 12 ?_
    refine tk 13 ?_
    refine tk 14 ?_
    refine tk 15 ?_
    refine tk 16 ?_
    refine tk 17 ?_
    refine tk 18 ?_
    refine tk 19 ?_
    refine tk 20 ?_
    refine tk 21 ?_
    refine tk 22 ?_
    refine tk 23 ?_
    refine tk 24 ?_
    refine tk 25 ?_
    refine tk 26 ?_
    refine tk 27 ?_
    refine tk 28 ?_
    refine tk 29 ?_
    refine tk 30 ?_
    refine tk 31 ?_
    refine tk 32 ?_
    refine tk 33 ?_
    clear hHeld wx0 wx1 wx4 wx5 wy1 wy5 o1 o4 hw8 ws1 ws4 ws5
    replace X4 := hide X4.out.drew
    replace X2 := hide X2.out.drew
    replace BW := hide BW.out.drew
    generalize wr.drew = w3 at *
    have hsz : i * 2 + 1 < (fl meC (rdF (rdE b) i)).size := by rw [fl_size meC_len, rdF_len]; omega
    obtain ⟨c0, c1⟩ := me_cells X4.out (j := i) (e := (0, 0)) (by rw [rdF, List.getElem?_map, List.getElem?_range hlt, Option.map_some, if_neg (Nat.lt_irrefl _)])
    have z0 := X4.out.frozen (i * 2)
    have z1 := X4.out.frozen (i * 2 + 1)
    refine wpAnyH_done (by kernel_rfl) ?_ _
    refine LastQ.step (by simp only [List.getElem?_toArray, List.getElem?_cons_succ, List.getElem?_cons_zero]; rfl) (by rfl) ?_
    go_simp
    refine NoPanic.normal ?_
    have hre : rdE b i = (a3, v5) := by
      obtain ⟨e0, e1, e4, e5⟩ := HX.out
      unfold rdE
      rw [← HS.out, ← e0, ← e1, ← e4, ← e5, HY.out.1, HY.out.2]
    have XF := (X4.out.set (i * 2) (.int .i64 (a3 : Int))).set (i * 2 + 1) (.int .i64 (v5 : Int))
    rw [meC_set (rdF (rdE b) i) i (by rw [rdF_len]; exact hlt) (a3, v5), ← hre, rdF_set _ _ hlt] at XF
    have XF2 := (X2.out.far (p := ⟨g4, i * 2, none⟩) G.out.2.2 (.int .i64 (a3 : Int))).far (p := ⟨g4, i * 2 + 1, none⟩) G.out.2.2 (.int .i64 (v5 : Int))
    have BF := (BW.out.setCell (p := ⟨g4, i * 2, none⟩) G.out.2.1 (.int .i64 (a3 : Int))).setCell (p := ⟨g4, i * 2 + 1, none⟩) G.out.2.1 (.int .i64 (v5 : Int))
    generalize (w3.setCell ⟨g4, i * 2, none⟩ (.int .i64 (a3 : Int))).setCell ⟨g4, i * 2 + 1, none⟩ (.int .i64 (v5 : Int)) = w4 at *
    have HF := hide (And.intro XF (And.intro XF2 BF))
    clear XF XF2 BF hre c0 c1 z0 z1 hsz X4 X2 BW
    go_wp2_with fail
    go_roundw
    case rel => exact ⟨i + 1, hlt, by go_num, HF.out.1, HF.out.2.1, HF.out.2.2⟩
    case measure => simp [intOf]; omega
end Go.Proofs.Ytbmblofhogihdaa
